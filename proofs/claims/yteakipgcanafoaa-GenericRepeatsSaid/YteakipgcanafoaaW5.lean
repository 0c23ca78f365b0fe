/- W5: put together by wip/tools/bundle.py: Bgeneric Mburinref6 Bburinref6 GnA GnB GnC GnS GnD GnE GnF RdA Mburinref7 Bburinref7. -/
import Derived.Test.YteakipgcanafoaaW1
import Derived.Test.YteakipgcanafoaaW2
import Derived.Test.YteakipgcanafoaaW3
import Derived.Test.YteakipgcanafoaaW4
import Derived.Test.YteakipgcanafoaaProg

/- Written by gen.py: each condition of the functions of generic is the one of its body; so it is enough for its call. -/
set_option linter.unusedVariables false
set_option linter.unusedSimpArgs false
namespace Go.Den.Yteakipgcanafoaa
open Go Go.Den

noncomputable def hints_generic_Encode : Hints := Hints.mk (fun i => none)
  (fun i => none)
  (fun i => none) []
set_option maxRecDepth 100000 in
theorem eq_generic_Encode (C : CallP) (b_1 : Int) (b_2 : Int) (b_3 : Option Addr) (b_3n : Nat) (b_3c : Nat) (template : Int) (skip : Bool) (h : Heap) (K : Value → Heap → Prop) (Kp : List PanicEntry → Heap → Prop) :
    fnD Go.Proofs.Try.prog C hints_generic_Encode Go.Proofs.Try.f44 [.agg #[.int .i64 b_1, .int .i64 b_2, .slice b_3 b_3n b_3c], .int .i64 template, .bool skip] h K Kp = generic_Encode C b_1 b_2 b_3 b_3n b_3c template skip h K Kp := by kernel_rfl

theorem call_generic_Encode {b_1 : Int} {b_2 : Int} {b_3 : Option Addr} {b_3n : Nat} {b_3c : Nat} {template : Int} {skip : Bool} {h : Heap} {K : Value → Heap → Prop} {Kp : List PanicEntry → Heap → Prop} (H : generic_Encode (CallsHP Go.Proofs.Try.prog) b_1 b_2 b_3 b_3n b_3c template skip h K Kp) : CallsHP Go.Proofs.Try.prog F_generic_Encode #[.agg #[.int .i64 b_1, .int .i64 b_2, .slice b_3 b_3n b_3c], .int .i64 template, .bool skip] h K Kp :=
  callsHP_of hints_generic_Encode (by kernel_rfl) Go.Proofs.Try.func44 (by kernel_rfl) (by rw [eq_generic_Encode]; exact H)

noncomputable def hints_generic_Decode : Hints := Hints.mk (fun i => none)
  (fun i => none)
  (fun i => none) []
set_option maxRecDepth 100000 in
theorem eq_generic_Decode (C : CallP) (f : Option Addr) (fn : Nat) (fc : Nat) (w : Int) (h' : Int) (template : Int) (skip : Bool) (h : Heap) (K : Value → Heap → Prop) (Kp : List PanicEntry → Heap → Prop) :
    fnD Go.Proofs.Try.prog C hints_generic_Decode Go.Proofs.Try.f49 [.slice f fn fc, .int .i64 w, .int .i64 h', .int .i64 template, .bool skip] h K Kp = generic_Decode C f fn fc w h' template skip h K Kp := by kernel_rfl

theorem call_generic_Decode {f : Option Addr} {fn : Nat} {fc : Nat} {w : Int} {h' : Int} {template : Int} {skip : Bool} {h : Heap} {K : Value → Heap → Prop} {Kp : List PanicEntry → Heap → Prop} (H : generic_Decode (CallsHP Go.Proofs.Try.prog) f fn fc w h' template skip h K Kp) : CallsHP Go.Proofs.Try.prog F_generic_Decode #[.slice f fn fc, .int .i64 w, .int .i64 h', .int .i64 template, .bool skip] h K Kp :=
  callsHP_of hints_generic_Decode (by kernel_rfl) Go.Proofs.Try.func49 (by kernel_rfl) (by rw [eq_generic_Decode]; exact H)

noncomputable def hints_generic_Put : Hints := Hints.mk (fun i => bif Nat.beq i 9 then some ([7], .take 0 <| .take 3 <| .take 4 <| .take 5 <| .take 1 <| .take 2 <| .go 6 <| .bar 7 [] <| .take 8 <| .take 9 <| .done) else (none))
  (fun i => none)
  (fun i => none) []
set_option maxRecDepth 100000 in
theorem eq_generic_Put (C : CallP) (c : Option Addr) (base : Int) (b_1 : Int) (b_2 : Int) (b_3 : Option Addr) (b_3n : Nat) (b_3c : Nat) (template : Int) (skip : Bool) (h : Heap) (K : Value → Heap → Prop) (Kp : List PanicEntry → Heap → Prop) :
    fnD Go.Proofs.Try.prog C hints_generic_Put Go.Proofs.Try.f56 [.pointer c, .int .i64 base, .agg #[.int .i64 b_1, .int .i64 b_2, .slice b_3 b_3n b_3c], .int .i64 template, .bool skip] h K Kp = generic_Put C c base b_1 b_2 b_3 b_3n b_3c template skip h K Kp := by kernel_rfl

theorem call_generic_Put {c : Option Addr} {base : Int} {b_1 : Int} {b_2 : Int} {b_3 : Option Addr} {b_3n : Nat} {b_3c : Nat} {template : Int} {skip : Bool} {h : Heap} {K : Value → Heap → Prop} {Kp : List PanicEntry → Heap → Prop} (H : generic_Put (CallsHP Go.Proofs.Try.prog) c base b_1 b_2 b_3 b_3n b_3c template skip h K Kp) : CallsHP Go.Proofs.Try.prog F_generic_Put #[.pointer c, .int .i64 base, .agg #[.int .i64 b_1, .int .i64 b_2, .slice b_3 b_3n b_3c], .int .i64 template, .bool skip] h K Kp :=
  callsHP_of hints_generic_Put (by kernel_rfl) Go.Proofs.Try.func56 (by kernel_rfl) (by rw [eq_generic_Put]; exact H)

noncomputable def hints_generic_Get : Hints := Hints.mk (fun i => bif Nat.beq i 9 then some ([7], .take 0 <| .take 3 <| .take 4 <| .take 5 <| .take 1 <| .take 2 <| .go 6 <| .bar 7 [] <| .take 8 <| .take 9 <| .done) else (none))
  (fun i => none)
  (fun i => none) []
set_option maxRecDepth 100000 in
theorem eq_generic_Get (C : CallP) (a0 : Option Addr) (a1 : Int) (a2 : Int) (a3 : Int) (a4 : Int) (a5 : Bool) (h : Heap) (K : Value → Heap → Prop) (Kp : List PanicEntry → Heap → Prop) :
    fnD Go.Proofs.Try.prog C hints_generic_Get Go.Proofs.Try.f57 [.pointer a0, .int .i64 a1, .int .i64 a2, .int .i64 a3, .int .i64 a4, .bool a5] h K Kp = generic_Get C a0 a1 a2 a3 a4 a5 h K Kp := by kernel_rfl

theorem call_generic_Get {a0 : Option Addr} {a1 : Int} {a2 : Int} {a3 : Int} {a4 : Int} {a5 : Bool} {h : Heap} {K : Value → Heap → Prop} {Kp : List PanicEntry → Heap → Prop} (H : generic_Get (CallsHP Go.Proofs.Try.prog) a0 a1 a2 a3 a4 a5 h K Kp) : CallsHP Go.Proofs.Try.prog F_generic_Get #[.pointer a0, .int .i64 a1, .int .i64 a2, .int .i64 a3, .int .i64 a4, .bool a5] h K Kp :=
  callsHP_of hints_generic_Get (by kernel_rfl) Go.Proofs.Try.func57 (by kernel_rfl) (by rw [eq_generic_Get]; exact H)

noncomputable def hints_generic_fits : Hints := Hints.mk (fun i => none)
  (fun i => none)
  (fun i => none) []
set_option maxRecDepth 100000 in
theorem eq_generic_fits (C : CallP) (base : Int) (many : Int) (all : Int) (h : Heap) (K : Value → Heap → Prop) (Kp : List PanicEntry → Heap → Prop) :
    fnD Go.Proofs.Try.prog C hints_generic_fits Go.Proofs.Try.f91 [.int .i64 base, .int .i64 many, .int .i64 all] h K Kp = generic_fits C base many all h K Kp := by kernel_rfl

theorem call_generic_fits {base : Int} {many : Int} {all : Int} {h : Heap} {K : Value → Heap → Prop} {Kp : List PanicEntry → Heap → Prop} (H : generic_fits (CallsHP Go.Proofs.Try.prog) base many all h K Kp) : CallsHP Go.Proofs.Try.prog F_generic_fits #[.int .i64 base, .int .i64 many, .int .i64 all] h K Kp :=
  callsHP_of hints_generic_fits (by kernel_rfl) Go.Proofs.Try.func91 (by kernel_rfl) (by rw [eq_generic_fits]; exact H)

noncomputable def hints_generic_caught : Hints := Hints.mk (fun i => none)
  (fun i => none)
  (fun i => none) []
set_option maxRecDepth 100000 in
theorem eq_generic_caught (C : CallP) (D : CallDP) (run : Value) (h : Heap) (K : Value → Heap → Prop) (Kp : List PanicEntry → Heap → Prop) :
    fnDD Go.Proofs.Try.prog C D hints_generic_caught Go.Proofs.Try.f92 [run] h K Kp = generic_caught C D run h K Kp := by kernel_rfl

theorem call_generic_caught {run : Value} {h : Heap} {K : Value → Heap → Prop} {Kp : List PanicEntry → Heap → Prop} (H : generic_caught (CallsHP Go.Proofs.Try.prog) (DCalls Go.Proofs.Try.prog) run h K Kp) : CallsHP Go.Proofs.Try.prog F_generic_caught #[run] h K Kp :=
  callsHP_ofD hints_generic_caught (by kernel_rfl) Go.Proofs.Try.func92 (by kernel_rfl) (by rw [eq_generic_caught]; exact H)

noncomputable def hints_generic_Put_c1 : Hints := Hints.mk (fun i => none)
  (fun i => none)
  (fun i => none) []
set_option maxRecDepth 100000 in
theorem eq_generic_Put_c1 (C : CallP) (cap0 : Addr) (cap1 : Addr) (h : Heap) (K : Value → Heap → Prop) (Kp : List PanicEntry → Heap → Prop) :
    fnD Go.Proofs.Try.prog C hints_generic_Put_c1 Go.Proofs.Try.f93 [.pointer (some cap0), .pointer (some cap1)] h K Kp = generic_Put_c1 C cap0 cap1 h K Kp := by kernel_rfl

theorem call_generic_Put_c1 {cap0 : Addr} {cap1 : Addr} {h : Heap} {K : Value → Heap → Prop} {Kp : List PanicEntry → Heap → Prop} (H : generic_Put_c1 (CallsHP Go.Proofs.Try.prog) cap0 cap1 h K Kp) : CallsHP Go.Proofs.Try.prog F_generic_Put_c1 #[.pointer (some cap0), .pointer (some cap1)] h K Kp :=
  callsHP_of hints_generic_Put_c1 (by kernel_rfl) Go.Proofs.Try.func93 (by kernel_rfl) (by rw [eq_generic_Put_c1]; exact H)

noncomputable def hints_generic_procedure_run : Hints := Hints.mk (fun i => bif Nat.beq i 8 then some ([13], .take 0 <| .take 1 <| .take 2 <| .take 4 <| .take 5 <| .take 6 <| .take 8 <| .take 10 <| .take 3 <| .take 11 <| .take 12 <| .take 7 <| .take 9 <| .bar 13 [] <| .take 14 <| .done) else (bif Nat.beq i 9 then some ([12], .take 0 <| .take 1 <| .take 2 <| .take 4 <| .take 5 <| .take 6 <| .take 8 <| .take 9 <| .take 10 <| .take 11 <| .take 3 <| .take 7 <| .bar 12 [] <| .done) else (none)))
  (fun i => bif Nat.beq i 2 then some ([(17, .int .i64)], 2305843009213563072) else (none))
  (fun i => bif Nat.beq i 8 then some ([(7, .int .i64)], 251658368) else (none)) []
set_option maxRecDepth 100000 in
theorem eq_generic_procedure_run (C : CallP) (p : Option Addr) (size : Int) (h : Heap) (K : Value → Heap → Prop) (Kp : List PanicEntry → Heap → Prop) :
    fnD Go.Proofs.Try.prog C hints_generic_procedure_run Go.Proofs.Try.f94 [.pointer p, .int .i64 size] h K Kp = generic_procedure_run C (invokeD Go.Proofs.Try.prog C) p size h K Kp := by kernel_rfl

theorem call_generic_procedure_run {p : Option Addr} {size : Int} {h : Heap} {K : Value → Heap → Prop} {Kp : List PanicEntry → Heap → Prop} (H : generic_procedure_run (CallsHP Go.Proofs.Try.prog) (invokeD Go.Proofs.Try.prog (CallsHP Go.Proofs.Try.prog)) p size h K Kp) : CallsHP Go.Proofs.Try.prog F_generic_procedure_run #[.pointer p, .int .i64 size] h K Kp :=
  callsHP_of hints_generic_procedure_run (by kernel_rfl) Go.Proofs.Try.func94 (by kernel_rfl) (by rw [eq_generic_procedure_run]; exact H)

noncomputable def hints_generic_Get_c1 : Hints := Hints.mk (fun i => none)
  (fun i => none)
  (fun i => none) []
set_option maxRecDepth 100000 in
theorem eq_generic_Get_c1 (C : CallP) (cap0 : Addr) (cap1 : Addr) (h : Heap) (K : Value → Heap → Prop) (Kp : List PanicEntry → Heap → Prop) :
    fnD Go.Proofs.Try.prog C hints_generic_Get_c1 Go.Proofs.Try.f96 [.pointer (some cap0), .pointer (some cap1)] h K Kp = generic_Get_c1 C cap0 cap1 h K Kp := by kernel_rfl

theorem call_generic_Get_c1 {cap0 : Addr} {cap1 : Addr} {h : Heap} {K : Value → Heap → Prop} {Kp : List PanicEntry → Heap → Prop} (H : generic_Get_c1 (CallsHP Go.Proofs.Try.prog) cap0 cap1 h K Kp) : CallsHP Go.Proofs.Try.prog F_generic_Get_c1 #[.pointer (some cap0), .pointer (some cap1)] h K Kp :=
  callsHP_of hints_generic_Get_c1 (by kernel_rfl) Go.Proofs.Try.func96 (by kernel_rfl) (by rw [eq_generic_Get_c1]; exact H)

noncomputable def hints_generic_caught_c1 : Hints := Hints.mk (fun i => none)
  (fun i => none)
  (fun i => none) []
set_option maxRecDepth 100000 in
theorem eq_generic_caught_c1 (C : CallP) (cap0 : Addr) (u : FrameMode) (h : Heap) (Kd : FrameMode → Heap → Prop) (Kdp : FrameMode → List PanicEntry → Heap → Prop) :
    dfnD Go.Proofs.Try.prog C hints_generic_caught_c1 Go.Proofs.Try.f121 [.pointer (some cap0)] u h Kd Kdp = generic_caught_c1 C cap0 u h Kd Kdp := by kernel_rfl

theorem dcall_generic_caught_c1 {cap0 : Addr} {u : FrameMode} {h : Heap} {Kd : FrameMode → Heap → Prop} {Kdp : FrameMode → List PanicEntry → Heap → Prop} (H : generic_caught_c1 (CallsHP Go.Proofs.Try.prog) cap0 u h Kd Kdp) : DCalls Go.Proofs.Try.prog F_generic_caught_c1 #[.pointer (some cap0)] u h Kd Kdp :=
  dcalls_of hints_generic_caught_c1 (by kernel_rfl) Go.Proofs.Try.func121 (by kernel_rfl) (by rw [eq_generic_caught_c1]; exact H)

noncomputable def hints_generic_procedure_same : Hints := Hints.mk (fun i => bif Nat.beq i 4 then some ([14], .take 0 <| .take 1 <| .take 2 <| .take 4 <| .take 5 <| .take 7 <| .take 8 <| .take 9 <| .take 11 <| .take 12 <| .take 13 <| .take 3 <| .take 10 <| .go 6 <| .bar 14 [] <| .take 15 <| .done) else (none))
  (fun i => bif Nat.beq i 2 then some ([(9, .int .i64)], 536870592) else (none))
  (fun i => none) []
set_option maxRecDepth 100000 in
theorem eq_generic_procedure_same (C : CallP) (p : Option Addr) (w : Int) (y : Int) (h : Heap) (K : Value → Heap → Prop) (Kp : List PanicEntry → Heap → Prop) :
    fnD Go.Proofs.Try.prog C hints_generic_procedure_same Go.Proofs.Try.f123 [.pointer p, .int .i64 w, .int .i64 y] h K Kp = generic_procedure_same C p w y h K Kp := by kernel_rfl

theorem call_generic_procedure_same {p : Option Addr} {w : Int} {y : Int} {h : Heap} {K : Value → Heap → Prop} {Kp : List PanicEntry → Heap → Prop} (H : generic_procedure_same (CallsHP Go.Proofs.Try.prog) p w y h K Kp) : CallsHP Go.Proofs.Try.prog F_generic_procedure_same #[.pointer p, .int .i64 w, .int .i64 y] h K Kp :=
  callsHP_of hints_generic_procedure_same (by kernel_rfl) Go.Proofs.Try.func123 (by kernel_rfl) (by rw [eq_generic_procedure_same]; exact H)

noncomputable def hints_generic_procedure_row : Hints := Hints.mk (fun i => bif Nat.beq i 4 then some ([11], .take 1 <| .take 3 <| .take 0 <| .take 2 <| .take 4 <| .take 5 <| .take 6 <| .take 7 <| .take 8 <| .take 9 <| .go 10 <| .bar 11 [] <| .done) else (bif Nat.beq i 8 then some ([15], .keep <| .take 0 <| .take 3 <| .take 4 <| .take 5 <| .take 7 <| .take 8 <| .take 9 <| .take 1 <| .take 2 <| .take 6 <| .take 10 <| .take 11 <| .go 12 <| .take 13 <| .take 14 <| .bar 15 [] <| .done) else (bif Nat.beq i 19 then some ([33], .keep <| .take 0 <| .take 1 <| .take 2 <| .take 3 <| .take 6 <| .take 7 <| .take 8 <| .take 10 <| .take 11 <| .take 12 <| .take 13 <| .take 14 <| .take 17 <| .take 18 <| .take 19 <| .take 20 <| .take 21 <| .take 26 <| .take 27 <| .take 28 <| .take 4 <| .take 5 <| .take 9 <| .take 15 <| .take 16 <| .take 22 <| .take 23 <| .take 29 <| .go 24 <| .take 25 <| .take 30 <| .take 31 <| .take 32 <| .bar 33 [] <| .done) else (bif Nat.beq i 20 then some ([], .take 0 <| .take 1 <| .take 2 <| .take 3 <| .take 7 <| .take 8 <| .take 9 <| .take 4 <| .take 5 <| .take 6 <| .take 10 <| .take 11 <| .take 12 <| .done) else (bif Nat.beq i 22 then some ([26], .keep <| .take 0 <| .take 1 <| .take 2 <| .take 4 <| .take 5 <| .take 6 <| .take 7 <| .take 8 <| .take 10 <| .take 11 <| .take 12 <| .take 14 <| .take 16 <| .take 17 <| .take 18 <| .take 20 <| .take 21 <| .take 3 <| .take 9 <| .take 23 <| .take 24 <| .take 13 <| .take 15 <| .take 19 <| .go 22 <| .go 25 <| .bar 26 [] <| .done) else (none))))))
  (fun i => bif Nat.beq i 2 then some ([(6, .slc), (21, .int .i64)], 9223372036852680512) else (bif Nat.beq i 6 then some ([(10, .int .i64)], 288230238712759296) else (bif Nat.beq i 12 then some ([(64, .int .i64)], 713623846352979940529142966278003494481852416) else (bif Nat.beq i 16 then some ([(12, .int .i64), (69, .int .i64)], 2658455991569831155511803761855066112) else (none)))))
  (fun i => none) []
set_option maxRecDepth 100000 in
theorem eq_generic_procedure_row (C : CallP) (a0 : Option Addr) (a1 : Int) (a2 : Int) (h : Heap) (K : Value → Heap → Prop) (Kp : List PanicEntry → Heap → Prop) :
    fnD Go.Proofs.Try.prog C hints_generic_procedure_row Go.Proofs.Try.f125 [.pointer a0, .int .i64 a1, .int .i64 a2] h K Kp = generic_procedure_row C (invokeD Go.Proofs.Try.prog C) a0 a1 a2 h K Kp := by kernel_rfl

theorem call_generic_procedure_row {a0 : Option Addr} {a1 : Int} {a2 : Int} {h : Heap} {K : Value → Heap → Prop} {Kp : List PanicEntry → Heap → Prop} (H : generic_procedure_row (CallsHP Go.Proofs.Try.prog) (invokeD Go.Proofs.Try.prog (CallsHP Go.Proofs.Try.prog)) a0 a1 a2 h K Kp) : CallsHP Go.Proofs.Try.prog F_generic_procedure_row #[.pointer a0, .int .i64 a1, .int .i64 a2] h K Kp :=
  callsHP_of hints_generic_procedure_row (by kernel_rfl) Go.Proofs.Try.func125 (by kernel_rfl) (by rw [eq_generic_procedure_row]; exact H)

noncomputable def hints_generic_spans : Hints := Hints.mk (fun i => none)
  (fun i => none)
  (fun i => none) []
set_option maxRecDepth 100000 in
theorem eq_generic_spans (C : CallP) (template : Int) (h : Heap) (K : Value → Heap → Prop) (Kp : List PanicEntry → Heap → Prop) :
    fnD Go.Proofs.Try.prog C hints_generic_spans Go.Proofs.Try.f135 [.int .i64 template] h K Kp = generic_spans C template h K Kp := by kernel_rfl

theorem call_generic_spans {template : Int} {h : Heap} {K : Value → Heap → Prop} {Kp : List PanicEntry → Heap → Prop} (H : generic_spans (CallsHP Go.Proofs.Try.prog) template h K Kp) : CallsHP Go.Proofs.Try.prog F_generic_spans #[.int .i64 template] h K Kp :=
  callsHP_of hints_generic_spans (by kernel_rfl) Go.Proofs.Try.func135 (by kernel_rfl) (by rw [eq_generic_spans]; exact H)

noncomputable def hints_generic_coding_decide : Hints := Hints.mk (fun i => none)
  (fun i => none)
  (fun i => none) []
set_option maxRecDepth 100000 in
theorem eq_generic_coding_decide (C : CallP) (x_1 : Option Addr) (context : Int) (bit : Int) (h : Heap) (K : Value → Heap → Prop) (Kp : List PanicEntry → Heap → Prop) :
    fnD Go.Proofs.Try.prog C hints_generic_coding_decide Go.Proofs.Try.f161 [.agg #[.pointer x_1], .int .i64 context, .int .i64 bit] h K Kp = generic_coding_decide C x_1 context bit h K Kp := by kernel_rfl

theorem call_generic_coding_decide {x_1 : Option Addr} {context : Int} {bit : Int} {h : Heap} {K : Value → Heap → Prop} {Kp : List PanicEntry → Heap → Prop} (H : generic_coding_decide (CallsHP Go.Proofs.Try.prog) x_1 context bit h K Kp) : CallsHP Go.Proofs.Try.prog F_generic_coding_decide #[.agg #[.pointer x_1], .int .i64 context, .int .i64 bit] h K Kp :=
  callsHP_of hints_generic_coding_decide (by kernel_rfl) Go.Proofs.Try.func161 (by kernel_rfl) (by rw [eq_generic_coding_decide]; exact H)

noncomputable def hints_generic_decoding_decide : Hints := Hints.mk (fun i => none)
  (fun i => none)
  (fun i => none) []
set_option maxRecDepth 100000 in
theorem eq_generic_decoding_decide (C : CallP) (x_1 : Option Addr) (context : Int) (a2 : Int) (h : Heap) (K : Value → Heap → Prop) (Kp : List PanicEntry → Heap → Prop) :
    fnD Go.Proofs.Try.prog C hints_generic_decoding_decide Go.Proofs.Try.f162 [.agg #[.pointer x_1], .int .i64 context, .int .i64 a2] h K Kp = generic_decoding_decide C x_1 context a2 h K Kp := by kernel_rfl

theorem call_generic_decoding_decide {x_1 : Option Addr} {context : Int} {a2 : Int} {h : Heap} {K : Value → Heap → Prop} {Kp : List PanicEntry → Heap → Prop} (H : generic_decoding_decide (CallsHP Go.Proofs.Try.prog) x_1 context a2 h K Kp) : CallsHP Go.Proofs.Try.prog F_generic_decoding_decide #[.agg #[.pointer x_1], .int .i64 context, .int .i64 a2] h K Kp :=
  callsHP_of hints_generic_decoding_decide (by kernel_rfl) Go.Proofs.Try.func162 (by kernel_rfl) (by rw [eq_generic_decoding_decide]; exact H)

end Go.Den.Yteakipgcanafoaa

/- Written by gen.py: the conditions of the functions of burinref6. -/
set_option linter.unusedVariables false
set_option linter.unusedSimpArgs false
namespace Go.Den.Yteakipgcanafoaa
open Go Go.Den

/- burin/burinref6.May -/
set_option maxRecDepth 100000 in
def burinref6_May (C : CallP) (template : Int) (h : Heap) (K : Value → Heap → Prop) (Kp : List PanicEntry → Heap → Prop) : Prop :=
bcase (decide (template ≥ (0 : Int))) (
K (.bool (decide (template ≤ (3 : Int)))) h) <|
K (.bool false) h

/- burin/burinref6.Places -/
set_option maxRecDepth 100000 in
def burinref6_Places (C : CallP) (template : Int) (h : Heap) (K : Value → Heap → Prop) (Kp : List PanicEntry → Heap → Prop) : Prop :=
bcase (template == (0 : Int)) (
newC h [.int .i64 (-2), .int .i64 (-2), .int .i64 (-1), .int .i64 (-2), .int .i64 0, .int .i64 (-2), .int .i64 1, .int .i64 (-2), .int .i64 2, .int .i64 (-2), .int .i64 (-3), .int .i64 (-1), .int .i64 (-2), .int .i64 (-1), .int .i64 (-1), .int .i64 (-1), .int .i64 0, .int .i64 (-1), .int .i64 1, .int .i64 (-1), .int .i64 2, .int .i64 (-1), .int .i64 3, .int .i64 (-1), .int .i64 (-4), .int .i64 0, .int .i64 (-3), .int .i64 0, .int .i64 (-2), .int .i64 0, .int .i64 (-1), .int .i64 0] T_int fun r_1 h_2 =>
K (.slice (some ⟨r_1, 0, none⟩) 32 32) h_2) <|
bcase (template == (1 : Int)) (
newC h [.int .i64 (-1), .int .i64 (-2), .int .i64 0, .int .i64 (-2), .int .i64 1, .int .i64 (-2), .int .i64 2, .int .i64 (-2), .int .i64 (-2), .int .i64 (-1), .int .i64 (-1), .int .i64 (-1), .int .i64 0, .int .i64 (-1), .int .i64 1, .int .i64 (-1), .int .i64 2, .int .i64 (-1), .int .i64 3, .int .i64 (-1), .int .i64 (-3), .int .i64 0, .int .i64 (-2), .int .i64 0, .int .i64 (-1), .int .i64 0] T_int fun r_3 h_4 =>
K (.slice (some ⟨r_3, 0, none⟩) 26 26) h_4) <|
bcase (template == (2 : Int)) (
newC h [.int .i64 (-1), .int .i64 (-2), .int .i64 0, .int .i64 (-2), .int .i64 1, .int .i64 (-2), .int .i64 (-2), .int .i64 (-1), .int .i64 (-1), .int .i64 (-1), .int .i64 0, .int .i64 (-1), .int .i64 1, .int .i64 (-1), .int .i64 2, .int .i64 (-1), .int .i64 (-2), .int .i64 0, .int .i64 (-1), .int .i64 0] T_int fun r_5 h_6 =>
K (.slice (some ⟨r_5, 0, none⟩) 20 20) h_6) <|
newC h [.int .i64 (-3), .int .i64 (-1), .int .i64 (-2), .int .i64 (-1), .int .i64 (-1), .int .i64 (-1), .int .i64 0, .int .i64 (-1), .int .i64 1, .int .i64 (-1), .int .i64 2, .int .i64 (-1), .int .i64 (-4), .int .i64 0, .int .i64 (-3), .int .i64 0, .int .i64 (-2), .int .i64 0, .int .i64 (-1), .int .i64 0] T_int fun r_7 h_8 =>
K (.slice (some ⟨r_7, 0, none⟩) 20 20) h_8

/- burin/burinref6.At -/
set_option maxRecDepth 100000 in
def burinref6_At (C : CallP) (b_1 : Int) (b_2 : Int) (b_3 : Option Addr) (b_3n : Nat) (b_3c : Nat) (places : Option Addr) (placesn : Nat) (placesc : Nat) (x : Int) (y : Int) (h : Heap) (K : Value → Heap → Prop) (Kp : List PanicEntry → Heap → Prop) : Prop :=
newC h [.int .i64 b_1, .int .i64 b_2, .slice b_3 b_3n b_3c] T_api_Bitmap fun r_4 h_5 =>
bcase (decide (x < (-10 : Int))) (
K (.int .i64 0) h_5) <|
bcase (decide (y < (-10 : Int))) (
K (.int .i64 0) h_5) <|
ldI h_5 ((⟨r_4, 0, none⟩ : Addr).add 0) .i64 fun x_6 =>
bindI (IntKind.i64.wrap (x_6 + (10 : Int))) fun z_7 =>
bcase (decide (x > z_7)) (
K (.int .i64 0) h_5) <|
ldI h_5 ((⟨r_4, 0, none⟩ : Addr).add 1) .i64 fun x_8 =>
bindI (IntKind.i64.wrap (x_8 + (10 : Int))) fun z_9 =>
bcase (decide (y > z_9)) (
K (.int .i64 0) h_5) <|
∃ J_10 : Nat → List Value → Heap → Prop, (∃ n_12, J_10 n_12 [.int .i64 0, .int .i64 0] h_5) ∧ ∀ (n_12 : Nat) (h_13 : Heap) (u_14 : Nat → Value) (n_15 : Int) (i_16 : Int), J_10 n_12 [.int .i64 n_15, .int .i64 i_16] h_13 → (
bcase (decide (i_16 < (placesn : Int))) (
bindI (IntKind.i64.wrap ((2 : Int) * n_15)) fun z_17 =>
needs (0 ≤ i_16 ∧ i_16 < (placesn : Int)) <|
ptr places fun a_18 =>
bindI (IntKind.i64.wrap (i_16 + (1 : Int))) fun z_19 =>
needs (0 ≤ z_19 ∧ z_19 < (placesn : Int)) <|
ptr places fun a_20 =>
ldI h_13 ((⟨r_4, 0, none⟩ : Addr).add 0) .i64 fun x_21 =>
ldI h_13 ((⟨r_4, 0, none⟩ : Addr).add 1) .i64 fun x_22 =>
ldS h_13 ((⟨r_4, 0, none⟩ : Addr).add 2) fun x_23 x_23n x_23c =>
ldI h_13 (a_18.add (i_16.toNat * 1)) .i64 fun x_24 =>
bindI (IntKind.i64.wrap (x + x_24)) fun z_25 =>
ldI h_13 (a_20.add (z_19.toNat * 1)) .i64 fun x_26 =>
bindI (IntKind.i64.wrap (y + x_26)) fun z_27 =>
C F_burinref0_Get #[.agg #[.int .i64 x_21, .int .i64 x_22, .slice x_23 x_23n x_23c], .int .i64 z_25, .int .i64 z_27] h_13 (fun v_28 h_29 =>
∃ (r_30 : Int), v_28 = .int .i64 r_30 ∧ (
bindI (IntKind.i64.wrap (z_17 + r_30)) fun z_31 =>
bindI (IntKind.i64.wrap (i_16 + (2 : Int))) fun z_32 =>
∃ m_11, m_11 < n_12 ∧ J_10 m_11 [.int .i64 z_31, .int .i64 z_32] h_29)) (Kp)) <|
K (.int .i64 n_15) h_13)

/- burin/burinref6.Size -/
set_option maxRecDepth 100000 in
def burinref6_Size (C : CallP) (template : Int) (h : Heap) (K : Value → Heap → Prop) (Kp : List PanicEntry → Heap → Prop) : Prop :=
C F_burinref6_Places #[.int .i64 template] h (fun v_1 h_2 =>
∃ (r_3 : Option Addr) (r_3n : Nat) (r_3c : Nat), v_1 = .slice r_3 r_3n r_3c ∧ (
bindI (IntKind.i64.wrap ((r_3n : Int).tdiv (2 : Int))) fun z_4 =>
bindI (IntKind.u64.wrap z_4) fun z_5 =>
needs (0 ≤ z_5) <|
bindI (shlI .i64 (1 : Int) z_5) fun z_6 =>
K (.int .i64 z_6) h_2)) (Kp)

end Go.Den.Yteakipgcanafoaa

/- Written by gen.py: each condition of the functions of burinref6 is the one of its body; so it is enough for its call. -/
set_option linter.unusedVariables false
set_option linter.unusedSimpArgs false
namespace Go.Den.Yteakipgcanafoaa
open Go Go.Den

noncomputable def hints_burinref6_May : Hints := Hints.mk (fun i => none)
  (fun i => none)
  (fun i => none) []
set_option maxRecDepth 100000 in
theorem eq_burinref6_May (C : CallP) (template : Int) (h : Heap) (K : Value → Heap → Prop) (Kp : List PanicEntry → Heap → Prop) :
    fnD Go.Proofs.Try.prog C hints_burinref6_May Go.Proofs.Try.f60 [.int .i64 template] h K Kp = burinref6_May C template h K Kp := by kernel_rfl

theorem call_burinref6_May {template : Int} {h : Heap} {K : Value → Heap → Prop} {Kp : List PanicEntry → Heap → Prop} (H : burinref6_May (CallsHP Go.Proofs.Try.prog) template h K Kp) : CallsHP Go.Proofs.Try.prog F_burinref6_May #[.int .i64 template] h K Kp :=
  callsHP_of hints_burinref6_May (by kernel_rfl) Go.Proofs.Try.func60 (by kernel_rfl) (by rw [eq_burinref6_May]; exact H)

noncomputable def hints_burinref6_Places : Hints := Hints.mk (fun i => none)
  (fun i => none)
  (fun i => none) []
set_option maxRecDepth 100000 in
theorem eq_burinref6_Places (C : CallP) (template : Int) (h : Heap) (K : Value → Heap → Prop) (Kp : List PanicEntry → Heap → Prop) :
    fnD Go.Proofs.Try.prog C hints_burinref6_Places Go.Proofs.Try.f98 [.int .i64 template] h K Kp = burinref6_Places C template h K Kp := by kernel_rfl

theorem call_burinref6_Places {template : Int} {h : Heap} {K : Value → Heap → Prop} {Kp : List PanicEntry → Heap → Prop} (H : burinref6_Places (CallsHP Go.Proofs.Try.prog) template h K Kp) : CallsHP Go.Proofs.Try.prog F_burinref6_Places #[.int .i64 template] h K Kp :=
  callsHP_of hints_burinref6_Places (by kernel_rfl) Go.Proofs.Try.func98 (by kernel_rfl) (by rw [eq_burinref6_Places]; exact H)

noncomputable def hints_burinref6_At : Hints := Hints.mk (fun i => bif Nat.beq i 7 then some ([16], .take 0 <| .take 1 <| .take 3 <| .take 4 <| .take 5 <| .take 6 <| .take 9 <| .take 10 <| .take 11 <| .take 12 <| .take 13 <| .take 2 <| .take 7 <| .take 8 <| .take 14 <| .take 15 <| .bar 16 [] <| .take 17 <| .take 18 <| .done) else (none))
  (fun i => bif Nat.beq i 5 then some ([(9, .int .i64), (10, .int .i64)], 36028794871481856) else (none))
  (fun i => none) []
set_option maxRecDepth 100000 in
theorem eq_burinref6_At (C : CallP) (b_1 : Int) (b_2 : Int) (b_3 : Option Addr) (b_3n : Nat) (b_3c : Nat) (places : Option Addr) (placesn : Nat) (placesc : Nat) (x : Int) (y : Int) (h : Heap) (K : Value → Heap → Prop) (Kp : List PanicEntry → Heap → Prop) :
    fnD Go.Proofs.Try.prog C hints_burinref6_At Go.Proofs.Try.f100 [.agg #[.int .i64 b_1, .int .i64 b_2, .slice b_3 b_3n b_3c], .slice places placesn placesc, .int .i64 x, .int .i64 y] h K Kp = burinref6_At C b_1 b_2 b_3 b_3n b_3c places placesn placesc x y h K Kp := by kernel_rfl

theorem call_burinref6_At {b_1 : Int} {b_2 : Int} {b_3 : Option Addr} {b_3n : Nat} {b_3c : Nat} {places : Option Addr} {placesn : Nat} {placesc : Nat} {x : Int} {y : Int} {h : Heap} {K : Value → Heap → Prop} {Kp : List PanicEntry → Heap → Prop} (H : burinref6_At (CallsHP Go.Proofs.Try.prog) b_1 b_2 b_3 b_3n b_3c places placesn placesc x y h K Kp) : CallsHP Go.Proofs.Try.prog F_burinref6_At #[.agg #[.int .i64 b_1, .int .i64 b_2, .slice b_3 b_3n b_3c], .slice places placesn placesc, .int .i64 x, .int .i64 y] h K Kp :=
  callsHP_of hints_burinref6_At (by kernel_rfl) Go.Proofs.Try.func100 (by kernel_rfl) (by rw [eq_burinref6_At]; exact H)

noncomputable def hints_burinref6_Size : Hints := Hints.mk (fun i => none)
  (fun i => none)
  (fun i => none) []
set_option maxRecDepth 100000 in
theorem eq_burinref6_Size (C : CallP) (template : Int) (h : Heap) (K : Value → Heap → Prop) (Kp : List PanicEntry → Heap → Prop) :
    fnD Go.Proofs.Try.prog C hints_burinref6_Size Go.Proofs.Try.f117 [.int .i64 template] h K Kp = burinref6_Size C template h K Kp := by kernel_rfl

theorem call_burinref6_Size {template : Int} {h : Heap} {K : Value → Heap → Prop} {Kp : List PanicEntry → Heap → Prop} (H : burinref6_Size (CallsHP Go.Proofs.Try.prog) template h K Kp) : CallsHP Go.Proofs.Try.prog F_burinref6_Size #[.int .i64 template] h K Kp :=
  callsHP_of hints_burinref6_Size (by kernel_rfl) Go.Proofs.Try.func117 (by kernel_rfl) (by rw [eq_burinref6_Size]; exact H)

end Go.Den.Yteakipgcanafoaa

/- GnA: the templates of generic coding: places, contexts; what the program and the document tell of them. -/
set_option linter.unusedVariables false
set_option linter.unusedSimpArgs false
namespace Go.Bm
open Go Go.Den Go.Den.Yteakipgcanafoaa

abbrev Sp := Int × Int × Int
def spanL : Nat → List Sp
  | 0 => [(-2, -2, 2), (-1, -3, 3), (0, -4, -1)]
  | 1 => [(-2, -1, 2), (-1, -2, 3), (0, -3, -1)]
  | 2 => [(-2, -1, 1), (-1, -2, 2), (0, -2, -1)]
  | _ => [(-1, -3, 2), (0, -4, -1)]
def spanW (s : Sp) : Nat := (s.2.2 - s.2.1 + 1).toNat
def spl (s : Sp) (k : Nat) : List (Int × Int) := (List.range k).map fun (j : Nat) => (s.2.1 + (j : Int), s.1)
def plcs (l : List Sp) : List (Int × Int) := l.flatMap fun s => spl s (spanW s)
def pb (G : Int → Int → Bool) (x y : Int) (l : List (Int × Int)) : List Bool := l.map fun p => G (x + p.1) (y + p.2)
def gctx (t : Nat) (G : Int → Int → Bool) (x y : Int) : Nat := bitsN 0 (pb G x y (plcs (spanL t)))
def gsize (t : Nat) : Nat := 2 ^ (plcs (spanL t)).length
theorem gsize_le {t : Nat} (h : t < 4) : 1024 ≤ gsize t ∧ gsize t ≤ 65536 := by
  have : t = 0 ∨ t = 1 ∨ t = 2 ∨ t = 3 := by omega
  rcases this with rfl | rfl | rfl | rfl <;> decide
theorem gctx_lt (t : Nat) (G : Int → Int → Bool) (x y : Int) : gctx t G x y < gsize t := by
  unfold gctx gsize
  have := bitsN_lt (pb G x y (plcs (spanL t))) 0 0 (by decide)
  rw [Nat.zero_add] at this
  simpa [pb] using this
/-- A span lies above, or to the left. -/
structure SpOk (s : Sp) : Prop where
  d : -2 ≤ s.1 ∧ s.1 ≤ 0
  f : -4 ≤ s.2.1 ∧ s.2.1 ≤ s.2.2
  t : s.2.2 ≤ 3
  z : s.1 = 0 → s.2.2 ≤ -1
theorem spanL_ok {t : Nat} (h : t < 4) : ∀ s ∈ spanL t, SpOk s := by
  have : t = 0 ∨ t = 1 ∨ t = 2 ∨ t = 3 := by omega
  rcases this with rfl | rfl | rfl | rfl <;> (intro s hs; simp [spanL] at hs; rcases hs with rfl | rfl | rfl <;> exact ⟨by decide, by decide, by decide, by decide⟩)
theorem spanL_len {t : Nat} (h : t < 4) : 2 ≤ (spanL t).length ∧ (spanL t).length ≤ 3 := by
  have : t = 0 ∨ t = 1 ∨ t = 2 ∨ t = 3 := by omega
  rcases this with rfl | rfl | rfl | rfl <;> decide
def spC : List Sp → List Value
  | [] => []
  | s :: l => .int .i64 s.1 :: .int .i64 s.2.1 :: .int .i64 s.2.2 :: spC l
theorem spC_get : ∀ {l : List Sp} {i : Nat} {s : Sp}, l[i]? = some s → (spC l)[i * 3]? = some (.int .i64 s.1) ∧ (spC l)[i * 3 + 1]? = some (.int .i64 s.2.1) ∧ (spC l)[i * 3 + 2]? = some (.int .i64 s.2.2)
  | [], i, s, h => by simp at h
  | a :: l, 0, s, h => by
    simp at h
    subst h
    exact ⟨rfl, rfl, rfl⟩
  | a :: l, i + 1, s, h => by
    have := spC_get (l := l) (i := i) (s := s) (by simpa using h)
    rw [show (i + 1) * 3 = i * 3 + 3 by omega]
    exact this
theorem spC_len : ∀ l : List Sp, (spC l).length = l.length * 3
  | [] => rfl
  | a :: l => by
    simp only [spC, List.length_cons, spC_len l]
    omega

section
variable {hB : Heap} {K : Value → Heap → Prop} {Kp : List PanicEntry → Heap → Prop}
theorem four {P : Nat → Prop} {template : Int} (hg : ∀ t : Nat, t < 4 → template = (t : Int) → P t) (h : 0 ≤ template ∧ template < 4) : P template.toNat := hg _ (by omega) (by omega)
theorem cspans_ok {template : Int} (hg : ∀ t : Nat, t < 4 → template = (t : Int) → ∀ r h', Hp hB [] h' [⟨r, true, T_context_span, spC (spanL t)⟩] → K (.slice (at0 r) (spanL t).length (spanL t).length) h')
    (hbad : ¬ (0 ≤ template ∧ template < 4) → K (.slice none 0 0) hB) : CP F_context_spans #[.int .i64 template] hB K Kp := by
  refine call_context_spans ?_
  unfold context_spans
  have H := Hp.nil hB []
  refine bcase_eq (fun h0 => ?_) fun h0 => bcase_eq (fun h1 => ?_) fun h1 => bcase_eq (fun h2 => ?_) fun h2 => bcase_eq (fun h3 => ?_) fun h3 => hbad (by omega)
  · exact newC_hp H fun r h H => hg 0 (by decide) h0 r h H
  · exact newC_hp H fun r h H => hg 1 (by decide) h1 r h H
  · exact newC_hp H fun r h H => hg 2 (by decide) h2 r h H
  · exact newC_hp H fun r h H => hg 3 (by decide) h3 r h H
theorem gspans_ok {t : Nat} (ht : t < 4) (hk : ∀ r h', Hp hB [] h' [⟨r, true, T_generic_span, spC (spanL t)⟩] → K (.slice (at0 r) (spanL t).length (spanL t).length) h') : CP F_generic_spans #[.int .i64 (t : Nat)] hB K Kp := by
  refine call_generic_spans ?_
  unfold generic_spans
  have H := Hp.nil hB []
  have : t = 0 ∨ t = 1 ∨ t = 2 ∨ t = 3 := by omega
  rcases this with rfl | rfl | rfl | rfl
  · refine bcase_true (by decide) ?_
    exact newC_hp H fun r h H => hk r h H
  · refine bcase_false (by decide) (bcase_true (by decide) ?_)
    exact newC_hp H fun r h H => hk r h H
  · refine bcase_false (by decide) (bcase_false (by decide) (bcase_true (by decide) ?_))
    exact newC_hp H fun r h H => hk r h H
  · refine bcase_false (by decide) (bcase_false (by decide) (bcase_false (by decide) ?_))
    exact newC_hp H fun r h H => hk r h H
theorem plcs_take {l : List Sp} {i : Nat} {s : Sp} (h : l[i]? = some s) : (plcs (l.take (i + 1))).length = (plcs (l.take i)).length + spanW s := by
  have hi := (List.getElem?_eq_some_iff.1 h).1
  have e := (List.getElem?_eq_some_iff.1 h).2
  rw [List.take_succ_eq_append_getElem hi, e]
  unfold plcs
  rw [List.flatMap_append, List.length_append]
  simp [spl]
theorem plcs_small {t i : Nat} (ht : t < 4) : (plcs ((spanL t).take i)).length ≤ 16 := by
  have : t = 0 ∨ t = 1 ∨ t = 2 ∨ t = 3 := by omega
  have hi : i = 0 ∨ i = 1 ∨ i = 2 ∨ 3 ≤ i := by omega
  rcases hi with rfl | rfl | rfl | hi
  · rcases this with rfl | rfl | rfl | rfl <;> decide
  · rcases this with rfl | rfl | rfl | rfl <;> decide
  · rcases this with rfl | rfl | rfl | rfl <;> decide
  · rw [List.take_of_length_le (Nat.le_trans (spanL_len ht).2 hi)]
    rcases this with rfl | rfl | rfl | rfl <;> decide
theorem csize_ok {template : Int} (hg : ∀ t : Nat, t < 4 → template = (t : Int) → ∀ h', hext hB h' → K (.tuple #[.int .i64 (gsize t : Nat), .int .i64 0]) h')
    (hbad : ¬ (0 ≤ template ∧ template < 4) → ∀ h', hext hB h' → K (.tuple #[.int .i64 0, .int .i64 60]) h') : CP F_context_Size #[.int .i64 template] hB K Kp := by
  refine call_context_Size ?_
  unfold context_Size
  refine cspans_ok (fun t ht et r h H => ?_) fun hn => ?_
  · refine ⟨_, _, _, rfl, ?_⟩
    refine bcase_false (by rfl) ?_
    have hlen := spanL_len ht
    refine ⟨fun n vs h' => ∃ i : Nat, i + n = (spanL t).length ∧ vs = [.int .i64 ((plcs ((spanL t).take i)).length : Nat), .int .i64 (i : Nat)] ∧ Hp hB [] h' [⟨r, true, T_context_span, spC (spanL t)⟩], ⟨(spanL t).length, 0, by omega, rfl, H⟩, ?_⟩
    clear H
    rintro n h u a b ⟨i, hin, hxx, H⟩
    injection hxx with h1 hxx
    injection hxx with h2 hxx
    injection h1 with _ h1
    injection h2 with _ h2
    subst h1 h2
    refine bcase_dec (fun h3 => ?_) fun h3 => ?_
    · have hi : i < (spanL t).length := by omega
      obtain ⟨s, hs⟩ : ∃ s, (spanL t)[i]? = some s := ⟨_, List.getElem?_eq_getElem hi⟩
      have hok := spanL_ok ht s (List.mem_of_getElem? hs)
      obtain ⟨k0, k1, k2⟩ := spC_get hs
      have o1 := hok.d
      have o2 := hok.f
      have o3 := hok.t
      refine needs_of (by omega) (ptr_of (a := ⟨r, 0, none⟩) ?_)
      rw [Int.toNat_natCast]
      refine ldI_of (hpB H 0 rfl (by rw [Nat.zero_add, Nat.add_zero]; exact k0)) (ldI_of (hpB H 0 rfl (by rw [Nat.zero_add]; exact k1)) (ldI_of (hpB H 0 rfl (by rw [Nat.zero_add]; exact k2)) ?_))
      refine newC_hp H fun r15 h H => ?_
      repeat first | with_reducible refine ldI_of (by with_unfolding_all first | exact hpA H 0 rfl rfl | exact hpA H 1 rfl rfl | exact Hp.cell H 0 rfl rfl | exact Hp.cell H 1 rfl rfl | exact hpB H 0 rfl rfl | exact hpB H 1 rfl rfl | exact hpC H 0 rfl rfl | exact hpC H 1 rfl rfl) ?_ | with_reducible refine ldS_of (by with_unfolding_all first | exact hpA H 0 rfl rfl | exact hpA H 1 rfl rfl | exact Hp.cell H 0 rfl rfl | exact Hp.cell H 1 rfl rfl | exact hpB H 0 rfl rfl | exact hpB H 1 rfl rfl | exact hpC H 0 rfl rfl | exact hpC H 1 rfl rfl) ?_ | with_reducible refine ldP_of (by with_unfolding_all first | exact hpA H 0 rfl rfl | exact hpA H 1 rfl rfl | exact Hp.cell H 0 rfl rfl | exact Hp.cell H 1 rfl rfl | exact hpB H 0 rfl rfl | exact hpB H 1 rfl rfl | exact hpC H 0 rfl rfl | exact hpC H 1 rfl rfl) ?_ | with_reducible refine ldB_of (by with_unfolding_all first | exact hpA H 0 rfl rfl | exact hpA H 1 rfl rfl | exact Hp.cell H 0 rfl rfl | exact Hp.cell H 1 rfl rfl | exact hpB H 0 rfl rfl | exact hpB H 1 rfl rfl | exact hpC H 0 rfl rfl | exact hpC H 1 rfl rfl) ?_ | with_reducible refine ldT_of (by with_unfolding_all first | exact hpA H 0 rfl rfl | exact hpA H 1 rfl rfl | exact Hp.cell H 0 rfl rfl | exact Hp.cell H 1 rfl rfl | exact hpB H 0 rfl rfl | exact hpB H 1 rfl rfl | exact hpC H 0 rfl rfl | exact hpC H 1 rfl rfl) ?_ | with_reducible refine stA H 0 (by with_unfolding_all exact rfl) (by with_unfolding_all exact rfl) (by with_unfolding_all exact rfl) fun h H => ?_ | with_reducible refine stA H 1 (by with_unfolding_all exact rfl) (by with_unfolding_all exact rfl) (by with_unfolding_all exact rfl) fun h H => ?_ | with_reducible refine st0 H 0 (by with_unfolding_all exact rfl) (by with_unfolding_all exact rfl) (by with_unfolding_all exact rfl) fun h H => ?_ | with_reducible refine st0 H 1 (by with_unfolding_all exact rfl) (by with_unfolding_all exact rfl) (by with_unfolding_all exact rfl) fun h H => ?_ | with_reducible refine stB H 0 (by with_unfolding_all exact rfl) (by with_unfolding_all exact rfl) (by with_unfolding_all exact rfl) fun h H => ?_ | with_reducible refine stB H 1 (by with_unfolding_all exact rfl) (by with_unfolding_all exact rfl) (by with_unfolding_all exact rfl) fun h H => ?_
      have hw : ((spanW s : Nat) : Int) = s.2.2 - s.2.1 + 1 := by unfold spanW; omega
      have hsm := plcs_small (i := i + 1) ht
      have htk := plcs_take hs
      refine bindI_of ((s.2.2 - s.2.1)) (by exact i64_in _ (by omega) (by omega)) ?_
      refine bindI_of (((spanW s : Nat) : Int)) (by exact i64_at _ _ (by omega) (by omega) (by omega)) ?_
      refine bindI_of ((((plcs ((spanL t).take (i + 1))).length : Nat) : Int)) (by exact i64_at _ _ (by omega) (by omega) (by omega)) ?_
      refine bindI_of (((i + 1 : Nat) : Int)) (by exact i64_at _ _ (by omega) (by omega) (by omega)) ?_
      exact ⟨n - 1, by omega, i + 1, by omega, rfl, H.take 1⟩
    · have hi : (spanL t).length ≤ i := by omega
      have hsm := plcs_small (i := i) ht
      rw [List.take_of_length_le hi] at hsm ⊢
      refine needs_of (by omega) ?_
      refine bindI_of (((gsize t : Nat) : Int)) (by exact (shlI_of (a := 1) (i := (plcs (spanL t)).length) (by omega) (by rw [Nat.one_mul]; exact Nat.lt_of_le_of_lt (gsize_le ht).2 (by decide))).trans (by rw [Nat.one_mul]; rfl)) ?_
      exact hg t ht et _ H.hext
  · refine ⟨_, _, _, rfl, ?_⟩
    refine bcase_true (by rfl) ?_
    exact hbad hn _ (hext.refl _)

/-! ### the document's -/
def plcI (l : List (Int × Int)) : List Value := l.flatMap fun p => [.int .i64 p.1, .int .i64 p.2]
theorem plcI_get : ∀ {l : List (Int × Int)} {i : Nat} {p : Int × Int}, l[i]? = some p → (plcI l)[2 * i]? = some (.int .i64 p.1) ∧ (plcI l)[2 * i + 1]? = some (.int .i64 p.2)
  | [], i, s, h => by simp at h
  | a :: l, 0, s, h => by
    simp at h
    subst h
    exact ⟨rfl, rfl⟩
  | a :: l, i + 1, s, h => by
    have := plcI_get (l := l) (i := i) (p := s) (by simpa using h)
    rw [show 2 * (i + 1) = 2 * i + 2 by omega]
    exact this
theorem places_ok {t : Nat} (ht : t < 4) (hk : ∀ r h', Hp hB [] h' [⟨r, true, T_int, plcI (plcs (spanL t))⟩] → K (.slice (at0 r) (2 * (plcs (spanL t)).length) (2 * (plcs (spanL t)).length)) h') : CP F_burinref6_Places #[.int .i64 (t : Nat)] hB K Kp := by
  refine call_burinref6_Places ?_
  unfold burinref6_Places
  have H := Hp.nil hB []
  have : t = 0 ∨ t = 1 ∨ t = 2 ∨ t = 3 := by omega
  rcases this with rfl | rfl | rfl | rfl
  · refine bcase_true (by decide) ?_
    exact newC_hp H fun r h H => hk r h H
  · refine bcase_false (by decide) (bcase_true (by decide) ?_)
    exact newC_hp H fun r h H => hk r h H
  · refine bcase_false (by decide) (bcase_false (by decide) (bcase_true (by decide) ?_))
    exact newC_hp H fun r h H => hk r h H
  · refine bcase_false (by decide) (bcase_false (by decide) (bcase_false (by decide) ?_))
    exact newC_hp H fun r h H => hk r h H
theorem may6_ok {template : Int} (hk : ∀ b : Bool, (b = true ↔ 0 ≤ template ∧ template < 4) → K (.bool b) hB) : CP F_burinref6_May #[.int .i64 template] hB K Kp := by
  refine call_burinref6_May ?_
  unfold burinref6_May
  refine bcase_dec (fun h1 => ?_) fun h1 => hk false (by simp; omega)
  exact hk _ (by simp; omega)
theorem rsize6_ok {t : Nat} (ht : t < 4) (hk : ∀ h', hext hB h' → K (.int .i64 (gsize t : Nat)) h') : CP F_burinref6_Size #[.int .i64 (t : Nat)] hB K Kp := by
  refine call_burinref6_Size ?_
  unfold burinref6_Size
  refine places_ok ht fun r h H => ?_
  refine ⟨_, _, _, rfl, ?_⟩
  have hsm := plcs_small (i := 3) ht
  rw [List.take_of_length_le (spanL_len ht).2] at hsm
  refine bindI_of ((((plcs (spanL t)).length : Nat) : Int)) (by exact i64_at _ _ ((tdiv_nat _ 2).trans (by congr 1; omega)) (by omega) (by omega)) ?_
  refine bindI_of ((((plcs (spanL t)).length : Nat) : Int)) (by exact u64_at _ _ rfl (by omega) (by omega)) ?_
  refine needs_of (by omega) ?_
  refine bindI_of (((gsize t : Nat) : Int)) (by exact (shlI_of (a := 1) (i := (plcs (spanL t)).length) (by omega) (by rw [Nat.one_mul]; exact Nat.lt_of_le_of_lt (gsize_le ht).2 (by decide))).trans (by rw [Nat.one_mul]; rfl)) ?_
  exact hk _ H.hext
theorem at6_ok {W X : Nat} {q : Option Addr} {c : Nat} {ws : List Nat} {t : Nat} (ht : t < 4) (hr : rdO hB q (ws.length * 1) (u64s ws)) (hw : W64 ws) (hs : SizeP (W : Int) (X : Int)) (hl : ws.length = X * wds W)
    {pq : Option Addr} {pc : Nat} (hp : rdO hB pq (2 * (plcs (spanL t)).length * 1) (plcI (plcs (spanL t)))) {x y : Nat} (hx : x < W) (hy : y < X) (hk : ∀ h', hext hB h' → K (.int .i64 (gctx t (getP ws W X) x y : Nat)) h') :
    CP F_burinref6_At #[.agg #[.int .i64 (W : Nat), .int .i64 (X : Nat), .slice q ws.length c], .slice pq (2 * (plcs (spanL t)).length) pc, .int .i64 (x : Nat), .int .i64 (y : Nat)] hB K Kp := by
  refine call_burinref6_At ?_
  unfold burinref6_At
  obtain ⟨W', X', e1, e2, hW1, hW2, hX1, hX2, hWX⟩ := size_nat hs
  obtain rfl : W = W' := by omega
  obtain rfl : X = X' := by omega
  have H := Hp.nil hB []
  refine newC_hp H fun r4 h H => ?_
  refine bcase_dec (fun h1 => by omega) fun h1 => ?_
  refine bcase_dec (fun h1 => by omega) fun h1 => ?_
  repeat first | with_reducible refine ldI_of (by with_unfolding_all first | exact hpA H 0 rfl rfl | exact Hp.cell H 0 rfl rfl | exact hpB H 0 rfl rfl | exact hpC H 0 rfl rfl) ?_ | with_reducible refine ldS_of (by with_unfolding_all first | exact hpA H 0 rfl rfl | exact Hp.cell H 0 rfl rfl | exact hpB H 0 rfl rfl | exact hpC H 0 rfl rfl) ?_ | with_reducible refine ldP_of (by with_unfolding_all first | exact hpA H 0 rfl rfl | exact Hp.cell H 0 rfl rfl | exact hpB H 0 rfl rfl | exact hpC H 0 rfl rfl) ?_ | with_reducible refine ldB_of (by with_unfolding_all first | exact hpA H 0 rfl rfl | exact Hp.cell H 0 rfl rfl | exact hpB H 0 rfl rfl | exact hpC H 0 rfl rfl) ?_ | with_reducible refine ldT_of (by with_unfolding_all first | exact hpA H 0 rfl rfl | exact Hp.cell H 0 rfl rfl | exact hpB H 0 rfl rfl | exact hpC H 0 rfl rfl) ?_
  refine bindI_of (((W + 10 : Nat) : Int)) (by exact i64_at _ _ (by omega) (by omega) (by omega)) ?_
  refine bcase_dec (fun h1 => by omega) fun h1 => ?_
  repeat first | with_reducible refine ldI_of (by with_unfolding_all first | exact hpA H 0 rfl rfl | exact Hp.cell H 0 rfl rfl | exact hpB H 0 rfl rfl | exact hpC H 0 rfl rfl) ?_ | with_reducible refine ldS_of (by with_unfolding_all first | exact hpA H 0 rfl rfl | exact Hp.cell H 0 rfl rfl | exact hpB H 0 rfl rfl | exact hpC H 0 rfl rfl) ?_ | with_reducible refine ldP_of (by with_unfolding_all first | exact hpA H 0 rfl rfl | exact Hp.cell H 0 rfl rfl | exact hpB H 0 rfl rfl | exact hpC H 0 rfl rfl) ?_ | with_reducible refine ldB_of (by with_unfolding_all first | exact hpA H 0 rfl rfl | exact Hp.cell H 0 rfl rfl | exact hpB H 0 rfl rfl | exact hpC H 0 rfl rfl) ?_ | with_reducible refine ldT_of (by with_unfolding_all first | exact hpA H 0 rfl rfl | exact Hp.cell H 0 rfl rfl | exact hpB H 0 rfl rfl | exact hpC H 0 rfl rfl) ?_
  refine bindI_of (((X + 10 : Nat) : Int)) (by exact i64_at _ _ (by omega) (by omega) (by omega)) ?_
  refine bcase_dec (fun h1 => by omega) fun h1 => ?_
  have hsm := plcs_small (i := 3) ht
  rw [List.take_of_length_le (spanL_len ht).2] at hsm
  have hpl : ∀ p ∈ plcs (spanL t), (-4 ≤ p.1 ∧ p.1 ≤ 3) ∧ -2 ≤ p.2 ∧ p.2 ≤ 0 := by
    have : t = 0 ∨ t = 1 ∨ t = 2 ∨ t = 3 := by omega
    rcases this with rfl | rfl | rfl | rfl <;> decide
  have hlt := gctx_lt t (getP ws W X) x y
  have hgs := gsize_le ht
  unfold gctx at hk hlt
  generalize hP : plcs (spanL t) = P at hp hsm hpl hk hlt ⊢
  have hpart : ∀ i, i ≤ P.length → bitsN 0 (pb (getP ws W X) x y (P.take i)) < 65536 := fun i hi => by
    have := bitsN_lt (pb (getP ws W X) x y (P.take i)) 0 0 (by decide)
    rw [Nat.zero_add] at this
    refine Nat.lt_of_lt_of_le this ?_
    rw [show (65536 : Nat) = 2 ^ 16 from rfl]
    exact Nat.pow_le_pow_right (by decide) (by simp [pb]; omega)
  refine ⟨fun n vs h' => ∃ i : Nat, i + n = P.length ∧ vs = [.int .i64 (bitsN 0 (pb (getP ws W X) x y (P.take i)) : Nat), .int .i64 (2 * i : Nat)] ∧ Hp hB [] h' [⟨r4, true, T_api_Bitmap, [.int .i64 (W : Nat), .int .i64 (X : Nat), .slice q ws.length c]⟩], ⟨P.length, 0, by omega, rfl, H⟩, ?_⟩
  clear H
  rintro n h u a b ⟨i, hin, hxx, H⟩
  injection hxx with h1 hxx
  injection hxx with h2 hxx
  injection h1 with _ h1
  injection h2 with _ h2
  subst h1 h2
  refine bcase_dec (fun h3 => ?_) fun h3 => ?_
  · have hi : i < P.length := by omega
    obtain ⟨p, hpi⟩ : ∃ p, P[i]? = some p := ⟨_, List.getElem?_eq_getElem hi⟩
    obtain ⟨k0, k1⟩ := plcI_get hpi
    obtain ⟨a0, ha0, hc0⟩ := Go.Ar.rdO_cell hp k0
    obtain ⟨a1, ha1, hc1⟩ := Go.Ar.rdO_cell hp k1
    obtain rfl : a0 = a1 := Option.some.inj (ha0.symm.trans ha1)
    subst ha0
    have hpb := hpl p (List.mem_of_getElem? hpi)
    have hq1 := hpart i (by omega)
    have hq2 := hpart (i + 1) (by omega)
    have hnx : bitsN 0 (pb (getP ws W X) x y (P.take (i + 1))) = 2 * bitsN 0 (pb (getP ws W X) x y (P.take i)) + (getP ws W X ((x : Int) + p.1) ((y : Int) + p.2)).toNat := by
      have e := (List.getElem?_eq_some_iff.1 hpi).2
      rw [List.take_succ_eq_append_getElem hi, e]
      unfold pb
      rw [List.map_append, bitsN_app]
      rfl
    have hbb := toNat_le (getP ws W X ((x : Int) + p.1) ((y : Int) + p.2))
    generalize bitsN 0 (pb (getP ws W X) x y (P.take i)) = acc at hq1 hnx ⊢
    refine bindI_of (((2 * acc : Nat) : Int)) (by exact i64_at _ _ (by omega) (by omega) (by omega)) ?_
    refine needs_of (by omega) (ptr_of (a := a0) ?_)
    refine bindI_of (((2 * i + 1 : Nat) : Int)) (by exact i64_at _ _ (by omega) (by omega) (by omega)) ?_
    refine needs_of (by omega) (ptr_of (a := a0) ?_)
    repeat first | with_reducible refine ldI_of (by with_unfolding_all first | exact hpA H 0 rfl rfl | exact Hp.cell H 0 rfl rfl | exact hpB H 0 rfl rfl | exact hpC H 0 rfl rfl) ?_ | with_reducible refine ldS_of (by with_unfolding_all first | exact hpA H 0 rfl rfl | exact Hp.cell H 0 rfl rfl | exact hpB H 0 rfl rfl | exact hpC H 0 rfl rfl) ?_ | with_reducible refine ldP_of (by with_unfolding_all first | exact hpA H 0 rfl rfl | exact Hp.cell H 0 rfl rfl | exact hpB H 0 rfl rfl | exact hpC H 0 rfl rfl) ?_ | with_reducible refine ldB_of (by with_unfolding_all first | exact hpA H 0 rfl rfl | exact Hp.cell H 0 rfl rfl | exact hpB H 0 rfl rfl | exact hpC H 0 rfl rfl) ?_ | with_reducible refine ldT_of (by with_unfolding_all first | exact hpA H 0 rfl rfl | exact Hp.cell H 0 rfl rfl | exact hpB H 0 rfl rfl | exact hpC H 0 rfl rfl) ?_
    rw [Int.toNat_natCast, Int.toNat_natCast, Nat.mul_one, Nat.mul_one]
    refine ldI_of (H.fr.cell (by simp) hc0) ?_
    refine bindI_of (((x : Int) + p.1)) (by exact i64_in _ (by omega) (by omega)) ?_
    refine ldI_of (H.fr.cell (by simp) hc1) ?_
    refine bindI_of (((y : Int) + p.2)) (by exact i64_in _ (by omega) (by omega)) ?_
    refine get_ok (H.rdO hr) hw hs hl fun h' e => ?_
    have H := H.ext e
    refine ⟨_, rfl, ?_⟩
    refine bindI_of (((bitsN 0 (pb (getP ws W X) x y (P.take (i + 1))) : Nat) : Int)) (by exact i64_at _ _ (by omega) (by omega) (by omega)) ?_
    refine bindI_of (((2 * (i + 1) : Nat) : Int)) (by exact i64_at _ _ (by omega) (by omega) (by omega)) ?_
    exact ⟨n - 1, by omega, i + 1, by omega, rfl, H⟩
  · have hi : P.length ≤ i := by omega
    rw [List.take_of_length_le hi]
    exact hk _ H.hext
end
end Go.Bm

/- GnB: windows that are shifted along a row, and the walk over a row: plain law. -/
set_option linter.unusedVariables false
set_option linter.unusedSimpArgs false
namespace Go.Bm
open Go Go.Den Go.Den.Yteakipgcanafoaa

structure Wn where
  s : Sp
  b : Nat
def maskW (s : Sp) : Nat := 2 ^ spanW s - 1
def wnC (w : Wn) : List Value := [.int .i64 w.s.1, .int .i64 w.s.2.1, .int .i64 w.s.2.2, .int .i64 (w.b : Nat), .int .i64 (maskW w.s : Nat)]
def wnsC : List Wn → List Value
  | [] => []
  | w :: l => wnC w ++ wnsC l
theorem wnsC_app : ∀ (l l' : List Wn), wnsC (l ++ l') = wnsC l ++ wnsC l'
  | [], _ => rfl
  | w :: l, l' => by
    show wnC w ++ wnsC (l ++ l') = (wnC w ++ wnsC l) ++ wnsC l'
    rw [wnsC_app l l', List.append_assoc]
theorem wnsC_len : ∀ l : List Wn, (wnsC l).length = l.length * 5
  | [] => rfl
  | w :: l => by
    show (wnC w ++ wnsC l).length = _
    rw [List.length_append, wnsC_len l, List.length_cons]
    show 5 + _ = _
    omega
theorem wnsC_get : ∀ {l : List Wn} {i : Nat} {w : Wn}, l[i]? = some w → ∀ j v, (wnC w)[j]? = some v → (wnsC l)[i * 5 + j]? = some v
  | [], i, w, h => by simp at h
  | a :: l, 0, w, h => fun j v hv => by
    simp at h
    subst h
    rw [Nat.zero_mul, Nat.zero_add]
    exact Go.Ar.get_app hv
  | a :: l, i + 1, w, h => fun j v hv => by
    have := wnsC_get (l := l) (i := i) (w := w) (by simpa using h) j v hv
    show (wnC a ++ wnsC l)[(i + 1) * 5 + j]? = some v
    rw [show (i + 1) * 5 + j = (wnC a).length + (i * 5 + j) by show _ = 5 + _; omega, List.getElem?_append_right (by omega), Nat.add_sub_cancel_left]
    exact this
theorem wnsC_set : ∀ {l : List Wn} {i : Nat} {w : Wn} (b : Nat), l[i]? = some w → (wnsC l).set (i * 5 + 3) (.int .i64 (b : Nat)) = wnsC (l.set i ⟨w.s, b⟩)
  | [], i, w, b, h => by simp at h
  | a :: l, 0, w, b, h => by
    simp at h
    subst h
    rfl
  | a :: l, i + 1, w, b, h => by
    have := wnsC_set (l := l) (i := i) (w := w) b (by simpa using h)
    show (wnC a ++ wnsC l).set ((i + 1) * 5 + 3) _ = wnC a ++ wnsC (l.set i ⟨w.s, b⟩)
    rw [← this, show (i + 1) * 5 + 3 = (wnC a).length + (i * 5 + 3) by show _ = 5 + _; omega, List.set_append_right _ _ (by omega), Nat.add_sub_cancel_left]

/-! ### bits -/
theorem bitsN_val : ∀ (l : List Bool) (n : Nat), bitsN n l = n * 2 ^ l.length + bitsN 0 l
  | [], n => by simp [bitsN]
  | b :: l, n => by
    have h1 := bitsN_val l (2 * n + b.toNat)
    have h2 := bitsN_val l (2 * 0 + b.toNat)
    show bitsN (2 * n + b.toNat) l = n * 2 ^ (l.length + 1) + bitsN (2 * 0 + b.toNat) l
    have e : (2 * n + b.toNat) * 2 ^ l.length = n * 2 ^ (l.length + 1) + b.toNat * 2 ^ l.length := by
      rw [Nat.add_mul, Nat.pow_succ, Nat.mul_comm (2 ^ l.length) 2, ← Nat.mul_assoc, Nat.mul_comm 2 n]
    rw [h1, h2, Nat.mul_zero, Nat.zero_add, e, Nat.add_assoc]
theorem bits0_lt (l : List Bool) : bitsN 0 l < 2 ^ l.length := by
  have := bitsN_lt l 0 0 (by decide)
  rwa [Nat.zero_add] at this
theorem bits_head (b : Bool) (l : List Bool) : bitsN 0 (b :: l) % 2 ^ l.length = bitsN 0 l := by
  show bitsN (2 * 0 + b.toNat) l % _ = _
  rw [bitsN_val, Nat.mul_comm, Nat.mul_add_mod]
  exact Nat.mod_eq_of_lt (bits0_lt l)
theorem spl_len (s : Sp) (k : Nat) : (spl s k).length = k := by simp [spl]
theorem pb_len (G : Int → Int → Bool) (x y : Int) (l : List (Int × Int)) : (pb G x y l).length = l.length := by simp [pb]
theorem pb_snoc (G : Int → Int → Bool) (x y : Int) (s : Sp) (k : Nat) : pb G x y (spl s (k + 1)) = pb G x y (spl s k) ++ [G (x + (s.2.1 + (k : Int))) (y + s.1)] := by
  unfold pb spl
  rw [List.range_succ, List.map_append, List.map_append]
  rfl
theorem bits_snoc (G : Int → Int → Bool) (x y : Int) (s : Sp) (k : Nat) : bitsN 0 (pb G x y (spl s (k + 1))) = 2 * bitsN 0 (pb G x y (spl s k)) + (G (x + (s.2.1 + (k : Int))) (y + s.1)).toNat := by
  rw [pb_snoc, bitsN_app]
  rfl
theorem pb_head (G : Int → Int → Bool) (x y : Int) (s : Sp) (k : Nat) : pb G x y (spl s (k + 1)) = G (x + s.2.1) (y + s.1) :: pb G (x + 1) y (spl s k) := by
  unfold pb spl
  rw [List.range_succ_eq_map, List.map_cons, List.map_cons, List.map_map, List.map_map, List.map_map]
  congr 1
  · simp
  · refine List.map_congr_left fun j _ => ?_
    simp only [Function.comp]
    congr 1
    push_cast
    omega
theorem spanW_pos {s : Sp} (h : SpOk s) : 1 ≤ spanW s ∧ spanW s ≤ 8 ∧ ((spanW s : Nat) : Int) = s.2.2 - s.2.1 + 1 := by
  have h1 := h.f
  have h2 := h.t
  unfold spanW
  omega
theorem mask_add (s : Sp) : maskW s + 1 = 2 ^ spanW s := by
  unfold maskW
  have := Nat.two_pow_pos (spanW s)
  omega
/-- One step along: a new bit comes in, the highest one falls out. -/
theorem win_step {G : Int → Int → Bool} {x y : Int} {s : Sp} {b : Nat} (h : SpOk s) (hb : b % 2 ^ (spanW s - 1) = bitsN 0 (pb G x y (spl s (spanW s - 1)))) :
    (2 * b + (G (x + s.2.2) (y + s.1)).toNat) % 2 ^ spanW s = bitsN 0 (pb G x y (spl s (spanW s))) := by
  obtain ⟨h1, h2, h3⟩ := spanW_pos h
  obtain ⟨k, hk⟩ : ∃ k, spanW s = k + 1 := ⟨spanW s - 1, by omega⟩
  rw [hk, Nat.add_sub_cancel] at hb
  have hg := toNat_le (G (x + s.2.2) (y + s.1))
  have e : (s.2.1 + (k : Int)) = s.2.2 := by omega
  rw [hk, bits_snoc, e, ← hb, Nat.pow_succ, Nat.mul_comm _ 2]
  have hp := Nat.two_pow_pos k
  have hd := Nat.div_add_mod b (2 ^ k)
  have hm := Nat.mod_lt b hp
  generalize hq : b / 2 ^ k = q at hd
  generalize hr : b % 2 ^ k = r at hd hm ⊢
  rw [← hd]
  have e2 : 2 * (2 ^ k * q + r) + (G (x + s.2.2) (y + s.1)).toNat = 2 * 2 ^ k * q + (2 * r + (G (x + s.2.2) (y + s.1)).toNat) := by
    rw [Nat.mul_add, Nat.mul_assoc, Nat.add_assoc]
  rw [e2, Nat.mul_add_mod]
  exact Nat.mod_eq_of_lt (by omega)
/-- Behind a pixel: what is known at the next one. -/
theorem win_next {G : Int → Int → Bool} {x y : Int} {s : Sp} (h : SpOk s) (bit : Bool) : bitsN 0 (pb G x y (spl s (spanW s))) % 2 ^ (spanW s - 1) = bitsN 0 (pb (upd G x y bit) (x + 1) y (spl s (spanW s - 1))) := by
  obtain ⟨h1, h2, h3⟩ := spanW_pos h
  obtain ⟨k, hk⟩ : ∃ k, spanW s = k + 1 := ⟨spanW s - 1, by omega⟩
  rw [hk, Nat.add_sub_cancel, pb_head]
  have hl : (pb G (x + 1) y (spl s k)).length = k := by rw [pb_len, spl_len]
  have hb := bits_head (G (x + s.2.1) (y + s.1)) (pb G (x + 1) y (spl s k))
  rw [hl] at hb
  rw [hb]
  congr 1
  unfold pb spl
  rw [List.map_map, List.map_map]
  refine List.map_congr_left fun j hj => ?_
  have hj := List.mem_range.1 hj
  simp only [Function.comp]
  unfold upd
  rw [if_neg]
  rintro ⟨e1, e2⟩
  have h4 := h.z (by omega)
  omega
def WinOk (G : Int → Int → Bool) (x y : Int) (S : List Sp) (i : Nat) (wl : List Wn) : Prop := wl.length = S.length ∧ ∀ j s, S[j]? = some s → ∃ b, wl[j]? = some ⟨s, b⟩ ∧ b < 2 ^ spanW s ∧
  (j < i → b = bitsN 0 (pb G x y (spl s (spanW s)))) ∧ (i ≤ j → b % 2 ^ (spanW s - 1) = bitsN 0 (pb G x y (spl s (spanW s - 1))))
theorem WinOk.step {G : Int → Int → Bool} {x y : Int} {S : List Sp} {i : Nat} {wl : List Wn} {s : Sp} (h : WinOk G x y S i wl) (hs : S[i]? = some s) : WinOk G x y S (i + 1) (wl.set i ⟨s, bitsN 0 (pb G x y (spl s (spanW s)))⟩) := by
  refine ⟨by rw [List.length_set]; exact h.1, fun j s' hj => ?_⟩
  by_cases hji : i = j
  · subst hji
    obtain rfl : s = s' := Option.some.inj (hs.symm.trans hj)
    have hi : i < wl.length := by rw [h.1]; exact (List.getElem?_eq_some_iff.1 hs).1
    refine ⟨_, List.getElem?_set_self hi, ?_, fun _ => rfl, fun h => by omega⟩
    have := bits0_lt (pb G x y (spl s (spanW s)))
    rwa [pb_len, spl_len] at this
  · obtain ⟨b, h1, h2, h3, h4⟩ := h.2 j s' hj
    exact ⟨b, by rw [List.getElem?_set_ne hji]; exact h1, h2, fun h5 => h3 (by omega), fun h5 => h4 (by omega)⟩
theorem WinOk.next {G : Int → Int → Bool} {x y : Int} {S : List Sp} {wl : List Wn} (h : WinOk G x y S S.length wl) (hS : ∀ s ∈ S, SpOk s) (bit : Bool) : WinOk (upd G x y bit) (x + 1) y S 0 wl := by
  refine ⟨h.1, fun j s hj => ?_⟩
  obtain ⟨b, h1, h2, h3, h4⟩ := h.2 j s hj
  have hjl := (List.getElem?_eq_some_iff.1 hj).1
  refine ⟨b, h1, h2, fun h5 => absurd h5 (Nat.not_lt_zero _), fun _ => ?_⟩
  rw [h3 hjl]
  exact win_next (hS s (List.mem_of_getElem? hj)) bit
theorem ctx_step (G : Int → Int → Bool) (x y : Int) {S : List Sp} {i : Nat} {s : Sp} (hs : S[i]? = some s) : bitsN 0 (pb G x y (plcs (S.take (i + 1)))) = bitsN 0 (pb G x y (plcs (S.take i))) * 2 ^ spanW s + bitsN 0 (pb G x y (spl s (spanW s))) := by
  have hi := (List.getElem?_eq_some_iff.1 hs).1
  have e := (List.getElem?_eq_some_iff.1 hs).2
  rw [List.take_succ_eq_append_getElem hi, e]
  have e2 : pb G x y (plcs (S.take i ++ [s])) = pb G x y (plcs (S.take i)) ++ pb G x y (spl s (spanW s)) := by
    unfold plcs pb
    rw [List.flatMap_append, List.map_append]
    simp
  rw [e2, bitsN_app, bitsN_val, pb_len, spl_len]

/-! ### the walk -/
section
variable {σ : Type}
/-- So many pixels of a row. -/
def rowG (t : Nat) (step : σ → Nat → Bool → (Bool × σ) ⊕ (Int × σ)) (y : Nat) : Nat → (Int → Int → Bool) × σ → ((Int → Int → Bool) × σ) ⊕ (Int × σ)
  | 0, g => .inl g
  | k + 1, g => match rowG t step y k g with
    | .inr e => .inr e
    | .inl (G, s) => match step s (gctx t G (k : Int) (y : Int)) (G (k : Int) (y : Int)) with
      | .inl (bit, s') => .inl (upd G (k : Int) (y : Int) bit, s')
      | .inr e => .inr e
theorem rowG_err {t : Nat} {step : σ → Nat → Bool → (Bool × σ) ⊕ (Int × σ)} {y : Nat} {g : (Int → Int → Bool) × σ} {e : Int × σ} {k : Nat} (h : rowG t step y k g = .inr e) : ∀ m, k ≤ m → rowG t step y m g = .inr e := by
  intro m hm
  induction m with
  | zero => rw [show k = 0 by omega] at h; exact h
  | succ m ih =>
    rcases Nat.lt_or_ge m k with h1 | h1
    · rw [show k = m + 1 by omega] at h; exact h
    · unfold rowG; rw [ih h1]
def sameB (G : Int → Int → Bool) (W y : Nat) : Bool := (List.range W).all fun x => G (x : Int) (y : Int) == G (x : Int) ((y : Int) - 1)
def copyRow (G : Int → Int → Bool) (y : Nat) : Int → Int → Bool := fun a b => if b = (y : Int) ∧ y ≠ 0 then G a ((y : Int) - 1) else G a b
/-- So many rows. -/
def runG (W t : Nat) (skip : Bool) (step : σ → Nat → Bool → (Bool × σ) ⊕ (Int × σ)) : Nat → (Int → Int → Bool) × σ → ((Int → Int → Bool) × σ) ⊕ (Int × σ)
  | 0, g => .inl g
  | y + 1, g => match runG W t skip step y g with
    | .inr e => .inr e
    | .inl (G, s) => match skip with
      | false => rowG t step y W (G, s)
      | true => match step s (gsize t) (sameB G W y) with
        | .inr e => .inr e
        | .inl (true, s') => .inl (copyRow G y, s')
        | .inl (false, s') => rowG t step y W (G, s')
theorem runG_err {W t : Nat} {skip : Bool} {step : σ → Nat → Bool → (Bool × σ) ⊕ (Int × σ)} {g : (Int → Int → Bool) × σ} {e : Int × σ} {k : Nat} (h : runG W t skip step k g = .inr e) : ∀ m, k ≤ m → runG W t skip step m g = .inr e := by
  intro m hm
  induction m with
  | zero => rw [show k = 0 by omega] at h; exact h
  | succ m ih =>
    rcases Nat.lt_or_ge m k with h1 | h1
    · rw [show k = m + 1 by omega] at h; exact h
    · unfold runG; rw [ih h1]
/-- What is asked of him who decides. -/
def DecOkI (N : Nat) (base : Int) (S : σ → List Ent → Prop) (Ok : Nat → σ → Prop) (step : σ → Nat → Bool → (Bool × σ) ⊕ (Int × σ)) (fv : Value) : Prop :=
  (∃ t v, fv = .iface t v) ∧ ∀ {h0 h : Heap} {FF : List Nat} {s : σ} {n : Nat} {bit : Bool} {K : Value → Heap → Prop} {Kp : List PanicEntry → Heap → Prop}, ∀ {M : List Ent} {k : Nat}, Ok k s → k < N → n ≤ 65536 → S s M → Hp h0 FF h M →
    (∀ bit' s' M' h', step s n bit = .inl (bit', s') → Ok (k + 1) s' → S s' M' → Hp h0 FF h' M' → K (.int .i64 (bit'.toNat : Nat)) h') →
    (∀ e s' M' h', step s n bit = .inr (e, s') → Ok (k + 1) s' → S s' M' → Hp h0 FF h' M' → Kp [{ v := .iface T_generic_fault (.agg #[.int .i64 e]), recovered := false }] h') →
    invokeD Go.Proofs.Try.prog (CallsHP Go.Proofs.Try.prog) fv "burin/generic.decide" [.int .i64 (base + (n : Int)), .int .i64 (bit.toNat : Nat)] h K Kp
end
end Go.Bm

/- GnC: generic's procedure.row and procedure.same, whatever decides. -/
set_option linter.unusedVariables false
set_option linter.unusedSimpArgs false
namespace Go.Bm
open Go Go.Den Go.Den.Yteakipgcanafoaa

def procE (r p : Nat) (fv : Value) (base : Int) (t : Nat) (skip : Bool) : Ent := ⟨r, true, T_generic_procedure, [fv, .pointer (at0 p), .int .i64 base, .int .i64 (t : Nat), .bool skip]⟩
theorem and_mask (a w : Nat) (ha : a < 9223372036854775808) (hw : w ≤ 62) : bitI .and .i64 (a : Int) ((2 ^ w - 1 : Nat) : Int) = ((a % 2 ^ w : Nat) : Int) := by
  have h1 : 2 ^ w ≤ 2 ^ 62 := Nat.pow_le_pow_right (by decide) hw
  have h2 : (2 ^ 62 : Nat) = 4611686018427387904 := rfl
  rw [and63 _ _ ha (by omega), Nat.and_two_pow_sub_one_eq_mod]
theorem keep_of {h0 h h3 : Heap} {FF : List Nat} {A M : List Ent} {M' : List Ent} (H : Hp h0 FF h (A ++ M)) (H' : Hp h (M.map Ent.b) h3 M') {e : Ent} (he : e ∈ A) : hkeep (fun b => b = e.b) h h3 :=
  ⟨H'.fr.1, fun b hb hR => H'.fr.2 b hb fun hm => by
    obtain ⟨e', he', hbb⟩ := List.mem_map.1 hm
    exact (List.pairwise_append.1 H.pw).2.2 e he e' he' (by rw [← hR, hbb])⟩

set_option maxRecDepth 100000 in
set_option maxHeartbeats 8000000 in
theorem grow_ok {σ : Type} {S : σ → List Ent → Prop} {Ok : Nat → σ → Prop} {step : σ → Nat → Bool → (Bool × σ) ⊕ (Int × σ)} {fv : Value} {base : Int} {NN : Nat} (hSw : ∀ s M, S s M → M.all Ent.w = true) (hdec : DecOkI NN base S Ok step fv) (hb : 0 ≤ base ∧ base ≤ 131072)
    {h0 h : Heap} {FF : List Nat} {rp p q W X N cc t y k0 : Nat} {skip : Bool} {rest : List Value} {ws0 : List Nat} {s0 : σ} {M0 : List Ent} (ht : t < 4) (hS0 : S s0 M0) (H : Hp h0 FF h ([procE rp p fv base t skip, mapE p q W X N cc, ⟨q, true, T_uint64, u64s ws0 ++ rest⟩] ++ M0))
    (hN : ws0.length = N) (hs : SizeP (W : Int) (X : Int)) (hl : N = X * wds W) (hw : W64 ws0) (hz : PadZ W X ws0) (hy : y < X) (hok0 : Ok k0 s0) (hk0 : k0 + W ≤ NN) {K : Value → Heap → Prop} {Kp : List PanicEntry → Heap → Prop}
    (hgood : ∀ ws s M h', S s M → rowG t step y W (getP ws0 W X, s0) = .inl (getP ws W X, s) → ws.length = N → W64 ws → PadZ W X ws → Ok (k0 + W) s → Hp h0 FF h' ([procE rp p fv base t skip, mapE p q W X N cc, ⟨q, true, T_uint64, u64s ws ++ rest⟩] ++ M) → K (.tuple #[]) h')
    (hbad : ∀ e ws s M h' k, S s M → rowG t step y W (getP ws0 W X, s0) = .inr (e, s) → ws.length = N → k ≤ NN → Ok k s → Hp h0 FF h' ([procE rp p fv base t skip, mapE p q W X N cc, ⟨q, true, T_uint64, u64s ws ++ rest⟩] ++ M) →
      Kp [{ v := .iface T_generic_fault (.agg #[.int .i64 e]), recovered := false }] h') :
    CP F_generic_procedure_row #[.pointer (at0 rp), .int .i64 (W : Nat), .int .i64 (y : Nat)] h K Kp := by
  refine call_generic_procedure_row ?_
  unfold generic_procedure_row
  obtain ⟨W', X', e1, e2, hW1, hW2, hX1, hX2, hWX⟩ := size_nat hs
  obtain rfl : W = W' := by omega
  obtain rfl : X = X' := by omega
  clear e1 e2
  have hSL := spanL_len ht
  have hSok := spanL_ok ht
  refine ptr_of (a := ⟨rp, 0, none⟩) ?_
  refine ldI_of (hpA H 0 rfl rfl) ?_
  refine gspans_ok ht fun rs h' H' => ?_
  replace H := (H.join H' rfl).rot
  clear H'
  refine ⟨_, _, _, rfl, ?_⟩
  obtain ⟨SL, hSLd⟩ : ∃ SL, SL = spanL t := ⟨_, rfl⟩
  rw [← hSLd] at H hSL hSok ⊢
  obtain ⟨G0, hG0⟩ : ∃ G0, G0 = getP ws0 W X := ⟨_, rfl⟩
  obtain ⟨L0, hL0⟩ : ∃ L0 : List Ent, L0 = [⟨rs, true, T_generic_span, spC SL⟩, procE rp p fv base t skip, mapE p q W X N cc, ⟨q, true, T_uint64, u64s ws0 ++ rest⟩] ++ M0 := ⟨_, rfl⟩
  have H : Hp h0 FF h' L0 := by rw [hL0]; exact H
  refine ⟨fun n vs h' => ∃ (i : Nat) (D : List Ent) (qw : Option Addr) (cw : Nat), i + n = SL.length ∧ vs = [.slice qw i cw, .int .i64 (i : Nat)] ∧
      Slot T_generic_window 5 D qw i cw (wnsC ((SL.take i).map fun s => ⟨s, bitsN 0 (pb G0 0 y (spl s (spanW s - 1)))⟩)) ∧ Hp h0 FF h' (L0 ++ D),
    ⟨SL.length, 0, [], none, 0, by omega, rfl, Slot.nil _ _, H.as (List.append_nil _).symm⟩, ?_⟩
  clear H
  rintro n h u a b c d ⟨i, D, qw, cw, hin, hxx, hsl, H⟩
  injection hxx with h1 hxx
  injection hxx with h2 hxx
  injection h1 with h11 h12 h13
  injection h2 with _ h2
  subst a b c d
  refine bcase_dec (fun h3 => ?_) fun h3 => ?_
  · -- one window more
    have hi : i < SL.length := by omega
    obtain ⟨s, hsi⟩ : ∃ s, SL[i]? = some s := ⟨_, List.getElem?_eq_getElem hi⟩
    have hso := hSok s (List.mem_of_getElem? hsi)
    obtain ⟨k0', k1, k2⟩ := spC_get hsi
    have o1 := hso.d
    have o2 := hso.f
    have o3 := hso.t
    obtain ⟨w1, w2, w3⟩ := spanW_pos hso
    refine needs_of (by omega) (ptr_of (a := ⟨rs, 0, none⟩) ?_)
    rw [Int.toNat_natCast]
    have H0 : Hp h0 FF h ([⟨rs, true, T_generic_span, spC SL⟩, procE rp p fv base t skip, mapE p q W X N cc, ⟨q, true, T_uint64, u64s ws0 ++ rest⟩] ++ (M0 ++ D)) := by
      rw [hL0] at H
      exact H.asc
    refine ldI_of (hpB H0 0 rfl (by rw [Nat.zero_add, Nat.add_zero]; exact k0')) (ldI_of (hpB H0 0 rfl (by rw [Nat.zero_add]; exact k1)) (ldI_of (hpB H0 0 rfl (by rw [Nat.zero_add]; exact k2)) ?_))
    clear H0
    refine newC_hp H fun r17 h H => ?_
    have H := H.rot
    repeat first | with_reducible refine stA H 0 (by with_unfolding_all exact rfl) (by with_unfolding_all exact rfl) (by with_unfolding_all exact rfl) fun h H => ?_ | with_reducible refine st0 H 0 (by with_unfolding_all exact rfl) (by with_unfolding_all exact rfl) (by with_unfolding_all exact rfl) fun h H => ?_ | with_reducible refine stB H 0 (by with_unfolding_all exact rfl) (by with_unfolding_all exact rfl) (by with_unfolding_all exact rfl) fun h H => ?_
    repeat first | with_reducible refine ldI_of (by with_unfolding_all first | exact hpA H 0 rfl rfl | exact Hp.cell H 0 rfl rfl | exact hpB H 0 rfl rfl | exact hpC H 0 rfl rfl) ?_ | with_reducible refine ldS_of (by with_unfolding_all first | exact hpA H 0 rfl rfl | exact Hp.cell H 0 rfl rfl | exact hpB H 0 rfl rfl | exact hpC H 0 rfl rfl) ?_ | with_reducible refine ldP_of (by with_unfolding_all first | exact hpA H 0 rfl rfl | exact Hp.cell H 0 rfl rfl | exact hpB H 0 rfl rfl | exact hpC H 0 rfl rfl) ?_ | with_reducible refine ldB_of (by with_unfolding_all first | exact hpA H 0 rfl rfl | exact Hp.cell H 0 rfl rfl | exact hpB H 0 rfl rfl | exact hpC H 0 rfl rfl) ?_ | with_reducible refine ldT_of (by with_unfolding_all first | exact hpA H 0 rfl rfl | exact Hp.cell H 0 rfl rfl | exact hpB H 0 rfl rfl | exact hpC H 0 rfl rfl) ?_
    refine bindI_of ((s.2.2 - s.2.1)) (by exact i64_in _ (by omega) (by omega)) ?_
    refine bindI_of (((spanW s : Nat) : Int)) (by exact i64_at _ _ (by omega) (by omega) (by omega)) ?_
    refine needs_of (by omega) ?_
    have hp8 : 2 ^ spanW s ≤ 256 := Nat.le_trans (Nat.pow_le_pow_right (n := 2) (by decide) w2) (by decide)
    have hp1 := Nat.two_pow_pos (spanW s)
    refine bindI_of (((2 ^ spanW s : Nat) : Int)) (by exact (shlI_of (a := 1) (i := spanW s) (by omega) (by omega)).trans (by rw [Nat.one_mul])) ?_
    refine bindI_of (((maskW s : Nat) : Int)) (by exact i64_at _ _ (by unfold maskW; omega) (by omega) (by unfold maskW; omega)) ?_
    have H : Hp h0 FF h ([⟨r17, true, T_generic_span, [.int .i64 s.1, .int .i64 s.2.1, .int .i64 s.2.2]⟩] ++ (L0 ++ D)) := H
    refine newC_hp H fun r31 h H => ?_
    have H := H.rot
    repeat first | with_reducible refine stA H 0 (by with_unfolding_all exact rfl) (by with_unfolding_all exact rfl) (by with_unfolding_all exact rfl) fun h H => ?_ | with_reducible refine st0 H 0 (by with_unfolding_all exact rfl) (by with_unfolding_all exact rfl) (by with_unfolding_all exact rfl) fun h H => ?_ | with_reducible refine stB H 0 (by with_unfolding_all exact rfl) (by with_unfolding_all exact rfl) (by with_unfolding_all exact rfl) fun h H => ?_
    repeat first | with_reducible refine ldI_of (by with_unfolding_all first | exact hpA H 1 rfl rfl | exact Hp.cell H 1 rfl rfl | exact hpB H 1 rfl rfl | exact hpC H 1 rfl rfl) ?_ | with_reducible refine ldS_of (by with_unfolding_all first | exact hpA H 1 rfl rfl | exact Hp.cell H 1 rfl rfl | exact hpB H 1 rfl rfl | exact hpC H 1 rfl rfl) ?_ | with_reducible refine ldP_of (by with_unfolding_all first | exact hpA H 1 rfl rfl | exact Hp.cell H 1 rfl rfl | exact hpB H 1 rfl rfl | exact hpC H 1 rfl rfl) ?_ | with_reducible refine ldB_of (by with_unfolding_all first | exact hpA H 1 rfl rfl | exact Hp.cell H 1 rfl rfl | exact hpB H 1 rfl rfl | exact hpC H 1 rfl rfl) ?_ | with_reducible refine ldT_of (by with_unfolding_all first | exact hpA H 1 rfl rfl | exact Hp.cell H 1 rfl rfl | exact hpB H 1 rfl rfl | exact hpC H 1 rfl rfl) ?_
    have hw0 : ∀ j, bitsN 0 (pb G0 0 y (spl s j)) < 2 ^ j := fun j => by
      have := bits0_lt (pb G0 0 y (spl s j))
      rwa [pb_len, spl_len] at this
    have H : Hp h0 FF h ([⟨r31, true, T_generic_window, [.int .i64 s.1, .int .i64 s.2.1, .int .i64 s.2.2, .int .i64 ((bitsN 0 (pb G0 0 y (spl s 0)) : Nat) : Int), .int .i64 (maskW s : Nat)]⟩, ⟨r17, true, T_generic_span, [.int .i64 s.1, .int .i64 s.2.1, .int .i64 s.2.2]⟩] ++ (L0 ++ D)) := H
    refine ⟨fun n vs h' => ∃ j : Nat, j + n = spanW s - 1 ∧ vs = [.int .i64 (s.2.1 + (j : Int))] ∧
        Hp h0 FF h' ([⟨r31, true, T_generic_window, [.int .i64 s.1, .int .i64 s.2.1, .int .i64 s.2.2, .int .i64 ((bitsN 0 (pb G0 0 y (spl s j)) : Nat) : Int), .int .i64 (maskW s : Nat)]⟩, ⟨r17, true, T_generic_span, [.int .i64 s.1, .int .i64 s.2.1, .int .i64 s.2.2]⟩] ++ (L0 ++ D)),
      ⟨spanW s - 1, 0, by omega, by simp, H⟩, ?_⟩
    clear H
    rintro n2 h u2 x44 ⟨j, hjn, hxx, H⟩
    injection hxx with hxx
    injection hxx with _ hxx
    subst hxx
    repeat first | with_reducible refine ldI_of (by with_unfolding_all first | exact hpA H 1 rfl rfl | exact Hp.cell H 1 rfl rfl | exact hpB H 1 rfl rfl | exact hpC H 1 rfl rfl) ?_ | with_reducible refine ldS_of (by with_unfolding_all first | exact hpA H 1 rfl rfl | exact Hp.cell H 1 rfl rfl | exact hpB H 1 rfl rfl | exact hpC H 1 rfl rfl) ?_ | with_reducible refine ldP_of (by with_unfolding_all first | exact hpA H 1 rfl rfl | exact Hp.cell H 1 rfl rfl | exact hpB H 1 rfl rfl | exact hpC H 1 rfl rfl) ?_ | with_reducible refine ldB_of (by with_unfolding_all first | exact hpA H 1 rfl rfl | exact Hp.cell H 1 rfl rfl | exact hpB H 1 rfl rfl | exact hpC H 1 rfl rfl) ?_ | with_reducible refine ldT_of (by with_unfolding_all first | exact hpA H 1 rfl rfl | exact Hp.cell H 1 rfl rfl | exact hpB H 1 rfl rfl | exact hpC H 1 rfl rfl) ?_
    refine bcase_dec (fun h4 => ?_) fun h4 => ?_
    · refine ⟨fun _ => True, ?_⟩
      refine ptr_of (a := ⟨rp, 0, none⟩) ?_
      refine ldI_of (hpA H 0 rfl rfl) ⟨trivial, ?_⟩
      have hbj := hw0 j
      have hj8 : 2 ^ j ≤ 2 ^ 8 := Nat.pow_le_pow_right (by decide) (by omega)
      have hsn := bits_snoc G0 0 y s j
      rw [Int.zero_add] at hsn
      have hg := toNat_le (G0 (s.2.1 + (j : Int)) ((y : Int) + s.1))
      generalize bitsN 0 (pb G0 0 y (spl s j)) = B at hbj hsn H ⊢
      refine bindI_of ((2 * B : Nat) : Int) ((shl1 (by omega)).trans (by rw [Nat.mul_comm])) ?_
      have HM : Hp h0 FF h ([⟨r31, true, T_generic_window, [.int .i64 s.1, .int .i64 s.2.1, .int .i64 s.2.2, .int .i64 (B : Nat), .int .i64 (maskW s : Nat)]⟩, ⟨r17, true, T_generic_span, [.int .i64 s.1, .int .i64 s.2.1, .int .i64 s.2.2]⟩, ⟨rs, true, T_generic_span, spC SL⟩, procE rp p fv base t skip, mapE p q W X N cc, ⟨q, true, T_uint64, u64s ws0 ++ rest⟩] ++ (M0 ++ D)) := by
        rw [hL0] at H
        exact H.as (by simp)
      refine ldP_of (hpA HM 3 rfl rfl) ⟨trivial, ?_⟩
      refine ldI_of (hpA H 1 rfl rfl) ⟨trivial, ?_⟩
      refine bindI_of (((y : Int) + s.1)) (by exact i64_in _ (by omega) (by omega)) ?_
      refine mget_ok (ws := ws0) (c := cc) (rest := rest) HM 4 5 (by rw [hN]; rfl) rfl hs (by rw [hN]; exact hl) hw ?_
      refine ⟨_, rfl, hkeep.refl _ _, ?_⟩
      rw [← hG0]
      refine bindI_of _ (orA (i := 1) (by decide) (by omega) (by omega) (by omega)) ?_
      refine stA H 0 rfl rfl rfl fun h H => ?_
      refine bindI_of ((s.2.1 + ((j + 1 : Nat) : Int))) (by exact i64_at _ _ (by omega) (by omega) (by omega)) ?_
      refine ⟨n2 - 1, by omega, j + 1, by omega, rfl, ?_⟩
      rw [hsn]
      exact H
    · obtain rfl : j = spanW s - 1 := by omega
      repeat first | with_reducible refine ldI_of (by with_unfolding_all first | exact hpA H 0 rfl rfl | exact Hp.cell H 0 rfl rfl | exact hpB H 0 rfl rfl | exact hpC H 0 rfl rfl) ?_ | with_reducible refine ldS_of (by with_unfolding_all first | exact hpA H 0 rfl rfl | exact Hp.cell H 0 rfl rfl | exact hpB H 0 rfl rfl | exact hpC H 0 rfl rfl) ?_ | with_reducible refine ldP_of (by with_unfolding_all first | exact hpA H 0 rfl rfl | exact Hp.cell H 0 rfl rfl | exact hpB H 0 rfl rfl | exact hpC H 0 rfl rfl) ?_ | with_reducible refine ldB_of (by with_unfolding_all first | exact hpA H 0 rfl rfl | exact Hp.cell H 0 rfl rfl | exact hpB H 0 rfl rfl | exact hpC H 0 rfl rfl) ?_ | with_reducible refine ldT_of (by with_unfolding_all first | exact hpA H 0 rfl rfl | exact Hp.cell H 0 rfl rfl | exact hpB H 0 rfl rfl | exact hpC H 0 rfl rfl) ?_
      refine newC_hp H fun r64 h H => ?_
      have hnewc : ∀ v ∈ wnC ⟨s, bitsN 0 (pb G0 0 y (spl s (spanW s - 1)))⟩, v.oneCell' = true := List.all_eq_true.1 (by rfl)
      have hrd := rdO_hp (H.rot) 0 (b := r64) (o := 0) (n := 1 * 5) (w := true) (t := T_generic_window) (cs := wnC ⟨s, bitsN 0 (pb G0 0 y (spl s (spanW s - 1)))⟩) rfl (Nat.le_refl _)
      have hrd : rdO h (some ⟨r64, 0, none⟩) (1 * 5) (wnC ⟨s, bitsN 0 (pb G0 0 y (spl s (spanW s - 1)))⟩) := hrd
      have H : Hp h0 FF h (L0 ++ (D ++ [])) := (H.rot).sub (by
        rw [List.append_nil]
        exact List.Sublist.trans (List.sublist_append_right _ _) (List.sublist_append_right _ _))
      refine hsl.app H rfl hrd rfl hnewc (Nat.le_refl _) (by omega) fun D' qw' cw' h' hsl' H => ?_
      refine bindI_of (((i + 1 : Nat) : Int)) (by exact i64_at _ _ (by omega) (by omega) (by omega)) ?_
      refine ⟨n - 1, by omega, i + 1, D', qw', cw', by omega, rfl, ?_, H.as (by rw [List.append_nil])⟩
      have e := (List.getElem?_eq_some_iff.1 hsi).2
      rw [List.take_succ_eq_append_getElem hi, e, List.map_append, wnsC_app]
      exact hsl'
  · -- the pixels
    have hi : SL.length ≤ i := by omega
    obtain rfl : i = SL.length := by omega
    rw [List.take_of_length_le (Nat.le_refl _)] at hsl
    obtain ⟨wl0, hwl0⟩ : ∃ wl0 : List Wn, wl0 = SL.map fun s => ⟨s, bitsN 0 (pb G0 0 y (spl s (spanW s - 1)))⟩ := ⟨_, rfl⟩
    rw [← hwl0] at hsl
    have hwin0 : WinOk G0 (0 : Nat) y SL 0 wl0 := by
      refine ⟨by rw [hwl0, List.length_map], fun j s hj => ⟨bitsN 0 (pb G0 0 y (spl s (spanW s - 1))), by rw [hwl0, List.getElem?_map, hj]; rfl, ?_, fun h5 => absurd h5 (Nat.not_lt_zero _), fun _ => ?_⟩⟩
      · have := bits0_lt (pb G0 0 y (spl s (spanW s - 1)))
        rw [pb_len, spl_len] at this
        exact Nat.lt_of_lt_of_le this (Nat.pow_le_pow_right (by decide) (by omega))
      · have := bits0_lt (pb G0 0 y (spl s (spanW s - 1)))
        rw [pb_len, spl_len] at this
        exact Nat.mod_eq_of_lt this
    obtain ⟨hll, ⟨rfl, rfl, hn0, _⟩ | ⟨bw, restw, rfl, rfl, hcw⟩⟩ := hsl
    · omega
    have H : Hp h0 FF h ([⟨bw, true, T_generic_window, wnsC wl0 ++ restw⟩, procE rp p fv base t skip, mapE p q W X N cc, ⟨q, true, T_uint64, u64s ws0 ++ rest⟩] ++ M0) := by
      rw [hL0] at H
      exact (H.rot).sub (List.Sublist.cons_cons _ (List.Sublist.cons _ (List.Sublist.refl _)))
    have hrow0 : rowG t step y 0 (getP ws0 W X, s0) = .inl (getP ws0 W X, s0) := rfl
    rw [hG0] at hwin0
    refine ⟨fun n vs h' => ∃ (x : Nat) (ws : List Nat) (s : σ) (M : List Ent) (wl : List Wn), x + n = W ∧ vs = [.int .i64 (x : Nat)] ∧ rowG t step y x (getP ws0 W X, s0) = .inl (getP ws W X, s) ∧ ws.length = N ∧ W64 ws ∧ PadZ W X ws ∧ Ok (k0 + x) s ∧ S s M ∧ WinOk (getP ws W X) (x : Nat) y SL 0 wl ∧
        Hp h0 FF h' ([⟨bw, true, T_generic_window, wnsC wl ++ restw⟩, procE rp p fv base t skip, mapE p q W X N cc, ⟨q, true, T_uint64, u64s ws ++ rest⟩] ++ M),
      ⟨W, 0, ws0, s0, M0, wl0, by omega, rfl, hrow0, hN, hw, hz, hok0, hS0, hwin0, H⟩, ?_⟩
    clear H hwin0 hwl0 hll hL0
    rintro n h u xx ⟨x, ws, s, M, wl, hxn, hxx, hrow, hlw, hww, hzz, hoks, hM, hwin, H⟩
    injection hxx with hxx
    injection hxx with _ hxx
    subst hxx
    refine bcase_dec (fun h4 => ?_) fun h4 => ?_
    · have hx : x < W := by omega
      have hgl := gsize_le ht
      obtain ⟨GG, hGG⟩ : ∃ GG, GG = getP ws W X := ⟨_, rfl⟩
      rw [← hGG] at hwin
      have hplen : ∀ i, (plcs (SL.take i)).length ≤ 16 := fun i => by rw [hSLd]; exact plcs_small ht
      have hacc : ∀ i, bitsN 0 (pb GG (x : Nat) y (plcs (SL.take i))) < 65536 := fun i => by
        have := bits0_lt (pb GG (x : Nat) y (plcs (SL.take i)))
        rw [pb_len] at this
        exact Nat.lt_of_lt_of_le this (Nat.le_trans (Nat.pow_le_pow_right (n := 2) (by decide) (hplen i)) (by decide))
      refine ⟨fun n vs h' => ∃ (i : Nat) (wl : List Wn), i + n = SL.length ∧ vs = [.int .i64 ((bitsN 0 (pb GG (x : Nat) y (plcs (SL.take i))) : Nat) : Int), .int .i64 (i : Nat)] ∧ WinOk GG (x : Nat) y SL i wl ∧
          Hp h0 FF h' ([⟨bw, true, T_generic_window, wnsC wl ++ restw⟩, procE rp p fv base t skip, mapE p q W X N cc, ⟨q, true, T_uint64, u64s ws ++ rest⟩] ++ M), ⟨SL.length, 0, wl, by omega, rfl, hwin, H⟩, ?_⟩
      clear H hwin
      rintro n2 h u2 a b ⟨i, wl, hin2, hxx, hwin, H⟩
      injection hxx with h1 hxx
      injection hxx with h2 hxx
      injection h1 with _ h1
      injection h2 with _ h2
      subst h1 h2
      refine bcase_dec (fun h5 => ?_) fun h5 => ?_
      · have hi : i < SL.length := by omega
        obtain ⟨sp, hsi⟩ : ∃ s, SL[i]? = some s := ⟨_, List.getElem?_eq_getElem hi⟩
        have hso := hSok sp (List.mem_of_getElem? hsi)
        have o1 := hso.d
        have o2 := hso.f
        have o3 := hso.t
        obtain ⟨w1, w2, w3⟩ := spanW_pos hso
        obtain ⟨B, hB1, hB2, _, hB4⟩ := hwin.2 i sp hsi
        have hB4 := hB4 (Nat.le_refl _)
        have hp8 : 2 ^ spanW sp ≤ 256 := Nat.le_trans (Nat.pow_le_pow_right (n := 2) (by decide) w2) (by decide)
        have hget : ∀ j v, (wnC ⟨sp, B⟩)[j]? = some v → (wnsC wl ++ restw)[i * 5 + j]? = some v := fun j v hv => Go.Ar.get_app (wnsC_get hB1 j v hv)
        have hst := win_step hso hB4
        have hctx := ctx_step GG (x : Nat) y hsi
        have hac1 := hacc i
        have hac2 := hacc (i + 1)
        have hnb : bitsN 0 (pb GG (x : Nat) y (spl sp (spanW sp))) < 2 ^ spanW sp := by
          have := bits0_lt (pb GG (x : Nat) y (spl sp (spanW sp)))
          rwa [pb_len, spl_len] at this
        have hwn := hwin.step hsi
        have hwlen : i * 5 + 3 < (wnsC wl).length := by
          rw [wnsC_len, hwin.1]
          omega
        refine needs_of (by omega) (ptr_of (a := ⟨bw, 0, none⟩) ?_)
        rw [Int.toNat_natCast]
        refine ⟨fun _ => True, ?_⟩
        refine ptr_of (a := ⟨rp, 0, none⟩) ?_
        refine ldI_of (hpB H 0 rfl (by rw [Nat.zero_add]; exact hget 3 _ rfl)) ⟨trivial, ?_⟩
        show bindI (shlI .i64 (B : Int) 1) _
        refine bindI_of ((2 * B : Nat) : Int) ((shl1 (by omega)).trans (by rw [Nat.mul_comm])) ?_
        refine ldP_of (hpA H 1 rfl rfl) ⟨trivial, ?_⟩
        refine ldI_of (hpC H 0 rfl (by rw [Nat.zero_add, Nat.add_zero]; exact hget 2 _ rfl)) ⟨trivial, ?_⟩
        refine bindI_of (((x : Int) + sp.2.2)) (by exact i64_at _ _ rfl (by omega) (by omega)) ?_
        refine ldI_of (hpC H 0 rfl (by rw [Nat.zero_add]; exact hget 0 _ rfl)) ⟨trivial, ?_⟩
        refine bindI_of (((y : Int) + sp.1)) (by exact i64_at _ _ rfl (by omega) (by omega)) ?_
        refine ldI_of (hpB H 0 rfl (by rw [Nat.zero_add]; exact hget 4 _ rfl)) ⟨trivial, ?_⟩
        refine mget_ok (ws := ws) (c := cc) (rest := rest) H 2 3 (by rw [hlw]; rfl) rfl hs (by rw [hlw]; exact hl) hww ?_
        refine ⟨_, rfl, hkeep.refl _ _, ?_⟩
        rw [← hGG]
        have hg := toNat_le (GG ((x : Int) + sp.2.2) ((y : Int) + sp.1))
        refine bindI_of _ (orA (i := 1) (by decide) (by omega) (by omega) (by omega)) ?_
        have hbt : 2 * B + (GG ((x : Int) + sp.2.2) ((y : Int) + sp.1)).toNat < 9223372036854775808 := by omega
        generalize GG ((x : Int) + sp.2.2) ((y : Int) + sp.1) = gg at hst hg hbt ⊢
        refine bindI_of _ (and_mask _ (spanW sp) hbt (by omega)) ?_
        rw [hst]
        generalize bitsN 0 (pb GG (x : Nat) y (spl sp (spanW sp))) = nb at hnb hctx hwn ⊢
        rw [add_mk, add_mk, Nat.zero_add]
        refine stV_hp H 0 rfl (by rw [List.length_append]; omega) rfl fun h hsz H => ?_
        have hset : (wnsC wl ++ restw).set (i * 5 + 3) (.int .i64 (nb : Nat)) = wnsC (wl.set i ⟨sp, nb⟩) ++ restw := by
          rw [List.set_append_left _ _ hwlen, wnsC_set nb hB1]
        rw [hset] at H
        have H : Hp h0 FF h ([⟨bw, true, T_generic_window, wnsC (wl.set i ⟨sp, nb⟩) ++ restw⟩, procE rp p fv base t skip, mapE p q W X N cc, ⟨q, true, T_uint64, u64s ws ++ rest⟩] ++ M) := H
        have hil : i < wl.length := by rw [hwin.1]; exact hi
        have hget2 : ∀ j v, (wnC ⟨sp, nb⟩)[j]? = some v → (wnsC (wl.set i ⟨sp, nb⟩) ++ restw)[i * 5 + j]? = some v := fun j v hv => Go.Ar.get_app (wnsC_get (List.getElem?_set_self hil) j v hv)
        refine ldI_of (H.cell 0 rfl (hget2 4 _ rfl)) ?_
        have hma := mask_add sp
        refine bindI_of (((2 ^ spanW sp : Nat) : Int)) (by exact i64_at _ _ (by rw [← hma]; rfl) (by omega) (by omega)) ?_
        have hmul : bitsN 0 (pb GG (x : Nat) y (plcs (SL.take i))) * 2 ^ spanW sp ≤ 65536 * 256 := Nat.mul_le_mul (by omega) hp8
        generalize bitsN 0 (pb GG (x : Nat) y (plcs (SL.take i))) = acc at hmul hctx hac1 ⊢
        refine bindI_of (((acc * 2 ^ spanW sp : Nat) : Int)) (by exact i64_at _ _ mul_cast (by omega) (by omega)) ?_
        refine ldI_of (H.cell 0 rfl (hget2 3 _ rfl)) ?_
        refine bindI_of (((bitsN 0 (pb GG (x : Nat) y (plcs (SL.take (i + 1)))) : Nat) : Int)) (by exact i64_at _ _ (by show _ + (nb : Int) = _; omega) (by omega) (by omega)) ?_
        refine bindI_of (((i + 1 : Nat) : Int)) (by exact i64_at _ _ (by omega) (by omega) (by omega)) ?_
        exact ⟨n2 - 1, by omega, i + 1, _, by omega, rfl, hwn, H⟩
      · obtain rfl : i = SL.length := by omega
        have hctx : bitsN 0 (pb GG (x : Nat) y (plcs (SL.take SL.length))) = gctx t GG (x : Nat) y := by rw [List.take_of_length_le (Nat.le_refl _), hSLd]; rfl
        rw [hctx]
        have hcl := gctx_lt t GG (x : Nat) y
        obtain ⟨⟨ft, fx, hfv⟩, hdec⟩ := hdec
        refine ⟨fun b => b = rp, ?_⟩
        refine ptr_of (a := ⟨rp, 0, none⟩) (ptr_of (a := ⟨rp, 0, none⟩) (ptr_of (a := ⟨rp, 0, none⟩) (ptr_of (a := ⟨rp, 0, none⟩) ?_)))
        refine ldP_of (hpA H 1 rfl rfl) ⟨rfl, ?_⟩
        refine ldV_of (hpA H 1 rfl rfl) ⟨rfl, ?_⟩
        have hnil : ∀ K : Value → Prop, K fv → nilD fv K := fun K hk => by subst hfv; exact hk
        refine hnil _ ?_
        refine ldI_of (hpA H 1 rfl rfl) ⟨rfl, ?_⟩
        refine bindI_of ((base + ((gctx t GG (x : Nat) y : Nat) : Int))) (by exact i64_in _ (by omega) (by omega)) ?_
        refine ldP_of (hpA H 1 rfl rfl) ⟨rfl, ?_⟩
        refine mget_ok (ws := ws) (c := cc) (rest := rest) H 2 3 (by rw [hlw]; rfl) rfl hs (by rw [hlw]; exact hl) hww ?_
        refine ⟨_, rfl, hkeep.refl _ _, ?_⟩
        rw [← hGG]
        have hstep : rowG t step y (x + 1) (getP ws0 W X, s0) = match step s (gctx t GG (x : Int) (y : Int)) (GG (x : Int) (y : Int)) with
            | .inl (bit, s') => .inl (upd GG (x : Int) (y : Int) bit, s')
            | .inr e => .inr e := by
          (rw [rowG, hrow, ← hGG]) <;> rfl
        refine hdec hoks (by omega) (by omega) hM H.giveS (fun bit' s' M' h3 hst hok' hM' H' => ?_) fun e s' M' h3 hst hok' hM' H' => ?_
        · rw [hst] at hstep
          simp only at hstep
          have keep := keep_of H H' (e := procE rp p fv base t skip) (by simp)
          have H3 := H.putS (hSw s M hM) H' (hSw s' M' hM')
          refine ⟨_, rfl, keep, ?_⟩
          refine mset_ok (ws := ws) (c := cc) (rest := rest) H3 2 3 (by rw [hlw]; rfl) rfl hs (by rw [hlw]; exact hl) hww hx hy fun R h4 k1 k2 k3 H4 => ?_
          refine ⟨_, rfl, ?_⟩
          refine bindI_of (((x + 1 : Nat) : Int)) (by exact i64_at _ _ (by omega) (by omega) (by omega)) ?_
          have hset := getP_set hx hy k3
          rw [← hGG] at hset
          refine ⟨n - 1, by omega, x + 1, R, s', M', wl, by omega, rfl, by rw [hset]; exact hstep, by rw [k1, hlw], k2, hzz.set hx k3, hok', hM', ?_, H4⟩
          rw [hset]
          exact hwin.next hSok bit'
        · rw [hst] at hstep
          simp only at hstep
          have H3 := H.putS (hSw s M hM) H' (hSw s' M' hM')
          exact hbad e ws s' M' h3 (k0 + x + 1) hM' (rowG_err hstep _ (by omega)) hlw (by omega) hok' (H3.sub (List.Sublist.append (List.Sublist.cons _ (List.Sublist.refl _)) (List.Sublist.refl _)))
    · obtain rfl : W = x := by omega
      exact hgood ws s M h hM hrow hlw hww hzz hoks (H.sub (List.Sublist.append (List.Sublist.cons _ (List.Sublist.refl _)) (List.Sublist.refl _)))
end Go.Bm

/- GnS: a map's row laid over the one below it: Blit of a map onto itself, one row high. -/
set_option linter.unusedVariables false
set_option linter.unusedSimpArgs false
namespace Go.Bm
open Go Go.Den Go.Den.Yteakipgcanafoaa

theorem word_okN {h : Heap} {q : Option Addr} {c : Nat} {ws : List Nat} {n : Nat} (e : ws.length = n) (hr : rdO h q (ws.length * 1) (u64s ws)) (hw : W64 ws) (hl : ws.length < 1048577) {x : Int} (hx : -1000000000 ≤ x ∧ x < 1000000000) {K : Value → Heap → Prop} {Kp : List PanicEntry → Heap → Prop}
    (hk : ∀ V : Nat, V < M64 → (∀ j, j < 64 → V.testBit j = rowB ws (x + (63 - (j : Int)))) → K (.int .u64 (V : Nat)) h) :
    CP F_bitmap_word #[.slice q n c, .int .i64 x] h K Kp := by
  subst e
  exact word_ok hr hw hl hx hk

set_option maxRecDepth 100000 in
theorem blitS_ok {h0 h : Heap} {FF : List Nat} {p q W X : Nat} {ws : List Nat} {rest : List Value} (H : Hp h0 FF h (mapL p q W X ws rest)) (hs : SizeP (W : Int) (X : Int)) (hl : ws.length = X * wds W) (hw : W64 ws)
    {sx sy w g dx dy : Int} {op : Nat} (hsx : InI sx) (hsy : InI sy) (hwi : InI w) (hgi : InI g) (hdx : InI dx) (hdy : InI dy) (hw0 : 0 ≤ w) (hg0 : 0 ≤ g) (hop : op < 5) (hg1 : g ≤ 1)
    {K : Value → Heap → Prop} {Kp : List PanicEntry → Heap → Prop}
    (hk : ∀ R h', R.length = X * wds W → W64 R → (∀ Y, Y < X → ∀ x', x' < 64 * wds W → pix R (wds W) x' Y =
        if dx ≤ x' ∧ (x' : Int) < dx + w ∧ x' < W ∧ dy ≤ Y ∧ (Y : Int) < dy + g ∧ 0 ≤ sx + (x' - dx) ∧ sx + (x' - dx) < W ∧ 0 ≤ sy + (Y - dy) ∧ sy + (Y - dy) < X then opB op (pix ws (wds W) x' Y) (pix ws (wds W) (sx + (x' - dx)).toNat (sy + (Y - dy)).toNat) else pix ws (wds W) x' Y) →
      Hp h0 FF h' (mapL p q W X R rest) → K (.int .i64 0) h') :
    CP F_bitmap_Map_Blit #[.pointer (at0 p), .pointer (at0 p), .int .i64 sx, .int .i64 sy, .int .i64 w, .int .i64 g, .int .i64 dx, .int .i64 dy, .int .i64 (op : Nat)] h K Kp := by
  refine call_bitmap_Map_Blit ?_
  unfold bitmap_Map_Blit
  obtain ⟨W', X', e1, e2, hW1, hW2, hX1, hX2, hWX⟩ := size_nat hs
  obtain rfl : W = W' := by omega
  obtain rfl : X = X' := by omega
  clear e1 e2
  have hhw := hw_le hW1 hWX
  have hwl := wds_le hW1
  have hwp2 := wds_pos hW1
  refine bcase_false (by rfl) ?_
  refine bcase_dec (fun h1 => by omega) fun h1 => ?_
  refine bcase_dec (fun h2 => by omega) fun h2 => ?_
  refine bcase_dec (fun h3 => by omega) fun h3 => ?_
  refine bcase_dec (fun h4 => by omega) fun h4 => ?_
  clear h1 h2 h3 h4
  try simp only [ptr_some_eq, add_mk, Nat.zero_add, Nat.add_zero]
  refine ldI_of (H.cell 0 rfl (i := 0) rfl) ?_
  refine ldI_of (H.cell 0 rfl rfl) ?_
  refine both_ok hsx hdx hwi (by omega) (by omega) fun f1 t1 l1 c1 => ?_
  refine ⟨_, _, _, rfl, ?_⟩
  refine ldI_of (H.cell 0 rfl (i := 1) rfl) ?_
  refine ldI_of (H.cell 0 rfl rfl) ?_
  refine both_ok hsy hdy hgi (by omega) (by omega) fun f2 t2 l2 c2 => ?_
  refine ⟨_, _, _, rfl, ?_⟩
  have none : (l1 = 0 ∨ l2 = 0) → K (.int .i64 0) h := fun hz => by
    refine hk ws _ hl hw (fun Y hY x' hx' => ?_) H
    rw [if_neg]
    rintro ⟨g1, g2, g3, g4, g5, g6, g7, g8, g9⟩
    rcases hz with hz | hz
    · rcases c1 with ⟨_, c1⟩ | c1
      · exact c1 (x' - dx) (by omega) (by omega) (by omega) (by omega) (by omega) (by omega)
      · omega
    · rcases c2 with ⟨_, c2⟩ | c2
      · exact c2 (Y - dy) (by omega) (by omega) (by omega) (by omega) (by omega) (by omega)
      · omega
  refine bcase_eq (fun h3 => none (.inl h3)) fun h3 => ?_
  refine bcase_eq (fun h4 => none (.inr h4)) fun h4 => ?_
  clear none
  obtain ⟨a1, a2, a3, a4, a5, a6, a7, a8, a9⟩ := c1.resolve_left (fun h => h3 h.1)
  obtain ⟨b1, b2, b3, b4, b5, b6, b7, b8, b9⟩ := c2.resolve_left (fun h => h4 h.1)
  clear c1 c2 h3 h4
  obtain ⟨fx, rfl⟩ : ∃ n : Nat, f1 = (n : Nat) := ⟨f1.toNat, by omega⟩
  obtain ⟨tx, rfl⟩ : ∃ n : Nat, t1 = (n : Nat) := ⟨t1.toNat, by omega⟩
  obtain ⟨wide, rfl⟩ : ∃ n : Nat, l1 = (n : Nat) := ⟨l1.toNat, by omega⟩
  obtain ⟨fy, rfl⟩ : ∃ n : Nat, f2 = (n : Nat) := ⟨f2.toNat, by omega⟩
  obtain ⟨ty, rfl⟩ : ∃ n : Nat, t2 = (n : Nat) := ⟨t2.toNat, by omega⟩
  obtain ⟨high, rfl⟩ : ∃ n : Nat, l2 = (n : Nat) := ⟨l2.toNat, by omega⟩
  refine operations_ok fun o h' H' => ?_
  replace H := H.join H' rfl
  clear H'
  refine ⟨_, _, _, rfl, ?_⟩
  refine needs_of (by omega) ?_
  obtain ⟨fv, hfv, hfc⟩ := opB_cell H 2 rfl hop
  simp only [ptr_some_eq, add_mk, Nat.zero_add, Int.toNat_natCast, Nat.mul_one]
  refine ldV_of hfc ?_
  refine ldI_of (H.cell 0 rfl (i := 2) rfl) ?_
  refine needs_of (by simp; omega) ?_
  simp only [Int.toNat_natCast, u64s_zero]
  refine newC_hp H fun rw h H => ?_
  -- what shall be
  let G : Nat → Nat → Bool := fun x' Y => if tx ≤ x' ∧ x' < tx + wide ∧ ty ≤ Y ∧ Y < ty + high then opB op (pix ws (wds W) x' Y) (pix ws (wds W) (fx + (x' - tx)) (fy + (Y - ty))) else pix ws (wds W) x' Y
  have hG : ∀ x' Y, G x' Y = if tx ≤ x' ∧ x' < tx + wide ∧ ty ≤ Y ∧ Y < ty + high then opB op (pix ws (wds W) x' Y) (pix ws (wds W) (fx + (x' - tx)) (fy + (Y - ty))) else pix ws (wds W) x' Y := fun _ _ => rfl
  have hlast : (tx + wide - 1) / 64 < wds W := by unfold wds; omega
  have hsrc : W ≤ 64 * wds W := by unfold wds; omega
  let D : Nat → Nat → Bool := fun n Y => if fy < ty then decide (ty + (high - n) ≤ Y ∧ Y < ty + high) else decide (ty ≤ Y ∧ Y < ty + n)
  have hD : ∀ n Y, D n Y = true ↔ (fy < ty ∧ ty + (high - n) ≤ Y ∧ Y < ty + high) ∨ (¬ fy < ty ∧ ty ≤ Y ∧ Y < ty + n) := fun n Y => by
    show (if fy < ty then _ else _) = true ↔ _
    by_cases h1 : fy < ty
    · rw [if_pos h1, decide_eq_true_eq]; omega
    · rw [if_neg h1, decide_eq_true_eq]; omega
  have hrw0 : W64 (List.replicate (wds W) 0) := W64.zero _
  refine ⟨fun n vs h => ∃ (j J0 : Nat) (R rs : List Nat), (j = 0 → R = ws) ∧ j + n = high ∧ vs = [.int .i64 (j : Int)] ∧ rs.length = wds W ∧ Inv X (wds W) G (pix ws (wds W)) (D j) J0 (tx / 64) R ∧ J0 < X ∧
      Hp h0 FF h (mapL p q W X R rest ++ [⟨o, true, T_func_uint64_uint64_uint64, opsV⟩] ++ [⟨rw, true, T_uint64, u64s rs⟩]),
    ⟨high, 0, 0, ws, List.replicate (wds W) 0, fun _ => rfl, by omega, rfl, by simp, ⟨hl, hw, fun Y hY x' hx' => ?_⟩, by omega, H⟩, ?_⟩
  · by_cases h5 : D 0 Y = true ∨ Y = 0 ∧ x' / 64 < tx / 64
    · rw [if_pos h5, hG, if_neg]
      rcases h5 with h5 | h5
      · have := (hD 0 Y).1 h5; omega
      · omega
    · rw [if_neg h5]
  clear H hrw0
  rintro n h u xx ⟨j, J0, R, rs, hR0, hjn, hxx, hrs, hI, hJ0, H⟩
  injection hxx with hxx
  injection hxx with _ hxx
  subst hxx
  refine bcase_dec (fun h5 => ?_) fun h5 => ?_
  · have h5 : j < high := by omega
    have hRws : R = ws := hR0 (by omega)
    -- the row that is gone over
    obtain ⟨jj, hjj⟩ : ∃ jj : Nat, jj = if fy < ty then high - 1 - j else j := ⟨_, rfl⟩
    have hjj2 : fy < ty ∧ jj + j + 1 = high ∨ ¬ fy < ty ∧ jj = j := by
      by_cases h1 : fy < ty
      · rw [if_pos h1] at hjj; left; omega
      · rw [if_neg h1] at hjj; right; exact ⟨h1, hjj⟩
    refine ⟨fun vs h' => h' = h ∧ vs = [.int .i64 (jj : Int)], ?_, ?_⟩
    · refine bcase_dec (fun h6 => ?_) fun h6 => ?_
      · refine bindI_of (((high - 1 : Nat) : Int)) (by exact i64_at _ _ (by omega) (by omega) (by omega)) ?_
        refine bindI_of (((jj : Nat) : Int)) (by exact i64_at _ _ (by omega) (by omega) (by omega)) ?_
        exact ⟨by first | rfl | trivial, rfl⟩
      · have : jj = j := by omega
        rw [this]
        exact ⟨by first | rfl | trivial, rfl⟩
    · rintro h' u' x39 ⟨rfl, hx39⟩
      injection hx39 with hx39
      injection hx39 with _ hx39
      subst hx39
      have hjh : jj < high := by omega
      have hsrow : fy + jj < X := by omega
      have hdrow : ty + jj < X := by omega
      have hRl0 := hI.1
      have hrow2 : (fy + jj + 1) * wds W ≤ X * wds W := Nat.mul_le_mul_right _ (by omega)
      have hrow2' : (fy + jj + 1) * wds W = (fy + jj) * wds W + wds W := by rw [Nat.add_mul, Nat.one_mul]
      refine bindI_of (((fy + jj : Nat) : Int)) (by exact i64_at _ _ (by omega) (by omega) (by omega)) ?_
      try simp only [ptr_some_eq, add_mk, Nat.zero_add, Nat.add_zero]
      refine ldI_of (H.cell 0 rfl (i := 2) rfl) ?_
      refine bindI_of ((((fy + jj) * wds W : Nat) : Int)) (by exact i64_at _ _ mul_cast (by omega) (by omega)) ?_
      generalize hat : (fy + jj) * wds W = at_ at hrow2 hrow2' ⊢
      refine ldS_of (H.cell 0 rfl (i := 3) rfl) ?_
      refine ldI_of (H.cell 0 rfl (i := 2) rfl) ?_
      refine bindI_of (((at_ + wds W : Nat) : Int)) (by exact i64_at _ _ (by omega) (by omega) (by omega)) ?_
      refine ldI_of (H.cell 0 rfl (i := 2) rfl) ?_
      refine bindI_of (((at_ + wds W : Nat) : Int)) (by exact i64_at _ _ (by omega) (by omega) (by omega)) ?_
      refine needs_of (by omega) ?_
      refine needs_of (by omega) ?_
      refine needs_of (by omega) ?_
      simp only [Int.toNat_natCast]
      have hsub : subA (at0 q) (at_ + wds W) at_ 1 = some ⟨q, at_, none⟩ := by
        unfold subA
        rw [if_neg (by omega)]
        show some ((⟨q, 0, none⟩ : Addr).add (at_ * 1)) = _
        rw [add_mk]; simp
      rw [hsub]
      have hmin : Nat.min (at_ + wds W - at_) (wds W) = wds W := by
        show min (at_ + wds W - at_) (wds W) = _
        omega
      have hnew : ((u64s ws ++ rest).drop at_).take (wds W * 1) = u64s (rowW ws (wds W) (fy + jj)) := by
        unfold rowW
        rw [hat, Nat.mul_one, List.drop_append_of_le_length (by rw [u64s_length]; omega), List.take_append_of_le_length (by rw [List.length_drop, u64s_length]; omega)]
        unfold u64s
        rw [List.map_take, List.map_drop]
      have Hs := H
      rw [hRws] at Hs
      have hrd := rdO_hp Hs 1 (o := at_) (n := wds W * 1) rfl (by rw [List.length_append, u64s_length]; omega)
      rw [hnew] at hrd
      have hrl := rowW_len hl hsrow
      refine ⟨_, by rw [hmin]; exact hrd, ?_⟩
      refine stVs_all H 3 rfl (by rw [u64s_length, u64s_length, hrl, hrs]) (u64s_cells _) fun h' hsz H => ?_
      have H : Hp h0 FF h' (mapL p q W X R rest ++ [⟨o, true, T_func_uint64_uint64_uint64, opsV⟩] ++ [⟨rw, true, T_uint64, u64s (rowW ws (wds W) (fy + jj))⟩]) := H
      have hrwp := fun x (hx : x < 64 * wds W) => rowW_pix (S := ws) (swd := wds W) (r := fy + jj) hx
      have hrww := rowW_w hw (wds W) (fy + jj)
      generalize rowW ws (wds W) (fy + jj) = rw2 at H hrl hrwp hrww
      have hDj : D j (ty + jj) = false := by
        rw [← Bool.not_eq_true, hD]; omega
      have hI2 : Inv X (wds W) G (pix ws (wds W)) (D j) (ty + jj) (tx / 64) R := by
        refine ⟨hI.1, hI.2.1, fun Y hY x' hx' => ?_⟩
        rw [hI.2.2 Y hY x' hx']
        have e : ∀ Y, x' / 64 < tx / 64 → G x' Y = pix ws (wds W) x' Y := fun Y h6 => by rw [hG, if_neg (by omega)]
        by_cases h6 : D j Y = true
        · rw [if_pos (.inl h6), if_pos (.inl h6)]
        · by_cases h7 : x' / 64 < tx / 64
          · have := e Y h7
            split <;> split <;> first | rfl | exact this | exact this.symm
          · rw [if_neg (by rintro (h8 | h8); exact h6 h8; exact h7 h8.2), if_neg (by rintro (h8 | h8); exact h6 h8; exact h7 h8.2)]
      clear hI
      refine bindI_of (((tx / 64 : Nat) : Int)) (by exact i64_at _ _ (tdiv_nat tx 64) (by omega) (by omega)) ?_
      refine ⟨fun n vs h => ∃ (i : Nat) (R : List Nat), i + n = (tx + wide - 1) / 64 + 1 ∧ tx / 64 ≤ i ∧ vs = [.int .i64 (i : Int)] ∧ Inv X (wds W) G (pix ws (wds W)) (D j) (ty + jj) i R ∧
          Hp h0 FF h (mapL p q W X R rest ++ [⟨o, true, T_func_uint64_uint64_uint64, opsV⟩] ++ [⟨rw, true, T_uint64, u64s rw2⟩]),
        ⟨(tx + wide - 1) / 64 + 1 - tx / 64, tx / 64, R, by omega, Nat.le_refl _, rfl, hI2, H⟩, ?_⟩
      clear H hI2
      rintro n2 h u2 xx ⟨i, R, hin, hi, hxx, hI, H⟩
      injection hxx with hxx
      injection hxx with _ hxx
      subst hxx
      refine bindI_of (((tx + wide : Nat) : Int)) (by exact i64_at _ _ (by omega) (by omega) (by omega)) ?_
      refine bindI_of (((tx + wide - 1 : Nat) : Int)) (by exact i64_at _ _ (by omega) (by omega) (by omega)) ?_
      refine bindI_of ((((tx + wide - 1) / 64 : Nat) : Int)) (by exact i64_at _ _ (tdiv_nat (tx + wide - 1) 64) (by omega) (by omega)) ?_
      refine bcase_dec (fun h6 => ?_) fun h6 => ?_
      · have h6 : i ≤ (tx + wide - 1) / 64 := by omega
        have hiw : i < wds W := by omega
        have hidx := idx_lt hiw hdrow
        have hjw : (ty + jj) * wds W ≤ X * wds W := Nat.mul_le_mul_right _ (by omega)
        have hRl := hI.1
        refine bindI_of (((ty + jj : Nat) : Int)) (by exact i64_at _ _ (by omega) (by omega) (by omega)) ?_
        refine ldS_of (H.cell 0 rfl rfl) ?_
        refine ldI_of (H.cell 0 rfl rfl) ?_
        refine bindI_of ((((ty + jj) * wds W : Nat) : Int)) (by exact i64_at _ _ mul_cast (by omega) (by omega)) ?_
        refine bindI_of ((((ty + jj) * wds W + i : Nat) : Int)) (by exact i64_at _ _ (by omega) (by omega) (by omega)) ?_
        refine needs_of (by omega) ?_
        try simp only [ptr_some_eq, add_mk, Nat.zero_add, Int.toNat_natCast, Nat.mul_one]
        refine mask_ok (by omega) (by omega) fun M hM hMb => ?_
        refine ⟨_, rfl, ?_⟩
        refine bindI_of (((64 * i : Nat) : Int)) (by exact i64_at _ _ (by omega) (by omega) (by omega)) ?_
        refine bindI_of (((fx + 64 * i : Nat) : Int)) (by exact i64_at _ _ (by omega) (by omega) (by omega)) ?_
        refine bindI_of ((((fx + 64 * i : Nat) : Int) - (tx : Nat))) (by exact i64_in _ (by omega) (by omega)) ?_
        have hcell := H.cell 1 rfl (get_app (u64s_get (getD_get (l := R) (i := (ty + jj) * wds W + i) (by omega))))
        have hv := hI.2.1.get ((ty + jj) * wds W + i)
        refine ldI_of hcell ?_
        refine bindI_of _ (andNot64 _ _ hv hM) ?_
        refine ldI_of hcell ?_
        have hrr := row_rdO (xs := rw2) (rest := []) H 3 (b := rw) (w := true) (t := T_uint64) (by rw [List.append_nil]; rfl)
        refine word_okN hrl hrr hrww (by omega) (by omega) fun V hV hVb => ?_
        refine ⟨_, rfl, hext.refl _, ?_⟩
        refine does_ok hop hv hV hfv fun v hvv hvb => ?_
        refine ⟨_, rfl, hext.refl _, ?_⟩
        refine bindI_of _ (and64 _ _ hvv hM) ?_
        refine bindI_of _ (or64 _ _ (and_lt hv) (and_lt hvv)) ?_
        refine stV_hp H 1 rfl (by rw [List.length_append, u64s_length]; omega) rfl fun h hsz H => ?_
        rw [u64s_setr _ _ _ _ (by omega)] at H
        refine bindI_of (((i + 1 : Nat) : Int)) (by exact i64_at _ _ (by omega) (by omega) (by omega)) ?_
        refine ⟨n2 - 1, by omega, i + 1, _, by omega, by omega, rfl, hI.step hdrow hiw (v := R.getD ((ty + jj) * wds W + i) 0 &&& wnot M ||| v &&& M) (or_lt (and_lt hv) (and_lt hvv)) (fun b hb => ?_), H.as (by simp [mapL, mapE])⟩
        have hwb := hI.word hDj hdrow hiw hb
        rw [Nat.testBit_or, Nat.testBit_and, Nat.testBit_and, wnot_bit hM hb, hvb b hb, hMb b hb, hVb b hb, hwb, hG]
        by_cases h7 : tx ≤ 64 * i + (63 - b) ∧ 64 * i + (63 - b) < tx + wide
        · rw [decide_eq_true h7, if_pos ⟨h7.1, h7.2, by omega, by omega⟩]
          have e1 : ((fx + 64 * i : Nat) : Int) - (tx : Nat) + (63 - (b : Int)) = ((fx + (64 * i + (63 - b) - tx) : Nat) : Int) := by omega
          have e2 : ty + jj - ty = jj := by omega
          rw [e1, hrwp _ (by omega), e2]
          simp
        · rw [decide_eq_false h7, if_neg (fun h8 => h7 ⟨h8.1, h8.2.1⟩)]
          simp
      · have h6 : (tx + wide - 1) / 64 < i := by omega
        refine bindI_of (((j + 1 : Nat) : Int)) (by exact i64_at _ _ (by omega) (by omega) (by omega)) ?_
        refine ⟨n - 1, by omega, j + 1, ty + jj, R, rw2, fun h => absurd h (Nat.succ_ne_zero _), by omega, rfl, hrl, hI.row (fun x' h7 h8 => ?_) (fun Y => ?_) (fun x' h7 h8 => ?_), hdrow, H⟩
        · rw [hG, if_neg (by omega)]
        · rw [hD, hD]; omega
        · rw [hG, if_neg (by omega)]
  · have h5 : j = high := by omega
    subst h5
    refine hk R _ hI.1 hI.2.1 (fun Y hY x' hx' => ?_) (H.pre.pre)
    rw [hI.2.2 Y hY x' hx']
    have e1 : (D j Y = true ∨ Y = J0 ∧ x' / 64 < tx / 64) → G x' Y = if tx ≤ x' ∧ x' < tx + wide ∧ ty ≤ Y ∧ Y < ty + j then opB op (pix ws (wds W) x' Y) (pix ws (wds W) (fx + (x' - tx)) (fy + (Y - ty))) else pix ws (wds W) x' Y := fun _ => hG x' Y
    by_cases h6 : tx ≤ x' ∧ x' < tx + wide ∧ ty ≤ Y ∧ Y < ty + j
    · rw [if_pos (.inl ((hD j Y).2 (by omega))), hG, if_pos h6, if_pos (by omega)]
      congr 2 <;> omega
    · have hno : ¬ (dx ≤ x' ∧ (x' : Int) < dx + w ∧ x' < W ∧ dy ≤ Y ∧ (Y : Int) < dy + g ∧ 0 ≤ sx + (x' - dx) ∧ sx + (x' - dx) < W ∧ 0 ≤ sy + (Y - dy) ∧ sy + (Y - dy) < X) := by
        rintro ⟨g1, g2, g3, g4, g5, g6, g7, g8, g9⟩
        have k1 := a9 (x' - dx) (by omega) (by omega) (by omega) (by omega) (by omega) (by omega)
        have k2 := b9 (Y - dy) (by omega) (by omega) (by omega) (by omega) (by omega) (by omega)
        exact h6 (by omega)
      rw [if_neg hno]
      split
      · rw [hG, if_neg h6]
      · rfl

end Go.Bm

/- GnD: generic's procedure.same, procedure.run and caught, whatever decides. -/
set_option linter.unusedVariables false
set_option linter.unusedSimpArgs false
namespace Go.Bm
open Go Go.Den Go.Den.Yteakipgcanafoaa

theorem same_ok {h0 h : Heap} {FF : List Nat} {L : List Ent} {rp p q W X N cc t y : Nat} {fv : Value} {base : Int} {skip : Bool} {ws : List Nat} {rest : List Value} (H : Hp h0 FF h ([procE rp p fv base t skip, mapE p q W X N cc, ⟨q, true, T_uint64, u64s ws ++ rest⟩] ++ L))
    (hN : ws.length = N) (hs : SizeP (W : Int) (X : Int)) (hl : N = X * wds W) (hw : W64 ws) (hy : y < X) {K : Value → Heap → Prop} {Kp : List PanicEntry → Heap → Prop} (hk : K (.bool (sameB (getP ws W X) W y)) h) :
    CP F_generic_procedure_same #[.pointer (at0 rp), .int .i64 (W : Nat), .int .i64 (y : Nat)] h K Kp := by
  refine call_generic_procedure_same ?_
  unfold generic_procedure_same
  obtain ⟨W', X', e1, e2, hW1, hW2, hX1, hX2, hWX⟩ := size_nat hs
  obtain rfl : W = W' := by omega
  obtain rfl : X = X' := by omega
  clear e1 e2
  refine ⟨fun n vs h' => h' = h ∧ ∃ x : Nat, x + n = W ∧ vs = [.int .i64 (x : Nat)] ∧ ∀ j, j < x → getP ws W X (j : Int) (y : Int) = getP ws W X (j : Int) ((y : Int) - 1), ⟨W, rfl, 0, by omega, rfl, fun j hj => absurd hj (Nat.not_lt_zero _)⟩, ?_⟩
  rintro n h u xx ⟨rfl, x, hxn, hxx, hall⟩
  injection hxx with hxx
  injection hxx with _ hxx
  subst hxx
  refine bcase_dec (fun h4 => ?_) fun h4 => ?_
  · refine ptr_of (a := ⟨rp, 0, none⟩) (ptr_of (a := ⟨rp, 0, none⟩) ?_)
    refine bindI_of (((y : Int) - 1)) (by exact i64_in _ (by omega) (by omega)) ?_
    refine ldP_of (hpA H 0 rfl rfl) (ldP_of (hpA H 0 rfl rfl) ?_)
    refine mget_ok (ws := ws) (c := cc) (rest := rest) H 1 2 (by rw [hN]; rfl) rfl hs (by rw [hN]; exact hl) hw ?_
    refine ⟨_, rfl, hext.refl _, ?_⟩
    refine mget_ok (ws := ws) (c := cc) (rest := rest) H 1 2 (by rw [hN]; rfl) rfl hs (by rw [hN]; exact hl) hw ?_
    refine ⟨_, rfl, ?_⟩
    refine bcase_ne (fun h5 => ?_) fun h5 => ?_
    · have hne : getP ws W X (x : Int) (y : Int) ≠ getP ws W X (x : Int) ((y : Int) - 1) := fun e => h5 (by rw [e])
      have : sameB (getP ws W X) W y = false := by
        unfold sameB
        rw [← Bool.not_eq_true, List.all_eq_true]
        intro hh
        have := hh x (List.mem_range.2 (by omega))
        exact hne (by simpa using this)
      rw [this] at hk
      exact hk
    · have heq : getP ws W X (x : Int) (y : Int) = getP ws W X (x : Int) ((y : Int) - 1) := by
        generalize getP ws W X (x : Int) (y : Int) = a at h5
        generalize getP ws W X (x : Int) ((y : Int) - 1) = b at h5
        cases a <;> cases b <;> first | rfl | (exact absurd h5 (by decide))
      refine bindI_of (((x + 1 : Nat) : Int)) (by exact i64_at _ _ (by omega) (by omega) (by omega)) ?_
      refine ⟨n - 1, by omega, rfl, x + 1, by omega, rfl, fun j hj => ?_⟩
      rcases Nat.lt_or_ge j x with h6 | h6
      · exact hall j h6
      · obtain rfl : j = x := by omega
        exact heq
  · obtain rfl : W = x := by omega
    have : sameB (getP ws W X) W y = true := by
      unfold sameB
      rw [List.all_eq_true]
      intro j hj
      rw [hall j (List.mem_range.1 hj)]
      simp
    rw [this] at hk
    exact hk

set_option maxRecDepth 100000 in
set_option maxHeartbeats 4000000 in
theorem grun_ok {σ : Type} {S : σ → List Ent → Prop} {Ok : Nat → σ → Prop} {step : σ → Nat → Bool → (Bool × σ) ⊕ (Int × σ)} {fv : Value} {base : Int} {NN : Nat} (hSw : ∀ s M, S s M → M.all Ent.w = true) (hdec : DecOkI NN base S Ok step fv) (hb : 0 ≤ base ∧ base ≤ 131072)
    {h0 h : Heap} {FF : List Nat} {rp p q W X N cc t : Nat} {skip : Bool} {rest : List Value} {ws0 : List Nat} {s0 : σ} {M0 : List Ent} (ht : t < 4) (hS0 : S s0 M0) (H : Hp h0 FF h ([procE rp p fv base t skip, mapE p q W X N cc, ⟨q, true, T_uint64, u64s ws0 ++ rest⟩] ++ M0))
    (hN : ws0.length = N) (hcc : cc = N + rest.length) (hs : SizeP (W : Int) (X : Int)) (hl : N = X * wds W) (hw : W64 ws0) (hz : PadZ W X ws0) (hok0 : Ok 0 s0) (hNN : X * (W + 1) ≤ NN) {K : Value → Heap → Prop} {Kp : List PanicEntry → Heap → Prop}
    (hgood : ∀ ws s M h' k, S s M → runG W t skip step X (getP ws0 W X, s0) = .inl (getP ws W X, s) → ws.length = N → W64 ws → PadZ W X ws → k ≤ X * (W + 1) → Ok k s → Hp h0 FF h' ([procE rp p fv base t skip, mapE p q W X N cc, ⟨q, true, T_uint64, u64s ws ++ rest⟩] ++ M) → K (.tuple #[]) h')
    (hbad : ∀ e ws s M h' k, S s M → runG W t skip step X (getP ws0 W X, s0) = .inr (e, s) → ws.length = N → k ≤ NN → Ok k s → Hp h0 FF h' ([procE rp p fv base t skip, mapE p q W X N cc, ⟨q, true, T_uint64, u64s ws ++ rest⟩] ++ M) →
      Kp [{ v := .iface T_generic_fault (.agg #[.int .i64 e]), recovered := false }] h') :
    CP F_generic_procedure_run #[.pointer (at0 rp), .int .i64 (gsize t : Nat)] h K Kp := by
  refine call_generic_procedure_run ?_
  unfold generic_procedure_run
  obtain ⟨W', X', e1, e2, hW1, hW2, hX1, hX2, hWX⟩ := size_nat hs
  obtain rfl : W = W' := by omega
  obtain rfl : X = X' := by omega
  clear e1 e2
  have hgs := gsize_le ht
  refine ptr_of (a := ⟨rp, 0, none⟩) ?_
  refine ldP_of (hpA H 0 rfl rfl) ?_
  refine msize_ok (ws := ws0) (c := cc) H 1 (by rw [hN]; rfl) ?_
  refine ⟨_, _, rfl, ?_⟩
  refine ⟨fun n vs h' => ∃ (y : Nat) (ws : List Nat) (s : σ) (M : List Ent) (k : Nat), y + n = X ∧ vs = [.int .i64 (y : Nat)] ∧ S s M ∧ runG W t skip step y (getP ws0 W X, s0) = .inl (getP ws W X, s) ∧ ws.length = N ∧ W64 ws ∧ PadZ W X ws ∧ k ≤ y * (W + 1) ∧ Ok k s ∧
      Hp h0 FF h' ([procE rp p fv base t skip, mapE p q W X N cc, ⟨q, true, T_uint64, u64s ws ++ rest⟩] ++ M), ⟨X, 0, ws0, s0, M0, 0, by omega, rfl, hS0, rfl, hN, hw, hz, by omega, hok0, H⟩, ?_⟩
  clear H
  rintro n h u xx ⟨y, ws, s, M, k, hyn, hxx, hM, hrun, hlw, hww, hzz, hky, hok, H⟩
  injection hxx with hxx
  injection hxx with _ hxx
  subst hxx
  refine bcase_dec (fun h1 => ?_) fun h1 => ?_
  · have hy : y < X := by omega
    have hkX : (y + 1) * (W + 1) ≤ X * (W + 1) := Nat.mul_le_mul_right _ (by omega)
    rw [Nat.add_mul, Nat.one_mul] at hkX
    have hnext : runG W t skip step (y + 1) (getP ws0 W X, s0) = match skip with
        | false => rowG t step y W (getP ws W X, s)
        | true => match step s (gsize t) (sameB (getP ws W X) W y) with
          | .inr e => .inr e
          | .inl (true, s') => .inl (copyRow (getP ws W X) y, s')
          | .inl (false, s') => rowG t step y W (getP ws W X, s') := by
      rw [runG, hrun]
      cases skip <;> rfl
    refine ptr_of (a := ⟨rp, 0, none⟩) ?_
    cases skip with
    | true =>
      simp only at hnext
      refine ldB_of (hpA H 0 rfl rfl) ?_
      refine bcase_true rfl ?_
      refine ⟨fun vs h' => h' = h ∧ vs = [.int .i64 ((sameB (getP ws W X) W y).toNat : Nat)], ?_, ?_⟩
      · refine same_ok H hlw hs hl hww hy ?_
        refine ⟨_, rfl, ?_⟩
        cases hsm : sameB (getP ws W X) W y with
        | true => exact bcase_true rfl ⟨rfl, rfl⟩
        | false => exact bcase_false rfl ⟨rfl, rfl⟩
      · rintro h' u' bb ⟨rfl, hbb⟩
        injection hbb with hbb
        injection hbb with _ hbb
        subst hbb
        obtain ⟨⟨ft, fx, hfv⟩, hdc⟩ := id hdec
        refine ptr_of (a := ⟨rp, 0, none⟩) (ptr_of (a := ⟨rp, 0, none⟩) ?_)
        refine ldV_of (hpA H 0 rfl rfl) ?_
        have hnil : ∀ K : Value → Prop, K fv → nilD fv K := fun K hk => by subst hfv; exact hk
        refine hnil _ ?_
        refine ldI_of (hpA H 0 rfl rfl) ?_
        refine bindI_of ((base + ((gsize t : Nat) : Int))) (by exact i64_in _ (by omega) (by omega)) ?_
        refine hdc hok (by omega) (by omega) hM H.giveS (fun bit' s' M' h3 hst hok' hM' H' => ?_) fun e s' M' h3 hst hok' hM' H' => ?_
        · rw [hst] at hnext
          have H := H.putS (hSw s M hM) H' (hSw s' M' hM')
          clear H'
          refine ⟨_, rfl, ?_⟩
          cases bit' with
          | true =>
            simp only at hnext
            refine bcase_eq (fun _ => ?_) fun h5 => absurd rfl h5
            refine ptr_of (a := ⟨rp, 0, none⟩) (ptr_of (a := ⟨rp, 0, none⟩) ?_)
            refine bindI_of (((y : Int) - 1)) (by exact i64_in _ (by omega) (by omega)) ?_
            refine ldP_of (hpA H 0 rfl rfl) (ldP_of (hpA H 0 rfl rfl) ?_)
            have hmL : mapL p q W X ws rest = [mapE p q W X N cc, ⟨q, true, T_uint64, u64s ws ++ rest⟩] := by
              unfold mapL
              rw [hlw, hcc]
            have Hg := H.give [1, 2] (A := mapL p q W X ws rest) (by decide) (by rw [hmL]; rfl)
            refine blitS_ok (sx := 0) (sy := (y : Int) - 1) (w := (W : Nat)) (g := 1) (dx := 0) (dy := (y : Nat)) (op := 4) Hg hs (by rw [hlw]; exact hl) hww ⟨by omega, by omega⟩ ⟨by omega, by omega⟩ ⟨by omega, by omega⟩ ⟨by omega, by omega⟩ ⟨by omega, by omega⟩ ⟨by omega, by omega⟩ (by omega) (by omega) (by decide) (by omega) fun R h4 k1 k2 k3 H4 => ?_
            have hmR : mapL p q W X R rest = [mapE p q W X N cc, ⟨q, true, T_uint64, u64s R ++ rest⟩] := by
              unfold mapL
              rw [k1, ← hl, hcc]
            have H := H.put [1, 2] (by decide) (by rw [hmL]; rfl) (by rw [hmL]; rfl) H4 (by rw [hmR]; rfl) (by rw [hmR]; rfl)
            rw [hmR] at H
            clear H4 Hg
            refine ⟨_, rfl, ?_⟩
            refine bindI_of (((y + 1 : Nat) : Int)) (by exact i64_at _ _ (by omega) (by omega) (by omega)) ?_
            have k4 : ∀ Y, Y < X → ∀ x', x' < 64 * wds W → pix R (wds W) x' Y = if x' < W ∧ Y = y ∧ y ≠ 0 then pix ws (wds W) x' (y - 1) else pix ws (wds W) x' Y := fun Y hY x' hx' => by
              rw [k3 Y hY x' hx']
              by_cases hc : x' < W ∧ Y = y ∧ y ≠ 0
              · rw [if_pos hc, if_pos (by omega)]
                show pix ws (wds W) _ _ = _
                congr 1 <;> omega
              · rw [if_neg hc, if_neg (by omega)]
            have hcopy : getP R W X = copyRow (getP ws W X) y := by
              funext a b
              unfold copyRow getP
              by_cases hin : 0 ≤ a ∧ 0 ≤ b ∧ a < W ∧ b < X
              · rw [decide_eq_true hin, Bool.true_and, k4 b.toNat (by omega) a.toNat (by unfold wds; omega)]
                by_cases hc : b = (y : Int) ∧ y ≠ 0
                · rw [if_pos (by omega), if_pos hc, decide_eq_true (by omega), Bool.true_and]
                  congr 1
                  omega
                · rw [if_neg (by omega), if_neg hc, Bool.true_and]
              · rw [decide_eq_false hin, Bool.false_and]
                by_cases hc : b = (y : Int) ∧ y ≠ 0
                · rw [if_pos hc, decide_eq_false (by omega), Bool.false_and]
                · rw [if_neg hc, Bool.false_and]
            refine ⟨n - 1, by omega, y + 1, R, s', M', k + 1, by omega, rfl, hM', by rw [hcopy]; exact hnext, by rw [k1, hl], k2, fun Y hY x' h6 h7 => ?_, by rw [Nat.add_mul, Nat.one_mul]; omega, hok', H⟩
            rw [k4 Y hY x' h7, if_neg (by omega)]
            exact hzz Y hY x' h6 h7
          | false =>
            simp only at hnext
            refine bcase_eq (fun h5 => absurd h5 (by decide)) fun h5 => ?_
            refine grow_ok hSw hdec hb ht hM' H hlw hs hl hww hzz hy hok' (by omega) (fun ws2 s2 M2 h4 hM2 hrow hl2 hw2 hz2 hok2 H => ?_) fun e ws2 s2 M2 h4 k2 hM2 hrow hl2 hk2 hok2 H => ?_
            · rw [hrow] at hnext
              refine bindI_of (((y + 1 : Nat) : Int)) (by exact i64_at _ _ (by omega) (by omega) (by omega)) ?_
              exact ⟨n - 1, by omega, y + 1, ws2, s2, M2, k + 1 + W, by omega, rfl, hM2, hnext, hl2, hw2, hz2, by rw [Nat.add_mul, Nat.one_mul]; omega, hok2, H⟩
            · rw [hrow] at hnext
              exact hbad e ws2 s2 M2 h4 k2 hM2 (runG_err hnext _ (by omega)) hl2 hk2 hok2 H
        · rw [hst] at hnext
          simp only at hnext
          have H3 := H.putS (hSw s M hM) H' (hSw s' M' hM')
          exact hbad e ws s' M' h3 (k + 1) hM' (runG_err hnext _ (by omega)) hlw (by omega) hok' H3
    | false =>
      simp only at hnext
      refine ldB_of (hpA H 0 rfl rfl) ?_
      refine bcase_false rfl ?_
      refine grow_ok hSw hdec hb ht hM H hlw hs hl hww hzz hy hok (by omega) (fun ws2 s2 M2 h4 hM2 hrow hl2 hw2 hz2 hok2 H => ?_) fun e ws2 s2 M2 h4 k2 hM2 hrow hl2 hk2 hok2 H => ?_
      · rw [hrow] at hnext
        refine bindI_of (((y + 1 : Nat) : Int)) (by exact i64_at _ _ (by omega) (by omega) (by omega)) ?_
        exact ⟨n - 1, by omega, y + 1, ws2, s2, M2, k + W, by omega, rfl, hM2, hnext, hl2, hw2, hz2, by rw [Nat.add_mul, Nat.one_mul]; omega, hok2, H⟩
      · rw [hrow] at hnext
        exact hbad e ws2 s2 M2 h4 k2 hM2 (runG_err hnext _ (by omega)) hl2 hk2 hok2 H
  · obtain rfl : X = y := by omega
    exact hgood ws s M h k hM hrun hlw hww hzz hky hok H

/-! ### caught -/
theorem gcatch_idle {h : Heap} {r : Nat} {Kd : FrameMode → Heap → Prop} {Kdp : FrameMode → List PanicEntry → Heap → Prop} (hk : Kd .returning h) : DCalls Go.Proofs.Try.prog F_generic_caught_c1 #[.pointer (some ⟨r, 0, none⟩)] .returning h Kd Kdp :=
  dcall_generic_caught_c1 (cap0 := ⟨r, 0, none⟩) (by unfold generic_caught_c1 recD; exact hk)
theorem gcatch {h0 h : Heap} {FF : List Nat} {L : List Ent} {r : Nat} {K : Value → Heap → Prop} {Kp : List PanicEntry → Heap → Prop} {e x : Int} (H : Hp h0 FF h ([⟨r, true, T_api_Errno, [.int .i64 x]⟩] ++ L)) (hk : ∀ h', Hp h0 FF h' L → K (.int .i64 e) h') :
    leaveD (DCalls Go.Proofs.Try.prog) (fun h => ldI h ⟨r, 0, none⟩ .i64 fun v => K (.int .i64 v) h) Kp [{ target := .fn (.func F_generic_caught_c1) #[.pointer (some ⟨r, 0, none⟩)], args := #[] }] (.panicking [{ v := .iface T_generic_fault (.agg #[.int .i64 e]), recovered := false }]) h := by
  show DCalls Go.Proofs.Try.prog F_generic_caught_c1 #[.pointer (some ⟨r, 0, none⟩)] _ h _ _
  refine dcall_generic_caught_c1 (cap0 := ⟨r, 0, none⟩) ?_
  unfold generic_caught_c1
  refine recD_iface ?_
  refine bcase_true (by decide) ?_
  refine ⟨e, rfl, ?_⟩
  refine newC_hp H fun r6 h H => ?_
  have H := H.rot
  refine stA H 0 rfl rfl rfl fun h H => ?_
  refine ldI_of (hpA H 0 rfl rfl) ?_
  refine st0 H 1 rfl rfl rfl fun h H => ?_
  show ldI h ⟨r, 0, none⟩ .i64 _
  refine ldI_of (H.cell 1 rfl rfl) ?_
  have H : Hp h0 FF h ([⟨r6, true, T_generic_fault, [.int .i64 e]⟩, ⟨r, true, T_api_Errno, [.int .i64 e]⟩] ++ L) := H
  exact hk h (Hp.suf H)
theorem caught_ok {h0 h : Heap} {FF : List Nat} {L : List Ent} {run : Value} {K : Value → Heap → Prop} {Kp : List PanicEntry → Heap → Prop} (Post : List Ent → Prop) (PostB : Int → List Ent → Prop) (H : Hp h0 FF h L)
    (hrun : ∀ {r : Nat} {h1 : Heap} {K1 : Value → Heap → Prop} {Kp1 : List PanicEntry → Heap → Prop}, Hp h0 FF h1 ([⟨r, true, T_api_Errno, [.int .i64 0]⟩] ++ L) → (∀ h2 L2, Post L2 → Hp h0 FF h2 ([⟨r, true, T_api_Errno, [.int .i64 0]⟩] ++ L2) → K1 (.tuple #[]) h2) →
      (∀ e h2 L2, PostB e L2 → Hp h0 FF h2 ([⟨r, true, T_api_Errno, [.int .i64 0]⟩] ++ L2) → Kp1 [{ v := .iface T_generic_fault (.agg #[.int .i64 e]), recovered := false }] h2) → callD (CallsHP Go.Proofs.Try.prog) Kp1 run [] h1 K1)
    (hk0 : ∀ h' L', Post L' → Hp h0 FF h' L' → K (.int .i64 0) h') (hke : ∀ e h' L', PostB e L' → Hp h0 FF h' L' → K (.int .i64 e) h') : CP F_generic_caught #[run] h K Kp := by
  refine call_generic_caught ?_
  unfold generic_caught
  refine newC_hp H fun r1 h H => ?_
  have H := H.rot
  refine hrun H (fun h2 L2 hp H => ?_) fun e h2 L2 hp H => ?_
  · refine st0 H 0 rfl rfl rfl fun h H => ?_
    show DCalls Go.Proofs.Try.prog F_generic_caught_c1 #[.pointer (some ⟨r1, 0, none⟩)] .returning h _ _
    refine gcatch_idle ?_
    show ldI h ⟨r1, 0, none⟩ .i64 _
    refine ldI_of (H.cell 0 rfl rfl) ?_
    have H : Hp h0 FF h ([⟨r1, true, T_api_Errno, [.int .i64 0]⟩] ++ L2) := H
    exact hk0 h L2 hp (Hp.suf H)
  · exact gcatch H fun h' H => hke e h' L2 hp H
end Go.Bm

/- GnE: generic.Put and generic.Get. -/
set_option linter.unusedVariables false
set_option linter.unusedSimpArgs false
namespace Go.Bm
open Go Go.Den Go.Den.Yteakipgcanafoaa
open Go.Ar (Cod CodOk Dec codL decL BOk idx putM_ok getD_ok getD_bit)

def fvC (p : Nat) : Value := .iface T_generic_coding (.agg #[.pointer (at0 p)])
def fvD (p : Nat) : Value := .iface T_generic_decoding (.agg #[.pointer (at0 p)])
theorem inv_coding {x : Value} {args : List Value} {h : Heap} {K : Value → Heap → Prop} {Kp : List PanicEntry → Heap → Prop} (H : CallsHP Go.Proofs.Try.prog F_generic_coding_decide (x :: args).toArray h K Kp) :
    invokeD Go.Proofs.Try.prog (CallsHP Go.Proofs.Try.prog) (.iface T_generic_coding x) "burin/generic.decide" args h K Kp := by
  have hm : methD Go.Proofs.Try.prog T_generic_coding "burin/generic.decide" = some F_generic_coding_decide := by kernel_rfl
  unfold invokeD
  simp only [hm]
  exact H
theorem inv_decoding {x : Value} {args : List Value} {h : Heap} {K : Value → Heap → Prop} {Kp : List PanicEntry → Heap → Prop} (H : CallsHP Go.Proofs.Try.prog F_generic_decoding_decide (x :: args).toArray h K Kp) :
    invokeD Go.Proofs.Try.prog (CallsHP Go.Proofs.Try.prog) (.iface T_generic_decoding x) "burin/generic.decide" args h K Kp := by
  have hm : methD Go.Proofs.Try.prog T_generic_decoding "burin/generic.decide" = some F_generic_decoding_decide := by kernel_rfl
  unfold invokeD
  simp only [hm]
  exact H
def codS (p q : Nat) (s : Cod) (M : List Ent) : Prop := ∃ r rest, M = codL p q r s rest
def decS (p q : Nat) (e : Ent) (bp : Option Addr) (bc : Nat) (s : Dec) (M : List Ent) : Prop := BOk e bp s.b ∧ M = decL p q e bp bc s
theorem codS.w {p q : Nat} : ∀ s M, codS p q s M → M.all Ent.w = true := fun s M ⟨r, rest, h⟩ => by subst h; rfl
theorem decS.w {p q : Nat} {e : Ent} {bp : Option Addr} {bc : Nat} : ∀ s M, decS p q e bp bc s M → M.all Ent.w = true := fun s M ⟨h1, h⟩ => by subst h; simp [decL, Go.Ar.decE, h1.1]

set_option maxRecDepth 100000 in
theorem codI_ok {p q m n0 NN : Nat} {base : Int} (hb : 0 ≤ base ∧ base ≤ 131072) (hm1 : 1 ≤ m) (hm2 : m ≤ 131072) (hN : n0 + NN ≤ 16777216) : DecOkI NN base (codS p q) (fun k s => CodOk m (n0 + k) s) (stepP m base) (fvC p) := by
  refine ⟨⟨_, _, rfl⟩, ?_⟩
  intro h0 h FF s n bit K Kp M k hok hk hn hM H hgood hbad
  obtain ⟨r, rest, rfl⟩ := hM
  refine inv_coding ?_
  refine call_generic_coding_decide ?_
  unfold generic_coding_decide
  refine newC_hp H fun r2 h H => ?_
  refine ldP_of (hpA H 3 rfl rfl) ?_
  refine Go.Ar.put_ok (bit := bit.toNat) (H.give [0, 1, 2] (by decide) rfl) hok.wf hok.done (by rw [hok.n]; omega) (by rw [hok.len]; exact hm1) (by rw [hok.len]; exact hm2) (toNat_le _) fun r3 rest3 h' H' => ?_
  replace H := H.put [0, 1, 2] (by decide) rfl rfl H' rfl rfl
  clear H'
  refine ⟨_, rfl, ?_⟩
  refine bcase_false (by rfl) ?_
  rw [hok.len] at H
  exact hgood bit _ _ h' rfl (putM_ok hok _ _ (by omega)) ⟨r3, rest3, rfl⟩ (H.take 3)
def stepE (e : Int) (s : Cod) (_ : Nat) (_ : Bool) : (Bool × Cod) ⊕ (Int × Cod) := .inr (e, s)
set_option maxRecDepth 100000 in
theorem doneI_ok {p q NN : Nat} {base : Int} : DecOkI NN base (codS p q) (fun _ s => s.done = true) (stepE 43) (fvC p) := by
  refine ⟨⟨_, _, rfl⟩, ?_⟩
  intro h0 h FF s n bit K Kp M k hok hk hn hM H hgood hbad
  obtain ⟨r, rest, rfl⟩ := hM
  refine inv_coding ?_
  refine call_generic_coding_decide ?_
  unfold generic_coding_decide
  refine newC_hp H fun r2 h H => ?_
  refine ldP_of (hpA H 3 rfl rfl) ?_
  refine Go.Ar.put_done (H.give [0, 1, 2] (A := codL p q r s rest) (by decide) rfl) hok ?_
  refine ⟨_, rfl, ?_⟩
  refine bcase_true (by rfl) ?_
  exact hbad 43 _ _ h rfl hok ⟨r, rest, rfl⟩ (H.take 3)
set_option maxRecDepth 100000 in
theorem decI_ok {p q m n0 NN : Nat} {e : Ent} {bp : Option Addr} {bc : Nat} {base : Int} {bytes : List Nat} (hbl : bytes.length < 140737488351300) (hb : 0 ≤ base ∧ base ≤ 131072) (hm1 : 1 ≤ m) (hm2 : m ≤ 131072) (hN : n0 + NN ≤ 16777216) :
    DecOkI NN base (decS p q e bp bc) (fun k s => Go.Ar.DecOk bytes m (n0 + k) s) (stepG m base) (fvD p) := by
  refine ⟨⟨_, _, rfl⟩, ?_⟩
  intro h0 h FF s n bit K Kp M k hok hk hn hM H hgood hbad
  obtain ⟨hbok, rfl⟩ := hM
  refine inv_decoding ?_
  refine call_generic_decoding_decide ?_
  unfold generic_decoding_decide
  refine newC_hp H fun r2 h H => ?_
  refine ldP_of (hpA H 3 rfl rfl) ?_
  refine Go.Ar.get_ok (H.give [0, 1, 2] (by decide) rfl) hbok hok.wf (by rw [hok.b]; exact hbl) (by rw [hok.n]; omega) (by rw [hok.len]; exact hm1) (by rw [hok.len]; exact hm2) fun h' H' => ?_
  have hbw := hbok.1
  replace H := H.put [0, 1, 2] (by decide) rfl (by simp [decL, Go.Ar.decE, hbw]) H' (by simp [decL, Go.Ar.decE, hbw]) rfl
  clear H'
  refine ⟨_, _, rfl, ?_⟩
  refine bcase_false (by rfl) ?_
  rw [hok.len] at H ⊢
  have hbit := getD_bit (s := s) (idx (base + (n : Int)) m)
  have hbn := (Go.Ar.getD_n s (idx (base + (n : Int)) m)).2.2
  have e1 : (Go.Ar.getD s (idx (base + (n : Int)) m)).2 = (decide ((Go.Ar.getD s (idx (base + (n : Int)) m)).2 = 1)).toNat := by
    by_cases h1 : (Go.Ar.getD s (idx (base + (n : Int)) m)).2 = 1
    · rw [decide_eq_true h1, h1]; rfl
    · rw [decide_eq_false h1]; show _ = 0; omega
  rw [e1]
  exact hgood _ _ _ h' rfl (getD_ok hok _ (by omega)) ⟨by rw [hbn]; exact hbok, rfl⟩ (H.take 3)
theorem gfits_ok {h : Heap} {base many all : Int} (ha : -1000000000000 ≤ all ∧ all < 1000000000000) (hm : -1000000000000 ≤ many ∧ many < 1000000000000) {K : Value → Heap → Prop} {Kp : List PanicEntry → Heap → Prop} (hk : ∀ b : Bool, (b = true ↔ 0 ≤ base ∧ base ≤ all - many) → K (.bool b) h) : CP F_generic_fits #[.int .i64 base, .int .i64 many, .int .i64 all] h K Kp := by
  refine call_generic_fits ?_
  unfold generic_fits
  refine bcase_dec (fun h1 => ?_) fun h1 => hk false (by simp; omega)
  refine bindI_of ((all - many)) (by exact i64_in _ (by omega) (by omega)) ?_
  exact hk _ (by simp; omega)
theorem gput_nil {hB : Heap} {base w b template : Int} {q1 : Option Addr} {n1 c1 : Nat} {skip : Bool} {K : Value → Heap → Prop} {Kp : List PanicEntry → Heap → Prop} (hk : ∀ h', hext hB h' → K (.int .i64 53) h') :
    CP F_generic_Put #[.pointer none, .int .i64 base, .agg #[.int .i64 w, .int .i64 b, .slice q1 n1 c1], .int .i64 template, .bool skip] hB K Kp := by
  refine call_generic_Put ?_
  unfold generic_Put
  have H := Hp.nil hB []
  refine newC_hp H fun r7 h H => ?_
  refine bcase_true (by rfl) ?_
  exact hk _ H.hext
theorem gget_nil {hB : Heap} {base w b template : Int} {skip : Bool} {K : Value → Heap → Prop} {Kp : List PanicEntry → Heap → Prop} (hk : ∀ h', hext hB h' → K (.tuple #[.agg #[.int .i64 0, .int .i64 0, .slice none 0 0], .int .i64 53]) h') :
    CP F_generic_Get #[.pointer none, .int .i64 base, .int .i64 w, .int .i64 b, .int .i64 template, .bool skip] hB K Kp := by
  refine call_generic_Get ?_
  unfold generic_Get
  have H := Hp.nil hB []
  refine newC_hp H fun r7 h H => ?_
  refine bcase_true (by rfl) ?_
  repeat first | with_reducible refine ldI_of (by with_unfolding_all first | exact hpA H 0 rfl rfl | exact Hp.cell H 0 rfl rfl | exact hpB H 0 rfl rfl | exact hpC H 0 rfl rfl) ?_ | with_reducible refine ldS_of (by with_unfolding_all first | exact hpA H 0 rfl rfl | exact Hp.cell H 0 rfl rfl | exact hpB H 0 rfl rfl | exact hpC H 0 rfl rfl) ?_ | with_reducible refine ldP_of (by with_unfolding_all first | exact hpA H 0 rfl rfl | exact Hp.cell H 0 rfl rfl | exact hpB H 0 rfl rfl | exact hpC H 0 rfl rfl) ?_ | with_reducible refine ldB_of (by with_unfolding_all first | exact hpA H 0 rfl rfl | exact Hp.cell H 0 rfl rfl | exact hpB H 0 rfl rfl | exact hpC H 0 rfl rfl) ?_ | with_reducible refine ldT_of (by with_unfolding_all first | exact hpA H 0 rfl rfl | exact Hp.cell H 0 rfl rfl | exact hpB H 0 rfl rfl | exact hpC H 0 rfl rfl) ?_ | with_reducible refine stA H 0 (by with_unfolding_all exact rfl) (by with_unfolding_all exact rfl) (by with_unfolding_all exact rfl) fun h H => ?_ | with_reducible refine st0 H 0 (by with_unfolding_all exact rfl) (by with_unfolding_all exact rfl) (by with_unfolding_all exact rfl) fun h H => ?_ | with_reducible refine stB H 0 (by with_unfolding_all exact rfl) (by with_unfolding_all exact rfl) (by with_unfolding_all exact rfl) fun h H => ?_
  exact hk _ H.hext

set_option maxRecDepth 100000 in
set_option maxHeartbeats 2000000 in
theorem gput_ok {h0 h : Heap} {FF : List Nat} {p q r m NN : Nat} {s : Cod} {rest : List Value} {Ok : Nat → Cod → Prop} {step : Cod → Nat → Bool → (Bool × Cod) ⊕ (Int × Cod)} (H : Hp h0 FF h (codL p q r s rest)) (hm : s.st.length = m) (hm2 : m ≤ 131072) {base template : Int}
    {w b : Int} {q1 : Option Addr} {c1 : Nat} {ws : List Nat} {skip : Bool} (hr1 : ∀ h', hext h h' → rdO h' q1 (ws.length * 1) (u64s ws)) (hw1 : W64 ws) (hl1 : ws.length < 140737488351300)
    (hdec : MayP w b ws → 0 ≤ base ∧ base ≤ 131072 → DecOkI NN base (codS p q) Ok step (fvC p)) (hok : Ok 0 s) (hNN : MayP w b ws → b.toNat * (w.toNat + 1) ≤ NN) {K : Value → Heap → Prop} {Kp : List PanicEntry → Heap → Prop}
    (hk60 : ∀ h', ¬ (0 ≤ template ∧ template < 4) → Hp h0 FF h' (codL p q r s rest) → K (.int .i64 60) h')
    (hk62 : ∀ h', (0 ≤ template ∧ template < 4) → ¬ MayP w b ws → Hp h0 FF h' (codL p q r s rest) → K (.int .i64 62) h')
    (hk51 : ∀ h', (0 ≤ template ∧ template < 4) → MayP w b ws → ¬ (0 ≤ base ∧ base ≤ (m : Int) - ((gsize template.toNat : Nat) + 1)) → Hp h0 FF h' (codL p q r s rest) → K (.int .i64 51) h')
    (hk0 : ∀ G s' k r' rest' h', (0 ≤ template ∧ template < 4) → MayP w b ws → (0 ≤ base ∧ base ≤ (m : Int) - ((gsize template.toNat : Nat) + 1)) → runG w.toNat template.toNat skip step b.toNat (getP ws w.toNat b.toNat, s) = .inl (G, s') → k ≤ b.toNat * (w.toNat + 1) → Ok k s' →
      Hp h0 FF h' (codL p q r' s' rest') → K (.int .i64 0) h')
    (hke : ∀ e s' k r' rest' h', (0 ≤ template ∧ template < 4) → MayP w b ws → (0 ≤ base ∧ base ≤ (m : Int) - ((gsize template.toNat : Nat) + 1)) → runG w.toNat template.toNat skip step b.toNat (getP ws w.toNat b.toNat, s) = .inr (e, s') → k ≤ NN → Ok k s' →
      Hp h0 FF h' (codL p q r' s' rest') → K (.int .i64 e) h') :
    CP F_generic_Put #[.pointer (at0 p), .int .i64 base, .agg #[.int .i64 w, .int .i64 b, .slice q1 ws.length c1], .int .i64 template, .bool skip] h K Kp := by
  refine call_generic_Put ?_
  unfold generic_Put
  have HC := H
  clear H
  have H := Hp.nil h []
  refine newC_hp H fun r4 h H => ?_
  refine bcase_false (by rfl) ?_
  refine csize_ok (fun t ht et h2 e2 => ?_) fun hn h2 e2 => ?_
  · have H := H.ext e2
    clear e2
    subst et
    have htt : 0 ≤ ((t : Nat) : Int) ∧ ((t : Nat) : Int) < 4 := by omega
    simp only [Int.toNat_natCast] at hk51 hk0 hke
    have hgs := gsize_le ht
    refine ⟨_, _, rfl, ?_⟩
    refine newC_hp H fun r10 h H => ?_
    repeat first | with_reducible refine stA H 0 (by with_unfolding_all exact rfl) (by with_unfolding_all exact rfl) (by with_unfolding_all exact rfl) fun h H => ?_ | with_reducible refine stA H 1 (by with_unfolding_all exact rfl) (by with_unfolding_all exact rfl) (by with_unfolding_all exact rfl) fun h H => ?_ | with_reducible refine st0 H 0 (by with_unfolding_all exact rfl) (by with_unfolding_all exact rfl) (by with_unfolding_all exact rfl) fun h H => ?_ | with_reducible refine st0 H 1 (by with_unfolding_all exact rfl) (by with_unfolding_all exact rfl) (by with_unfolding_all exact rfl) fun h H => ?_ | with_reducible refine stB H 0 (by with_unfolding_all exact rfl) (by with_unfolding_all exact rfl) (by with_unfolding_all exact rfl) fun h H => ?_ | with_reducible refine stB H 1 (by with_unfolding_all exact rfl) (by with_unfolding_all exact rfl) (by with_unfolding_all exact rfl) fun h H => ?_
    refine bcase_false (by rfl) ?_
    repeat first | with_reducible refine ldI_of (by with_unfolding_all first | exact hpA H 0 rfl rfl | exact hpA H 1 rfl rfl | exact Hp.cell H 0 rfl rfl | exact Hp.cell H 1 rfl rfl | exact hpB H 0 rfl rfl | exact hpB H 1 rfl rfl | exact hpC H 0 rfl rfl | exact hpC H 1 rfl rfl) ?_ | with_reducible refine ldS_of (by with_unfolding_all first | exact hpA H 0 rfl rfl | exact hpA H 1 rfl rfl | exact Hp.cell H 0 rfl rfl | exact Hp.cell H 1 rfl rfl | exact hpB H 0 rfl rfl | exact hpB H 1 rfl rfl | exact hpC H 0 rfl rfl | exact hpC H 1 rfl rfl) ?_ | with_reducible refine ldP_of (by with_unfolding_all first | exact hpA H 0 rfl rfl | exact hpA H 1 rfl rfl | exact Hp.cell H 0 rfl rfl | exact Hp.cell H 1 rfl rfl | exact hpB H 0 rfl rfl | exact hpB H 1 rfl rfl | exact hpC H 0 rfl rfl | exact hpC H 1 rfl rfl) ?_ | with_reducible refine ldB_of (by with_unfolding_all first | exact hpA H 0 rfl rfl | exact hpA H 1 rfl rfl | exact Hp.cell H 0 rfl rfl | exact Hp.cell H 1 rfl rfl | exact hpB H 0 rfl rfl | exact hpB H 1 rfl rfl | exact hpC H 0 rfl rfl | exact hpC H 1 rfl rfl) ?_ | with_reducible refine ldT_of (by with_unfolding_all first | exact hpA H 0 rfl rfl | exact hpA H 1 rfl rfl | exact Hp.cell H 0 rfl rfl | exact Hp.cell H 1 rfl rfl | exact hpB H 0 rfl rfl | exact hpB H 1 rfl rfl | exact hpC H 0 rfl rfl | exact hpC H 1 rfl rfl) ?_
    refine from_ok (hr1 _ H.hext) hw1 hl1 (fun W X pm qm mrest h5 hwW hbX hmay H' => ?_) fun h5 hmay e5 => ?_
    · subst hwW hbX
      have H := H.join H' rfl
      clear H'
      refine ⟨_, _, rfl, ?_⟩
      refine bcase_false (by rfl) ?_
      refine ptr_of (a := ⟨p, 0, none⟩) ?_
      repeat first | with_reducible refine ldI_of (by with_unfolding_all first | exact hpA H 0 rfl rfl | exact hpA H 1 rfl rfl | exact Hp.cell H 0 rfl rfl | exact Hp.cell H 1 rfl rfl | exact hpB H 0 rfl rfl | exact hpB H 1 rfl rfl | exact hpC H 0 rfl rfl | exact hpC H 1 rfl rfl) ?_ | with_reducible refine ldS_of (by with_unfolding_all first | exact hpA H 0 rfl rfl | exact hpA H 1 rfl rfl | exact Hp.cell H 0 rfl rfl | exact Hp.cell H 1 rfl rfl | exact hpB H 0 rfl rfl | exact hpB H 1 rfl rfl | exact hpC H 0 rfl rfl | exact hpC H 1 rfl rfl) ?_ | with_reducible refine ldP_of (by with_unfolding_all first | exact hpA H 0 rfl rfl | exact hpA H 1 rfl rfl | exact Hp.cell H 0 rfl rfl | exact Hp.cell H 1 rfl rfl | exact hpB H 0 rfl rfl | exact hpB H 1 rfl rfl | exact hpC H 0 rfl rfl | exact hpC H 1 rfl rfl) ?_ | with_reducible refine ldB_of (by with_unfolding_all first | exact hpA H 0 rfl rfl | exact hpA H 1 rfl rfl | exact Hp.cell H 0 rfl rfl | exact Hp.cell H 1 rfl rfl | exact hpB H 0 rfl rfl | exact hpB H 1 rfl rfl | exact hpC H 0 rfl rfl | exact hpC H 1 rfl rfl) ?_ | with_reducible refine ldT_of (by with_unfolding_all first | exact hpA H 0 rfl rfl | exact hpA H 1 rfl rfl | exact Hp.cell H 0 rfl rfl | exact Hp.cell H 1 rfl rfl | exact hpB H 0 rfl rfl | exact hpB H 1 rfl rfl | exact hpC H 0 rfl rfl | exact hpC H 1 rfl rfl) ?_
      refine bindI_of (((gsize t + 1 : Nat) : Int)) (by exact i64_at _ _ (by omega) (by omega) (by omega)) ?_
      refine Go.Ar.contexts_ok (n := s.st.length) (HC.ext H.hext) 0 rfl ?_
      refine ⟨_, rfl, hext.refl _, ?_⟩
      rw [hm]
      refine gfits_ok (by omega) (by omega) fun bf hbf => ?_
      refine ⟨_, rfl, ?_⟩
      refine bcase_not (fun h2 => ?_) fun h2 => ?_
      · exact hk51 _ htt hmay (fun hh => by rw [hbf.2 (by omega)] at h2; cases h2) (HC.ext H.hext)
      have hft := hbf.1 h2
      have hft2 : 0 ≤ base ∧ base ≤ (m : Int) - ((gsize t : Nat) + 1) := by omega
      refine newC_hp H fun r29 h H => ?_
      refine newC_hp H fun r31 h H => ?_
      repeat first | with_reducible refine stA H 5 (by with_unfolding_all exact rfl) (by with_unfolding_all exact rfl) (by with_unfolding_all exact rfl) fun h H => ?_ | with_reducible refine st0 H 5 (by with_unfolding_all exact rfl) (by with_unfolding_all exact rfl) (by with_unfolding_all exact rfl) fun h H => ?_ | with_reducible refine stB H 5 (by with_unfolding_all exact rfl) (by with_unfolding_all exact rfl) (by with_unfolding_all exact rfl) fun h H => ?_
      have H := (HC.join H rfl).pick [8, 4, 7, 5, 6, 0, 1, 2] (by decide) (L' := [⟨r31, true, T_p_generic_procedure, [.pointer (some ⟨r29, 0, none⟩)]⟩, ⟨r10, true, T_int, [.int .i64 (gsize t : Nat)]⟩, procE r29 pm (fvC p) base t skip, mapE pm qm W X ws.length (ws.length + mrest.length), ⟨qm, true, T_uint64, u64s ws ++ mrest⟩] ++ codL p q r s rest) rfl
      obtain ⟨W', X', e1, e2, hW1, hW2, hX1, hX2, hWX⟩ := size_nat hmay.1
      obtain rfl : W = W' := by omega
      obtain rfl : X = X' := by omega
      clear e1 e2
      have hNN' := hNN hmay
      simp only [Int.toNat_natCast] at hNN' hk0 hke
      refine caught_ok (fun L2 => ∃ G s' k r' rest' ws', runG W t skip step X (getP ws W X, s) = .inl (G, s') ∧ k ≤ X * (W + 1) ∧ Ok k s' ∧ L2 = [⟨r31, true, T_p_generic_procedure, [.pointer (some ⟨r29, 0, none⟩)]⟩, ⟨r10, true, T_int, [.int .i64 (gsize t : Nat)]⟩, procE r29 pm (fvC p) base t skip, mapE pm qm W X ws.length (ws.length + mrest.length), ⟨qm, true, T_uint64, u64s ws' ++ mrest⟩] ++ codL p q r' s' rest')
        (fun e L2 => ∃ s' k r' rest' ws', runG W t skip step X (getP ws W X, s) = .inr (e, s') ∧ k ≤ NN ∧ Ok k s' ∧ L2 = [⟨r31, true, T_p_generic_procedure, [.pointer (some ⟨r29, 0, none⟩)]⟩, ⟨r10, true, T_int, [.int .i64 (gsize t : Nat)]⟩, procE r29 pm (fvC p) base t skip, mapE pm qm W X ws.length (ws.length + mrest.length), ⟨qm, true, T_uint64, u64s ws' ++ mrest⟩] ++ codL p q r' s' rest')
        H (fun {r1 h1 K1 Kp1} H hK hKp => ?_) (fun h' L' hp H => ?_) fun e h' L' hp H => ?_
      · show CP F_generic_Put_c1 #[.pointer (some ⟨r31, 0, none⟩), .pointer (some ⟨r10, 0, none⟩)] h1 K1 Kp1
        refine call_generic_Put_c1 (cap0 := ⟨r31, 0, none⟩) (cap1 := ⟨r10, 0, none⟩) ?_
        unfold generic_Put_c1
        refine ldP_of (H.cell 1 rfl rfl) (ldI_of (H.cell 2 rfl rfl) ?_)
        have HG : Hp h1 _ h1 ([procE r29 pm (fvC p) base t skip, mapE pm qm W X ws.length (ws.length + mrest.length), ⟨qm, true, T_uint64, u64s ws ++ mrest⟩] ++ codL p q r s rest) := H.give [3, 4, 5, 6, 7, 8] (by decide) rfl
        refine grun_ok (S := codS p q) (NN := NN) codS.w (hdec hmay ⟨by omega, by omega⟩) ⟨by omega, by omega⟩ ht ⟨r, rest, rfl⟩ HG rfl rfl hmay.1 (may_len hmay) hw1 (fun y hy x h1 h2 => pix_of_may hmay hy h1 h2) hok hNN' (fun ws' s' M h' k hM hrun hl' hw' hz' hk hok' H' => ?_) fun e ws' s' M h' k hM hrun hl' hk hok' H' => ?_
        · obtain ⟨r', rest', rfl⟩ := hM
          have H := H.put [3, 4, 5, 6, 7, 8] (by decide) rfl rfl H' rfl rfl
          exact hK h' _ ⟨_, s', k, r', rest', ws', hrun, hk, hok', rfl⟩ H
        · obtain ⟨r', rest', rfl⟩ := hM
          have H := H.put [3, 4, 5, 6, 7, 8] (by decide) rfl rfl H' rfl rfl
          exact hKp e h' _ ⟨s', k, r', rest', ws', hrun, hk, hok', rfl⟩ H
      · obtain ⟨G, s', k, r', rest', ws', hrun, hk, hok', rfl⟩ := hp
        refine ⟨_, rfl, ?_⟩
        exact hk0 G s' k r' rest' h' htt hmay hft2 hrun hk hok' (Hp.suf H)
      · obtain ⟨s', k, r', rest', ws', hrun, hk, hok', rfl⟩ := hp
        refine ⟨_, rfl, ?_⟩
        exact hke e s' k r' rest' h' htt hmay hft2 hrun hk hok' (Hp.suf H)
    · have H := H.ext e5
      refine ⟨_, _, rfl, ?_⟩
      refine bcase_true (by rfl) ?_
      exact hk62 _ htt hmay (HC.ext H.hext)
  · have H := H.ext e2
    refine ⟨_, _, rfl, ?_⟩
    refine newC_hp H fun r10 h H => ?_
    repeat first | with_reducible refine stA H 0 (by with_unfolding_all exact rfl) (by with_unfolding_all exact rfl) (by with_unfolding_all exact rfl) fun h H => ?_ | with_reducible refine stA H 1 (by with_unfolding_all exact rfl) (by with_unfolding_all exact rfl) (by with_unfolding_all exact rfl) fun h H => ?_ | with_reducible refine st0 H 0 (by with_unfolding_all exact rfl) (by with_unfolding_all exact rfl) (by with_unfolding_all exact rfl) fun h H => ?_ | with_reducible refine st0 H 1 (by with_unfolding_all exact rfl) (by with_unfolding_all exact rfl) (by with_unfolding_all exact rfl) fun h H => ?_ | with_reducible refine stB H 0 (by with_unfolding_all exact rfl) (by with_unfolding_all exact rfl) (by with_unfolding_all exact rfl) fun h H => ?_ | with_reducible refine stB H 1 (by with_unfolding_all exact rfl) (by with_unfolding_all exact rfl) (by with_unfolding_all exact rfl) fun h H => ?_
    refine bcase_true (by rfl) ?_
    exact hk60 _ hn (HC.ext H.hext)
end Go.Bm

/- GnF: generic.Get, Encode, Decode. -/
set_option linter.unusedVariables false
set_option linter.unusedSimpArgs false
namespace Go.Bm
open Go Go.Den Go.Den.Yteakipgcanafoaa
open Go.Ar (Cod CodOk Dec codL decL BOk idx putM_ok getD_ok getD_bit newC newC_ok newD newD_ok flushM bytesM u8s)

section
variable {σ : Type} {step : σ → Nat → Bool → (Bool × σ) ⊕ (Int × σ)}
theorem rowG_inl (h : ∀ s n b, ∃ r, step s n b = .inl r) (t y : Nat) (g : (Int → Int → Bool) × σ) : ∀ k, ∃ g', rowG t step y k g = .inl g'
  | 0 => ⟨_, rfl⟩
  | k + 1 => by
    obtain ⟨⟨G, s⟩, hg⟩ := rowG_inl h t y g k
    obtain ⟨⟨b, s'⟩, hr⟩ := h s (gctx t G (k : Int) (y : Int)) (G (k : Int) (y : Int))
    unfold rowG
    rw [hg]
    simp only [hr]
    exact ⟨_, rfl⟩
theorem runG_inl (h : ∀ s n b, ∃ r, step s n b = .inl r) (W t : Nat) (skip : Bool) (g : (Int → Int → Bool) × σ) : ∀ y, ∃ g', runG W t skip step y g = .inl g'
  | 0 => ⟨_, rfl⟩
  | y + 1 => by
    obtain ⟨⟨G, s⟩, hg⟩ := runG_inl h W t skip g y
    unfold runG
    rw [hg]
    cases skip with
    | false => exact rowG_inl h t y (G, s) W
    | true =>
      obtain ⟨⟨b, s'⟩, hr⟩ := h s (gsize t) (sameB G W y)
      simp only [hr]
      cases b with
      | true => exact ⟨_, rfl⟩
      | false => exact rowG_inl h t y (G, s') W
end
def GGetR (bytes : List Nat) (m n0 : Nat) (base w b template : Int) (skip : Bool) (s : Dec) (e w' b' : Int) (bs : List Nat) (s' : Dec) : Prop :=
  ¬ (0 ≤ template ∧ template < 4) ∧ e = 60 ∧ w' = 0 ∧ b' = 0 ∧ bs = [] ∧ s' = s ∨
  (0 ≤ template ∧ template < 4) ∧ ¬ SizeP w b ∧ e = 63 ∧ w' = 0 ∧ b' = 0 ∧ bs = [] ∧ s' = s ∨
  (0 ≤ template ∧ template < 4) ∧ SizeP w b ∧ ¬ (0 ≤ base ∧ base ≤ (m : Int) - ((gsize template.toNat : Nat) + 1)) ∧ e = 51 ∧ w' = 0 ∧ b' = 0 ∧ bs = [] ∧ s' = s ∨
  (0 ≤ template ∧ template < 4) ∧ SizeP w b ∧ (0 ≤ base ∧ base ≤ (m : Int) - ((gsize template.toNat : Nat) + 1)) ∧ e = 0 ∧ w' = w ∧ b' = b ∧ runG w.toNat template.toNat skip (stepG m base) b.toNat (fun _ _ => false, s) = .inl (getP bs w.toNat b.toNat, s') ∧
    bs.length = b.toNat * wds w.toNat ∧ W64 bs ∧ PadZ w.toNat b.toNat bs ∧ ∃ k, k ≤ b.toNat * (w.toNat + 1) ∧ Go.Ar.DecOk bytes m (n0 + k) s'

set_option maxRecDepth 100000 in
set_option maxHeartbeats 2000000 in
theorem gget_ok {h0 hA : Heap} {FF : List Nat} {p q m n0 : Nat} {e0 : Ent} {bp : Option Addr} {bc : Nat} {s : Dec} {bytes : List Nat} (HC : Hp h0 FF hA (decL p q e0 bp bc s)) (hb : BOk e0 bp s.b) (hbl : bytes.length < 140737488351300) (hc : Go.Ar.DecOk bytes m n0 s) (hm1 : 1 ≤ m) (hm2 : m ≤ 131072) {base w b template : Int} {skip : Bool}
    (hN : SizeP w b → n0 + b.toNat * (w.toNat + 1) ≤ 16777216) {K : Value → Heap → Prop} {Kp : List PanicEntry → Heap → Prop}
    (hk : ∀ e w' b' bs s' D qo c h', GGetR bytes m n0 base w b template skip s e w' b' bs s' → Slot T_uint64 1 D qo bs.length c (u64s bs) → Hp h0 FF h' (decL p q e0 bp bc s' ++ D) → K (.tuple #[.agg #[.int .i64 w', .int .i64 b', .slice qo bs.length c], .int .i64 e]) h') :
    CP F_generic_Get #[.pointer (at0 p), .int .i64 base, .int .i64 w, .int .i64 b, .int .i64 template, .bool skip] hA K Kp := by
  refine call_generic_Get ?_
  unfold generic_Get
  have hew := hb.1
  have H := Hp.nil hA []
  refine newC_hp H fun r1 h H => ?_
  refine bcase_false (by rfl) ?_
  have bad : ∀ (e : Int) (h' : Heap) (T : List Ent), hext hA h' → (∀ h', hext hA h' → K (.tuple #[.agg #[.int .i64 0, .int .i64 0, .slice none 0 0], .int .i64 e]) h') → Hp hA [] h' ([⟨r1, true, T_api_Bitmap, [.int .i64 0, .int .i64 0, .slice none 0 0]⟩] ++ T) →
      stV h' ((⟨r1, 0, none⟩ : Addr).add 0) (.int .i64 0) fun h_13 => stV h_13 ((⟨r1, 0, none⟩ : Addr).add 1) (.int .i64 0) fun h_14 => stV h_14 ((⟨r1, 0, none⟩ : Addr).add 2) (.slice none 0 0) fun h_15 =>
        ldI h_15 ((⟨r1, 0, none⟩ : Addr).add 0) .i64 fun r_16 => ldI h_15 ((⟨r1, 0, none⟩ : Addr).add 1) .i64 fun r_17 => ldS h_15 ((⟨r1, 0, none⟩ : Addr).add 2) fun r_18 r_18n r_18c =>
          K (.tuple #[.agg #[.int .i64 r_16, .int .i64 r_17, .slice r_18 r_18n r_18c], .int .i64 e]) h_15 := fun e h' T _ hk H => by
    repeat first | with_reducible refine ldI_of (by with_unfolding_all first | exact hpA H 0 rfl rfl | exact Hp.cell H 0 rfl rfl | exact hpB H 0 rfl rfl | exact hpC H 0 rfl rfl) ?_ | with_reducible refine ldS_of (by with_unfolding_all first | exact hpA H 0 rfl rfl | exact Hp.cell H 0 rfl rfl | exact hpB H 0 rfl rfl | exact hpC H 0 rfl rfl) ?_ | with_reducible refine ldP_of (by with_unfolding_all first | exact hpA H 0 rfl rfl | exact Hp.cell H 0 rfl rfl | exact hpB H 0 rfl rfl | exact hpC H 0 rfl rfl) ?_ | with_reducible refine ldB_of (by with_unfolding_all first | exact hpA H 0 rfl rfl | exact Hp.cell H 0 rfl rfl | exact hpB H 0 rfl rfl | exact hpC H 0 rfl rfl) ?_ | with_reducible refine ldT_of (by with_unfolding_all first | exact hpA H 0 rfl rfl | exact Hp.cell H 0 rfl rfl | exact hpB H 0 rfl rfl | exact hpC H 0 rfl rfl) ?_ | with_reducible refine stA H 0 (by with_unfolding_all exact rfl) (by with_unfolding_all exact rfl) (by with_unfolding_all exact rfl) fun h H => ?_ | with_reducible refine st0 H 0 (by with_unfolding_all exact rfl) (by with_unfolding_all exact rfl) (by with_unfolding_all exact rfl) fun h H => ?_ | with_reducible refine stB H 0 (by with_unfolding_all exact rfl) (by with_unfolding_all exact rfl) (by with_unfolding_all exact rfl) fun h H => ?_
    exact hk _ H.hext
  refine csize_ok (fun t ht et h2 e2 => ?_) fun hn h2 e2 => ?_
  · have H := H.ext e2
    clear e2
    subst et
    have htt : 0 ≤ ((t : Nat) : Int) ∧ ((t : Nat) : Int) < 4 := by omega
    have hgs := gsize_le ht
    refine ⟨_, _, rfl, ?_⟩
    refine newC_hp H fun r13 h H => ?_
    repeat first | with_reducible refine stA H 0 (by with_unfolding_all exact rfl) (by with_unfolding_all exact rfl) (by with_unfolding_all exact rfl) fun h H => ?_ | with_reducible refine stA H 1 (by with_unfolding_all exact rfl) (by with_unfolding_all exact rfl) (by with_unfolding_all exact rfl) fun h H => ?_ | with_reducible refine st0 H 0 (by with_unfolding_all exact rfl) (by with_unfolding_all exact rfl) (by with_unfolding_all exact rfl) fun h H => ?_ | with_reducible refine st0 H 1 (by with_unfolding_all exact rfl) (by with_unfolding_all exact rfl) (by with_unfolding_all exact rfl) fun h H => ?_ | with_reducible refine stB H 0 (by with_unfolding_all exact rfl) (by with_unfolding_all exact rfl) (by with_unfolding_all exact rfl) fun h H => ?_ | with_reducible refine stB H 1 (by with_unfolding_all exact rfl) (by with_unfolding_all exact rfl) (by with_unfolding_all exact rfl) fun h H => ?_
    refine bcase_false (by rfl) ?_
    refine newM_ok (fun W X pm qm h5 hwW hbX hsz H' => ?_) fun hns => ?_
    · subst hwW hbX
      have H2 := H'
      unfold mapL at H2
      rw [List.length_replicate] at H2
      clear H'
      have H := H.join H2 rfl
      clear H2
      refine ⟨_, _, rfl, ?_⟩
      refine bcase_false (by rfl) ?_
      refine ptr_of (a := ⟨p, 0, none⟩) ?_
      repeat first | with_reducible refine ldI_of (by with_unfolding_all first | exact hpA H 0 rfl rfl | exact hpA H 1 rfl rfl | exact Hp.cell H 0 rfl rfl | exact Hp.cell H 1 rfl rfl | exact hpB H 0 rfl rfl | exact hpB H 1 rfl rfl | exact hpC H 0 rfl rfl | exact hpC H 1 rfl rfl) ?_ | with_reducible refine ldS_of (by with_unfolding_all first | exact hpA H 0 rfl rfl | exact hpA H 1 rfl rfl | exact Hp.cell H 0 rfl rfl | exact Hp.cell H 1 rfl rfl | exact hpB H 0 rfl rfl | exact hpB H 1 rfl rfl | exact hpC H 0 rfl rfl | exact hpC H 1 rfl rfl) ?_ | with_reducible refine ldP_of (by with_unfolding_all first | exact hpA H 0 rfl rfl | exact hpA H 1 rfl rfl | exact Hp.cell H 0 rfl rfl | exact Hp.cell H 1 rfl rfl | exact hpB H 0 rfl rfl | exact hpB H 1 rfl rfl | exact hpC H 0 rfl rfl | exact hpC H 1 rfl rfl) ?_ | with_reducible refine ldB_of (by with_unfolding_all first | exact hpA H 0 rfl rfl | exact hpA H 1 rfl rfl | exact Hp.cell H 0 rfl rfl | exact Hp.cell H 1 rfl rfl | exact hpB H 0 rfl rfl | exact hpB H 1 rfl rfl | exact hpC H 0 rfl rfl | exact hpC H 1 rfl rfl) ?_ | with_reducible refine ldT_of (by with_unfolding_all first | exact hpA H 0 rfl rfl | exact hpA H 1 rfl rfl | exact Hp.cell H 0 rfl rfl | exact Hp.cell H 1 rfl rfl | exact hpB H 0 rfl rfl | exact hpB H 1 rfl rfl | exact hpC H 0 rfl rfl | exact hpC H 1 rfl rfl) ?_
      refine bindI_of (((gsize t + 1 : Nat) : Int)) (by exact i64_at _ _ (by omega) (by omega) (by omega)) ?_
      refine Go.Ar.contexts_ok (n := s.st.length) (HC.ext H.hext) 0 rfl ?_
      refine ⟨_, rfl, hext.refl _, ?_⟩
      rw [hc.len]
      refine gfits_ok (by omega) (by omega) fun bf hbf => ?_
      refine ⟨_, rfl, ?_⟩
      refine bcase_not (fun h2 => ?_) fun h2 => ?_
      · exact bad 51 _ _ H.hext (fun h' e' => hk 51 0 0 [] s [] none 0 h' (.inr (.inr (.inl ⟨htt, hsz, (fun hh => by rw [hbf.2 (by simp only [Int.toNat_natCast] at hh; omega)] at h2; cases h2), rfl, rfl, rfl, rfl, rfl⟩))) (Slot.nil _ _) ((HC.ext e').as (List.append_nil _).symm)) H
      have hft := hbf.1 h2
      have hft2 : 0 ≤ base ∧ base ≤ (m : Int) - ((gsize t : Nat) + 1) := by omega
      refine newC_hp H fun r47 h H => ?_
      refine newC_hp H fun r49 h H => ?_
      repeat first | with_reducible refine stA H 5 (by with_unfolding_all exact rfl) (by with_unfolding_all exact rfl) (by with_unfolding_all exact rfl) fun h H => ?_ | with_reducible refine st0 H 5 (by with_unfolding_all exact rfl) (by with_unfolding_all exact rfl) (by with_unfolding_all exact rfl) fun h H => ?_ | with_reducible refine stB H 5 (by with_unfolding_all exact rfl) (by with_unfolding_all exact rfl) (by with_unfolding_all exact rfl) fun h H => ?_
      have H := (HC.join H rfl).pick [8, 4, 7, 5, 6, 0, 1, 2, 3] (by decide) (L' := [⟨r49, true, T_p_generic_procedure, [.pointer (some ⟨r47, 0, none⟩)]⟩, ⟨r13, true, T_int, [.int .i64 (gsize t : Nat)]⟩, procE r47 pm (fvD p) base t skip, mapE pm qm W X (X * wds W) (X * wds W), ⟨qm, true, T_uint64, u64s (List.replicate (X * wds W) 0) ++ []⟩] ++ decL p q e0 bp bc s ++ [⟨r1, true, T_api_Bitmap, [.int .i64 0, .int .i64 0, .slice none 0 0]⟩]) rfl
      obtain ⟨W', X', e1, e2, hW1, hW2, hX1, hX2, hWX⟩ := size_nat hsz
      obtain rfl : W = W' := by omega
      obtain rfl : X = X' := by omega
      clear e1 e2
      have hN' := hN hsz
      simp only [Int.toNat_natCast] at hN'
      have hrl : (List.replicate (X * wds W) 0).length = X * wds W := List.length_replicate
      refine caught_ok (fun L2 => ∃ s' k ws', runG W t skip (stepG m base) X (fun _ _ => false, s) = .inl (getP ws' W X, s') ∧ ws'.length = X * wds W ∧ W64 ws' ∧ PadZ W X ws' ∧ k ≤ X * (W + 1) ∧ Go.Ar.DecOk bytes m (n0 + k) s' ∧ BOk e0 bp s'.b ∧ L2 = [⟨r49, true, T_p_generic_procedure, [.pointer (some ⟨r47, 0, none⟩)]⟩, ⟨r13, true, T_int, [.int .i64 (gsize t : Nat)]⟩, procE r47 pm (fvD p) base t skip, mapE pm qm W X (X * wds W) (X * wds W), ⟨qm, true, T_uint64, u64s ws' ++ []⟩] ++ decL p q e0 bp bc s' ++ [⟨r1, true, T_api_Bitmap, [.int .i64 0, .int .i64 0, .slice none 0 0]⟩])
        (fun e L2 => False) H (fun {r1' h1 K1 Kp1} H hK hKp => ?_) (fun h' L' hp H => ?_) fun e h' L' hp H => hp.elim
      · show CP F_generic_Get_c1 #[.pointer (some ⟨r49, 0, none⟩), .pointer (some ⟨r13, 0, none⟩)] h1 K1 Kp1
        refine call_generic_Get_c1 (cap0 := ⟨r49, 0, none⟩) (cap1 := ⟨r13, 0, none⟩) ?_
        unfold generic_Get_c1
        refine ldP_of (H.cell 1 rfl rfl) (ldI_of (H.cell 2 rfl rfl) ?_)
        have HG : Hp h1 _ h1 ([procE r47 pm (fvD p) base t skip, mapE pm qm W X (X * wds W) (X * wds W), ⟨qm, true, T_uint64, u64s (List.replicate (X * wds W) 0) ++ []⟩] ++ decL p q e0 bp bc s) := H.give [3, 4, 5, 6, 7, 8] (by decide) rfl
        refine grun_ok (S := decS p q e0 bp bc) (NN := X * (W + 1)) (Ok := fun k s => Go.Ar.DecOk bytes m (n0 + k) s) decS.w (decI_ok hbl ⟨by omega, by omega⟩ hm1 hm2 hN') ⟨by omega, by omega⟩ ht ⟨hb, rfl⟩ HG hrl (by simp) hsz rfl (W64.zero _) (fun y hy x h1 h2 => pix_zero _ _ _ _) hc (Nat.le_refl _) (fun ws' s' M h' k hM hrun hl' hw' hz' hk' hok' H' => ?_) fun e ws' s' M h' k hM hrun hl' hk' hok' H' => ?_
        · obtain ⟨hb', rfl⟩ := hM
          have H := H.put [3, 4, 5, 6, 7, 8] (by decide) rfl (by simp [decL, Go.Ar.decE, hew, procE, mapE]) H' (by simp [decL, Go.Ar.decE, hew, procE, mapE]) rfl
          rw [getP_zero] at hrun
          exact hK h' _ ⟨s', k, ws', hrun, hl', hw', hz', hk', hok', hb', rfl⟩ H
        · obtain ⟨g', hg'⟩ := runG_inl (step := stepG m base) (fun s n b => ⟨_, rfl⟩) W t skip (getP (List.replicate (X * wds W) 0) W X, s) X
          rw [hg'] at hrun
          cases hrun
      · obtain ⟨s', k, ws', hrun, hl', hw', hz', hk', hok', hb', rfl⟩ := hp
        refine ⟨_, rfl, ?_⟩
        refine bcase_false (by rfl) ?_
        have hhw := hw_le hW1 hWX
        have hpos : 1 ≤ X * wds W := Nat.mul_pos hX1 (by unfold wds; omega)
        refine plain_ok (ws := ws') (rest := []) H 3 4 (by rw [hl']; rfl) rfl (by omega) (by omega) fun o orest h' H => ?_
        refine ⟨_, _, _, _, _, rfl, ?_⟩
        repeat first | with_reducible refine stA H 8 (by with_unfolding_all exact rfl) (by with_unfolding_all exact rfl) (by with_unfolding_all exact rfl) fun h H => ?_ | with_reducible refine st0 H 8 (by with_unfolding_all exact rfl) (by with_unfolding_all exact rfl) (by with_unfolding_all exact rfl) fun h H => ?_ | with_reducible refine stB H 8 (by with_unfolding_all exact rfl) (by with_unfolding_all exact rfl) (by with_unfolding_all exact rfl) fun h H => ?_
        repeat first | with_reducible refine ldI_of (by with_unfolding_all first | exact hpA H 8 rfl rfl | exact Hp.cell H 8 rfl rfl | exact hpB H 8 rfl rfl | exact hpC H 8 rfl rfl) ?_ | with_reducible refine ldS_of (by with_unfolding_all first | exact hpA H 8 rfl rfl | exact Hp.cell H 8 rfl rfl | exact hpB H 8 rfl rfl | exact hpC H 8 rfl rfl) ?_ | with_reducible refine ldP_of (by with_unfolding_all first | exact hpA H 8 rfl rfl | exact Hp.cell H 8 rfl rfl | exact hpB H 8 rfl rfl | exact hpC H 8 rfl rfl) ?_ | with_reducible refine ldB_of (by with_unfolding_all first | exact hpA H 8 rfl rfl | exact Hp.cell H 8 rfl rfl | exact hpB H 8 rfl rfl | exact hpC H 8 rfl rfl) ?_ | with_reducible refine ldT_of (by with_unfolding_all first | exact hpA H 8 rfl rfl | exact Hp.cell H 8 rfl rfl | exact hpB H 8 rfl rfl | exact hpC H 8 rfl rfl) ?_
        refine hk 0 _ _ ws' s' [⟨o, true, T_uint64, u64s ws' ++ orest⟩] _ _ h (.inr (.inr (.inr ⟨htt, hsz, hft2, rfl, rfl, rfl, by simpa using hrun, by simpa using hl', hw', by simpa using hz', k, by simpa using hk', hok'⟩))) (Slot.one (by rw [u64s_length, Nat.mul_one]) (by rw [List.length_append, u64s_length, Nat.mul_one])) ?_
        exact H.pick [5, 6, 7, 9] (by decide) rfl
    · refine ⟨_, _, rfl, ?_⟩
      refine bcase_true (by rfl) ?_
      exact bad 63 _ _ H.hext (fun h' e' => hk 63 0 0 [] s [] none 0 h' (.inr (.inl ⟨htt, hns, rfl, rfl, rfl, rfl, rfl⟩)) (Slot.nil _ _) ((HC.ext e').as (List.append_nil _).symm)) H
  · have H := H.ext e2
    refine ⟨_, _, rfl, ?_⟩
    refine newC_hp H fun r13 h H => ?_
    repeat first | with_reducible refine stA H 1 (by with_unfolding_all exact rfl) (by with_unfolding_all exact rfl) (by with_unfolding_all exact rfl) fun h H => ?_ | with_reducible refine st0 H 1 (by with_unfolding_all exact rfl) (by with_unfolding_all exact rfl) (by with_unfolding_all exact rfl) fun h H => ?_ | with_reducible refine stB H 1 (by with_unfolding_all exact rfl) (by with_unfolding_all exact rfl) (by with_unfolding_all exact rfl) fun h H => ?_
    refine bcase_true (by rfl) ?_
    exact bad 60 _ _ H.hext (fun h' e' => hk 60 0 0 [] s [] none 0 h' (.inl ⟨hn, rfl, rfl, rfl, rfl, rfl⟩) (Slot.nil _ _) ((HC.ext e').as (List.append_nil _).symm)) H

def GEncR (w b : Int) (ws : List Nat) (template : Int) (skip : Bool) (e : Int) (bs : List Nat) : Prop :=
  ¬ (0 ≤ template ∧ template < 4) ∧ e = 60 ∧ bs = [] ∨
  (0 ≤ template ∧ template < 4) ∧ ¬ MayP w b ws ∧ e = 62 ∧ bs = [] ∨
  (0 ≤ template ∧ template < 4) ∧ MayP w b ws ∧ e = 0 ∧ ∃ G s' k, runG w.toNat template.toNat skip (stepP (gsize template.toNat + 1) 0) b.toNat (getP ws w.toNat b.toNat, newC (gsize template.toNat + 1)) = .inl (G, s') ∧ k ≤ b.toNat * (w.toNat + 1) ∧ CodOk (gsize template.toNat + 1) k s' ∧ bs = bytesM (flushM s')
theorem size_px1 {w b : Int} (h : SizeP w b) : 0 + b.toNat * (w.toNat + 1) ≤ 16777216 := by
  obtain ⟨W, X, rfl, rfl, hW1, hW2, hX1, hX2, hWX⟩ := size_nat h
  simp only [Int.toNat_natCast]
  rw [Nat.mul_add, Nat.mul_comm]
  omega

section
variable {hB : Heap} {w b template : Int} {skip : Bool} {K : Value → Heap → Prop} {Kp : List PanicEntry → Heap → Prop}
set_option maxRecDepth 100000 in
set_option maxHeartbeats 1000000 in
theorem gEnc_ok {q1 : Option Addr} {c1 : Nat} {ws : List Nat} (hr1 : rdO hB q1 (ws.length * 1) (u64s ws)) (hw1 : W64 ws) (hl1 : ws.length < 140737488351300)
    (hk : ∀ e bs D qo c h', GEncR w b ws template skip e bs → Slot T_uint8 1 D qo bs.length c (u8s bs) → Hp hB [] h' D → K (.tuple #[.slice qo bs.length c, .int .i64 e]) h') :
    CP F_generic_Encode #[.agg #[.int .i64 w, .int .i64 b, .slice q1 ws.length c1], .int .i64 template, .bool skip] hB K Kp := by
  refine call_generic_Encode ?_
  unfold generic_Encode
  have H := Hp.nil hB []
  refine newC_hp H fun r4 h H => ?_
  refine csize_ok (fun t ht et h2 e2 => ?_) fun hn h2 e2 => ?_
  · have H := H.ext e2
    clear e2
    subst et
    have htt : 0 ≤ ((t : Nat) : Int) ∧ ((t : Nat) : Int) < 4 := by omega
    have hgs := gsize_le ht
    refine ⟨_, _, rfl, ?_⟩
    refine bcase_false (by rfl) ?_
    refine bindI_of (((gsize t + 1 : Nat) : Int)) (by exact i64_at _ _ (by omega) (by omega) (by omega)) ?_
    refine Go.Ar.new_ok (n := gsize t + 1) (by omega) (by omega) fun p q r h H' => ?_
    replace H := H.join H' rfl
    clear H'
    refine ⟨_, _, rfl, ?_⟩
    refine bcase_false (by rfl) ?_
    repeat first | with_reducible refine ldI_of (by with_unfolding_all first | exact hpA H 0 rfl rfl | exact Hp.cell H 0 rfl rfl | exact hpB H 0 rfl rfl | exact hpC H 0 rfl rfl) ?_ | with_reducible refine ldS_of (by with_unfolding_all first | exact hpA H 0 rfl rfl | exact Hp.cell H 0 rfl rfl | exact hpB H 0 rfl rfl | exact hpC H 0 rfl rfl) ?_ | with_reducible refine ldP_of (by with_unfolding_all first | exact hpA H 0 rfl rfl | exact Hp.cell H 0 rfl rfl | exact hpB H 0 rfl rfl | exact hpC H 0 rfl rfl) ?_ | with_reducible refine ldB_of (by with_unfolding_all first | exact hpA H 0 rfl rfl | exact Hp.cell H 0 rfl rfl | exact hpB H 0 rfl rfl | exact hpC H 0 rfl rfl) ?_ | with_reducible refine ldT_of (by with_unfolding_all first | exact hpA H 0 rfl rfl | exact Hp.cell H 0 rfl rfl | exact hpB H 0 rfl rfl | exact hpC H 0 rfl rfl) ?_
    refine gput_ok (m := gsize t + 1) (NN := b.toNat * (w.toNat + 1)) (base := 0) (Ok := fun k s => CodOk (gsize t + 1) (0 + k) s) (step := stepP (gsize t + 1) 0) (H.give [1, 2, 3] (by decide) rfl) (newC_ok _).len (by omega) (fun h' e => rdO_ext e (H.rdO hr1)) hw1 hl1 (fun hm hb => codI_ok hb (by omega) (by omega) (size_px1 hm.1)) (newC_ok _) (fun _ => Nat.le_refl _) (fun h' hn H' => absurd htt hn) (fun h' _ hn H' => ?_)
      (fun h' _ hm hn H' => absurd ⟨by omega, by simp only [Int.toNat_natCast]; omega⟩ hn) (fun G s' k r' rest' h' _ hm hf hrun hk' hok' H' => ?_) fun e s' k r' rest' h' _ hm hf hrun hk' hok' H' => ?_
    · refine ⟨_, rfl, ?_⟩
      refine bcase_true (by rfl) ?_
      exact hk 62 [] [] none 0 h' (.inr (.inl ⟨htt, hn, rfl, rfl⟩)) (Slot.nil _ _) ((H.put [1, 2, 3] (by decide) rfl rfl H' rfl rfl).take 0)
    · replace H := H.put [1, 2, 3] (by decide) rfl rfl H' rfl rfl
      clear H'
      rw [Nat.zero_add] at hok'
      refine ⟨_, rfl, ?_⟩
      refine bcase_false (by rfl) ?_
      refine Go.Ar.flush_ok (H.give [1, 2, 3] (by decide) rfl) hok'.wf hok'.done fun r3 rest3 o orest h' H' => ?_
      have H := Go.Bm.Hp.backD H [1, 2, 3] (by decide) rfl rfl H' rfl rfl rfl
      clear H'
      refine ⟨_, _, _, _, rfl, ?_⟩
      refine hk 0 _ [⟨o, true, T_uint8, u8s (bytesM (flushM s')) ++ orest⟩] _ _ h' (.inr (.inr ⟨htt, hm, rfl, G, s', k, hrun, hk', hok', rfl⟩)) (Slot.one (by rw [Go.Ar.u8s_length, Nat.mul_one]) (by rw [List.length_append, Go.Ar.u8s_length, Nat.mul_one])) (Hp.suf H)
    · obtain ⟨g', hg'⟩ := runG_inl (step := stepP (gsize t + 1) 0) (fun s n b => ⟨_, rfl⟩) w.toNat t skip (getP ws w.toNat b.toNat, newC (gsize t + 1)) b.toNat
      simp only [Int.toNat_natCast] at hrun
      rw [hg'] at hrun
      cases hrun
  · have H := H.ext e2
    refine ⟨_, _, rfl, ?_⟩
    refine bcase_true (by rfl) ?_
    exact hk 60 [] [] none 0 _ (.inl ⟨hn, rfl, rfl⟩) (Slot.nil _ _) (H.take 0)
end
end Go.Bm

/- RdA: the document's own decoder in memory; bytes that are lent. -/
set_option linter.unusedVariables false
set_option linter.unusedSimpArgs false
namespace Go.Ar
open Go Go.Den Go.Den.Yteakipgcanafoaa

/-! ### bytes that are lent -/
set_option maxRecDepth 100000 in
theorem lend_ok {hB : Heap} {b : Option Addr} {bc : Nat} {bs : List Nat} (hr : rdO hB b (bs.length * 1) (u8s bs)) (hl : bs.length < 140737488351300)
    {K : Value → Heap → Prop} {Kp : List PanicEntry → Heap → Prop} (hk : ∀ o rest c h', (u8s bs ++ (u8s (List.replicate 7 165) ++ rest)).length = c → Hp hB [] h' [⟨o, true, T_uint8, u8s bs ++ (u8s (List.replicate 7 165) ++ rest)⟩] → K (.slice (at0 o) bs.length c) h') :
    CP F_burinkit_Lend #[.slice b bs.length bc] hB K Kp := by
  refine call_burinkit_Lend ?_
  unfold burinkit_Lend
  have H := Hp.nil hB []
  obtain ⟨N, hN⟩ : ∃ N, N = bs.length + 7 := ⟨_, rfl⟩
  refine bindI_of (((N : Nat) : Int)) (by exact i64_at _ _ (by omega) (by omega) (by omega)) ?_
  refine needs_of (by simp; omega) ?_
  simp only [Int.toNat_natCast, u8s_zero]
  refine newC_hp H fun r h H => ?_
  refine appC_in H 0 (xs := []) (rest := u8s (List.replicate N 0)) (c := N) rfl rfl (by simp [u8s]) (by simp [hN]) (H.rdO hr) (by rw [u8s_length, Nat.mul_one]) (u8s_cells bs) fun h H => ?_
  generalize hrest : (u8s (List.replicate N 0)).drop (bs.length * 1) = rest at H
  have hrl : rest.length = 7 := by rw [← hrest, List.length_drop, u8s_length, List.length_replicate]; omega
  refine ⟨fun n vs h' => ∃ (i : Nat) (rest : List Value), i + n = 7 ∧ rest.length = n ∧ vs = [.slice (at0 r) (bs.length + i) N, .int .i64 (i : Int)] ∧ Hp hB [] h' [⟨r, true, T_uint8, u8s bs ++ u8s (List.replicate i 165) ++ rest⟩],
    ⟨7, 0, rest, rfl, hrl, by simp, H.as (by simp [u8s])⟩, ?_⟩
  clear H
  rintro n h2 u x xn xc xi ⟨i, rest, hin, hrl, hx, H⟩
  injection hx with hx hx2
  injection hx with hx hxn hxc
  injection hx2 with hx2
  injection hx2 with _ hx2
  subst x xn xc xi
  refine bcase_of (fun h1 => ?_) fun h1 => ?_
  · have h1 : i < 7 := by simp at h1; omega
    refine newC_hp H fun t h H => ?_
    refine appC_in H 0 (xs := u8s bs ++ u8s (List.replicate i 165)) (rest := rest) (c := N) rfl (by simp [u8s]) (by simp [u8s]; omega) (by omega) (rdO_hp (o := 0) (n := 1 * 1) H 1 rfl (Nat.le_refl _)) rfl (fun v hv => by rw [List.mem_singleton.1 hv]; rfl) fun h H => ?_
    refine bindI_of (((i + 1 : Nat) : Int)) (by exact i64_at _ _ (by omega) (by omega) (by omega)) ?_
    refine ⟨n - 1, by omega, i + 1, rest.drop (1 * 1), by omega, by rw [List.length_drop]; omega, by rw [Nat.add_assoc], ?_⟩
    refine (H.take 1).as ?_
    simp [u8s, List.replicate_succ']
  · have h1 : i = 7 := by simp at h1; omega
    subst h1
    refine needs_of (by omega) ?_
    have e : subA (some ⟨r, 0, none⟩) N 0 1 = some ⟨r, 0, none⟩ := by unfold subA; split <;> rfl
    rw [e]
    simp only [Int.toNat_natCast, Nat.sub_zero]
    refine hk r rest N _ ?_ (H.as (by rw [List.append_assoc]))
    simp only [List.length_append, u8s_length, List.length_replicate]
    omega

set_option maxRecDepth 100000 in
theorem back_ok {h : Heap} {o c : Nat} {b : Option Addr} {bc : Nat} {bs : List Nat} {rest : List Value} {F : List Nat} {h0 : Heap} (H : Hp h0 F h [⟨o, true, T_uint8, u8s bs ++ (u8s (List.replicate 7 165) ++ rest)⟩]) (hr : rdO h b (bs.length * 1) (u8s bs)) (hl : bs.length < 140737488351300)
    (hc : (u8s bs ++ (u8s (List.replicate 7 165) ++ rest)).length = c)
    {K : Value → Heap → Prop} {Kp : List PanicEntry → Heap → Prop} (hk : ∀ cs h', Hp h0 F h' [⟨o, true, T_uint8, cs⟩] → K (.bool true) h') :
    CP F_burinkit_Back #[.slice (at0 o) bs.length c, .slice b bs.length bc] h K Kp := by
  refine call_burinkit_Back ?_
  unfold burinkit_Back
  have hlen := hc
  simp only [List.length_append, u8s_length, List.length_replicate] at hlen
  refine eq_ok (xs := bs) (ys := bs) (row_rdO H 0 rfl) hr hl ?_
  refine ⟨_, rfl, ?_⟩
  simp only [decide_true]
  refine bindI_of (((bs.length + 7 : Nat) : Int)) (by exact i64_at _ _ (by omega) (by omega) (by omega)) ?_
  refine needs_of (by omega) ?_
  have e : subA (some ⟨o, 0, none⟩) c 0 1 = some ⟨o, 0, none⟩ := by unfold subA; split <;> rfl
  rw [e]
  simp only [Int.toNat_natCast, Nat.sub_zero]
  refine ⟨fun n vs h' => ∃ i : Nat, i + n = 7 ∧ vs = [.bool true, .int .i64 ((bs.length + i : Nat) : Int)] ∧ h' = h, ⟨7, 0, rfl, rfl, rfl⟩, ?_⟩
  rintro n h2 u ok x ⟨i, hin, hx, rfl⟩
  injection hx with hx hx2
  injection hx with hx
  injection hx2 with hx2
  injection hx2 with _ hx2
  subst ok x
  refine bcase_of (fun h1 => ?_) fun h1 => ?_
  · have h1 : i < 7 := by simp at h1; omega
    refine bcase_true (by rfl) ?_
    refine needs_of (by omega) ?_
    simp only [ptr_some_eq, add_mk, Nat.zero_add, Int.toNat_natCast, Nat.mul_one]
    have hg : (u8s (List.replicate 7 165))[i]? = some (.int .u8 ((165 : Nat) : Int)) := u8s_get (by rw [List.getElem?_replicate, if_pos h1])
    refine ldI_of (H.cell 0 rfl (app_get (u8s_length bs) i (get_app hg))) ?_
    refine bindI_of (((bs.length + (i + 1) : Nat) : Int)) (by exact i64_at _ _ (by omega) (by omega) (by omega)) ?_
    exact ⟨n - 1, by omega, i + 1, by omega, rfl, by first | rfl | trivial⟩
  · have h1 : i = 7 := by simp at h1; omega
    subst h1
    refine ⟨fun n vs h' => ∃ (i : Nat) (cs : List Value), i + n = bs.length + 7 ∧ vs = [.int .i64 (i : Int)] ∧ cs.length = c ∧ Hp h0 F h' [⟨o, true, T_uint8, cs⟩], ⟨bs.length + 7, 0, _, by omega, rfl, hc, H⟩, ?_⟩
    clear H hr
    rintro n h2 u x ⟨i, cs, hin, hx, hcl, H⟩
    injection hx with hx
    injection hx with _ hx
    subst hx
    refine bcase_of (fun h1 => ?_) fun h1 => ?_
    · have h1 : i < bs.length + 7 := by simp at h1; omega
      refine needs_of (by omega) ?_
      simp only [ptr_some_eq, add_mk, Nat.zero_add, Int.toNat_natCast, Nat.mul_one]
      refine stV_hp H 0 rfl (by omega) rfl fun h hsz H => ?_
      refine bindI_of (((i + 1 : Nat) : Int)) (by exact i64_at _ _ (by omega) (by omega) (by omega)) ?_
      exact ⟨n - 1, by omega, i + 1, _, by omega, rfl, by rw [List.length_set]; exact hcl, H⟩
    · exact hk _ _ H

/-! ### the document's decoder -/
def drrest (s : Dec) (bp : Option Addr) (bc : Nat) : List Value :=
  [.int .i64 (s.a : Nat), .int .i64 (s.c : Nat), .int .i64 (s.t : Nat), .slice bp s.b.length bc, .int .i64 (s.i : Nat)]
def refD (A : RP) (e : Ent) (bp : Option Addr) (bc : Nat) (s : Dec) : List Ent :=
  sideL A.p T_burinref4_Decoder (drrest s bp bc) A.g A.gc A.sq A.bq s.n s.st A.grest e

section
variable {h : Heap} {A : RP} {e : Ent} {bp : Option Addr} {bc : Nat} {s : Dec} {F : List Nat} {h0 : Heap}

theorem rbyte_ok (H : Hp h0 F h (refD A e bp bc s)) (hb : BOk e bp s.b) (hb8 : ∀ x ∈ s.b, x < 256) {i : Nat}
    {K : Value → Heap → Prop} {Kp : List PanicEntry → Heap → Prop} (hk : K (.int .i64 (byteD s i : Nat)) h) : CP F_burinref4_Decoder_byte #[.pointer (at0 A.p), .int .i64 (i : Nat)] h K Kp := by
  refine call_burinref4_Decoder_byte ?_
  unfold burinref4_Decoder_byte
  try simp only [ptr_some_eq, add_mk, Nat.zero_add, Nat.add_zero]
  refine ldS_of (H.cell 0 rfl rfl) ?_
  refine bcase_of (fun h1 => ?_) fun h1 => ?_
  · have h1 : i < s.b.length := by simp at h1; omega
    obtain ⟨_, hb | ⟨rest, hbp, he⟩⟩ := hb
    · rw [hb] at h1; simp at h1
    · have hg : s.b[i]? = some (byteD s i) := by
        unfold byteD
        rw [List.getD_eq_getElem?_getD, List.getElem?_eq_getElem h1]; rfl
      have hlt := byteD_lt hb8 (s := s) i
      refine ldS_of (H.cell 0 rfl rfl) ?_
      refine needs_of (by omega) ?_
      rw [hbp]
      simp only [Int.toNat_natCast, Nat.mul_one]
      try simp only [ptr_some_eq, add_mk, Nat.zero_add, Nat.add_zero]
      refine ldI_of (H.cell 4 rfl (i := i) (by rw [he]; exact get_app (u8s_get hg))) ?_
      refine bindI_of (((byteD s i : Nat) : Int)) (by exact i64_in _ (by omega) (by omega)) ?_
      exact hk
  · have h1 : s.b.length ≤ i := by simp at h1; omega
    have hg : byteD s i = 255 := by
      unfold byteD
      rw [List.getD_eq_getElem?_getD, List.getElem?_eq_none h1]; rfl
    rw [hg] at hk
    exact hk

theorem mask32m (x : Nat) (hx : x < 9223372036854775808) : bitI .and .i64 (x : Int) 4294967295 = ((x % M32 : Nat) : Int) :=
  (and63 x 4294967295 hx (by omega)).trans (by congr 1; exact Nat.and_two_pow_sub_one_eq_mod x 32)

set_option maxRecDepth 100000 in
theorem rin_ok (H : Hp h0 F h (refD A e bp bc s)) (hb : BOk e bp s.b) (hs : MidD s) (hbl : s.b.length < 140737488351300)
    {K : Value → Heap → Prop} {Kp : List PanicEntry → Heap → Prop} (hk : ∀ h', Hp h0 F h' (refD A e bp bc (inD s)) → K (.tuple #[]) h') : CP F_burinref4_Decoder_in #[.pointer (at0 A.p)] h K Kp := by
  refine call_burinref4_Decoder_in ?_
  unfold burinref4_Decoder_in
  have hi := hs.i
  have hc := hs.c
  have hM : M32 = 4294967296 := rfl
  have hb1 := byteD_lt hs.b (s := s) (s.i + 1)
  have hb0 := byteD_lt hs.b (s := s) s.i
  try simp only [ptr_some_eq, add_mk, Nat.zero_add, Nat.add_zero]
  refine ldI_of (H.cell 0 rfl rfl) ?_
  refine rbyte_ok H hb hs.b ?_
  refine ⟨_, rfl, ?_⟩
  rw [inD_eq] at hk
  refine bcase_of (fun h1 => ?_) fun h1 => ?_
  · have h1 : ¬ byteD s s.i ≠ 255 := by simp at h1; omega
    rw [if_neg h1] at hk
    refine ldI_of (H.cell 0 rfl rfl) ?_
    refine bindI_of (((s.i + 1 : Nat) : Int)) (by exact i64_at _ _ (by omega) (by omega) (by omega)) ?_
    refine rbyte_ok H hb hs.b ?_
    refine ⟨_, rfl, ?_⟩
    refine bcase_of (fun h2 => ?_) fun h2 => ?_
    · have h2 : byteD s (s.i + 1) > 143 := by simp at h2; omega
      rw [if_pos h2] at hk
      refine ldI_of (H.cell 0 rfl rfl) ?_
      refine bindI_of (((s.c + 65280 : Nat) : Int)) (by exact i64_at _ _ (by omega) (by omega) (by omega)) ?_
      refine stV_hp H 0 rfl (by first | exact Nat.le_of_ble_eq_true rfl | simp) rfl fun h hsz H => ?_
      refine stV_hp H 0 rfl (by first | exact Nat.le_of_ble_eq_true rfl | simp) rfl fun h hsz H => ?_
      refine ldI_of (H.cell 0 rfl rfl) ?_
      refine bindI_of _ (mask32m _ (by omega)) ?_
      refine stV_hp H 0 rfl (by first | exact Nat.le_of_ble_eq_true rfl | simp) rfl fun h hsz H => ?_
      exact hk _ H
    · have h2 : ¬ byteD s (s.i + 1) > 143 := by simp at h2; omega
      rw [if_neg h2] at hk
      refine ldI_of (H.cell 0 rfl rfl) ?_
      refine bindI_of (((s.i + 1 : Nat) : Int)) (by exact i64_at _ _ (by omega) (by omega) (by omega)) ?_
      refine stV_hp H 0 rfl (by first | exact Nat.le_of_ble_eq_true rfl | simp) rfl fun h hsz H => ?_
      refine ldI_of (H.cell 0 rfl rfl) ?_
      refine bindI_of (((byteD s (s.i + 1) * 512 : Nat) : Int)) (by exact shl_of (i := 9) (by decide) (i64_in _ (by omega) (by omega))) ?_
      refine bindI_of (((s.c + byteD s (s.i + 1) * 512 : Nat) : Int)) (by exact i64_at _ _ (by omega) (by omega) (by omega)) ?_
      refine stV_hp H 0 rfl (by first | exact Nat.le_of_ble_eq_true rfl | simp) rfl fun h hsz H => ?_
      refine stV_hp H 0 rfl (by first | exact Nat.le_of_ble_eq_true rfl | simp) rfl fun h hsz H => ?_
      refine ldI_of (H.cell 0 rfl rfl) ?_
      refine bindI_of _ (mask32m _ (by omega)) ?_
      refine stV_hp H 0 rfl (by first | exact Nat.le_of_ble_eq_true rfl | simp) rfl fun h hsz H => ?_
      exact hk _ H
  · have h1 : byteD s s.i ≠ 255 := by simp at h1; omega
    rw [if_pos h1] at hk
    refine ldI_of (H.cell 0 rfl rfl) ?_
    refine bindI_of (((s.i + 1 : Nat) : Int)) (by exact i64_at _ _ (by omega) (by omega) (by omega)) ?_
    refine stV_hp H 0 rfl (by first | exact Nat.le_of_ble_eq_true rfl | simp) rfl fun h hsz H => ?_
    refine ldI_of (H.cell 0 rfl rfl) ?_
    refine ldI_of (H.cell 0 rfl rfl) ?_
    have H2 : Hp h0 F h (refD A e bp bc { s with i := s.i + 1 }) := H
    refine rbyte_ok H2 hb hs.b ?_
    refine ⟨_, rfl, hext.refl _, ?_⟩
    have hb2 : byteD { s with i := s.i + 1 } (s.i + 1) = byteD s (s.i + 1) := rfl
    rw [hb2]
    refine bindI_of (((byteD s (s.i + 1) * 256 : Nat) : Int)) (by exact shl_of (i := 8) (by decide) (i64_in _ (by omega) (by omega))) ?_
    refine bindI_of (((s.c + byteD s (s.i + 1) * 256 : Nat) : Int)) (by exact i64_at _ _ (by omega) (by omega) (by omega)) ?_
    refine stV_hp H 0 rfl (by first | exact Nat.le_of_ble_eq_true rfl | simp) rfl fun h hsz H => ?_
    refine stV_hp H 0 rfl (by first | exact Nat.le_of_ble_eq_true rfl | simp) rfl fun h hsz H => ?_
    refine ldI_of (H.cell 0 rfl rfl) ?_
    refine bindI_of _ (mask32m _ (by omega)) ?_
    refine stV_hp H 0 rfl (by first | exact Nat.le_of_ble_eq_true rfl | simp) rfl fun h hsz H => ?_
    exact hk _ H

set_option maxRecDepth 100000 in
theorem rdrenew_ok (H : Hp h0 F h (refD A e bp bc s)) (hb : BOk e bp s.b) (hs : MidD s) (hbl : s.b.length < 140737488351300) (ha : 1 ≤ s.a) (ha' : s.a < 0x8000)
    {K : Value → Heap → Prop} {Kp : List PanicEntry → Heap → Prop} (hk : ∀ h', Hp h0 F h' (refD A e bp bc (renewD 17 s)) → K (.tuple #[]) h') : CP F_burinref4_Decoder_renew #[.pointer (at0 A.p)] h K Kp := by
  generalize hR : renewD 17 s = R at hk
  refine call_burinref4_Decoder_renew ?_
  unfold burinref4_Decoder_renew
  refine ⟨fun n vs h' => ∃ (first : Bool) (s' : Dec), vs = [.bool first] ∧ Hp h0 F h' (refD A e bp bc s') ∧ MidD s' ∧ s'.b = s.b ∧
      ((first = false ∧ 0x8000 ≤ s'.a ∧ s' = R) ∨ (s'.a < 0x8000 ∧ 0x8000 ≤ s'.a * 2 ^ n ∧ renewD n s' = R)),
    ⟨17, true, s, rfl, H, hs, rfl, .inr ⟨ha', by have : (2 : Nat) ^ 17 = 131072 := rfl; omega, hR⟩⟩, ?_⟩
  clear H
  rintro n h u x ⟨first, s', hx, H, hm, hbe, hc⟩
  injection hx with hx
  injection hx with hx
  subst hx
  refine ⟨fun vs h' => h' = h ∧ s'.a < 0x8000 ∧ 0x8000 ≤ s'.a * 2 ^ n ∧ renewD n s' = R, ?_, ?_⟩
  · refine bcase_of (fun h1 => ?_) fun h1 => ?_
    · rcases hc with ⟨h2, _⟩ | h2
      · rw [h1] at h2; cases h2
      · exact ⟨rfl, h2⟩
    · have hcell0 := H.cell 0 rfl (i := 4) (v := .int .i64 (s'.a : Nat)) rfl
      rcases hc with ⟨_, h2, h5⟩ | h2
      · have h4 : ¬ ((s'.a : Nat) : Int) < 32768 := by
          have : (32768 : Int) ≤ ((s'.a : Nat) : Int) := by exact_mod_cast h2
          exact Int.not_lt.2 this
        refine ldI_of (x := ((s'.a : Nat) : Int)) hcell0 ?_
        simp only [decide_eq_false h4]
        exact hk _ (h5 ▸ H)
      · have h4 : ((s'.a : Nat) : Int) < 32768 := by exact_mod_cast h2.1
        refine ldI_of (x := ((s'.a : Nat) : Int)) hcell0 ?_
        simp only [decide_eq_true h4]
        exact ⟨by first | rfl | trivial, h2⟩
  · rintro h2 u ⟨rfl, hlt, hge, he⟩
    obtain ⟨n, rfl⟩ : ∃ m, n = m + 1 := by
      cases n with
      | zero => simp at hge; omega
      | succ m => exact ⟨m, rfl⟩
    obtain ⟨g1, g2, g3, g4, g5⟩ := shiftD_mid hm
    have hnext : 0x8000 ≤ (shiftD s').a * 2 ^ n := by
      rw [g2]
      rw [Nat.pow_succ] at hge
      have : s'.a * (2 ^ n * 2) = 2 * s'.a * 2 ^ n := by rw [Nat.mul_comm (2 ^ n) 2, ← Nat.mul_assoc, Nat.mul_comm s'.a 2]
      omega
    rw [renewD_succ] at he
    rw [← hbe] at hb hbl
    refine ⟨fun vs h' => Hp h0 F h' (refD A e bp bc (if s'.t = 0 then inD s' else s')), ?_, ?_⟩
    · try simp only [ptr_some_eq, add_mk, Nat.zero_add, Nat.add_zero]
      refine ldI_of (H.cell 0 rfl rfl) ?_
      refine bcase_of (fun h1 => ?_) fun h1 => ?_
      · have h1 : s'.t = 0 := by simp at h1; omega
        refine rin_ok H hb hm hbl fun h' H => ?_
        rw [if_pos h1]
        exact H
      · have h1 : ¬ s'.t = 0 := by simp at h1; omega
        rw [if_neg h1]
        exact H
    · intro h u H
      rw [shiftD_eq] at g1 g2 g5 hnext he
      have hS : MidD (if s'.t = 0 then inD s' else s') ∧ (if s'.t = 0 then inD s' else s').a = s'.a ∧ 1 ≤ (if s'.t = 0 then inD s' else s').t := by
        split
        · obtain ⟨i1, i2, _, _, _, i6⟩ := inD_mid hm
          exact ⟨i1, i2, i6⟩
        · exact ⟨hm, rfl, by omega⟩
      generalize (if s'.t = 0 then inD s' else s') = S at H g1 g2 g5 hnext he hS
      obtain ⟨hS1, hS2, hS3⟩ := hS
      have hSc := hS1.c
      have hSt := hS1.t8
      have hM : M32 = 4294967296 := rfl
      try simp only [ptr_some_eq, add_mk, Nat.zero_add, Nat.add_zero]
      refine ldI_of (H.cell 0 rfl rfl) ?_
      refine bindI_of (((2 * S.a : Nat) : Int)) (by exact i64_at _ _ (by omega) (by omega) (by omega)) ?_
      refine stV_hp H 0 rfl (by first | exact Nat.le_of_ble_eq_true rfl | simp) rfl fun h hsz H => ?_
      refine ldI_of (H.cell 0 rfl rfl) ?_
      refine bindI_of (((2 * S.c : Nat) : Int)) (by exact i64_at _ _ (by omega) (by omega) (by omega)) ?_
      refine bindI_of _ (mask32m _ (by omega)) ?_
      refine stV_hp H 0 rfl (by first | exact Nat.le_of_ble_eq_true rfl | simp) rfl fun h hsz H => ?_
      refine ldI_of (H.cell 0 rfl rfl) ?_
      refine bindI_of (((S.t - 1 : Nat) : Int)) (by exact i64_at _ _ (by omega) (by omega) (by omega)) ?_
      refine stV_hp H 0 rfl (by first | exact Nat.le_of_ble_eq_true rfl | simp) rfl fun h hsz H => ?_
      have H2 : Hp h0 F h (refD A e bp bc { S with a := 2 * S.a, c := 2 * S.c % M32, t := S.t - 1 }) := H
      refine ⟨n, Nat.lt_succ_self n, false, _, rfl, H2, g1, g5.trans hbe, ?_⟩
      by_cases h3 : 0x8000 ≤ 2 * S.a
      · rw [if_pos h3] at he; exact .inl ⟨rfl, h3, he⟩
      · rw [if_neg h3] at he; exact .inr ⟨by show 2 * S.a < _; omega, hnext, he⟩

set_option maxRecDepth 100000 in
theorem rget_ok (H : Hp h0 F h (refD A e bp bc s)) (hb : BOk e bp s.b) (hs : WfD s) (hbl : s.b.length < 140737488351300) (hn : s.n < 16777216) (hl : 1 ≤ s.st.length) (hl2 : s.st.length ≤ 131072)
    {ctx : Int} {K : Value → Heap → Prop} {Kp : List PanicEntry → Heap → Prop} (hk : ∀ h', Hp h0 F h' (refD A e bp bc (getD s (idx ctx s.st.length)).1) → K (.tuple #[.int .i64 ((getD s (idx ctx s.st.length)).2 : Nat), .int .i64 0]) h') :
    CP F_burinref4_Decoder_Get #[.pointer (at0 A.p), .int .i64 ctx] h K Kp := by
  refine call_burinref4_Decoder_Get ?_
  unfold burinref4_Decoder_Get
  try simp only [ptr_some_eq, add_mk, Nat.zero_add, Nat.add_zero]
  refine ldI_of (H.cell 0 rfl rfl) ?_
  refine bcase_false (by simp; omega) ?_
  refine ldI_of (H.cell 0 rfl rfl) ?_
  refine bindI_of (((s.n + 1 : Nat) : Int)) (by exact i64_at _ _ (by omega) (by omega) (by omega)) ?_
  refine stV_hp H 0 rfl (by first | exact Nat.le_of_ble_eq_true rfl | simp) rfl fun h hsz H => ?_
  have H2 : Hp h0 F h (refD A e bp bc { s with n := s.n + 1 }) := H
  refine index_ok (m := s.st.length) (n := s.n + 1) H2 0 rfl hl hl2 ?_
  refine ⟨_, rfl, ?_⟩
  have hil := idx_lt ctx hl
  obtain ⟨x, hx⟩ : ∃ x, s.st[idx ctx s.st.length]? = some x := ⟨_, List.getElem?_eq_getElem hil⟩
  have hx94 : x < 94 := hs.st x (List.mem_of_getElem? hx)
  rw [getD_at s _ x hx] at hk
  have hM := set_lt hs.st (k := idx ctx s.st.length) (upM_lt hx94)
  have hL := set_lt hs.st (k := idx ctx s.st.length) (upL_lt hx94)
  generalize idx ctx s.st.length = k at hk hM hL hx hil ⊢
  have hr : x / 2 < 47 := by omega
  have hq1 := qOf_pos hr
  have hq2 := qOf_le hr
  have hlo := hs.lo
  have hhi := hs.hi
  have hc := hs.c
  have hM32 : M32 = 4294967296 := rfl
  have H := H2
  clear H2
  refine ldS_of (H.cell 0 rfl rfl) ?_
  refine ldS_of (H.cell 0 rfl rfl) ?_
  refine needs_of (by first | omega | (refine ⟨by omega, ?_⟩; show ((k : Nat) : Int) < ((s.st.length : Nat) : Int); omega)) ?_
  try simp only [ptr_some_eq, add_mk, Nat.zero_add, Int.toNat_natCast, Nat.mul_one]
  refine ldI_of (H.cell 2 rfl (i64s_get (half_get hx))) ?_
  refine needs_of (by first | omega | (refine ⟨by omega, ?_⟩; show ((k : Nat) : Int) < ((s.st.length : Nat) : Int); omega)) ?_
  try simp only [ptr_some_eq, add_mk, Nat.zero_add, Int.toNat_natCast, Nat.mul_one]
  refine ldI_of (H.cell 1 rfl (g_get hr (j := 0) rfl)) ?_
  refine ldS_of (H.cell 0 rfl rfl) ?_
  refine needs_of (by first | omega | (refine ⟨by omega, ?_⟩; show ((k : Nat) : Int) < ((s.st.length : Nat) : Int); omega)) ?_
  try simp only [ptr_some_eq, add_mk, Nat.zero_add, Int.toNat_natCast, Nat.mul_one]
  refine ldI_of (H.cell 3 rfl (i64s_get (low_get hx))) ?_
  refine ldI_of (H.cell 0 rfl rfl) ?_
  refine bindI_of (((s.a - qOf (x / 2) : Nat) : Int)) (by exact i64_at _ _ (by show (s.a : Int) - ((qOf (x / 2) : Nat) : Int) = _; omega) (by omega) (by omega)) ?_
  refine stV_hp H 0 rfl (by first | exact Nat.le_of_ble_eq_true rfl | simp) rfl fun h hsz H => ?_
  refine ldI_of (H.cell 0 rfl rfl) ?_
  refine bindI_of (((s.c / 65536 : Nat) : Int)) (by exact shr_of (i := 16) (by decide)) ?_
  have H2 : Hp h0 F h (refD A e bp bc { s with n := s.n + 1, a := s.a - qOf (x / 2) }) := H
  have H := H2
  clear H2
  refine bcase_of (fun h1 => ?_) fun h1 => ?_
  · have h1 : s.c / 65536 < qOf (x / 2) := by simp at h1; omega
    rw [if_pos h1] at hk
    refine ⟨fun vs h'' => (s.a - qOf (x / 2) < qOf (x / 2) ∧ vs = [.int .i64 ((x % 2 : Nat) : Int)] ∧ Hp h0 F h'' (refD A e bp bc { s with a := s.a - qOf (x / 2), n := s.n + 1, st := s.st.set k (upM x) })) ∨
        (¬ s.a - qOf (x / 2) < qOf (x / 2) ∧ vs = [.int .i64 ((1 - x % 2 : Nat) : Int)] ∧ Hp h0 F h'' (refD A e bp bc { s with a := s.a - qOf (x / 2), n := s.n + 1, st := s.st.set k (upL x) })), ?_, ?_⟩
    · refine ldI_of (H.cell 0 rfl rfl) ?_
      refine bcase_of (fun h3 => ?_) fun h3 => ?_
      · have h3 : s.a - qOf (x / 2) < qOf (x / 2) := by simp at h3; omega
        refine slk_ok H hx hx94 fun h H => ?_
        exact .inl ⟨h3, rfl, H.as (by simp [refD, sideL, sideV, drrest])⟩
      · have h3 : ¬ s.a - qOf (x / 2) < qOf (x / 2) := by simp at h3; omega
        refine bindI_of (((1 - x % 2 : Nat) : Int)) (by exact i64_at _ _ (by omega) (by omega) (by omega)) ?_
        refine sother_ok H hx hx94 fun h H => ?_
        exact .inr ⟨h3, rfl, H.as (by simp [refD, sideL, sideV, drrest])⟩
    · rintro h'' u y (⟨h3, hy, H⟩ | ⟨h3, hy, H⟩)
      · injection hy with hy
        injection hy with _ hy
        subst hy
        rw [if_pos h3] at hk
        refine stV_hp H 0 rfl (by first | exact Nat.le_of_ble_eq_true rfl | simp) rfl fun h hsz H => ?_
        exact rdrenew_ok (s := { s with a := qOf (x / 2), n := s.n + 1, st := s.st.set k (upM x) }) H hb ⟨hs.t8, hc, hs.b, hM, hs.i⟩ hbl hq1 (by show qOf _ < _; omega) hk
      · injection hy with hy
        injection hy with _ hy
        subst hy
        rw [if_neg h3] at hk
        refine stV_hp H 0 rfl (by first | exact Nat.le_of_ble_eq_true rfl | simp) rfl fun h hsz H => ?_
        exact rdrenew_ok (s := { s with a := qOf (x / 2), n := s.n + 1, st := s.st.set k (upL x) }) H hb ⟨hs.t8, hc, hs.b, hL, hs.i⟩ hbl hq1 (by show qOf _ < _; omega) hk
  · have h1 : ¬ s.c / 65536 < qOf (x / 2) := by simp at h1; omega
    rw [if_neg h1] at hk
    have hc' : s.c - qOf (x / 2) * 65536 < M32 := by omega
    refine ldI_of (H.cell 0 rfl rfl) ?_
    refine bindI_of (((qOf (x / 2) * 65536 : Nat) : Int)) (by exact shl_of (i := 16) (by decide) (i64_in _ (by omega) (by omega))) ?_
    refine bindI_of (((s.c - qOf (x / 2) * 65536 : Nat) : Int)) (by exact i64_at _ _ (by show (s.c : Int) - ((qOf (x / 2) * 65536 : Nat) : Int) = _; omega) (by omega) (by omega)) ?_
    refine stV_hp H 0 rfl (by first | exact Nat.le_of_ble_eq_true rfl | simp) rfl fun h hsz H => ?_
    refine ldI_of (H.cell 0 rfl rfl) ?_
    have H2 : Hp h0 F h (refD A e bp bc { s with n := s.n + 1, a := s.a - qOf (x / 2), c := s.c - qOf (x / 2) * 65536 }) := H
    have H := H2
    clear H2
    refine bcase_of (fun h2 => ?_) fun h2 => ?_
    · have h2 : 0x8000 ≤ s.a - qOf (x / 2) := by simp at h2; omega
      rw [if_pos h2] at hk
      exact hk _ H
    · have h2 : ¬ 0x8000 ≤ s.a - qOf (x / 2) := by simp at h2; omega
      rw [if_neg h2] at hk
      refine ldI_of (H.cell 0 rfl rfl) ?_
      refine bcase_of (fun h3 => ?_) fun h3 => ?_
      · have h3 : s.a - qOf (x / 2) < qOf (x / 2) := by simp at h3; omega
        rw [if_pos h3] at hk
        refine bindI_of (((1 - x % 2 : Nat) : Int)) (by exact i64_at _ _ (by omega) (by omega) (by omega)) ?_
        refine sother_ok H hx hx94 fun h H => ?_
        exact rdrenew_ok (s := { s with a := s.a - qOf (x / 2), c := s.c - qOf (x / 2) * 65536, n := s.n + 1, st := s.st.set k (upL x) }) (H.as (by simp [refD, sideL, sideV, drrest])) hb ⟨hs.t8, hc', hs.b, hL, hs.i⟩ hbl (by show 1 ≤ s.a - _; omega) (by show s.a - _ < _; omega) hk
      · have h3 : ¬ s.a - qOf (x / 2) < qOf (x / 2) := by simp at h3; omega
        rw [if_neg h3] at hk
        refine slk_ok H hx hx94 fun h H => ?_
        exact rdrenew_ok (s := { s with a := s.a - qOf (x / 2), c := s.c - qOf (x / 2) * 65536, n := s.n + 1, st := s.st.set k (upM x) }) (H.as (by simp [refD, sideL, sideV, drrest])) hb ⟨hs.t8, hc', hs.b, hM, hs.i⟩ hbl (by show 1 ≤ s.a - _; omega) (by show s.a - _ < _; omega) hk
end

/-! ### NewDecoder -/
set_option maxRecDepth 100000 in
theorem rnewD_ok {hB : Heap} {n : Nat} (hn : n ≤ 131072) {b : List Nat} (hb : ∀ x ∈ b, x < 256) (hbl : b.length < 140737488351300) {src : Option Addr} {bc0 : Nat} (hr : rdO hB src (b.length * 1) (u8s b)) {K : Value → Heap → Prop} {Kp : List PanicEntry → Heap → Prop}
    (hk : ∀ A e bp bc h', BOk e bp b → Hp hB [] h' (refD A e bp bc (newD b n)) → K (.pointer (at0 A.p)) h') : CP F_burinref4_NewDecoder #[.slice src b.length bc0, .int .i64 (n : Nat)] hB K Kp := by
  refine call_burinref4_NewDecoder ?_
  unfold burinref4_NewDecoder
  refine begun_ok hn fun g grest gc sq bq sp h' hsp H => ?_
  refine ⟨_, _, _, _, _, _, _, _, _, _, rfl, ?_⟩
  have goal : ∀ (bp : Option Addr) (bc : Nat) (e : Ent) (h2 : Heap), BOk e bp b → Hp hB [] h2 [⟨g, true, T_burinref4_Row, growsN 47 ++ grest⟩, ⟨sq, true, T_int, i64s (List.replicate n 0)⟩, ⟨bq, true, T_int, i64s (List.replicate n 0)⟩, e] →
      Go.Den.newC h2 [.slice (at0 g) 47 gc, .slice (at0 sq) n n, .slice (at0 bq) n n, .int .i64 0, .int .i64 32768, .int .i64 0, .int .i64 0, .slice bp b.length bc, .int .i64 0] T_burinref4_Decoder fun r_9 h_10 =>
      CP F_burinref4_Decoder_byte #[.pointer (some ⟨r_9, 0, none⟩), .int .i64 0] h_10 (fun v_11 h_12 =>
      ∃ (r_13 : Int), v_11 = .int .i64 r_13 ∧ (
      bindI (shlI .i64 r_13 (16 : Int)) fun z_14 =>
      stV h_12 ((⟨r_9, 0, none⟩ : Addr).add 5) (.int .i64 z_14) fun h_15 =>
      CP F_burinref4_Decoder_in #[.pointer (some ⟨r_9, 0, none⟩)] h_15 (fun v_16 h_17 =>
      ldI h_17 ((⟨r_9, 0, none⟩ : Addr).add 5) .i64 fun x_18 =>
      bindI (shlI .i64 x_18 (7 : Int)) fun z_19 =>
      bindI (bitI .and .i64 z_19 (4294967295 : Int)) fun z_20 =>
      stV h_17 ((⟨r_9, 0, none⟩ : Addr).add 5) (.int .i64 z_20) fun h_21 =>
      ldI h_21 ((⟨r_9, 0, none⟩ : Addr).add 6) .i64 fun x_22 =>
      bindI (IntKind.i64.wrap (x_22 - (7 : Int))) fun z_23 =>
      stV h_21 ((⟨r_9, 0, none⟩ : Addr).add 6) (.int .i64 z_23) fun h_24 =>
      K (.pointer (some ⟨r_9, 0, none⟩)) h_24) (Kp))) (Kp) := by
    intro bp bc e h2 hbo H
    refine newC_hp H fun p h H => ?_
    have H2 := H.pick [4, 0, 1, 2, 3] (by decide) (L' := refD ⟨p, g, gc, sq, bq, grest⟩ e bp bc (dec0 b n)) (by simp [refD, sideL, sideV, drrest, dec0, half, low])
    have H := H2
    clear H2
    have hb0 := byteD_lt (s := dec0 b n) hb 0
    refine rbyte_ok (A := ⟨p, g, gc, sq, bq, grest⟩) (i := 0) H hbo hb ?_
    refine ⟨_, rfl, ?_⟩
    refine bindI_of (((byteD (dec0 b n) 0 * 65536 : Nat) : Int)) (by exact shl_of (i := 16) (by decide) (i64_in _ (by omega) (by omega))) ?_
    try simp only [ptr_some_eq, add_mk, Nat.zero_add, Nat.add_zero]
    refine stV_hp H 0 rfl (by first | exact Nat.le_of_ble_eq_true rfl | simp) rfl fun h hsz H => ?_
    have H2 : Hp _ [] h (refD ⟨p, g, gc, sq, bq, grest⟩ e bp bc { dec0 b n with c := byteD (dec0 b n) 0 * 65536 }) := H
    have hm : MidD { dec0 b n with c := byteD (dec0 b n) 0 * 65536 } := ⟨Nat.zero_le _, by show byteD (dec0 b n) 0 * 65536 < 4294967296; omega, hb, fun x hx => by simp only [dec0, List.mem_replicate] at hx; omega, Nat.zero_le _⟩
    obtain ⟨i1, i2, i3, i4, i5, i6⟩ := inD_mid hm
    refine rin_ok (A := ⟨p, g, gc, sq, bq, grest⟩) H2 hbo hm hbl fun h H => ?_
    have hn : newD b n = { inD { dec0 b n with c := byteD (dec0 b n) 0 * 65536 } with c := (inD { dec0 b n with c := byteD (dec0 b n) 0 * 65536 }).c * 128 % M32, t := (inD { dec0 b n with c := byteD (dec0 b n) 0 * 65536 }).t - 7 } := rfl
    have ht7 : 7 ≤ (inD { dec0 b n with c := byteD (dec0 b n) 0 * 65536 }).t := by
      unfold inD
      split
      · show 7 ≤ 8; omega
      · split
        · show 7 ≤ 8; omega
        · show 7 ≤ 7; omega
    generalize inD { dec0 b n with c := byteD (dec0 b n) 0 * 65536 } = S at H hn i1 ht7
    have hSc := i1.c
    have hSt := i1.t8
    have hM : M32 = 4294967296 := rfl
    refine ldI_of (H.cell 0 rfl rfl) ?_
    refine bindI_of (((S.c * 128 : Nat) : Int)) (by exact shl_of (i := 7) (by decide) (i64_in _ (by omega) (by omega))) ?_
    refine bindI_of _ (mask32m _ (by omega)) ?_
    refine stV_hp H 0 rfl (by first | exact Nat.le_of_ble_eq_true rfl | simp) rfl fun h hsz H => ?_
    refine ldI_of (H.cell 0 rfl rfl) ?_
    refine bindI_of (((S.t - 7 : Nat) : Int)) (by exact i64_at _ _ (by omega) (by omega) (by omega)) ?_
    refine stV_hp H 0 rfl (by first | exact Nat.le_of_ble_eq_true rfl | simp) rfl fun h hsz H => ?_
    refine hk ⟨p, g, gc, sq, bq, grest⟩ e bp bc _ hbo ?_
    rw [hn]
    exact H
  have hr2 := H.rdO hr
  rcases Nat.eq_zero_or_pos b.length with hz | hpos
  · have hbn : b = [] := List.length_eq_zero_iff.1 hz
    rw [hz] at hr2 goal ⊢
    refine appC_nil H hr2 ?_
    exact goal none 0 sp _ ⟨hsp, .inl hbn⟩ H
  · refine appC_new H hr2 (u8s_length b) hpos (by omega) fun o rest h' he H' => ?_
    exact goal (some ⟨o, 0, none⟩) _ ⟨o, true, T_uint8, u8s b ++ rest⟩ _ ⟨rfl, .inr ⟨rest, rfl, rfl⟩⟩ (H'.pick [0, 1, 2, 4] (by decide) rfl)

set_option maxRecDepth 100000 in
theorem newDecoder_bad {h : Heap} {n : Int} (hn : n < 1 ∨ 131072 < n) {src : Option Addr} {bl bc : Nat} {K : Value → Heap → Prop} {Kp : List PanicEntry → Heap → Prop}
    (hk : ∀ h', hext h h' → K (.tuple #[.pointer none, .int .i64 40]) h') : CP F_arith_NewDecoder #[.slice src bl bc, .int .i64 n] h K Kp := by
  refine call_arith_NewDecoder ?_
  unfold arith_NewDecoder
  refine made_bad hn fun cs h2 hcs hone e => ?_
  refine ⟨cs, hcs, false, rfl, ?_⟩
  have H := (Hp.nil h []).ext e
  refine newC_hp H fun t h H => ?_
  refine needs_of hcs ?_
  refine stVs_all H 0 rfl (hcs.trans (by kernel_rfl)) hone fun h' hsz H => ?_
  refine bcase_true (by rfl) ?_
  exact hk _ H.hext

end Go.Ar

/- Written by gen.py: the conditions of the functions of burinref7. -/
set_option linter.unusedVariables false
set_option linter.unusedSimpArgs false
namespace Go.Den.Yteakipgcanafoaa
open Go Go.Den

/- burin/burinref7.Encode -/
set_option maxRecDepth 100000 in
def burinref7_Encode (C : CallP) (b_1 : Int) (b_2 : Int) (b_3 : Option Addr) (b_3n : Nat) (b_3c : Nat) (template : Int) (skip : Bool) (h : Heap) (K : Value → Heap → Prop) (Kp : List PanicEntry → Heap → Prop) : Prop :=
newC h [.int .i64 b_1, .int .i64 b_2, .slice b_3 b_3n b_3c] T_api_Bitmap fun r_4 h_5 =>
C F_burinref6_May #[.int .i64 template] h_5 (fun v_6 h_7 =>
∃ (r_8 : Bool), v_6 = .bool r_8 ∧ (
bcase (!r_8) (
K (.tuple #[.slice none 0 0, .int .i64 60]) h_7) <|
ldI h_7 ((⟨r_4, 0, none⟩ : Addr).add 0) .i64 fun x_9 =>
ldI h_7 ((⟨r_4, 0, none⟩ : Addr).add 1) .i64 fun x_10 =>
ldS h_7 ((⟨r_4, 0, none⟩ : Addr).add 2) fun x_11 x_11n x_11c =>
C F_burinref0_May #[.agg #[.int .i64 x_9, .int .i64 x_10, .slice x_11 x_11n x_11c]] h_7 (fun v_12 h_13 =>
∃ (r_14 : Bool), v_12 = .bool r_14 ∧ (
bcase (!r_14) (
K (.tuple #[.slice none 0 0, .int .i64 62]) h_13) <|
C F_burinref7_Need #[.int .i64 template] h_13 (fun v_15 h_16 =>
∃ (r_17 : Int), v_15 = .int .i64 r_17 ∧ (
C F_burinref4_New #[.int .i64 r_17] h_16 (fun v_18 h_19 =>
∃ (r_20 : Option Addr), v_18 = .pointer r_20 ∧ (
ldI h_19 ((⟨r_4, 0, none⟩ : Addr).add 0) .i64 fun x_21 =>
ldI h_19 ((⟨r_4, 0, none⟩ : Addr).add 1) .i64 fun x_22 =>
ldS h_19 ((⟨r_4, 0, none⟩ : Addr).add 2) fun x_23 x_23n x_23c =>
C F_burinref7_Put #[.pointer r_20, .int .i64 0, .agg #[.int .i64 x_21, .int .i64 x_22, .slice x_23 x_23n x_23c], .int .i64 template, .bool skip] h_19 (fun v_24 h_25 =>
∃ (r_26 : Int), v_24 = .int .i64 r_26 ∧ (
bcase (r_26 != (0 : Int)) (
K (.tuple #[.slice none 0 0, .int .i64 r_26]) h_25) <|
C F_burinref4_Coder_Flush #[.pointer r_20] h_25 (fun v_27 h_28 =>
∃ (r_29 : Option Addr) (r_29n : Nat) (r_29c : Nat), ∃ (r_30 : Int), v_27 = .tuple #[.slice r_29 r_29n r_29c, .int .i64 r_30] ∧ (
K (.tuple #[.slice r_29 r_29n r_29c, .int .i64 r_30]) h_28)) (Kp))) (Kp))) (Kp))) (Kp))) (Kp))) (Kp)

/- burin/burinref7.Decode -/
set_option maxRecDepth 100000 in
def burinref7_Decode (C : CallP) (f : Option Addr) (fn : Nat) (fc : Nat) (w : Int) (h' : Int) (template : Int) (skip : Bool) (h : Heap) (K : Value → Heap → Prop) (Kp : List PanicEntry → Heap → Prop) : Prop :=
newC h [.int .i64 0, .int .i64 0, .slice none 0 0] T_api_Bitmap fun r_1 h_2 =>
C F_burinref6_May #[.int .i64 template] h_2 (fun v_3 h_4 =>
∃ (r_5 : Bool), v_3 = .bool r_5 ∧ (
bcase (!r_5) (
stV h_4 ((⟨r_1, 0, none⟩ : Addr).add 0) (.int .i64 0) fun h_6 =>
stV h_6 ((⟨r_1, 0, none⟩ : Addr).add 1) (.int .i64 0) fun h_7 =>
stV h_7 ((⟨r_1, 0, none⟩ : Addr).add 2) (.slice none 0 0) fun h_8 =>
ldI h_8 ((⟨r_1, 0, none⟩ : Addr).add 0) .i64 fun r_9 =>
ldI h_8 ((⟨r_1, 0, none⟩ : Addr).add 1) .i64 fun r_10 =>
ldS h_8 ((⟨r_1, 0, none⟩ : Addr).add 2) fun r_11 r_11n r_11c =>
K (.tuple #[.agg #[.int .i64 r_9, .int .i64 r_10, .slice r_11 r_11n r_11c], .int .i64 60]) h_8) <|
C F_burinref0_Size #[.int .i64 w, .int .i64 h'] h_4 (fun v_12 h_13 =>
∃ (r_14 : Bool), v_12 = .bool r_14 ∧ (
bcase (!r_14) (
stV h_13 ((⟨r_1, 0, none⟩ : Addr).add 0) (.int .i64 0) fun h_15 =>
stV h_15 ((⟨r_1, 0, none⟩ : Addr).add 1) (.int .i64 0) fun h_16 =>
stV h_16 ((⟨r_1, 0, none⟩ : Addr).add 2) (.slice none 0 0) fun h_17 =>
ldI h_17 ((⟨r_1, 0, none⟩ : Addr).add 0) .i64 fun r_18 =>
ldI h_17 ((⟨r_1, 0, none⟩ : Addr).add 1) .i64 fun r_19 =>
ldS h_17 ((⟨r_1, 0, none⟩ : Addr).add 2) fun r_20 r_20n r_20c =>
K (.tuple #[.agg #[.int .i64 r_18, .int .i64 r_19, .slice r_20 r_20n r_20c], .int .i64 63]) h_17) <|
C F_burinref7_Need #[.int .i64 template] h_13 (fun v_21 h_22 =>
∃ (r_23 : Int), v_21 = .int .i64 r_23 ∧ (
C F_burinref4_NewDecoder #[.slice f fn fc, .int .i64 r_23] h_22 (fun v_24 h_25 =>
∃ (r_26 : Option Addr), v_24 = .pointer r_26 ∧ (
C F_burinref7_Get #[.pointer r_26, .int .i64 0, .int .i64 w, .int .i64 h', .int .i64 template, .bool skip] h_25 (fun v_27 h_28 =>
∃ (r_29 : Int) (r_30 : Int) (r_31 : Option Addr) (r_31n : Nat) (r_31c : Nat), ∃ (r_32 : Int), v_27 = .tuple #[.agg #[.int .i64 r_29, .int .i64 r_30, .slice r_31 r_31n r_31c], .int .i64 r_32] ∧ (
stV h_28 ((⟨r_1, 0, none⟩ : Addr).add 0) (.int .i64 r_29) fun h_33 =>
stV h_33 ((⟨r_1, 0, none⟩ : Addr).add 1) (.int .i64 r_30) fun h_34 =>
stV h_34 ((⟨r_1, 0, none⟩ : Addr).add 2) (.slice r_31 r_31n r_31c) fun h_35 =>
ldI h_35 ((⟨r_1, 0, none⟩ : Addr).add 0) .i64 fun r_36 =>
ldI h_35 ((⟨r_1, 0, none⟩ : Addr).add 1) .i64 fun r_37 =>
ldS h_35 ((⟨r_1, 0, none⟩ : Addr).add 2) fun r_38 r_38n r_38c =>
K (.tuple #[.agg #[.int .i64 r_36, .int .i64 r_37, .slice r_38 r_38n r_38c], .int .i64 r_32]) h_35)) (Kp))) (Kp))) (Kp))) (Kp))) (Kp)

/- burin/burinref7.Put -/
set_option maxRecDepth 100000 in
def burinref7_Put (C : CallP) (c : Option Addr) (base : Int) (b_1 : Int) (b_2 : Int) (b_3 : Option Addr) (b_3n : Nat) (b_3c : Nat) (template : Int) (skip : Bool) (h : Heap) (K : Value → Heap → Prop) (Kp : List PanicEntry → Heap → Prop) : Prop :=
newC h [.int .i64 b_1, .int .i64 b_2, .slice b_3 b_3n b_3c] T_api_Bitmap fun r_4 h_5 =>
C F_burinref6_Places #[.int .i64 template] h_5 (fun v_6 h_7 =>
∃ (r_8 : Option Addr) (r_8n : Nat) (r_8c : Nat), v_6 = .slice r_8 r_8n r_8c ∧ (
∃ J_9 : Nat → List Value → Heap → Prop, (∃ n_11, J_9 n_11 [.int .i64 0] h_7) ∧ ∀ (n_11 : Nat) (h_12 : Heap) (u_13 : Nat → Value) (y_14 : Int), J_9 n_11 [.int .i64 y_14] h_12 → (
ldI h_12 ((⟨r_4, 0, none⟩ : Addr).add 1) .i64 fun x_15 =>
bcase (decide (y_14 < x_15)) (
∃ K_16 : List Value → Heap → Prop, (
bcase skip (
ldI h_12 ((⟨r_4, 0, none⟩ : Addr).add 0) .i64 fun x_19 =>
ldI h_12 ((⟨r_4, 0, none⟩ : Addr).add 1) .i64 fun x_20 =>
ldS h_12 ((⟨r_4, 0, none⟩ : Addr).add 2) fun x_21 x_21n x_21c =>
C F_burinref7_same #[.agg #[.int .i64 x_19, .int .i64 x_20, .slice x_21 x_21n x_21c], .int .i64 y_14] h_12 (fun v_22 h_23 =>
∃ (r_24 : Int), v_22 = .int .i64 r_24 ∧ (
C F_burinref7_Need #[.int .i64 template] h_23 (fun v_25 h_26 =>
∃ (r_27 : Int), v_25 = .int .i64 r_27 ∧ (
bindI (IntKind.i64.wrap (base + r_27)) fun z_28 =>
bindI (IntKind.i64.wrap (z_28 - (1 : Int))) fun z_29 =>
C F_burinref4_Coder_Put #[.pointer c, .int .i64 z_29, .int .i64 r_24] h_26 (fun v_30 h_31 =>
∃ (r_32 : Int), v_30 = .int .i64 r_32 ∧ (
bcase (r_32 != (0 : Int)) (
K (.int .i64 r_32) h_31) <|
bcase (r_24 == (1 : Int)) (
bindI (IntKind.i64.wrap (y_14 + (1 : Int))) fun z_33 =>
∃ m_10, m_10 < n_11 ∧ J_9 m_10 [.int .i64 z_33] h_31) <|
K_16 [] h_31)) (Kp))) (Kp))) (Kp)) <|
K_16 [] h_12) ∧ ∀ (h_17 : Heap) (u_18 : Nat → Value) , K_16 [] h_17 → (
∃ J_34 : Nat → List Value → Heap → Prop, (∃ n_36, J_34 n_36 [.int .i64 0] h_17) ∧ ∀ (n_36 : Nat) (h_37 : Heap) (u_38 : Nat → Value) (x_39 : Int), J_34 n_36 [.int .i64 x_39] h_37 → (
ldI h_37 ((⟨r_4, 0, none⟩ : Addr).add 0) .i64 fun x_40 =>
bcase (decide (x_39 < x_40)) (
ldI h_37 ((⟨r_4, 0, none⟩ : Addr).add 0) .i64 fun x_41 =>
ldI h_37 ((⟨r_4, 0, none⟩ : Addr).add 1) .i64 fun x_42 =>
ldS h_37 ((⟨r_4, 0, none⟩ : Addr).add 2) fun x_43 x_43n x_43c =>
ldI h_37 ((⟨r_4, 0, none⟩ : Addr).add 0) .i64 fun x_44 =>
ldI h_37 ((⟨r_4, 0, none⟩ : Addr).add 1) .i64 fun x_45 =>
ldS h_37 ((⟨r_4, 0, none⟩ : Addr).add 2) fun x_46 x_46n x_46c =>
C F_burinref6_At #[.agg #[.int .i64 x_41, .int .i64 x_42, .slice x_43 x_43n x_43c], .slice r_8 r_8n r_8c, .int .i64 x_39, .int .i64 y_14] h_37 (fun v_47 h_48 =>
∃ (r_49 : Int), v_47 = .int .i64 r_49 ∧ (
hext h_37 h_48 ∧ (
bindI (IntKind.i64.wrap (base + r_49)) fun z_50 =>
C F_burinref0_Get #[.agg #[.int .i64 x_44, .int .i64 x_45, .slice x_46 x_46n x_46c], .int .i64 x_39, .int .i64 y_14] h_48 (fun v_51 h_52 =>
∃ (r_53 : Int), v_51 = .int .i64 r_53 ∧ (
C F_burinref4_Coder_Put #[.pointer c, .int .i64 z_50, .int .i64 r_53] h_52 (fun v_54 h_55 =>
∃ (r_56 : Int), v_54 = .int .i64 r_56 ∧ (
bcase (r_56 != (0 : Int)) (
K (.int .i64 r_56) h_55) <|
bindI (IntKind.i64.wrap (x_39 + (1 : Int))) fun z_57 =>
∃ m_35, m_35 < n_36 ∧ J_34 m_35 [.int .i64 z_57] h_55)) (Kp))) (Kp)))) (Kp)) <|
bindI (IntKind.i64.wrap (y_14 + (1 : Int))) fun z_58 =>
∃ m_10, m_10 < n_11 ∧ J_9 m_10 [.int .i64 z_58] h_37))) <|
K (.int .i64 0) h_12))) (Kp)

/- burin/burinref7.Need -/
set_option maxRecDepth 100000 in
def burinref7_Need (C : CallP) (template : Int) (h : Heap) (K : Value → Heap → Prop) (Kp : List PanicEntry → Heap → Prop) : Prop :=
C F_burinref6_Size #[.int .i64 template] h (fun v_1 h_2 =>
∃ (r_3 : Int), v_1 = .int .i64 r_3 ∧ (
bindI (IntKind.i64.wrap (r_3 + (1 : Int))) fun z_4 =>
K (.int .i64 z_4) h_2)) (Kp)

/- burin/burinref7.Get -/
set_option maxRecDepth 100000 in
def burinref7_Get (C : CallP) (a0 : Option Addr) (a1 : Int) (a2 : Int) (a3 : Int) (a4 : Int) (a5 : Bool) (h : Heap) (K : Value → Heap → Prop) (Kp : List PanicEntry → Heap → Prop) : Prop :=
newC h [.int .i64 0, .int .i64 0, .slice none 0 0] T_api_Bitmap fun r_1 h_2 =>
C F_burinref6_Places #[.int .i64 a4] h_2 (fun v_3 h_4 =>
∃ (r_5 : Option Addr) (r_5n : Nat) (r_5c : Nat), v_3 = .slice r_5 r_5n r_5c ∧ (
C F_burinref0_White #[.int .i64 a2, .int .i64 a3] h_4 (fun v_6 h_7 =>
∃ (r_8 : Int) (r_9 : Int) (r_10 : Option Addr) (r_10n : Nat) (r_10c : Nat), v_6 = .agg #[.int .i64 r_8, .int .i64 r_9, .slice r_10 r_10n r_10c] ∧ (
newC h_7 [.int .i64 0, .int .i64 0, .slice none 0 0] T_api_Bitmap fun r_11 h_12 =>
stV h_12 ((⟨r_11, 0, none⟩ : Addr).add 0) (.int .i64 r_8) fun h_13 =>
stV h_13 ((⟨r_11, 0, none⟩ : Addr).add 1) (.int .i64 r_9) fun h_14 =>
stV h_14 ((⟨r_11, 0, none⟩ : Addr).add 2) (.slice r_10 r_10n r_10c) fun h_15 =>
∃ J_16 : Nat → List Value → Heap → Prop, (∃ n_18, J_16 n_18 [.int .i64 0] h_15) ∧ ∀ (n_18 : Nat) (h_19 : Heap) (u_20 : Nat → Value) (x_21 : Int), J_16 n_18 [.int .i64 x_21] h_19 → (
bcase (decide (x_21 < a3)) (
∃ K_22 : List Value → Heap → Prop, (
bcase a5 (
C F_burinref7_Need #[.int .i64 a4] h_19 (fun v_25 h_26 =>
∃ (r_27 : Int), v_25 = .int .i64 r_27 ∧ (
bindI (IntKind.i64.wrap (a1 + r_27)) fun z_28 =>
bindI (IntKind.i64.wrap (z_28 - (1 : Int))) fun z_29 =>
C F_burinref4_Decoder_Get #[.pointer a0, .int .i64 z_29] h_26 (fun v_30 h_31 =>
∃ (r_32 : Int), ∃ (r_33 : Int), v_30 = .tuple #[.int .i64 r_32, .int .i64 r_33] ∧ (
bcase (r_33 != (0 : Int)) (
stV h_31 ((⟨r_1, 0, none⟩ : Addr).add 0) (.int .i64 0) fun h_34 =>
stV h_34 ((⟨r_1, 0, none⟩ : Addr).add 1) (.int .i64 0) fun h_35 =>
stV h_35 ((⟨r_1, 0, none⟩ : Addr).add 2) (.slice none 0 0) fun h_36 =>
ldI h_36 ((⟨r_1, 0, none⟩ : Addr).add 0) .i64 fun r_37 =>
ldI h_36 ((⟨r_1, 0, none⟩ : Addr).add 1) .i64 fun r_38 =>
ldS h_36 ((⟨r_1, 0, none⟩ : Addr).add 2) fun r_39 r_39n r_39c =>
K (.tuple #[.agg #[.int .i64 r_37, .int .i64 r_38, .slice r_39 r_39n r_39c], .int .i64 r_33]) h_36) <|
bcase (r_32 == (1 : Int)) (
∃ J_40 : Nat → List Value → Heap → Prop, (∃ n_42, J_40 n_42 [.int .i64 0] h_31) ∧ ∀ (n_42 : Nat) (h_43 : Heap) (u_44 : Nat → Value) (x_45 : Int), J_40 n_42 [.int .i64 x_45] h_43 → (
bcase (decide (x_45 < a2)) (
bindI (IntKind.i64.wrap (x_21 - (1 : Int))) fun z_46 =>
ldI h_43 ((⟨r_11, 0, none⟩ : Addr).add 0) .i64 fun x_47 =>
ldI h_43 ((⟨r_11, 0, none⟩ : Addr).add 1) .i64 fun x_48 =>
ldS h_43 ((⟨r_11, 0, none⟩ : Addr).add 2) fun x_49 x_49n x_49c =>
ldI h_43 ((⟨r_11, 0, none⟩ : Addr).add 0) .i64 fun x_50 =>
ldI h_43 ((⟨r_11, 0, none⟩ : Addr).add 1) .i64 fun x_51 =>
ldS h_43 ((⟨r_11, 0, none⟩ : Addr).add 2) fun x_52 x_52n x_52c =>
C F_burinref0_Get #[.agg #[.int .i64 x_50, .int .i64 x_51, .slice x_52 x_52n x_52c], .int .i64 x_45, .int .i64 z_46] h_43 (fun v_53 h_54 =>
∃ (r_55 : Int), v_53 = .int .i64 r_55 ∧ (
hext h_43 h_54 ∧ (
C F_burinref0_Put #[.agg #[.int .i64 x_47, .int .i64 x_48, .slice x_49 x_49n x_49c], .int .i64 x_45, .int .i64 x_21, .int .i64 r_55] h_54 (fun v_56 h_57 =>
bindI (IntKind.i64.wrap (x_45 + (1 : Int))) fun z_58 =>
∃ m_41, m_41 < n_42 ∧ J_40 m_41 [.int .i64 z_58] h_57) (Kp)))) (Kp)) <|
bindI (IntKind.i64.wrap (x_21 + (1 : Int))) fun z_59 =>
∃ m_17, m_17 < n_18 ∧ J_16 m_17 [.int .i64 z_59] h_43)) <|
K_22 [] h_31)) (Kp))) (Kp)) <|
K_22 [] h_19) ∧ ∀ (h_23 : Heap) (u_24 : Nat → Value) , K_22 [] h_23 → (
∃ J_60 : Nat → List Value → Heap → Prop, (∃ n_62, J_60 n_62 [.int .i64 0] h_23) ∧ ∀ (n_62 : Nat) (h_63 : Heap) (u_64 : Nat → Value) (x_65 : Int), J_60 n_62 [.int .i64 x_65] h_63 → (
bcase (decide (x_65 < a2)) (
ldI h_63 ((⟨r_11, 0, none⟩ : Addr).add 0) .i64 fun x_66 =>
ldI h_63 ((⟨r_11, 0, none⟩ : Addr).add 1) .i64 fun x_67 =>
ldS h_63 ((⟨r_11, 0, none⟩ : Addr).add 2) fun x_68 x_68n x_68c =>
C F_burinref6_At #[.agg #[.int .i64 x_66, .int .i64 x_67, .slice x_68 x_68n x_68c], .slice r_5 r_5n r_5c, .int .i64 x_65, .int .i64 x_21] h_63 (fun v_69 h_70 =>
∃ (r_71 : Int), v_69 = .int .i64 r_71 ∧ (
bindI (IntKind.i64.wrap (a1 + r_71)) fun z_72 =>
C F_burinref4_Decoder_Get #[.pointer a0, .int .i64 z_72] h_70 (fun v_73 h_74 =>
∃ (r_75 : Int), ∃ (r_76 : Int), v_73 = .tuple #[.int .i64 r_75, .int .i64 r_76] ∧ (
bcase (r_76 != (0 : Int)) (
stV h_74 ((⟨r_1, 0, none⟩ : Addr).add 0) (.int .i64 0) fun h_77 =>
stV h_77 ((⟨r_1, 0, none⟩ : Addr).add 1) (.int .i64 0) fun h_78 =>
stV h_78 ((⟨r_1, 0, none⟩ : Addr).add 2) (.slice none 0 0) fun h_79 =>
ldI h_79 ((⟨r_1, 0, none⟩ : Addr).add 0) .i64 fun r_80 =>
ldI h_79 ((⟨r_1, 0, none⟩ : Addr).add 1) .i64 fun r_81 =>
ldS h_79 ((⟨r_1, 0, none⟩ : Addr).add 2) fun r_82 r_82n r_82c =>
K (.tuple #[.agg #[.int .i64 r_80, .int .i64 r_81, .slice r_82 r_82n r_82c], .int .i64 r_76]) h_79) <|
ldI h_74 ((⟨r_11, 0, none⟩ : Addr).add 0) .i64 fun x_83 =>
ldI h_74 ((⟨r_11, 0, none⟩ : Addr).add 1) .i64 fun x_84 =>
ldS h_74 ((⟨r_11, 0, none⟩ : Addr).add 2) fun x_85 x_85n x_85c =>
C F_burinref0_Put #[.agg #[.int .i64 x_83, .int .i64 x_84, .slice x_85 x_85n x_85c], .int .i64 x_65, .int .i64 x_21, .int .i64 r_75] h_74 (fun v_86 h_87 =>
bindI (IntKind.i64.wrap (x_65 + (1 : Int))) fun z_88 =>
∃ m_61, m_61 < n_62 ∧ J_60 m_61 [.int .i64 z_88] h_87) (Kp))) (Kp))) (Kp)) <|
bindI (IntKind.i64.wrap (x_21 + (1 : Int))) fun z_89 =>
∃ m_17, m_17 < n_18 ∧ J_16 m_17 [.int .i64 z_89] h_63))) <|
ldI h_19 ((⟨r_11, 0, none⟩ : Addr).add 0) .i64 fun x_90 =>
ldI h_19 ((⟨r_11, 0, none⟩ : Addr).add 1) .i64 fun x_91 =>
ldS h_19 ((⟨r_11, 0, none⟩ : Addr).add 2) fun x_92 x_92n x_92c =>
stV h_19 ((⟨r_1, 0, none⟩ : Addr).add 0) (.int .i64 x_90) fun h_93 =>
stV h_93 ((⟨r_1, 0, none⟩ : Addr).add 1) (.int .i64 x_91) fun h_94 =>
stV h_94 ((⟨r_1, 0, none⟩ : Addr).add 2) (.slice x_92 x_92n x_92c) fun h_95 =>
ldI h_95 ((⟨r_1, 0, none⟩ : Addr).add 0) .i64 fun r_96 =>
ldI h_95 ((⟨r_1, 0, none⟩ : Addr).add 1) .i64 fun r_97 =>
ldS h_95 ((⟨r_1, 0, none⟩ : Addr).add 2) fun r_98 r_98n r_98c =>
K (.tuple #[.agg #[.int .i64 r_96, .int .i64 r_97, .slice r_98 r_98n r_98c], .int .i64 0]) h_95))) (Kp))) (Kp)

/- burin/burinref7.same -/
set_option maxRecDepth 100000 in
def burinref7_same (C : CallP) (b_1 : Int) (b_2 : Int) (b_3 : Option Addr) (b_3n : Nat) (b_3c : Nat) (y : Int) (h : Heap) (K : Value → Heap → Prop) (Kp : List PanicEntry → Heap → Prop) : Prop :=
newC h [.int .i64 b_1, .int .i64 b_2, .slice b_3 b_3n b_3c] T_api_Bitmap fun r_4 h_5 =>
∃ J_6 : Nat → List Value → Heap → Prop, (∃ n_8, J_6 n_8 [.int .i64 0] h_5) ∧ ∀ (n_8 : Nat) (h_9 : Heap) (u_10 : Nat → Value) (x_11 : Int), J_6 n_8 [.int .i64 x_11] h_9 → (
ldI h_9 ((⟨r_4, 0, none⟩ : Addr).add 0) .i64 fun x_12 =>
bcase (decide (x_11 < x_12)) (
bindI (IntKind.i64.wrap (y - (1 : Int))) fun z_13 =>
ldI h_9 ((⟨r_4, 0, none⟩ : Addr).add 0) .i64 fun x_14 =>
ldI h_9 ((⟨r_4, 0, none⟩ : Addr).add 1) .i64 fun x_15 =>
ldS h_9 ((⟨r_4, 0, none⟩ : Addr).add 2) fun x_16 x_16n x_16c =>
ldI h_9 ((⟨r_4, 0, none⟩ : Addr).add 0) .i64 fun x_17 =>
ldI h_9 ((⟨r_4, 0, none⟩ : Addr).add 1) .i64 fun x_18 =>
ldS h_9 ((⟨r_4, 0, none⟩ : Addr).add 2) fun x_19 x_19n x_19c =>
C F_burinref0_Get #[.agg #[.int .i64 x_14, .int .i64 x_15, .slice x_16 x_16n x_16c], .int .i64 x_11, .int .i64 y] h_9 (fun v_20 h_21 =>
∃ (r_22 : Int), v_20 = .int .i64 r_22 ∧ (
hext h_9 h_21 ∧ (
C F_burinref0_Get #[.agg #[.int .i64 x_17, .int .i64 x_18, .slice x_19 x_19n x_19c], .int .i64 x_11, .int .i64 z_13] h_21 (fun v_23 h_24 =>
∃ (r_25 : Int), v_23 = .int .i64 r_25 ∧ (
bcase (r_22 != r_25) (
K (.int .i64 0) h_24) <|
bindI (IntKind.i64.wrap (x_11 + (1 : Int))) fun z_26 =>
∃ m_7, m_7 < n_8 ∧ J_6 m_7 [.int .i64 z_26] h_24)) (Kp)))) (Kp)) <|
K (.int .i64 1) h_9)

end Go.Den.Yteakipgcanafoaa

/- Written by gen.py: each condition of the functions of burinref7 is the one of its body; so it is enough for its call. -/
set_option linter.unusedVariables false
set_option linter.unusedSimpArgs false
namespace Go.Den.Yteakipgcanafoaa
open Go Go.Den

noncomputable def hints_burinref7_Encode : Hints := Hints.mk (fun i => none)
  (fun i => none)
  (fun i => none) []
set_option maxRecDepth 100000 in
theorem eq_burinref7_Encode (C : CallP) (b_1 : Int) (b_2 : Int) (b_3 : Option Addr) (b_3n : Nat) (b_3c : Nat) (template : Int) (skip : Bool) (h : Heap) (K : Value → Heap → Prop) (Kp : List PanicEntry → Heap → Prop) :
    fnD Go.Proofs.Try.prog C hints_burinref7_Encode Go.Proofs.Try.f45 [.agg #[.int .i64 b_1, .int .i64 b_2, .slice b_3 b_3n b_3c], .int .i64 template, .bool skip] h K Kp = burinref7_Encode C b_1 b_2 b_3 b_3n b_3c template skip h K Kp := by kernel_rfl

theorem call_burinref7_Encode {b_1 : Int} {b_2 : Int} {b_3 : Option Addr} {b_3n : Nat} {b_3c : Nat} {template : Int} {skip : Bool} {h : Heap} {K : Value → Heap → Prop} {Kp : List PanicEntry → Heap → Prop} (H : burinref7_Encode (CallsHP Go.Proofs.Try.prog) b_1 b_2 b_3 b_3n b_3c template skip h K Kp) : CallsHP Go.Proofs.Try.prog F_burinref7_Encode #[.agg #[.int .i64 b_1, .int .i64 b_2, .slice b_3 b_3n b_3c], .int .i64 template, .bool skip] h K Kp :=
  callsHP_of hints_burinref7_Encode (by kernel_rfl) Go.Proofs.Try.func45 (by kernel_rfl) (by rw [eq_burinref7_Encode]; exact H)

noncomputable def hints_burinref7_Decode : Hints := Hints.mk (fun i => none)
  (fun i => none)
  (fun i => none) []
set_option maxRecDepth 100000 in
theorem eq_burinref7_Decode (C : CallP) (f : Option Addr) (fn : Nat) (fc : Nat) (w : Int) (h' : Int) (template : Int) (skip : Bool) (h : Heap) (K : Value → Heap → Prop) (Kp : List PanicEntry → Heap → Prop) :
    fnD Go.Proofs.Try.prog C hints_burinref7_Decode Go.Proofs.Try.f50 [.slice f fn fc, .int .i64 w, .int .i64 h', .int .i64 template, .bool skip] h K Kp = burinref7_Decode C f fn fc w h' template skip h K Kp := by kernel_rfl

theorem call_burinref7_Decode {f : Option Addr} {fn : Nat} {fc : Nat} {w : Int} {h' : Int} {template : Int} {skip : Bool} {h : Heap} {K : Value → Heap → Prop} {Kp : List PanicEntry → Heap → Prop} (H : burinref7_Decode (CallsHP Go.Proofs.Try.prog) f fn fc w h' template skip h K Kp) : CallsHP Go.Proofs.Try.prog F_burinref7_Decode #[.slice f fn fc, .int .i64 w, .int .i64 h', .int .i64 template, .bool skip] h K Kp :=
  callsHP_of hints_burinref7_Decode (by kernel_rfl) Go.Proofs.Try.func50 (by kernel_rfl) (by rw [eq_burinref7_Decode]; exact H)

noncomputable def hints_burinref7_Put : Hints := Hints.mk (fun i => bif Nat.beq i 14 then some ([11, 12], .take 0 <| .take 1 <| .take 3 <| .take 4 <| .take 5 <| .take 9 <| .take 10 <| .take 2 <| .take 8 <| .go 6 <| .take 7 <| .bar 11 [12] <| .bar 12 [] <| .take 13 <| .done) else (none))
  (fun i => bif Nat.beq i 3 then some ([(12, .int .i64)], 18446744073709155328) else (bif Nat.beq i 12 then some ([(15, .int .i64)], 18446739675663139840) else (none)))
  (fun i => bif Nat.beq i 11 then some ([], 4398012982272) else (none)) []
set_option maxRecDepth 100000 in
theorem eq_burinref7_Put (C : CallP) (c : Option Addr) (base : Int) (b_1 : Int) (b_2 : Int) (b_3 : Option Addr) (b_3n : Nat) (b_3c : Nat) (template : Int) (skip : Bool) (h : Heap) (K : Value → Heap → Prop) (Kp : List PanicEntry → Heap → Prop) :
    fnD Go.Proofs.Try.prog C hints_burinref7_Put Go.Proofs.Try.f61 [.pointer c, .int .i64 base, .agg #[.int .i64 b_1, .int .i64 b_2, .slice b_3 b_3n b_3c], .int .i64 template, .bool skip] h K Kp = burinref7_Put C c base b_1 b_2 b_3 b_3n b_3c template skip h K Kp := by kernel_rfl

theorem call_burinref7_Put {c : Option Addr} {base : Int} {b_1 : Int} {b_2 : Int} {b_3 : Option Addr} {b_3n : Nat} {b_3c : Nat} {template : Int} {skip : Bool} {h : Heap} {K : Value → Heap → Prop} {Kp : List PanicEntry → Heap → Prop} (H : burinref7_Put (CallsHP Go.Proofs.Try.prog) c base b_1 b_2 b_3 b_3n b_3c template skip h K Kp) : CallsHP Go.Proofs.Try.prog F_burinref7_Put #[.pointer c, .int .i64 base, .agg #[.int .i64 b_1, .int .i64 b_2, .slice b_3 b_3n b_3c], .int .i64 template, .bool skip] h K Kp :=
  callsHP_of hints_burinref7_Put (by kernel_rfl) Go.Proofs.Try.func61 (by kernel_rfl) (by rw [eq_burinref7_Put]; exact H)

noncomputable def hints_burinref7_Need : Hints := Hints.mk (fun i => none)
  (fun i => none)
  (fun i => none) []
set_option maxRecDepth 100000 in
theorem eq_burinref7_Need (C : CallP) (template : Int) (h : Heap) (K : Value → Heap → Prop) (Kp : List PanicEntry → Heap → Prop) :
    fnD Go.Proofs.Try.prog C hints_burinref7_Need Go.Proofs.Try.f84 [.int .i64 template] h K Kp = burinref7_Need C template h K Kp := by kernel_rfl

theorem call_burinref7_Need {template : Int} {h : Heap} {K : Value → Heap → Prop} {Kp : List PanicEntry → Heap → Prop} (H : burinref7_Need (CallsHP Go.Proofs.Try.prog) template h K Kp) : CallsHP Go.Proofs.Try.prog F_burinref7_Need #[.int .i64 template] h K Kp :=
  callsHP_of hints_burinref7_Need (by kernel_rfl) Go.Proofs.Try.func84 (by kernel_rfl) (by rw [eq_burinref7_Need]; exact H)

noncomputable def hints_burinref7_Get : Hints := Hints.mk (fun i => bif Nat.beq i 14 then some ([8], .take 1 <| .take 2 <| .take 4 <| .take 5 <| .take 6 <| .take 0 <| .take 3 <| .go 7 <| .bar 8 [] <| .done) else (none))
  (fun i => bif Nat.beq i 4 then some ([(16, .int .i64)], 1237940039285380274639020032) else (bif Nat.beq i 12 then some ([(19, .int .i64)], 18445618173803233280) else (bif Nat.beq i 16 then some ([(20, .int .i64)], 1237940020838636201196920832) else (none))))
  (fun i => bif Nat.beq i 15 then some ([], 18446744065120542720) else (none)) []
set_option maxRecDepth 100000 in
theorem eq_burinref7_Get (C : CallP) (a0 : Option Addr) (a1 : Int) (a2 : Int) (a3 : Int) (a4 : Int) (a5 : Bool) (h : Heap) (K : Value → Heap → Prop) (Kp : List PanicEntry → Heap → Prop) :
    fnD Go.Proofs.Try.prog C hints_burinref7_Get Go.Proofs.Try.f85 [.pointer a0, .int .i64 a1, .int .i64 a2, .int .i64 a3, .int .i64 a4, .bool a5] h K Kp = burinref7_Get C a0 a1 a2 a3 a4 a5 h K Kp := by kernel_rfl

theorem call_burinref7_Get {a0 : Option Addr} {a1 : Int} {a2 : Int} {a3 : Int} {a4 : Int} {a5 : Bool} {h : Heap} {K : Value → Heap → Prop} {Kp : List PanicEntry → Heap → Prop} (H : burinref7_Get (CallsHP Go.Proofs.Try.prog) a0 a1 a2 a3 a4 a5 h K Kp) : CallsHP Go.Proofs.Try.prog F_burinref7_Get #[.pointer a0, .int .i64 a1, .int .i64 a2, .int .i64 a3, .int .i64 a4, .bool a5] h K Kp :=
  callsHP_of hints_burinref7_Get (by kernel_rfl) Go.Proofs.Try.func85 (by kernel_rfl) (by rw [eq_burinref7_Get]; exact H)

noncomputable def hints_burinref7_same : Hints := Hints.mk (fun i => bif Nat.beq i 4 then some ([8], .take 1 <| .take 2 <| .take 5 <| .take 6 <| .take 7 <| .take 0 <| .take 4 <| .go 3 <| .bar 8 [] <| .take 9 <| .done) else (none))
  (fun i => bif Nat.beq i 2 then some ([(5, .int .i64)], 4194288) else (none))
  (fun i => none) []
set_option maxRecDepth 100000 in
theorem eq_burinref7_same (C : CallP) (b_1 : Int) (b_2 : Int) (b_3 : Option Addr) (b_3n : Nat) (b_3c : Nat) (y : Int) (h : Heap) (K : Value → Heap → Prop) (Kp : List PanicEntry → Heap → Prop) :
    fnD Go.Proofs.Try.prog C hints_burinref7_same Go.Proofs.Try.f99 [.agg #[.int .i64 b_1, .int .i64 b_2, .slice b_3 b_3n b_3c], .int .i64 y] h K Kp = burinref7_same C b_1 b_2 b_3 b_3n b_3c y h K Kp := by kernel_rfl

theorem call_burinref7_same {b_1 : Int} {b_2 : Int} {b_3 : Option Addr} {b_3n : Nat} {b_3c : Nat} {y : Int} {h : Heap} {K : Value → Heap → Prop} {Kp : List PanicEntry → Heap → Prop} (H : burinref7_same (CallsHP Go.Proofs.Try.prog) b_1 b_2 b_3 b_3n b_3c y h K Kp) : CallsHP Go.Proofs.Try.prog F_burinref7_same #[.agg #[.int .i64 b_1, .int .i64 b_2, .slice b_3 b_3n b_3c], .int .i64 y] h K Kp :=
  callsHP_of hints_burinref7_same (by kernel_rfl) Go.Proofs.Try.func99 (by kernel_rfl) (by rw [eq_burinref7_same]; exact H)

end Go.Den.Yteakipgcanafoaa
