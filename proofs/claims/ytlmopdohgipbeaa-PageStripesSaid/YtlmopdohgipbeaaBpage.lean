/- Written by gen.py: each condition of the functions of page is the one of its body; so it is enough for its call. -/
import Derived.Test.YtlmopdohgipbeaaMpage
import Derived.Test.YtlmopdohgipbeaaProg
set_option linter.unusedVariables false
set_option linter.unusedSimpArgs false
namespace Go.Den.Ytlmopdohgipbeaa
open Go Go.Den

noncomputable def hints_page_New : Hints := Hints.mk (fun i => none)
  (fun i => none)
  (fun i => none)
set_option maxRecDepth 100000 in
theorem eq_page_New (C : CallP) (s_1 : Int) (s_2 : Int) (s_3 : Int) (s_4 : Int) (h : Heap) (K : Value → Heap → Prop) (Kp : List PanicEntry → Heap → Prop) :
    fnD Go.Proofs.Try.prog C hints_page_New Go.Proofs.Try.f13 [.agg #[.int .i64 s_1, .int .i64 s_2, .int .i64 s_3, .int .i64 s_4]] h K Kp = page_New C s_1 s_2 s_3 s_4 h K Kp := by kernel_rfl

theorem call_page_New {s_1 : Int} {s_2 : Int} {s_3 : Int} {s_4 : Int} {h : Heap} {K : Value → Heap → Prop} {Kp : List PanicEntry → Heap → Prop} (H : page_New (CallsHP Go.Proofs.Try.prog) s_1 s_2 s_3 s_4 h K Kp) : CallsHP Go.Proofs.Try.prog F_page_New #[.agg #[.int .i64 s_1, .int .i64 s_2, .int .i64 s_3, .int .i64 s_4]] h K Kp :=
  callsHP_of hints_page_New (by kernel_rfl) Go.Proofs.Try.func13 (by kernel_rfl) (by rw [eq_page_New]; exact H)

noncomputable def hints_page_Page_Add : Hints := Hints.mk (fun i => bif Nat.beq i 7 then some ([], .take 0 <| .take 1 <| .take 2 <| .take 3 <| .take 4 <| .take 5 <| .take 6 <| .take 7 <| .take 8 <| .take 9 <| .take 10 <| .take 13 <| .take 14 <| .take 15 <| .take 16 <| .take 18 <| .take 11 <| .take 12 <| .take 17 <| .take 19 <| .take 20 <| .take 21 <| .take 22 <| .take 23 <| .done) else (bif Nat.beq i 9 then some ([12], .take 0 <| .take 1 <| .take 2 <| .take 4 <| .take 5 <| .take 7 <| .take 9 <| .take 10 <| .take 11 <| .take 3 <| .take 6 <| .take 8 <| .bar 12 [] <| .take 13 <| .done) else (none)))
  (fun i => none)
  (fun i => bif Nat.beq i 4 then some ([(18, .bool)], 16515072) else (bif Nat.beq i 9 then some ([], 288230376151450624) else (none)))
set_option maxRecDepth 100000 in
theorem eq_page_Page_Add (C : CallP) (a0 : Option Addr) (a1 : Int) (a2 : Int) (a3 : Int) (a4_1 : Int) (a4_2 : Int) (a4_3 : Option Addr) (a4_3n : Nat) (a4_3c : Nat) (h : Heap) (K : Value → Heap → Prop) (Kp : List PanicEntry → Heap → Prop) :
    fnD Go.Proofs.Try.prog C hints_page_Page_Add Go.Proofs.Try.f18 [.pointer a0, .int .i64 a1, .int .i64 a2, .int .i64 a3, .agg #[.int .i64 a4_1, .int .i64 a4_2, .slice a4_3 a4_3n a4_3c]] h K Kp = page_Page_Add C a0 a1 a2 a3 a4_1 a4_2 a4_3 a4_3n a4_3c h K Kp := by kernel_rfl

theorem call_page_Page_Add {a0 : Option Addr} {a1 : Int} {a2 : Int} {a3 : Int} {a4_1 : Int} {a4_2 : Int} {a4_3 : Option Addr} {a4_3n : Nat} {a4_3c : Nat} {h : Heap} {K : Value → Heap → Prop} {Kp : List PanicEntry → Heap → Prop} (H : page_Page_Add (CallsHP Go.Proofs.Try.prog) a0 a1 a2 a3 a4_1 a4_2 a4_3 a4_3n a4_3c h K Kp) : CallsHP Go.Proofs.Try.prog F_page_Page_Add #[.pointer a0, .int .i64 a1, .int .i64 a2, .int .i64 a3, .agg #[.int .i64 a4_1, .int .i64 a4_2, .slice a4_3 a4_3n a4_3c]] h K Kp :=
  callsHP_of hints_page_Page_Add (by kernel_rfl) Go.Proofs.Try.func18 (by kernel_rfl) (by rw [eq_page_Page_Add]; exact H)

noncomputable def hints_page_Page_Stripe : Hints := Hints.mk (fun i => bif Nat.beq i 1 then some ([], .take 0 <| .take 1 <| .take 2 <| .take 3 <| .take 4 <| .take 5 <| .take 6 <| .take 7 <| .take 8 <| .take 9 <| .take 10 <| .take 11 <| .take 12 <| .take 13 <| .take 14 <| .take 15 <| .take 17 <| .take 18 <| .take 19 <| .take 20 <| .take 16 <| .take 21 <| .take 22 <| .take 23 <| .take 24 <| .take 25 <| .take 26 <| .take 27 <| .take 28 <| .take 30 <| .take 31 <| .take 32 <| .take 33 <| .take 36 <| .take 37 <| .take 38 <| .take 39 <| .take 29 <| .take 34 <| .take 35 <| .take 40 <| .take 41 <| .take 42 <| .take 43 <| .take 44 <| .done) else (none))
  (fun i => none)
  (fun i => none)
set_option maxRecDepth 100000 in
theorem eq_page_Page_Stripe (C : CallP) (p : Option Addr) (last : Int) (h : Heap) (K : Value → Heap → Prop) (Kp : List PanicEntry → Heap → Prop) :
    fnD Go.Proofs.Try.prog C hints_page_Page_Stripe Go.Proofs.Try.f21 [.pointer p, .int .i64 last] h K Kp = page_Page_Stripe C p last h K Kp := by kernel_rfl

theorem call_page_Page_Stripe {p : Option Addr} {last : Int} {h : Heap} {K : Value → Heap → Prop} {Kp : List PanicEntry → Heap → Prop} (H : page_Page_Stripe (CallsHP Go.Proofs.Try.prog) p last h K Kp) : CallsHP Go.Proofs.Try.prog F_page_Page_Stripe #[.pointer p, .int .i64 last] h K Kp :=
  callsHP_of hints_page_Page_Stripe (by kernel_rfl) Go.Proofs.Try.func21 (by kernel_rfl) (by rw [eq_page_Page_Stripe]; exact H)

noncomputable def hints_page_Page_End : Hints := Hints.mk (fun i => bif Nat.beq i 1 then some ([], .take 0 <| .take 1 <| .take 2 <| .take 3 <| .take 4 <| .take 5 <| .take 6 <| .take 7 <| .take 8 <| .take 9 <| .take 10 <| .take 11 <| .take 12 <| .take 13 <| .take 14 <| .take 16 <| .take 17 <| .take 18 <| .take 19 <| .take 15 <| .take 20 <| .take 21 <| .take 22 <| .take 23 <| .done) else (none))
  (fun i => none)
  (fun i => bif Nat.beq i 3 then some ([], 536870904) else (none))
set_option maxRecDepth 100000 in
theorem eq_page_Page_End (C : CallP) (p : Option Addr) (h : Heap) (K : Value → Heap → Prop) (Kp : List PanicEntry → Heap → Prop) :
    fnD Go.Proofs.Try.prog C hints_page_Page_End Go.Proofs.Try.f23 [.pointer p] h K Kp = page_Page_End C p h K Kp := by kernel_rfl

theorem call_page_Page_End {p : Option Addr} {h : Heap} {K : Value → Heap → Prop} {Kp : List PanicEntry → Heap → Prop} (H : page_Page_End (CallsHP Go.Proofs.Try.prog) p h K Kp) : CallsHP Go.Proofs.Try.prog F_page_Page_End #[.pointer p] h K Kp :=
  callsHP_of hints_page_Page_End (by kernel_rfl) Go.Proofs.Try.func23 (by kernel_rfl) (by rw [eq_page_Page_End]; exact H)

noncomputable def hints_page_Page_Next : Hints := Hints.mk (fun i => none)
  (fun i => none)
  (fun i => none)
set_option maxRecDepth 100000 in
theorem eq_page_Page_Next (C : CallP) (p : Option Addr) (h : Heap) (K : Value → Heap → Prop) (Kp : List PanicEntry → Heap → Prop) :
    fnD Go.Proofs.Try.prog C hints_page_Page_Next Go.Proofs.Try.f27 [.pointer p] h K Kp = page_Page_Next C p h K Kp := by kernel_rfl

theorem call_page_Page_Next {p : Option Addr} {h : Heap} {K : Value → Heap → Prop} {Kp : List PanicEntry → Heap → Prop} (H : page_Page_Next (CallsHP Go.Proofs.Try.prog) p h K Kp) : CallsHP Go.Proofs.Try.prog F_page_Page_Next #[.pointer p] h K Kp :=
  callsHP_of hints_page_Page_Next (by kernel_rfl) Go.Proofs.Try.func27 (by kernel_rfl) (by rw [eq_page_Page_Next]; exact H)

noncomputable def hints_page_sheet : Hints := Hints.mk (fun i => none)
  (fun i => none)
  (fun i => none)
set_option maxRecDepth 100000 in
theorem eq_page_sheet (C : CallP) (s_1 : Int) (s_2 : Int) (s_3 : Int) (s_4 : Int) (h : Heap) (K : Value → Heap → Prop) (Kp : List PanicEntry → Heap → Prop) :
    fnD Go.Proofs.Try.prog C hints_page_sheet Go.Proofs.Try.f52 [.agg #[.int .i64 s_1, .int .i64 s_2, .int .i64 s_3, .int .i64 s_4]] h K Kp = page_sheet C s_1 s_2 s_3 s_4 h K Kp := by kernel_rfl

theorem call_page_sheet {s_1 : Int} {s_2 : Int} {s_3 : Int} {s_4 : Int} {h : Heap} {K : Value → Heap → Prop} {Kp : List PanicEntry → Heap → Prop} (H : page_sheet (CallsHP Go.Proofs.Try.prog) s_1 s_2 s_3 s_4 h K Kp) : CallsHP Go.Proofs.Try.prog F_page_sheet #[.agg #[.int .i64 s_1, .int .i64 s_2, .int .i64 s_3, .int .i64 s_4]] h K Kp :=
  callsHP_of hints_page_sheet (by kernel_rfl) Go.Proofs.Try.func52 (by kernel_rfl) (by rw [eq_page_sheet]; exact H)

noncomputable def hints_page_operation : Hints := Hints.mk (fun i => none)
  (fun i => none)
  (fun i => none)
set_option maxRecDepth 100000 in
theorem eq_page_operation (C : CallP) (op : Int) (h : Heap) (K : Value → Heap → Prop) (Kp : List PanicEntry → Heap → Prop) :
    fnD Go.Proofs.Try.prog C hints_page_operation Go.Proofs.Try.f57 [.int .i64 op] h K Kp = page_operation C op h K Kp := by kernel_rfl

theorem call_page_operation {op : Int} {h : Heap} {K : Value → Heap → Prop} {Kp : List PanicEntry → Heap → Prop} (H : page_operation (CallsHP Go.Proofs.Try.prog) op h K Kp) : CallsHP Go.Proofs.Try.prog F_page_operation #[.int .i64 op] h K Kp :=
  callsHP_of hints_page_operation (by kernel_rfl) Go.Proofs.Try.func57 (by kernel_rfl) (by rw [eq_page_operation]; exact H)

noncomputable def hints_page_sized : Hints := Hints.mk (fun i => none)
  (fun i => none)
  (fun i => none)
set_option maxRecDepth 100000 in
theorem eq_page_sized (C : CallP) (w : Int) (h' : Int) (h : Heap) (K : Value → Heap → Prop) (Kp : List PanicEntry → Heap → Prop) :
    fnD Go.Proofs.Try.prog C hints_page_sized Go.Proofs.Try.f84 [.int .i64 w, .int .i64 h'] h K Kp = page_sized C w h' h K Kp := by kernel_rfl

theorem call_page_sized {w : Int} {h' : Int} {h : Heap} {K : Value → Heap → Prop} {Kp : List PanicEntry → Heap → Prop} (H : page_sized (CallsHP Go.Proofs.Try.prog) w h' h K Kp) : CallsHP Go.Proofs.Try.prog F_page_sized #[.int .i64 w, .int .i64 h'] h K Kp :=
  callsHP_of hints_page_sized (by kernel_rfl) Go.Proofs.Try.func84 (by kernel_rfl) (by rw [eq_page_sized]; exact H)

noncomputable def hints_page_within : Hints := Hints.mk (fun i => none)
  (fun i => none)
  (fun i => none)
set_option maxRecDepth 100000 in
theorem eq_page_within (C : CallP) (n : Int) (h : Heap) (K : Value → Heap → Prop) (Kp : List PanicEntry → Heap → Prop) :
    fnD Go.Proofs.Try.prog C hints_page_within Go.Proofs.Try.f85 [.int .i64 n] h K Kp = page_within C n h K Kp := by kernel_rfl

theorem call_page_within {n : Int} {h : Heap} {K : Value → Heap → Prop} {Kp : List PanicEntry → Heap → Prop} (H : page_within (CallsHP Go.Proofs.Try.prog) n h K Kp) : CallsHP Go.Proofs.Try.prog F_page_within #[.int .i64 n] h K Kp :=
  callsHP_of hints_page_within (by kernel_rfl) Go.Proofs.Try.func85 (by kernel_rfl) (by rw [eq_page_within]; exact H)

end Go.Den.Ytlmopdohgipbeaa
