/- Written by gen.py: each condition of the functions of burinref15 is the one of its body; so it is enough for its call. -/
import Derived.Test.YtlmopdohgipbeaaMburinref15
import Derived.Test.YtlmopdohgipbeaaProg
set_option linter.unusedVariables false
set_option linter.unusedSimpArgs false
namespace Go.Den.Ytlmopdohgipbeaa
open Go Go.Den

noncomputable def hints_burinref15_MaySheet : Hints := Hints.mk (fun i => none)
  (fun i => none)
  (fun i => none)
set_option maxRecDepth 100000 in
theorem eq_burinref15_MaySheet (C : CallP) (s_1 : Int) (s_2 : Int) (s_3 : Int) (s_4 : Int) (h : Heap) (K : Value → Heap → Prop) (Kp : List PanicEntry → Heap → Prop) :
    fnD Go.Proofs.Try.prog C hints_burinref15_MaySheet Go.Proofs.Try.f14 [.agg #[.int .i64 s_1, .int .i64 s_2, .int .i64 s_3, .int .i64 s_4]] h K Kp = burinref15_MaySheet C s_1 s_2 s_3 s_4 h K Kp := by kernel_rfl

theorem call_burinref15_MaySheet {s_1 : Int} {s_2 : Int} {s_3 : Int} {s_4 : Int} {h : Heap} {K : Value → Heap → Prop} {Kp : List PanicEntry → Heap → Prop} (H : burinref15_MaySheet (CallsHP Go.Proofs.Try.prog) s_1 s_2 s_3 s_4 h K Kp) : CallsHP Go.Proofs.Try.prog F_burinref15_MaySheet #[.agg #[.int .i64 s_1, .int .i64 s_2, .int .i64 s_3, .int .i64 s_4]] h K Kp :=
  callsHP_of hints_burinref15_MaySheet (by kernel_rfl) Go.Proofs.Try.func14 (by kernel_rfl) (by rw [eq_burinref15_MaySheet]; exact H)

noncomputable def hints_burinref15_New : Hints := Hints.mk (fun i => bif Nat.beq i 1 then some ([7], .take 1 <| .take 3 <| .take 0 <| .take 2 <| .take 4 <| .go 5 <| .take 6 <| .bar 7 [] <| .take 8 <| .done) else (none))
  (fun i => bif Nat.beq i 3 then some ([(4, .int .i64)], 274877890608) else (bif Nat.beq i 6 then some ([(5, .int .i64)], 274844352544) else (none)))
  (fun i => none)
set_option maxRecDepth 100000 in
theorem eq_burinref15_New (C : CallP) (s_1 : Int) (s_2 : Int) (s_3 : Int) (s_4 : Int) (h : Heap) (K : Value → Heap → Prop) (Kp : List PanicEntry → Heap → Prop) :
    fnD Go.Proofs.Try.prog C hints_burinref15_New Go.Proofs.Try.f16 [.agg #[.int .i64 s_1, .int .i64 s_2, .int .i64 s_3, .int .i64 s_4]] h K Kp = burinref15_New C s_1 s_2 s_3 s_4 h K Kp := by kernel_rfl

theorem call_burinref15_New {s_1 : Int} {s_2 : Int} {s_3 : Int} {s_4 : Int} {h : Heap} {K : Value → Heap → Prop} {Kp : List PanicEntry → Heap → Prop} (H : burinref15_New (CallsHP Go.Proofs.Try.prog) s_1 s_2 s_3 s_4 h K Kp) : CallsHP Go.Proofs.Try.prog F_burinref15_New #[.agg #[.int .i64 s_1, .int .i64 s_2, .int .i64 s_3, .int .i64 s_4]] h K Kp :=
  callsHP_of hints_burinref15_New (by kernel_rfl) Go.Proofs.Try.func16 (by kernel_rfl) (by rw [eq_burinref15_New]; exact H)

noncomputable def hints_burinref15_Page_Add : Hints := Hints.mk (fun i => bif Nat.beq i 3 then some ([], .take 0 <| .take 1 <| .take 2 <| .take 3 <| .take 4 <| .take 5 <| .take 6 <| .take 7 <| .take 8 <| .take 9 <| .take 10 <| .take 11 <| .take 12 <| .take 13 <| .take 14 <| .take 15 <| .take 16 <| .take 17 <| .take 18 <| .take 19 <| .take 20 <| .take 21 <| .take 22 <| .take 23 <| .take 25 <| .take 26 <| .take 27 <| .take 28 <| .take 31 <| .take 24 <| .take 29 <| .take 30 <| .take 32 <| .take 33 <| .take 34 <| .take 35 <| .take 36 <| .done) else (bif Nat.beq i 5 then some ([8], .take 0 <| .take 1 <| .take 2 <| .take 4 <| .take 5 <| .take 6 <| .take 3 <| .take 7 <| .bar 8 [] <| .done) else (none)))
  (fun i => none)
  (fun i => bif Nat.beq i 4 then some ([(55, .bool)], 72057594037403648) else (none))
set_option maxRecDepth 100000 in
theorem eq_burinref15_Page_Add (C : CallP) (a0 : Option Addr) (a1 : Int) (a2 : Int) (a3 : Int) (a4_1 : Int) (a4_2 : Int) (a4_3 : Option Addr) (a4_3n : Nat) (a4_3c : Nat) (h : Heap) (K : Value → Heap → Prop) (Kp : List PanicEntry → Heap → Prop) :
    fnD Go.Proofs.Try.prog C hints_burinref15_Page_Add Go.Proofs.Try.f20 [.pointer a0, .int .i64 a1, .int .i64 a2, .int .i64 a3, .agg #[.int .i64 a4_1, .int .i64 a4_2, .slice a4_3 a4_3n a4_3c]] h K Kp = burinref15_Page_Add C a0 a1 a2 a3 a4_1 a4_2 a4_3 a4_3n a4_3c h K Kp := by kernel_rfl

theorem call_burinref15_Page_Add {a0 : Option Addr} {a1 : Int} {a2 : Int} {a3 : Int} {a4_1 : Int} {a4_2 : Int} {a4_3 : Option Addr} {a4_3n : Nat} {a4_3c : Nat} {h : Heap} {K : Value → Heap → Prop} {Kp : List PanicEntry → Heap → Prop} (H : burinref15_Page_Add (CallsHP Go.Proofs.Try.prog) a0 a1 a2 a3 a4_1 a4_2 a4_3 a4_3n a4_3c h K Kp) : CallsHP Go.Proofs.Try.prog F_burinref15_Page_Add #[.pointer a0, .int .i64 a1, .int .i64 a2, .int .i64 a3, .agg #[.int .i64 a4_1, .int .i64 a4_2, .slice a4_3 a4_3n a4_3c]] h K Kp :=
  callsHP_of hints_burinref15_Page_Add (by kernel_rfl) Go.Proofs.Try.func20 (by kernel_rfl) (by rw [eq_burinref15_Page_Add]; exact H)

noncomputable def hints_burinref15_Page_Stripe : Hints := Hints.mk (fun i => bif Nat.beq i 1 then some ([], .take 0 <| .take 1 <| .take 2 <| .take 4 <| .take 5 <| .take 6 <| .take 7 <| .take 3 <| .take 8 <| .take 9 <| .take 10 <| .take 11 <| .done) else (bif Nat.beq i 4 then some ([], .take 0 <| .take 1 <| .take 2 <| .take 3 <| .take 4 <| .take 5 <| .take 6 <| .take 7 <| .take 8 <| .take 9 <| .take 10 <| .take 11 <| .take 12 <| .take 13 <| .take 14 <| .take 15 <| .take 17 <| .take 18 <| .take 19 <| .take 20 <| .take 16 <| .take 21 <| .take 22 <| .take 23 <| .take 24 <| .take 25 <| .take 26 <| .take 27 <| .take 28 <| .done) else (none)))
  (fun i => none)
  (fun i => bif Nat.beq i 4 then some ([(5, .int .i64)], 2147352608) else (none))
set_option maxRecDepth 100000 in
theorem eq_burinref15_Page_Stripe (C : CallP) (a0 : Option Addr) (a1 : Int) (h : Heap) (K : Value → Heap → Prop) (Kp : List PanicEntry → Heap → Prop) :
    fnD Go.Proofs.Try.prog C hints_burinref15_Page_Stripe Go.Proofs.Try.f22 [.pointer a0, .int .i64 a1] h K Kp = burinref15_Page_Stripe C a0 a1 h K Kp := by kernel_rfl

theorem call_burinref15_Page_Stripe {a0 : Option Addr} {a1 : Int} {h : Heap} {K : Value → Heap → Prop} {Kp : List PanicEntry → Heap → Prop} (H : burinref15_Page_Stripe (CallsHP Go.Proofs.Try.prog) a0 a1 h K Kp) : CallsHP Go.Proofs.Try.prog F_burinref15_Page_Stripe #[.pointer a0, .int .i64 a1] h K Kp :=
  callsHP_of hints_burinref15_Page_Stripe (by kernel_rfl) Go.Proofs.Try.func22 (by kernel_rfl) (by rw [eq_burinref15_Page_Stripe]; exact H)

noncomputable def hints_burinref15_Page_End : Hints := Hints.mk (fun i => bif Nat.beq i 1 then some ([], .take 0 <| .take 1 <| .take 2 <| .take 3 <| .take 4 <| .take 5 <| .take 6 <| .take 7 <| .take 8 <| .take 9 <| .take 10 <| .take 11 <| .take 12 <| .take 13 <| .take 14 <| .take 16 <| .take 17 <| .take 18 <| .take 19 <| .take 15 <| .take 20 <| .take 21 <| .take 22 <| .take 23 <| .done) else (none))
  (fun i => none)
  (fun i => bif Nat.beq i 3 then some ([], 536870904) else (none))
set_option maxRecDepth 100000 in
theorem eq_burinref15_Page_End (C : CallP) (p : Option Addr) (h : Heap) (K : Value → Heap → Prop) (Kp : List PanicEntry → Heap → Prop) :
    fnD Go.Proofs.Try.prog C hints_burinref15_Page_End Go.Proofs.Try.f24 [.pointer p] h K Kp = burinref15_Page_End C p h K Kp := by kernel_rfl

theorem call_burinref15_Page_End {p : Option Addr} {h : Heap} {K : Value → Heap → Prop} {Kp : List PanicEntry → Heap → Prop} (H : burinref15_Page_End (CallsHP Go.Proofs.Try.prog) p h K Kp) : CallsHP Go.Proofs.Try.prog F_burinref15_Page_End #[.pointer p] h K Kp :=
  callsHP_of hints_burinref15_Page_End (by kernel_rfl) Go.Proofs.Try.func24 (by kernel_rfl) (by rw [eq_burinref15_Page_End]; exact H)

noncomputable def hints_burinref15_mayOp : Hints := Hints.mk (fun i => none)
  (fun i => none)
  (fun i => none)
set_option maxRecDepth 100000 in
theorem eq_burinref15_mayOp (C : CallP) (op : Int) (h : Heap) (K : Value → Heap → Prop) (Kp : List PanicEntry → Heap → Prop) :
    fnD Go.Proofs.Try.prog C hints_burinref15_mayOp Go.Proofs.Try.f59 [.int .i64 op] h K Kp = burinref15_mayOp C op h K Kp := by kernel_rfl

theorem call_burinref15_mayOp {op : Int} {h : Heap} {K : Value → Heap → Prop} {Kp : List PanicEntry → Heap → Prop} (H : burinref15_mayOp (CallsHP Go.Proofs.Try.prog) op h K Kp) : CallsHP Go.Proofs.Try.prog F_burinref15_mayOp #[.int .i64 op] h K Kp :=
  callsHP_of hints_burinref15_mayOp (by kernel_rfl) Go.Proofs.Try.func59 (by kernel_rfl) (by rw [eq_burinref15_mayOp]; exact H)

end Go.Den.Ytlmopdohgipbeaa
