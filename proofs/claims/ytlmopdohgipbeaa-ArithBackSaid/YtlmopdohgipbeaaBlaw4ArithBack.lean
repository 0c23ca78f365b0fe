/- Written by gen.py: each condition of the functions of law4ArithBack is the one of its body; so it is enough for its call. -/
import Derived.Test.YtlmopdohgipbeaaMlaw4ArithBack
import Derived.Test.YtlmopdohgipbeaaProg
set_option linter.unusedVariables false
set_option linter.unusedSimpArgs false
namespace Go.Den.Ytlmopdohgipbeaa
open Go Go.Den

noncomputable def hints_burinlaw4_ArithBack : Hints := Hints.mk (fun i => bif Nat.beq i 10 then some ([15], .take 0 <| .take 2 <| .take 6 <| .take 8 <| .take 1 <| .take 3 <| .take 4 <| .take 5 <| .take 7 <| .take 9 <| .take 10 <| .take 11 <| .take 12 <| .take 13 <| .go 14 <| .bar 15 [] <| .done) else (bif Nat.beq i 29 then some ([23], .take 0 <| .take 1 <| .take 2 <| .take 3 <| .take 4 <| .take 5 <| .take 6 <| .take 7 <| .take 8 <| .take 9 <| .take 10 <| .take 11 <| .take 12 <| .take 13 <| .take 14 <| .take 15 <| .take 16 <| .take 17 <| .take 19 <| .take 20 <| .take 21 <| .take 22 <| .go 18 <| .bar 23 [] <| .take 24 <| .take 25 <| .take 26 <| .done) else (bif Nat.beq i 31 then some ([3, 7, 8, 10], .take 0 <| .take 1 <| .take 2 <| .take 4 <| .take 5 <| .take 6 <| .bar 3 [7, 8, 10] <| .bar 7 [8, 10] <| .bar 8 [10] <| .take 9 <| .bar 10 [] <| .take 11 <| .take 12 <| .done) else (none))))
  (fun i => bif Nat.beq i 8 then some ([(6, .slc), (7, .slc), (8, .int .i64)], 151115727451824351871940) else (bif Nat.beq i 21 then some ([(13, .int .i64)], 21267647615646003909403562590309720068) else (bif Nat.beq i 26 then some ([(14, .int .i64)], 187072209578334305882139099933717765602994880102404) else (none))))
  (fun i => bif Nat.beq i 16 then some ([(6, .slc), (7, .slc)], 151115727451824351871940) else (none))
set_option maxRecDepth 100000 in
theorem eq_burinlaw4_ArithBack (C : CallP) (a0_1 : Int) (a0_2 : Option Addr) (a0_2n : Nat) (a0_2c : Nat) (h : Heap) (K : Value → Heap → Prop) (Kp : List PanicEntry → Heap → Prop) :
    fnD Go.Proofs.Try.prog C hints_burinlaw4_ArithBack Go.Proofs.Try.f8 [.agg #[.int .i64 a0_1, .slice a0_2 a0_2n a0_2c]] h K Kp = burinlaw4_ArithBack C a0_1 a0_2 a0_2n a0_2c h K Kp := by kernel_rfl

theorem call_burinlaw4_ArithBack {a0_1 : Int} {a0_2 : Option Addr} {a0_2n : Nat} {a0_2c : Nat} {h : Heap} {K : Value → Heap → Prop} {Kp : List PanicEntry → Heap → Prop} (H : burinlaw4_ArithBack (CallsHP Go.Proofs.Try.prog) a0_1 a0_2 a0_2n a0_2c h K Kp) : CallsHP Go.Proofs.Try.prog F_burinlaw4_ArithBack #[.agg #[.int .i64 a0_1, .slice a0_2 a0_2n a0_2c]] h K Kp :=
  callsHP_of hints_burinlaw4_ArithBack (by kernel_rfl) Go.Proofs.Try.func8 (by kernel_rfl) (by rw [eq_burinlaw4_ArithBack]; exact H)

end Go.Den.Ytlmopdohgipbeaa
