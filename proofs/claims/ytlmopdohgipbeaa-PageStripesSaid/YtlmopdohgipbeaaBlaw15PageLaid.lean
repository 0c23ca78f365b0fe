/- Written by gen.py: each condition of the functions of law15PageLaid is the one of its body; so it is enough for its call. -/
import Derived.Test.YtlmopdohgipbeaaMlaw15PageLaid
import Derived.Test.YtlmopdohgipbeaaProg
set_option linter.unusedVariables false
set_option linter.unusedSimpArgs false
namespace Go.Den.Ytlmopdohgipbeaa
open Go Go.Den

noncomputable def hints_burinlaw15_PageLaid : Hints := Hints.mk (fun i => bif Nat.beq i 26 then some ([9, 20, 21, 26, 33], .take 0 <| .take 1 <| .take 2 <| .take 3 <| .take 4 <| .take 5 <| .take 6 <| .take 7 <| .take 8 <| .bar 9 [21, 26, 33] <| .take 10 <| .take 11 <| .take 12 <| .take 13 <| .take 14 <| .take 15 <| .take 16 <| .take 17 <| .take 18 <| .take 19 <| .go 20 <| .bar 21 [33] <| .take 22 <| .take 23 <| .take 24 <| .take 25 <| .take 27 <| .take 28 <| .take 29 <| .go 26 <| .take 30 <| .take 31 <| .take 32 <| .bar 33 [] <| .take 34 <| .take 35 <| .done) else (none))
  (fun i => bif Nat.beq i 8 then some ([(7, .int .i64)], 356811923176489970264562047629408044805267332) else (bif Nat.beq i 17 then some ([(11, .int .i64)], 356811912542666003985244509131917301852936196) else (none)))
  (fun i => bif Nat.beq i 23 then some ([], 356811923176489970264562047629408044805267332) else (none))
set_option maxRecDepth 100000 in
theorem eq_burinlaw15_PageLaid (C : CallP) (a0_1 : Int) (a0_2 : Int) (a0_3 : Int) (a0_4 : Int) (a0_5 : Option Addr) (a0_5n : Nat) (a0_5c : Nat) (a0_6 : Option Addr) (a0_6n : Nat) (a0_6c : Nat) (h : Heap) (K : Value → Heap → Prop) (Kp : List PanicEntry → Heap → Prop) :
    fnD Go.Proofs.Try.prog C hints_burinlaw15_PageLaid Go.Proofs.Try.f5 [.agg #[.int .i64 a0_1, .int .i64 a0_2, .int .i64 a0_3, .int .i64 a0_4, .slice a0_5 a0_5n a0_5c, .slice a0_6 a0_6n a0_6c]] h K Kp = burinlaw15_PageLaid C a0_1 a0_2 a0_3 a0_4 a0_5 a0_5n a0_5c a0_6 a0_6n a0_6c h K Kp := by kernel_rfl

theorem call_burinlaw15_PageLaid {a0_1 : Int} {a0_2 : Int} {a0_3 : Int} {a0_4 : Int} {a0_5 : Option Addr} {a0_5n : Nat} {a0_5c : Nat} {a0_6 : Option Addr} {a0_6n : Nat} {a0_6c : Nat} {h : Heap} {K : Value → Heap → Prop} {Kp : List PanicEntry → Heap → Prop} (H : burinlaw15_PageLaid (CallsHP Go.Proofs.Try.prog) a0_1 a0_2 a0_3 a0_4 a0_5 a0_5n a0_5c a0_6 a0_6n a0_6c h K Kp) : CallsHP Go.Proofs.Try.prog F_burinlaw15_PageLaid #[.agg #[.int .i64 a0_1, .int .i64 a0_2, .int .i64 a0_3, .int .i64 a0_4, .slice a0_5 a0_5n a0_5c, .slice a0_6 a0_6n a0_6c]] h K Kp :=
  callsHP_of hints_burinlaw15_PageLaid (by kernel_rfl) Go.Proofs.Try.func5 (by kernel_rfl) (by rw [eq_burinlaw15_PageLaid]; exact H)

end Go.Den.Ytlmopdohgipbeaa
