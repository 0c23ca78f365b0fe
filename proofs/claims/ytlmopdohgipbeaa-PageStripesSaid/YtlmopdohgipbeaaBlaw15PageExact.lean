/- Written by gen.py: each condition of the functions of law15PageExact is the one of its body; so it is enough for its call. -/
import Derived.Test.YtlmopdohgipbeaaMlaw15PageExact
import Derived.Test.YtlmopdohgipbeaaProg
set_option linter.unusedVariables false
set_option linter.unusedSimpArgs false
namespace Go.Den.Ytlmopdohgipbeaa
open Go Go.Den

noncomputable def hints_burinlaw15_PageExact : Hints := Hints.mk (fun i => bif Nat.beq i 31 then some ([], .take 0 <| .take 1 <| .take 2 <| .take 4 <| .take 5 <| .take 3 <| .take 6 <| .take 7 <| .take 8 <| .take 9 <| .done) else (bif Nat.beq i 36 then some ([], .take 0 <| .take 2 <| .take 3 <| .take 4 <| .take 5 <| .go 1 <| .take 6 <| .done) else (bif Nat.beq i 38 then some ([], .take 0 <| .take 1 <| .take 2 <| .take 3 <| .take 4 <| .take 5 <| .take 6 <| .take 7 <| .take 8 <| .take 9 <| .take 10 <| .take 11 <| .take 12 <| .take 13 <| .take 14 <| .take 15 <| .take 16 <| .take 18 <| .take 19 <| .take 20 <| .take 21 <| .take 17 <| .take 22 <| .take 23 <| .take 24 <| .take 25 <| .take 26 <| .take 27 <| .take 28 <| .take 29 <| .take 31 <| .take 32 <| .take 33 <| .take 34 <| .take 30 <| .take 35 <| .take 36 <| .take 37 <| .take 38 <| .done) else (bif Nat.beq i 39 then some ([], .take 0 <| .take 1 <| .take 2 <| .take 4 <| .take 5 <| .take 6 <| .take 7 <| .take 3 <| .take 8 <| .take 9 <| .take 10 <| .take 11 <| .done) else (none)))))
  (fun i => bif Nat.beq i 10 then some ([(6, .int .i64)], 3213876088517980551083924184682325205044405699335209518956484) else (bif Nat.beq i 38 then some ([], 60708402882054033466229970712146447852024129796194677713914093398353193326992228356) else (none)))
  (fun i => bif Nat.beq i 24 then some ([(8, .int .i64)], 10633661707002497769867064904232468736) else (bif Nat.beq i 31 then some ([(167, .bool)], 374053075304377965627755586873323685343190235217920) else (bif Nat.beq i 36 then some ([], 25108406941546723055343157692830665059946511970541550763780) else (bif Nat.beq i 38 then some ([], 3213876088517980551083924184682325205044405699335209518956484) else (bif Nat.beq i 42 then some ([(16, .int .i64)], 59281931186717225925761357731166687323753817461787167520576049962551275090411520) else (bif Nat.beq i 44 then some ([], 60708402882054033466229970712146447852024129796194677713914093398353193326992228356) else (none)))))))
set_option maxRecDepth 100000 in
theorem eq_burinlaw15_PageExact (C : CallP) (a0_1 : Int) (a0_2 : Int) (a0_3 : Int) (a0_4 : Int) (a0_5 : Option Addr) (a0_5n : Nat) (a0_5c : Nat) (a0_6 : Option Addr) (a0_6n : Nat) (a0_6c : Nat) (h : Heap) (K : Value → Heap → Prop) (Kp : List PanicEntry → Heap → Prop) :
    fnD Go.Proofs.Try.prog C hints_burinlaw15_PageExact Go.Proofs.Try.f3 [.agg #[.int .i64 a0_1, .int .i64 a0_2, .int .i64 a0_3, .int .i64 a0_4, .slice a0_5 a0_5n a0_5c, .slice a0_6 a0_6n a0_6c]] h K Kp = burinlaw15_PageExact C a0_1 a0_2 a0_3 a0_4 a0_5 a0_5n a0_5c a0_6 a0_6n a0_6c h K Kp := by kernel_rfl

theorem call_burinlaw15_PageExact {a0_1 : Int} {a0_2 : Int} {a0_3 : Int} {a0_4 : Int} {a0_5 : Option Addr} {a0_5n : Nat} {a0_5c : Nat} {a0_6 : Option Addr} {a0_6n : Nat} {a0_6c : Nat} {h : Heap} {K : Value → Heap → Prop} {Kp : List PanicEntry → Heap → Prop} (H : burinlaw15_PageExact (CallsHP Go.Proofs.Try.prog) a0_1 a0_2 a0_3 a0_4 a0_5 a0_5n a0_5c a0_6 a0_6n a0_6c h K Kp) : CallsHP Go.Proofs.Try.prog F_burinlaw15_PageExact #[.agg #[.int .i64 a0_1, .int .i64 a0_2, .int .i64 a0_3, .int .i64 a0_4, .slice a0_5 a0_5n a0_5c, .slice a0_6 a0_6n a0_6c]] h K Kp :=
  callsHP_of hints_burinlaw15_PageExact (by kernel_rfl) Go.Proofs.Try.func3 (by kernel_rfl) (by rw [eq_burinlaw15_PageExact]; exact H)

end Go.Den.Ytlmopdohgipbeaa
