/- Written by gen.py: each condition of the functions of law15PageStripes is the one of its body; so it is enough for its call. -/
import Derived.Test.YtlmopdohgipbeaaMlaw15PageStripes
import Derived.Test.YtlmopdohgipbeaaProg
set_option linter.unusedVariables false
set_option linter.unusedSimpArgs false
namespace Go.Den.Ytlmopdohgipbeaa
open Go Go.Den

noncomputable def hints_burinlaw15_PageStripes : Hints := Hints.mk (fun i => bif Nat.beq i 6 then some ([8], .take 0 <| .take 2 <| .take 6 <| .take 1 <| .take 3 <| .take 4 <| .take 5 <| .take 7 <| .bar 8 [] <| .take 9 <| .take 10 <| .done) else (none))
  (fun i => bif Nat.beq i 2 then some ([(3, .int .i64)], 6129982163463555433433388108601236734474956488734408700) else (bif Nat.beq i 11 then some ([(8, .int .i64)], 5846006549323611672814739321420399112884439752452) else (none)))
  (fun i => bif Nat.beq i 16 then some ([(9, .int .i64)], 2473462226931531291448836608) else (bif Nat.beq i 20 then some ([], 42535294597466707704692424432267821060) else (none)))
set_option maxRecDepth 100000 in
theorem eq_burinlaw15_PageStripes (C : CallP) (a0_1 : Int) (a0_2 : Int) (a0_3 : Int) (a0_4 : Int) (a0_5 : Option Addr) (a0_5n : Nat) (a0_5c : Nat) (a0_6 : Option Addr) (a0_6n : Nat) (a0_6c : Nat) (h : Heap) (K : Value → Heap → Prop) (Kp : List PanicEntry → Heap → Prop) :
    fnD Go.Proofs.Try.prog C hints_burinlaw15_PageStripes Go.Proofs.Try.f4 [.agg #[.int .i64 a0_1, .int .i64 a0_2, .int .i64 a0_3, .int .i64 a0_4, .slice a0_5 a0_5n a0_5c, .slice a0_6 a0_6n a0_6c]] h K Kp = burinlaw15_PageStripes C a0_1 a0_2 a0_3 a0_4 a0_5 a0_5n a0_5c a0_6 a0_6n a0_6c h K Kp := by kernel_rfl

theorem call_burinlaw15_PageStripes {a0_1 : Int} {a0_2 : Int} {a0_3 : Int} {a0_4 : Int} {a0_5 : Option Addr} {a0_5n : Nat} {a0_5c : Nat} {a0_6 : Option Addr} {a0_6n : Nat} {a0_6c : Nat} {h : Heap} {K : Value → Heap → Prop} {Kp : List PanicEntry → Heap → Prop} (H : burinlaw15_PageStripes (CallsHP Go.Proofs.Try.prog) a0_1 a0_2 a0_3 a0_4 a0_5 a0_5n a0_5c a0_6 a0_6n a0_6c h K Kp) : CallsHP Go.Proofs.Try.prog F_burinlaw15_PageStripes #[.agg #[.int .i64 a0_1, .int .i64 a0_2, .int .i64 a0_3, .int .i64 a0_4, .slice a0_5 a0_5n a0_5c, .slice a0_6 a0_6n a0_6c]] h K Kp :=
  callsHP_of hints_burinlaw15_PageStripes (by kernel_rfl) Go.Proofs.Try.func4 (by kernel_rfl) (by rw [eq_burinlaw15_PageStripes]; exact H)

end Go.Den.Ytlmopdohgipbeaa
