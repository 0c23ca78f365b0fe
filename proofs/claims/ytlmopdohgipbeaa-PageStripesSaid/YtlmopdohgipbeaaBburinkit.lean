/- Written by gen.py: each condition of the functions of burinkit is the one of its body; so it is enough for its call. -/
import Derived.Test.YtlmopdohgipbeaaMburinkit
import Derived.Test.YtlmopdohgipbeaaProg
set_option linter.unusedVariables false
set_option linter.unusedSimpArgs false
namespace Go.Den.Ytlmopdohgipbeaa
open Go Go.Den

noncomputable def hints_burinkit_LendBitmap : Hints := Hints.mk (fun i => bif Nat.beq i 7 then some ([10], .take 0 <| .take 2 <| .take 4 <| .take 5 <| .take 1 <| .take 3 <| .take 6 <| .take 7 <| .take 8 <| .take 9 <| .bar 10 [] <| .done) else (none))
  (fun i => bif Nat.beq i 4 then some ([(3, .slc), (4, .int .i64)], 2080792) else (none))
  (fun i => none)
set_option maxRecDepth 100000 in
theorem eq_burinkit_LendBitmap (C : CallP) (b_1 : Int) (b_2 : Int) (b_3 : Option Addr) (b_3n : Nat) (b_3c : Nat) (h : Heap) (K : Value → Heap → Prop) (Kp : List PanicEntry → Heap → Prop) :
    fnD Go.Proofs.Try.prog C hints_burinkit_LendBitmap Go.Proofs.Try.f17 [.agg #[.int .i64 b_1, .int .i64 b_2, .slice b_3 b_3n b_3c]] h K Kp = burinkit_LendBitmap C b_1 b_2 b_3 b_3n b_3c h K Kp := by kernel_rfl

theorem call_burinkit_LendBitmap {b_1 : Int} {b_2 : Int} {b_3 : Option Addr} {b_3n : Nat} {b_3c : Nat} {h : Heap} {K : Value → Heap → Prop} {Kp : List PanicEntry → Heap → Prop} (H : burinkit_LendBitmap (CallsHP Go.Proofs.Try.prog) b_1 b_2 b_3 b_3n b_3c h K Kp) : CallsHP Go.Proofs.Try.prog F_burinkit_LendBitmap #[.agg #[.int .i64 b_1, .int .i64 b_2, .slice b_3 b_3n b_3c]] h K Kp :=
  callsHP_of hints_burinkit_LendBitmap (by kernel_rfl) Go.Proofs.Try.func17 (by kernel_rfl) (by rw [eq_burinkit_LendBitmap]; exact H)

noncomputable def hints_burinkit_BackBitmap : Hints := Hints.mk (fun i => none)
  (fun i => bif Nat.beq i 4 then some ([(5, .bool), (7, .int .i64)], 68715282592) else (bif Nat.beq i 8 then some ([(8, .int .i64)], 35115652612352) else (none)))
  (fun i => none)
set_option maxRecDepth 100000 in
theorem eq_burinkit_BackBitmap (C : CallP) (x_1 : Int) (x_2 : Int) (x_3 : Option Addr) (x_3n : Nat) (x_3c : Nat) (b_4 : Int) (b_5 : Int) (b_6 : Option Addr) (b_6n : Nat) (b_6c : Nat) (h : Heap) (K : Value → Heap → Prop) (Kp : List PanicEntry → Heap → Prop) :
    fnD Go.Proofs.Try.prog C hints_burinkit_BackBitmap Go.Proofs.Try.f19 [.agg #[.int .i64 x_1, .int .i64 x_2, .slice x_3 x_3n x_3c], .agg #[.int .i64 b_4, .int .i64 b_5, .slice b_6 b_6n b_6c]] h K Kp = burinkit_BackBitmap C x_1 x_2 x_3 x_3n x_3c b_4 b_5 b_6 b_6n b_6c h K Kp := by kernel_rfl

theorem call_burinkit_BackBitmap {x_1 : Int} {x_2 : Int} {x_3 : Option Addr} {x_3n : Nat} {x_3c : Nat} {b_4 : Int} {b_5 : Int} {b_6 : Option Addr} {b_6n : Nat} {b_6c : Nat} {h : Heap} {K : Value → Heap → Prop} {Kp : List PanicEntry → Heap → Prop} (H : burinkit_BackBitmap (CallsHP Go.Proofs.Try.prog) x_1 x_2 x_3 x_3n x_3c b_4 b_5 b_6 b_6n b_6c h K Kp) : CallsHP Go.Proofs.Try.prog F_burinkit_BackBitmap #[.agg #[.int .i64 x_1, .int .i64 x_2, .slice x_3 x_3n x_3c], .agg #[.int .i64 b_4, .int .i64 b_5, .slice b_6 b_6n b_6c]] h K Kp :=
  callsHP_of hints_burinkit_BackBitmap (by kernel_rfl) Go.Proofs.Try.func19 (by kernel_rfl) (by rw [eq_burinkit_BackBitmap]; exact H)

noncomputable def hints_burinkit_OverWords : Hints := Hints.mk (fun i => none)
  (fun i => bif Nat.beq i 1 then some ([(2, .int .i64)], 8180) else (none))
  (fun i => none)
set_option maxRecDepth 100000 in
theorem eq_burinkit_OverWords (C : CallP) (l : Option Addr) (ln : Nat) (lc : Nat) (h : Heap) (K : Value → Heap → Prop) (Kp : List PanicEntry → Heap → Prop) :
    fnD Go.Proofs.Try.prog C hints_burinkit_OverWords Go.Proofs.Try.f26 [.slice l ln lc] h K Kp = burinkit_OverWords C l ln lc h K Kp := by kernel_rfl

theorem call_burinkit_OverWords {l : Option Addr} {ln : Nat} {lc : Nat} {h : Heap} {K : Value → Heap → Prop} {Kp : List PanicEntry → Heap → Prop} (H : burinkit_OverWords (CallsHP Go.Proofs.Try.prog) l ln lc h K Kp) : CallsHP Go.Proofs.Try.prog F_burinkit_OverWords #[.slice l ln lc] h K Kp :=
  callsHP_of hints_burinkit_OverWords (by kernel_rfl) Go.Proofs.Try.func26 (by kernel_rfl) (by rw [eq_burinkit_OverWords]; exact H)

noncomputable def hints_burinkit_Within : Hints := Hints.mk (fun i => none)
  (fun i => none)
  (fun i => none)
set_option maxRecDepth 100000 in
theorem eq_burinkit_Within (C : CallP) (i : Int) (n : Int) (h : Heap) (K : Value → Heap → Prop) (Kp : List PanicEntry → Heap → Prop) :
    fnD Go.Proofs.Try.prog C hints_burinkit_Within Go.Proofs.Try.f29 [.int .i64 i, .int .i64 n] h K Kp = burinkit_Within C i n h K Kp := by kernel_rfl

theorem call_burinkit_Within {i : Int} {n : Int} {h : Heap} {K : Value → Heap → Prop} {Kp : List PanicEntry → Heap → Prop} (H : burinkit_Within (CallsHP Go.Proofs.Try.prog) i n h K Kp) : CallsHP Go.Proofs.Try.prog F_burinkit_Within #[.int .i64 i, .int .i64 n] h K Kp :=
  callsHP_of hints_burinkit_Within (by kernel_rfl) Go.Proofs.Try.func29 (by kernel_rfl) (by rw [eq_burinkit_Within]; exact H)

noncomputable def hints_burinkit_Over : Hints := Hints.mk (fun i => none)
  (fun i => bif Nat.beq i 1 then some ([(2, .int .i64)], 8180) else (none))
  (fun i => none)
set_option maxRecDepth 100000 in
theorem eq_burinkit_Over (C : CallP) (b : Option Addr) (bn : Nat) (bc : Nat) (h : Heap) (K : Value → Heap → Prop) (Kp : List PanicEntry → Heap → Prop) :
    fnD Go.Proofs.Try.prog C hints_burinkit_Over Go.Proofs.Try.f46 [.slice b bn bc] h K Kp = burinkit_Over C b bn bc h K Kp := by kernel_rfl

theorem call_burinkit_Over {b : Option Addr} {bn : Nat} {bc : Nat} {h : Heap} {K : Value → Heap → Prop} {Kp : List PanicEntry → Heap → Prop} (H : burinkit_Over (CallsHP Go.Proofs.Try.prog) b bn bc h K Kp) : CallsHP Go.Proofs.Try.prog F_burinkit_Over #[.slice b bn bc] h K Kp :=
  callsHP_of hints_burinkit_Over (by kernel_rfl) Go.Proofs.Try.func46 (by kernel_rfl) (by rw [eq_burinkit_Over]; exact H)

noncomputable def hints_burinkit_Lend : Hints := Hints.mk (fun i => none)
  (fun i => bif Nat.beq i 4 then some ([(3, .slc), (4, .int .i64)], 520216) else (none))
  (fun i => none)
set_option maxRecDepth 100000 in
theorem eq_burinkit_Lend (C : CallP) (b : Option Addr) (bn : Nat) (bc : Nat) (h : Heap) (K : Value → Heap → Prop) (Kp : List PanicEntry → Heap → Prop) :
    fnD Go.Proofs.Try.prog C hints_burinkit_Lend Go.Proofs.Try.f48 [.slice b bn bc] h K Kp = burinkit_Lend C b bn bc h K Kp := by kernel_rfl

theorem call_burinkit_Lend {b : Option Addr} {bn : Nat} {bc : Nat} {h : Heap} {K : Value → Heap → Prop} {Kp : List PanicEntry → Heap → Prop} (H : burinkit_Lend (CallsHP Go.Proofs.Try.prog) b bn bc h K Kp) : CallsHP Go.Proofs.Try.prog F_burinkit_Lend #[.slice b bn bc] h K Kp :=
  callsHP_of hints_burinkit_Lend (by kernel_rfl) Go.Proofs.Try.func48 (by kernel_rfl) (by rw [eq_burinkit_Lend]; exact H)

noncomputable def hints_burinkit_Back : Hints := Hints.mk (fun i => none)
  (fun i => bif Nat.beq i 4 then some ([(5, .bool), (7, .int .i64)], 8589410464) else (bif Nat.beq i 8 then some ([(8, .int .i64)], 4389456576768) else (none)))
  (fun i => none)
set_option maxRecDepth 100000 in
theorem eq_burinkit_Back (C : CallP) (x : Option Addr) (xn : Nat) (xc : Nat) (b : Option Addr) (bn : Nat) (bc : Nat) (h : Heap) (K : Value → Heap → Prop) (Kp : List PanicEntry → Heap → Prop) :
    fnD Go.Proofs.Try.prog C hints_burinkit_Back Go.Proofs.Try.f49 [.slice x xn xc, .slice b bn bc] h K Kp = burinkit_Back C x xn xc b bn bc h K Kp := by kernel_rfl

theorem call_burinkit_Back {x : Option Addr} {xn : Nat} {xc : Nat} {b : Option Addr} {bn : Nat} {bc : Nat} {h : Heap} {K : Value → Heap → Prop} {Kp : List PanicEntry → Heap → Prop} (H : burinkit_Back (CallsHP Go.Proofs.Try.prog) x xn xc b bn bc h K Kp) : CallsHP Go.Proofs.Try.prog F_burinkit_Back #[.slice x xn xc, .slice b bn bc] h K Kp :=
  callsHP_of hints_burinkit_Back (by kernel_rfl) Go.Proofs.Try.func49 (by kernel_rfl) (by rw [eq_burinkit_Back]; exact H)

end Go.Den.Ytlmopdohgipbeaa
