/- Written by gen.py: each condition of the functions of bitmap is the one of its body; so it is enough for its call. -/
import Derived.Test.YtlmopdohgipbeaaMbitmap
import Derived.Test.YtlmopdohgipbeaaProg
set_option linter.unusedVariables false
set_option linter.unusedSimpArgs false
namespace Go.Den.Ytlmopdohgipbeaa
open Go Go.Den

noncomputable def hints_bitmap_New : Hints := Hints.mk (fun i => none)
  (fun i => none)
  (fun i => none)
set_option maxRecDepth 100000 in
theorem eq_bitmap_New (C : CallP) (w : Int) (h' : Int) (h : Heap) (K : Value → Heap → Prop) (Kp : List PanicEntry → Heap → Prop) :
    fnD Go.Proofs.Try.prog C hints_bitmap_New Go.Proofs.Try.f53 [.int .i64 w, .int .i64 h'] h K Kp = bitmap_New C w h' h K Kp := by kernel_rfl

theorem call_bitmap_New {w : Int} {h' : Int} {h : Heap} {K : Value → Heap → Prop} {Kp : List PanicEntry → Heap → Prop} (H : bitmap_New (CallsHP Go.Proofs.Try.prog) w h' h K Kp) : CallsHP Go.Proofs.Try.prog F_bitmap_New #[.int .i64 w, .int .i64 h'] h K Kp :=
  callsHP_of hints_bitmap_New (by kernel_rfl) Go.Proofs.Try.func53 (by kernel_rfl) (by rw [eq_bitmap_New]; exact H)

noncomputable def hints_bitmap_Map_Fill : Hints := Hints.mk (fun i => bif Nat.beq i 17 then some ([20], .take 0 <| .take 1 <| .take 2 <| .take 4 <| .take 5 <| .take 6 <| .take 7 <| .take 10 <| .take 14 <| .take 15 <| .take 16 <| .take 3 <| .take 8 <| .take 9 <| .take 11 <| .take 12 <| .take 13 <| .go 17 <| .take 18 <| .take 19 <| .bar 20 [] <| .done) else (bif Nat.beq i 19 then some ([20], .take 0 <| .take 1 <| .take 2 <| .take 4 <| .take 5 <| .take 6 <| .take 7 <| .take 10 <| .take 14 <| .take 15 <| .take 16 <| .take 3 <| .take 8 <| .take 9 <| .take 11 <| .take 12 <| .take 13 <| .go 17 <| .take 18 <| .take 19 <| .bar 20 [] <| .done) else (none)))
  (fun i => bif Nat.beq i 12 then some ([(16, .int .i64)], 42535295865117307896028337781552119808) else (bif Nat.beq i 15 then some ([(17, .int .i64)], 42535295865117289043455894450390302720) else (none)))
  (fun i => bif Nat.beq i 5 then some ([], 4294709248) else (none))
set_option maxRecDepth 100000 in
theorem eq_bitmap_Map_Fill (C : CallP) (a0 : Option Addr) (a1 : Int) (a2 : Int) (a3 : Int) (a4 : Int) (a5 : Int) (h : Heap) (K : Value → Heap → Prop) (Kp : List PanicEntry → Heap → Prop) :
    fnD Go.Proofs.Try.prog C hints_bitmap_Map_Fill Go.Proofs.Try.f54 [.pointer a0, .int .i64 a1, .int .i64 a2, .int .i64 a3, .int .i64 a4, .int .i64 a5] h K Kp = bitmap_Map_Fill C a0 a1 a2 a3 a4 a5 h K Kp := by kernel_rfl

theorem call_bitmap_Map_Fill {a0 : Option Addr} {a1 : Int} {a2 : Int} {a3 : Int} {a4 : Int} {a5 : Int} {h : Heap} {K : Value → Heap → Prop} {Kp : List PanicEntry → Heap → Prop} (H : bitmap_Map_Fill (CallsHP Go.Proofs.Try.prog) a0 a1 a2 a3 a4 a5 h K Kp) : CallsHP Go.Proofs.Try.prog F_bitmap_Map_Fill #[.pointer a0, .int .i64 a1, .int .i64 a2, .int .i64 a3, .int .i64 a4, .int .i64 a5] h K Kp :=
  callsHP_of hints_bitmap_Map_Fill (by kernel_rfl) Go.Proofs.Try.func54 (by kernel_rfl) (by rw [eq_bitmap_Map_Fill]; exact H)

noncomputable def hints_bitmap_From : Hints := Hints.mk (fun i => bif Nat.beq i 3 then some ([12], .take 0 <| .take 2 <| .take 4 <| .take 8 <| .take 1 <| .take 3 <| .take 5 <| .take 6 <| .take 7 <| .take 9 <| .go 10 <| .take 11 <| .bar 12 [] <| .take 13 <| .take 14 <| .done) else (none))
  (fun i => none)
  (fun i => none)
set_option maxRecDepth 100000 in
theorem eq_bitmap_From (C : CallP) (b_1 : Int) (b_2 : Int) (b_3 : Option Addr) (b_3n : Nat) (b_3c : Nat) (h : Heap) (K : Value → Heap → Prop) (Kp : List PanicEntry → Heap → Prop) :
    fnD Go.Proofs.Try.prog C hints_bitmap_From Go.Proofs.Try.f56 [.agg #[.int .i64 b_1, .int .i64 b_2, .slice b_3 b_3n b_3c]] h K Kp = bitmap_From C b_1 b_2 b_3 b_3n b_3c h K Kp := by kernel_rfl

theorem call_bitmap_From {b_1 : Int} {b_2 : Int} {b_3 : Option Addr} {b_3n : Nat} {b_3c : Nat} {h : Heap} {K : Value → Heap → Prop} {Kp : List PanicEntry → Heap → Prop} (H : bitmap_From (CallsHP Go.Proofs.Try.prog) b_1 b_2 b_3 b_3n b_3c h K Kp) : CallsHP Go.Proofs.Try.prog F_bitmap_From #[.agg #[.int .i64 b_1, .int .i64 b_2, .slice b_3 b_3n b_3c]] h K Kp :=
  callsHP_of hints_bitmap_From (by kernel_rfl) Go.Proofs.Try.func56 (by kernel_rfl) (by rw [eq_bitmap_From]; exact H)

noncomputable def hints_bitmap_Map_Blit : Hints := Hints.mk (fun i => bif Nat.beq i 7 then some ([11], .take 0 <| .take 1 <| .take 2 <| .take 3 <| .take 5 <| .take 6 <| .take 7 <| .take 8 <| .take 10 <| .take 4 <| .take 9 <| .bar 11 [] <| .take 12 <| .take 13 <| .take 14 <| .take 15 <| .take 16 <| .take 17 <| .take 18 <| .done) else (bif Nat.beq i 8 then some ([11], .take 0 <| .take 1 <| .take 2 <| .take 3 <| .take 5 <| .take 6 <| .take 7 <| .take 8 <| .take 10 <| .take 4 <| .take 9 <| .bar 11 [] <| .take 12 <| .take 13 <| .take 14 <| .take 15 <| .take 16 <| .take 17 <| .take 18 <| .done) else (bif Nat.beq i 19 then some ([19], .take 0 <| .take 1 <| .take 2 <| .take 3 <| .take 5 <| .take 6 <| .take 7 <| .take 8 <| .take 9 <| .take 12 <| .take 13 <| .take 14 <| .take 15 <| .take 4 <| .take 10 <| .take 11 <| .take 16 <| .take 17 <| .take 18 <| .bar 19 [] <| .done) else (bif Nat.beq i 23 then some ([], .take 0 <| .take 1 <| .take 2 <| .take 4 <| .take 5 <| .take 6 <| .take 7 <| .take 8 <| .take 9 <| .take 12 <| .take 3 <| .take 10 <| .take 11 <| .take 13 <| .take 14 <| .take 15 <| .done) else (bif Nat.beq i 25 then some ([23], .take 0 <| .take 1 <| .take 2 <| .take 4 <| .take 6 <| .take 7 <| .take 8 <| .take 10 <| .take 11 <| .take 12 <| .take 13 <| .take 14 <| .take 15 <| .take 16 <| .take 19 <| .take 3 <| .take 5 <| .take 9 <| .go 17 <| .go 18 <| .take 20 <| .take 21 <| .take 22 <| .bar 23 [] <| .done) else (none))))))
  (fun i => bif Nat.beq i 14 then some ([(91, .int .i64)], 12259964326927110866866776214726593390379152427735580672) else (bif Nat.beq i 21 then some ([(23, .int .i64)], 6129982163463552711174452741093529027478097034647437312) else (none)))
  (fun i => bif Nat.beq i 18 then some ([(21, .int .i64)], 2515494159827892718595022520320) else (none))
set_option maxRecDepth 100000 in
theorem eq_bitmap_Map_Blit (C : CallP) (a0 : Option Addr) (a1 : Option Addr) (a2 : Int) (a3 : Int) (a4 : Int) (a5 : Int) (a6 : Int) (a7 : Int) (a8 : Int) (h : Heap) (K : Value → Heap → Prop) (Kp : List PanicEntry → Heap → Prop) :
    fnD Go.Proofs.Try.prog C hints_bitmap_Map_Blit Go.Proofs.Try.f58 [.pointer a0, .pointer a1, .int .i64 a2, .int .i64 a3, .int .i64 a4, .int .i64 a5, .int .i64 a6, .int .i64 a7, .int .i64 a8] h K Kp = bitmap_Map_Blit C a0 a1 a2 a3 a4 a5 a6 a7 a8 h K Kp := by kernel_rfl

theorem call_bitmap_Map_Blit {a0 : Option Addr} {a1 : Option Addr} {a2 : Int} {a3 : Int} {a4 : Int} {a5 : Int} {a6 : Int} {a7 : Int} {a8 : Int} {h : Heap} {K : Value → Heap → Prop} {Kp : List PanicEntry → Heap → Prop} (H : bitmap_Map_Blit (CallsHP Go.Proofs.Try.prog) a0 a1 a2 a3 a4 a5 a6 a7 a8 h K Kp) : CallsHP Go.Proofs.Try.prog F_bitmap_Map_Blit #[.pointer a0, .pointer a1, .int .i64 a2, .int .i64 a3, .int .i64 a4, .int .i64 a5, .int .i64 a6, .int .i64 a7, .int .i64 a8] h K Kp :=
  callsHP_of hints_bitmap_Map_Blit (by kernel_rfl) Go.Proofs.Try.func58 (by kernel_rfl) (by rw [eq_bitmap_Map_Blit]; exact H)

noncomputable def hints_bitmap_Map_Plain : Hints := Hints.mk (fun i => bif Nat.beq i 1 then some ([14], .take 0 <| .take 1 <| .take 2 <| .take 4 <| .take 5 <| .take 6 <| .take 8 <| .take 9 <| .take 10 <| .take 3 <| .take 7 <| .take 11 <| .go 12 <| .take 13 <| .bar 14 [] <| .done) else (none))
  (fun i => none)
  (fun i => none)
set_option maxRecDepth 100000 in
theorem eq_bitmap_Map_Plain (C : CallP) (m : Option Addr) (h : Heap) (K : Value → Heap → Prop) (Kp : List PanicEntry → Heap → Prop) :
    fnD Go.Proofs.Try.prog C hints_bitmap_Map_Plain Go.Proofs.Try.f60 [.pointer m] h K Kp = bitmap_Map_Plain C m h K Kp := by kernel_rfl

theorem call_bitmap_Map_Plain {m : Option Addr} {h : Heap} {K : Value → Heap → Prop} {Kp : List PanicEntry → Heap → Prop} (H : bitmap_Map_Plain (CallsHP Go.Proofs.Try.prog) m h K Kp) : CallsHP Go.Proofs.Try.prog F_bitmap_Map_Plain #[.pointer m] h K Kp :=
  callsHP_of hints_bitmap_Map_Plain (by kernel_rfl) Go.Proofs.Try.func60 (by kernel_rfl) (by rw [eq_bitmap_Map_Plain]; exact H)

noncomputable def hints_bitmap_sized : Hints := Hints.mk (fun i => none)
  (fun i => none)
  (fun i => none)
set_option maxRecDepth 100000 in
theorem eq_bitmap_sized (C : CallP) (w : Int) (h' : Int) (h : Heap) (K : Value → Heap → Prop) (Kp : List PanicEntry → Heap → Prop) :
    fnD Go.Proofs.Try.prog C hints_bitmap_sized Go.Proofs.Try.f86 [.int .i64 w, .int .i64 h'] h K Kp = bitmap_sized C w h' h K Kp := by kernel_rfl

theorem call_bitmap_sized {w : Int} {h' : Int} {h : Heap} {K : Value → Heap → Prop} {Kp : List PanicEntry → Heap → Prop} (H : bitmap_sized (CallsHP Go.Proofs.Try.prog) w h' h K Kp) : CallsHP Go.Proofs.Try.prog F_bitmap_sized #[.int .i64 w, .int .i64 h'] h K Kp :=
  callsHP_of hints_bitmap_sized (by kernel_rfl) Go.Proofs.Try.func86 (by kernel_rfl) (by rw [eq_bitmap_sized]; exact H)

noncomputable def hints_bitmap_cut : Hints := Hints.mk (fun i => none)
  (fun i => none)
  (fun i => bif Nat.beq i 4 then some ([(8, .bool)], 261888) else (none))
set_option maxRecDepth 100000 in
theorem eq_bitmap_cut (C : CallP) (off : Int) (n : Int) (size : Int) (h : Heap) (K : Value → Heap → Prop) (Kp : List PanicEntry → Heap → Prop) :
    fnD Go.Proofs.Try.prog C hints_bitmap_cut Go.Proofs.Try.f87 [.int .i64 off, .int .i64 n, .int .i64 size] h K Kp = bitmap_cut C off n size h K Kp := by kernel_rfl

theorem call_bitmap_cut {off : Int} {n : Int} {size : Int} {h : Heap} {K : Value → Heap → Prop} {Kp : List PanicEntry → Heap → Prop} (H : bitmap_cut (CallsHP Go.Proofs.Try.prog) off n size h K Kp) : CallsHP Go.Proofs.Try.prog F_bitmap_cut #[.int .i64 off, .int .i64 n, .int .i64 size] h K Kp :=
  callsHP_of hints_bitmap_cut (by kernel_rfl) Go.Proofs.Try.func87 (by kernel_rfl) (by rw [eq_bitmap_cut]; exact H)

noncomputable def hints_bitmap_mask : Hints := Hints.mk (fun i => bif Nat.beq i 2 then some ([], .take 0 <| .take 1 <| .take 2 <| .take 3 <| .take 4 <| .take 5 <| .done) else (none))
  (fun i => none)
  (fun i => none)
set_option maxRecDepth 100000 in
theorem eq_bitmap_mask (C : CallP) (i : Int) (x : Int) (n : Int) (h : Heap) (K : Value → Heap → Prop) (Kp : List PanicEntry → Heap → Prop) :
    fnD Go.Proofs.Try.prog C hints_bitmap_mask Go.Proofs.Try.f88 [.int .i64 i, .int .i64 x, .int .i64 n] h K Kp = bitmap_mask C i x n h K Kp := by kernel_rfl

theorem call_bitmap_mask {i : Int} {x : Int} {n : Int} {h : Heap} {K : Value → Heap → Prop} {Kp : List PanicEntry → Heap → Prop} (H : bitmap_mask (CallsHP Go.Proofs.Try.prog) i x n h K Kp) : CallsHP Go.Proofs.Try.prog F_bitmap_mask #[.int .i64 i, .int .i64 x, .int .i64 n] h K Kp :=
  callsHP_of hints_bitmap_mask (by kernel_rfl) Go.Proofs.Try.func88 (by kernel_rfl) (by rw [eq_bitmap_mask]; exact H)

noncomputable def hints_bitmap_Check : Hints := Hints.mk (fun i => bif Nat.beq i 9 then some ([], .take 0 <| .take 2 <| .take 3 <| .take 4 <| .take 5 <| .take 6 <| .take 7 <| .take 10 <| .take 1 <| .take 8 <| .take 9 <| .take 11 <| .go 12 <| .take 13 <| .take 14 <| .done) else (none))
  (fun i => bif Nat.beq i 7 then some ([(25, .int .i64)], 17592152490004) else (none))
  (fun i => none)
set_option maxRecDepth 100000 in
theorem eq_bitmap_Check (C : CallP) (b_1 : Int) (b_2 : Int) (b_3 : Option Addr) (b_3n : Nat) (b_3c : Nat) (h : Heap) (K : Value → Heap → Prop) (Kp : List PanicEntry → Heap → Prop) :
    fnD Go.Proofs.Try.prog C hints_bitmap_Check Go.Proofs.Try.f89 [.agg #[.int .i64 b_1, .int .i64 b_2, .slice b_3 b_3n b_3c]] h K Kp = bitmap_Check C b_1 b_2 b_3 b_3n b_3c h K Kp := by kernel_rfl

theorem call_bitmap_Check {b_1 : Int} {b_2 : Int} {b_3 : Option Addr} {b_3n : Nat} {b_3c : Nat} {h : Heap} {K : Value → Heap → Prop} {Kp : List PanicEntry → Heap → Prop} (H : bitmap_Check (CallsHP Go.Proofs.Try.prog) b_1 b_2 b_3 b_3n b_3c h K Kp) : CallsHP Go.Proofs.Try.prog F_bitmap_Check #[.agg #[.int .i64 b_1, .int .i64 b_2, .slice b_3 b_3n b_3c]] h K Kp :=
  callsHP_of hints_bitmap_Check (by kernel_rfl) Go.Proofs.Try.func89 (by kernel_rfl) (by rw [eq_bitmap_Check]; exact H)

noncomputable def hints_bitmap_both : Hints := Hints.mk (fun i => none)
  (fun i => none)
  (fun i => none)
set_option maxRecDepth 100000 in
theorem eq_bitmap_both (C : CallP) (a : Int) (asv : Int) (b : Int) (bs : Int) (n : Int) (h : Heap) (K : Value → Heap → Prop) (Kp : List PanicEntry → Heap → Prop) :
    fnD Go.Proofs.Try.prog C hints_bitmap_both Go.Proofs.Try.f91 [.int .i64 a, .int .i64 asv, .int .i64 b, .int .i64 bs, .int .i64 n] h K Kp = bitmap_both C a asv b bs n h K Kp := by kernel_rfl

theorem call_bitmap_both {a : Int} {asv : Int} {b : Int} {bs : Int} {n : Int} {h : Heap} {K : Value → Heap → Prop} {Kp : List PanicEntry → Heap → Prop} (H : bitmap_both (CallsHP Go.Proofs.Try.prog) a asv b bs n h K Kp) : CallsHP Go.Proofs.Try.prog F_bitmap_both #[.int .i64 a, .int .i64 asv, .int .i64 b, .int .i64 bs, .int .i64 n] h K Kp :=
  callsHP_of hints_bitmap_both (by kernel_rfl) Go.Proofs.Try.func91 (by kernel_rfl) (by rw [eq_bitmap_both]; exact H)

noncomputable def hints_bitmap_operations : Hints := Hints.mk (fun i => none)
  (fun i => none)
  (fun i => none)
set_option maxRecDepth 100000 in
theorem eq_bitmap_operations (C : CallP)  (h : Heap) (K : Value → Heap → Prop) (Kp : List PanicEntry → Heap → Prop) :
    fnD Go.Proofs.Try.prog C hints_bitmap_operations Go.Proofs.Try.f92 [] h K Kp = bitmap_operations C  h K Kp := by kernel_rfl

theorem call_bitmap_operations  {h : Heap} {K : Value → Heap → Prop} {Kp : List PanicEntry → Heap → Prop} (H : bitmap_operations (CallsHP Go.Proofs.Try.prog)  h K Kp) : CallsHP Go.Proofs.Try.prog F_bitmap_operations #[] h K Kp :=
  callsHP_of hints_bitmap_operations (by kernel_rfl) Go.Proofs.Try.func92 (by kernel_rfl) (by rw [eq_bitmap_operations]; exact H)

noncomputable def hints_bitmap_word : Hints := Hints.mk (fun i => none)
  (fun i => none)
  (fun i => bif Nat.beq i 8 then some ([(36, .bool)], 137304735744) else (none))
set_option maxRecDepth 100000 in
theorem eq_bitmap_word (C : CallP) (row : Option Addr) (rown : Nat) (rowc : Nat) (x : Int) (h : Heap) (K : Value → Heap → Prop) (Kp : List PanicEntry → Heap → Prop) :
    fnD Go.Proofs.Try.prog C hints_bitmap_word Go.Proofs.Try.f93 [.slice row rown rowc, .int .i64 x] h K Kp = bitmap_word C row rown rowc x h K Kp := by kernel_rfl

theorem call_bitmap_word {row : Option Addr} {rown : Nat} {rowc : Nat} {x : Int} {h : Heap} {K : Value → Heap → Prop} {Kp : List PanicEntry → Heap → Prop} (H : bitmap_word (CallsHP Go.Proofs.Try.prog) row rown rowc x h K Kp) : CallsHP Go.Proofs.Try.prog F_bitmap_word #[.slice row rown rowc, .int .i64 x] h K Kp :=
  callsHP_of hints_bitmap_word (by kernel_rfl) Go.Proofs.Try.func93 (by kernel_rfl) (by rw [eq_bitmap_word]; exact H)

noncomputable def hints_bitmap_last : Hints := Hints.mk (fun i => none)
  (fun i => none)
  (fun i => none)
set_option maxRecDepth 100000 in
theorem eq_bitmap_last (C : CallP) (w : Int) (h : Heap) (K : Value → Heap → Prop) (Kp : List PanicEntry → Heap → Prop) :
    fnD Go.Proofs.Try.prog C hints_bitmap_last Go.Proofs.Try.f96 [.int .i64 w] h K Kp = bitmap_last C w h K Kp := by kernel_rfl

theorem call_bitmap_last {w : Int} {h : Heap} {K : Value → Heap → Prop} {Kp : List PanicEntry → Heap → Prop} (H : bitmap_last (CallsHP Go.Proofs.Try.prog) w h K Kp) : CallsHP Go.Proofs.Try.prog F_bitmap_last #[.int .i64 w] h K Kp :=
  callsHP_of hints_bitmap_last (by kernel_rfl) Go.Proofs.Try.func96 (by kernel_rfl) (by rw [eq_bitmap_last]; exact H)

noncomputable def hints_bitmap_operations_c1 : Hints := Hints.mk (fun i => none)
  (fun i => none)
  (fun i => none)
set_option maxRecDepth 100000 in
theorem eq_bitmap_operations_c1 (C : CallP) (d : Int) (s : Int) (h : Heap) (K : Value → Heap → Prop) (Kp : List PanicEntry → Heap → Prop) :
    fnD Go.Proofs.Try.prog C hints_bitmap_operations_c1 Go.Proofs.Try.f97 [.int .u64 d, .int .u64 s] h K Kp = bitmap_operations_c1 C d s h K Kp := by kernel_rfl

theorem call_bitmap_operations_c1 {d : Int} {s : Int} {h : Heap} {K : Value → Heap → Prop} {Kp : List PanicEntry → Heap → Prop} (H : bitmap_operations_c1 (CallsHP Go.Proofs.Try.prog) d s h K Kp) : CallsHP Go.Proofs.Try.prog F_bitmap_operations_c1 #[.int .u64 d, .int .u64 s] h K Kp :=
  callsHP_of hints_bitmap_operations_c1 (by kernel_rfl) Go.Proofs.Try.func97 (by kernel_rfl) (by rw [eq_bitmap_operations_c1]; exact H)

noncomputable def hints_bitmap_operations_c2 : Hints := Hints.mk (fun i => none)
  (fun i => none)
  (fun i => none)
set_option maxRecDepth 100000 in
theorem eq_bitmap_operations_c2 (C : CallP) (d : Int) (s : Int) (h : Heap) (K : Value → Heap → Prop) (Kp : List PanicEntry → Heap → Prop) :
    fnD Go.Proofs.Try.prog C hints_bitmap_operations_c2 Go.Proofs.Try.f98 [.int .u64 d, .int .u64 s] h K Kp = bitmap_operations_c2 C d s h K Kp := by kernel_rfl

theorem call_bitmap_operations_c2 {d : Int} {s : Int} {h : Heap} {K : Value → Heap → Prop} {Kp : List PanicEntry → Heap → Prop} (H : bitmap_operations_c2 (CallsHP Go.Proofs.Try.prog) d s h K Kp) : CallsHP Go.Proofs.Try.prog F_bitmap_operations_c2 #[.int .u64 d, .int .u64 s] h K Kp :=
  callsHP_of hints_bitmap_operations_c2 (by kernel_rfl) Go.Proofs.Try.func98 (by kernel_rfl) (by rw [eq_bitmap_operations_c2]; exact H)

noncomputable def hints_bitmap_operations_c3 : Hints := Hints.mk (fun i => none)
  (fun i => none)
  (fun i => none)
set_option maxRecDepth 100000 in
theorem eq_bitmap_operations_c3 (C : CallP) (d : Int) (s : Int) (h : Heap) (K : Value → Heap → Prop) (Kp : List PanicEntry → Heap → Prop) :
    fnD Go.Proofs.Try.prog C hints_bitmap_operations_c3 Go.Proofs.Try.f99 [.int .u64 d, .int .u64 s] h K Kp = bitmap_operations_c3 C d s h K Kp := by kernel_rfl

theorem call_bitmap_operations_c3 {d : Int} {s : Int} {h : Heap} {K : Value → Heap → Prop} {Kp : List PanicEntry → Heap → Prop} (H : bitmap_operations_c3 (CallsHP Go.Proofs.Try.prog) d s h K Kp) : CallsHP Go.Proofs.Try.prog F_bitmap_operations_c3 #[.int .u64 d, .int .u64 s] h K Kp :=
  callsHP_of hints_bitmap_operations_c3 (by kernel_rfl) Go.Proofs.Try.func99 (by kernel_rfl) (by rw [eq_bitmap_operations_c3]; exact H)

noncomputable def hints_bitmap_operations_c4 : Hints := Hints.mk (fun i => none)
  (fun i => none)
  (fun i => none)
set_option maxRecDepth 100000 in
theorem eq_bitmap_operations_c4 (C : CallP) (d : Int) (s : Int) (h : Heap) (K : Value → Heap → Prop) (Kp : List PanicEntry → Heap → Prop) :
    fnD Go.Proofs.Try.prog C hints_bitmap_operations_c4 Go.Proofs.Try.f100 [.int .u64 d, .int .u64 s] h K Kp = bitmap_operations_c4 C d s h K Kp := by kernel_rfl

theorem call_bitmap_operations_c4 {d : Int} {s : Int} {h : Heap} {K : Value → Heap → Prop} {Kp : List PanicEntry → Heap → Prop} (H : bitmap_operations_c4 (CallsHP Go.Proofs.Try.prog) d s h K Kp) : CallsHP Go.Proofs.Try.prog F_bitmap_operations_c4 #[.int .u64 d, .int .u64 s] h K Kp :=
  callsHP_of hints_bitmap_operations_c4 (by kernel_rfl) Go.Proofs.Try.func100 (by kernel_rfl) (by rw [eq_bitmap_operations_c4]; exact H)

noncomputable def hints_bitmap_operations_c5 : Hints := Hints.mk (fun i => none)
  (fun i => none)
  (fun i => none)
set_option maxRecDepth 100000 in
theorem eq_bitmap_operations_c5 (C : CallP) (d : Int) (s : Int) (h : Heap) (K : Value → Heap → Prop) (Kp : List PanicEntry → Heap → Prop) :
    fnD Go.Proofs.Try.prog C hints_bitmap_operations_c5 Go.Proofs.Try.f101 [.int .u64 d, .int .u64 s] h K Kp = bitmap_operations_c5 C d s h K Kp := by kernel_rfl

theorem call_bitmap_operations_c5 {d : Int} {s : Int} {h : Heap} {K : Value → Heap → Prop} {Kp : List PanicEntry → Heap → Prop} (H : bitmap_operations_c5 (CallsHP Go.Proofs.Try.prog) d s h K Kp) : CallsHP Go.Proofs.Try.prog F_bitmap_operations_c5 #[.int .u64 d, .int .u64 s] h K Kp :=
  callsHP_of hints_bitmap_operations_c5 (by kernel_rfl) Go.Proofs.Try.func101 (by kernel_rfl) (by rw [eq_bitmap_operations_c5]; exact H)

end Go.Den.Ytlmopdohgipbeaa
