/- Written by gen.py: each condition of the functions of burinref0 is the one of its body; so it is enough for its call. -/
import Derived.Test.YtlmopdohgipbeaaMburinref0
import Derived.Test.YtlmopdohgipbeaaProg
set_option linter.unusedVariables false
set_option linter.unusedSimpArgs false
namespace Go.Den.Ytlmopdohgipbeaa
open Go Go.Den

noncomputable def hints_burinref0_EqBitmap : Hints := Hints.mk (fun i => none)
  (fun i => none)
  (fun i => none)
set_option maxRecDepth 100000 in
theorem eq_burinref0_EqBitmap (C : CallP) (a_1 : Int) (a_2 : Int) (a_3 : Option Addr) (a_3n : Nat) (a_3c : Nat) (b_4 : Int) (b_5 : Int) (b_6 : Option Addr) (b_6n : Nat) (b_6c : Nat) (h : Heap) (K : Value → Heap → Prop) (Kp : List PanicEntry → Heap → Prop) :
    fnD Go.Proofs.Try.prog C hints_burinref0_EqBitmap Go.Proofs.Try.f25 [.agg #[.int .i64 a_1, .int .i64 a_2, .slice a_3 a_3n a_3c], .agg #[.int .i64 b_4, .int .i64 b_5, .slice b_6 b_6n b_6c]] h K Kp = burinref0_EqBitmap C a_1 a_2 a_3 a_3n a_3c b_4 b_5 b_6 b_6n b_6c h K Kp := by kernel_rfl

theorem call_burinref0_EqBitmap {a_1 : Int} {a_2 : Int} {a_3 : Option Addr} {a_3n : Nat} {a_3c : Nat} {b_4 : Int} {b_5 : Int} {b_6 : Option Addr} {b_6n : Nat} {b_6c : Nat} {h : Heap} {K : Value → Heap → Prop} {Kp : List PanicEntry → Heap → Prop} (H : burinref0_EqBitmap (CallsHP Go.Proofs.Try.prog) a_1 a_2 a_3 a_3n a_3c b_4 b_5 b_6 b_6n b_6c h K Kp) : CallsHP Go.Proofs.Try.prog F_burinref0_EqBitmap #[.agg #[.int .i64 a_1, .int .i64 a_2, .slice a_3 a_3n a_3c], .agg #[.int .i64 b_4, .int .i64 b_5, .slice b_6 b_6n b_6c]] h K Kp :=
  callsHP_of hints_burinref0_EqBitmap (by kernel_rfl) Go.Proofs.Try.func25 (by kernel_rfl) (by rw [eq_burinref0_EqBitmap]; exact H)

noncomputable def hints_burinref0_May : Hints := Hints.mk (fun i => bif Nat.beq i 1 then some ([4, 14], .take 0 <| .take 2 <| .take 1 <| .take 3 <| .bar 4 [] <| .take 5 <| .take 6 <| .take 7 <| .take 10 <| .take 12 <| .take 8 <| .take 9 <| .take 11 <| .take 13 <| .go 14 <| .take 15 <| .take 16 <| .take 17 <| .done) else (bif Nat.beq i 8 then some ([], .take 0 <| .take 2 <| .take 3 <| .take 4 <| .take 11 <| .take 1 <| .take 5 <| .take 12 <| .take 13 <| .take 14 <| .go 6 <| .take 7 <| .take 8 <| .take 9 <| .take 10 <| .take 15 <| .take 16 <| .done) else (none)))
  (fun i => bif Nat.beq i 6 then some ([(3, .int .i64)], 562949886312460) else (none))
  (fun i => none)
set_option maxRecDepth 100000 in
theorem eq_burinref0_May (C : CallP) (b_1 : Int) (b_2 : Int) (b_3 : Option Addr) (b_3n : Nat) (b_3c : Nat) (h : Heap) (K : Value → Heap → Prop) (Kp : List PanicEntry → Heap → Prop) :
    fnD Go.Proofs.Try.prog C hints_burinref0_May Go.Proofs.Try.f28 [.agg #[.int .i64 b_1, .int .i64 b_2, .slice b_3 b_3n b_3c]] h K Kp = burinref0_May C b_1 b_2 b_3 b_3n b_3c h K Kp := by kernel_rfl

theorem call_burinref0_May {b_1 : Int} {b_2 : Int} {b_3 : Option Addr} {b_3n : Nat} {b_3c : Nat} {h : Heap} {K : Value → Heap → Prop} {Kp : List PanicEntry → Heap → Prop} (H : burinref0_May (CallsHP Go.Proofs.Try.prog) b_1 b_2 b_3 b_3n b_3c h K Kp) : CallsHP Go.Proofs.Try.prog F_burinref0_May #[.agg #[.int .i64 b_1, .int .i64 b_2, .slice b_3 b_3n b_3c]] h K Kp :=
  callsHP_of hints_burinref0_May (by kernel_rfl) Go.Proofs.Try.func28 (by kernel_rfl) (by rw [eq_burinref0_May]; exact H)

noncomputable def hints_burinref0_White : Hints := Hints.mk (fun i => none)
  (fun i => none)
  (fun i => none)
set_option maxRecDepth 100000 in
theorem eq_burinref0_White (C : CallP) (w : Int) (h' : Int) (h : Heap) (K : Value → Heap → Prop) (Kp : List PanicEntry → Heap → Prop) :
    fnD Go.Proofs.Try.prog C hints_burinref0_White Go.Proofs.Try.f30 [.int .i64 w, .int .i64 h'] h K Kp = burinref0_White C w h' h K Kp := by kernel_rfl

theorem call_burinref0_White {w : Int} {h' : Int} {h : Heap} {K : Value → Heap → Prop} {Kp : List PanicEntry → Heap → Prop} (H : burinref0_White (CallsHP Go.Proofs.Try.prog) w h' h K Kp) : CallsHP Go.Proofs.Try.prog F_burinref0_White #[.int .i64 w, .int .i64 h'] h K Kp :=
  callsHP_of hints_burinref0_White (by kernel_rfl) Go.Proofs.Try.func30 (by kernel_rfl) (by rw [eq_burinref0_White]; exact H)

noncomputable def hints_burinref0_Lay : Hints := Hints.mk (fun i => bif Nat.beq i 9 then some ([21], .take 1 <| .take 2 <| .take 3 <| .take 4 <| .take 5 <| .take 6 <| .take 7 <| .take 9 <| .take 10 <| .take 11 <| .take 12 <| .take 13 <| .take 14 <| .take 17 <| .take 18 <| .take 0 <| .take 8 <| .take 16 <| .go 15 <| .go 19 <| .go 20 <| .bar 21 [] <| .done) else (none))
  (fun i => bif Nat.beq i 3 then some ([(10, .int .i64)], 79228162514264337524824476672) else (bif Nat.beq i 6 then some ([(11, .int .i64)], 79228162514264333195497441280) else (none)))
  (fun i => bif Nat.beq i 9 then some ([(73, .bool)], 18889465650003604144128) else (none))
set_option maxRecDepth 100000 in
theorem eq_burinref0_Lay (C : CallP) (a0_1 : Int) (a0_2 : Int) (a0_3 : Option Addr) (a0_3n : Nat) (a0_3c : Nat) (a1 : Int) (a2 : Int) (a3 : Int) (a4_4 : Int) (a4_5 : Int) (a4_6 : Option Addr) (a4_6n : Nat) (a4_6c : Nat) (h : Heap) (K : Value → Heap → Prop) (Kp : List PanicEntry → Heap → Prop) :
    fnD Go.Proofs.Try.prog C hints_burinref0_Lay Go.Proofs.Try.f31 [.agg #[.int .i64 a0_1, .int .i64 a0_2, .slice a0_3 a0_3n a0_3c], .int .i64 a1, .int .i64 a2, .int .i64 a3, .agg #[.int .i64 a4_4, .int .i64 a4_5, .slice a4_6 a4_6n a4_6c]] h K Kp = burinref0_Lay C a0_1 a0_2 a0_3 a0_3n a0_3c a1 a2 a3 a4_4 a4_5 a4_6 a4_6n a4_6c h K Kp := by kernel_rfl

theorem call_burinref0_Lay {a0_1 : Int} {a0_2 : Int} {a0_3 : Option Addr} {a0_3n : Nat} {a0_3c : Nat} {a1 : Int} {a2 : Int} {a3 : Int} {a4_4 : Int} {a4_5 : Int} {a4_6 : Option Addr} {a4_6n : Nat} {a4_6c : Nat} {h : Heap} {K : Value → Heap → Prop} {Kp : List PanicEntry → Heap → Prop} (H : burinref0_Lay (CallsHP Go.Proofs.Try.prog) a0_1 a0_2 a0_3 a0_3n a0_3c a1 a2 a3 a4_4 a4_5 a4_6 a4_6n a4_6c h K Kp) : CallsHP Go.Proofs.Try.prog F_burinref0_Lay #[.agg #[.int .i64 a0_1, .int .i64 a0_2, .slice a0_3 a0_3n a0_3c], .int .i64 a1, .int .i64 a2, .int .i64 a3, .agg #[.int .i64 a4_4, .int .i64 a4_5, .slice a4_6 a4_6n a4_6c]] h K Kp :=
  callsHP_of hints_burinref0_Lay (by kernel_rfl) Go.Proofs.Try.func31 (by kernel_rfl) (by rw [eq_burinref0_Lay]; exact H)

noncomputable def hints_burinref0_Size : Hints := Hints.mk (fun i => none)
  (fun i => none)
  (fun i => none)
set_option maxRecDepth 100000 in
theorem eq_burinref0_Size (C : CallP) (w : Int) (h' : Int) (h : Heap) (K : Value → Heap → Prop) (Kp : List PanicEntry → Heap → Prop) :
    fnD Go.Proofs.Try.prog C hints_burinref0_Size Go.Proofs.Try.f32 [.int .i64 w, .int .i64 h'] h K Kp = burinref0_Size C w h' h K Kp := by kernel_rfl

theorem call_burinref0_Size {w : Int} {h' : Int} {h : Heap} {K : Value → Heap → Prop} {Kp : List PanicEntry → Heap → Prop} (H : burinref0_Size (CallsHP Go.Proofs.Try.prog) w h' h K Kp) : CallsHP Go.Proofs.Try.prog F_burinref0_Size #[.int .i64 w, .int .i64 h'] h K Kp :=
  callsHP_of hints_burinref0_Size (by kernel_rfl) Go.Proofs.Try.func32 (by kernel_rfl) (by rw [eq_burinref0_Size]; exact H)

noncomputable def hints_burinref0_Eq : Hints := Hints.mk (fun i => bif Nat.beq i 6 then some ([], .take 0 <| .take 1 <| .take 2 <| .take 4 <| .take 5 <| .take 6 <| .take 3 <| .take 7 <| .take 8 <| .done) else (none))
  (fun i => bif Nat.beq i 4 then some ([(5, .int .i64)], 67106864) else (none))
  (fun i => none)
set_option maxRecDepth 100000 in
theorem eq_burinref0_Eq (C : CallP) (a : Option Addr) (an : Nat) (ac : Nat) (b : Option Addr) (bn : Nat) (bc : Nat) (h : Heap) (K : Value → Heap → Prop) (Kp : List PanicEntry → Heap → Prop) :
    fnD Go.Proofs.Try.prog C hints_burinref0_Eq Go.Proofs.Try.f39 [.slice a an ac, .slice b bn bc] h K Kp = burinref0_Eq C a an ac b bn bc h K Kp := by kernel_rfl

theorem call_burinref0_Eq {a : Option Addr} {an : Nat} {ac : Nat} {b : Option Addr} {bn : Nat} {bc : Nat} {h : Heap} {K : Value → Heap → Prop} {Kp : List PanicEntry → Heap → Prop} (H : burinref0_Eq (CallsHP Go.Proofs.Try.prog) a an ac b bn bc h K Kp) : CallsHP Go.Proofs.Try.prog F_burinref0_Eq #[.slice a an ac, .slice b bn bc] h K Kp :=
  callsHP_of hints_burinref0_Eq (by kernel_rfl) Go.Proofs.Try.func39 (by kernel_rfl) (by rw [eq_burinref0_Eq]; exact H)

noncomputable def hints_burinref0_Put : Hints := Hints.mk (fun i => bif Nat.beq i 3 then some ([11], .take 0 <| .take 2 <| .take 3 <| .take 5 <| .take 8 <| .take 1 <| .take 4 <| .take 6 <| .take 7 <| .take 9 <| .take 10 <| .bar 11 [] <| .done) else (bif Nat.beq i 5 then some ([11], .take 0 <| .take 2 <| .take 3 <| .take 5 <| .take 8 <| .take 1 <| .take 4 <| .take 6 <| .take 7 <| .take 9 <| .take 10 <| .bar 11 [] <| .done) else (none)))
  (fun i => none)
  (fun i => none)
set_option maxRecDepth 100000 in
theorem eq_burinref0_Put (C : CallP) (b_1 : Int) (b_2 : Int) (b_3 : Option Addr) (b_3n : Nat) (b_3c : Nat) (x : Int) (y : Int) (bit : Int) (h : Heap) (K : Value → Heap → Prop) (Kp : List PanicEntry → Heap → Prop) :
    fnD Go.Proofs.Try.prog C hints_burinref0_Put Go.Proofs.Try.f55 [.agg #[.int .i64 b_1, .int .i64 b_2, .slice b_3 b_3n b_3c], .int .i64 x, .int .i64 y, .int .i64 bit] h K Kp = burinref0_Put C b_1 b_2 b_3 b_3n b_3c x y bit h K Kp := by kernel_rfl

theorem call_burinref0_Put {b_1 : Int} {b_2 : Int} {b_3 : Option Addr} {b_3n : Nat} {b_3c : Nat} {x : Int} {y : Int} {bit : Int} {h : Heap} {K : Value → Heap → Prop} {Kp : List PanicEntry → Heap → Prop} (H : burinref0_Put (CallsHP Go.Proofs.Try.prog) b_1 b_2 b_3 b_3n b_3c x y bit h K Kp) : CallsHP Go.Proofs.Try.prog F_burinref0_Put #[.agg #[.int .i64 b_1, .int .i64 b_2, .slice b_3 b_3n b_3c], .int .i64 x, .int .i64 y, .int .i64 bit] h K Kp :=
  callsHP_of hints_burinref0_Put (by kernel_rfl) Go.Proofs.Try.func55 (by kernel_rfl) (by rw [eq_burinref0_Put]; exact H)

noncomputable def hints_burinref0_CopyBitmap : Hints := Hints.mk (fun i => bif Nat.beq i 2 then some ([9], .take 0 <| .take 2 <| .take 4 <| .take 5 <| .take 1 <| .take 3 <| .take 6 <| .go 7 <| .take 8 <| .bar 9 [] <| .done) else (none))
  (fun i => none)
  (fun i => none)
set_option maxRecDepth 100000 in
theorem eq_burinref0_CopyBitmap (C : CallP) (b_1 : Int) (b_2 : Int) (b_3 : Option Addr) (b_3n : Nat) (b_3c : Nat) (h : Heap) (K : Value → Heap → Prop) (Kp : List PanicEntry → Heap → Prop) :
    fnD Go.Proofs.Try.prog C hints_burinref0_CopyBitmap Go.Proofs.Try.f61 [.agg #[.int .i64 b_1, .int .i64 b_2, .slice b_3 b_3n b_3c]] h K Kp = burinref0_CopyBitmap C b_1 b_2 b_3 b_3n b_3c h K Kp := by kernel_rfl

theorem call_burinref0_CopyBitmap {b_1 : Int} {b_2 : Int} {b_3 : Option Addr} {b_3n : Nat} {b_3c : Nat} {h : Heap} {K : Value → Heap → Prop} {Kp : List PanicEntry → Heap → Prop} (H : burinref0_CopyBitmap (CallsHP Go.Proofs.Try.prog) b_1 b_2 b_3 b_3n b_3c h K Kp) : CallsHP Go.Proofs.Try.prog F_burinref0_CopyBitmap #[.agg #[.int .i64 b_1, .int .i64 b_2, .slice b_3 b_3n b_3c]] h K Kp :=
  callsHP_of hints_burinref0_CopyBitmap (by kernel_rfl) Go.Proofs.Try.func61 (by kernel_rfl) (by rw [eq_burinref0_CopyBitmap]; exact H)

noncomputable def hints_burinref0_EqWords : Hints := Hints.mk (fun i => bif Nat.beq i 6 then some ([], .take 0 <| .take 1 <| .take 2 <| .take 4 <| .take 5 <| .take 6 <| .take 3 <| .take 7 <| .take 8 <| .done) else (none))
  (fun i => bif Nat.beq i 4 then some ([(5, .int .i64)], 67106864) else (none))
  (fun i => none)
set_option maxRecDepth 100000 in
theorem eq_burinref0_EqWords (C : CallP) (a : Option Addr) (an : Nat) (ac : Nat) (b : Option Addr) (bn : Nat) (bc : Nat) (h : Heap) (K : Value → Heap → Prop) (Kp : List PanicEntry → Heap → Prop) :
    fnD Go.Proofs.Try.prog C hints_burinref0_EqWords Go.Proofs.Try.f62 [.slice a an ac, .slice b bn bc] h K Kp = burinref0_EqWords C a an ac b bn bc h K Kp := by kernel_rfl

theorem call_burinref0_EqWords {a : Option Addr} {an : Nat} {ac : Nat} {b : Option Addr} {bn : Nat} {bc : Nat} {h : Heap} {K : Value → Heap → Prop} {Kp : List PanicEntry → Heap → Prop} (H : burinref0_EqWords (CallsHP Go.Proofs.Try.prog) a an ac b bn bc h K Kp) : CallsHP Go.Proofs.Try.prog F_burinref0_EqWords #[.slice a an ac, .slice b bn bc] h K Kp :=
  callsHP_of hints_burinref0_EqWords (by kernel_rfl) Go.Proofs.Try.func62 (by kernel_rfl) (by rw [eq_burinref0_EqWords]; exact H)

noncomputable def hints_burinref0_words : Hints := Hints.mk (fun i => none)
  (fun i => none)
  (fun i => none)
set_option maxRecDepth 100000 in
theorem eq_burinref0_words (C : CallP) (w : Int) (h : Heap) (K : Value → Heap → Prop) (Kp : List PanicEntry → Heap → Prop) :
    fnD Go.Proofs.Try.prog C hints_burinref0_words Go.Proofs.Try.f63 [.int .i64 w] h K Kp = burinref0_words C w h K Kp := by kernel_rfl

theorem call_burinref0_words {w : Int} {h : Heap} {K : Value → Heap → Prop} {Kp : List PanicEntry → Heap → Prop} (H : burinref0_words (CallsHP Go.Proofs.Try.prog) w h K Kp) : CallsHP Go.Proofs.Try.prog F_burinref0_words #[.int .i64 w] h K Kp :=
  callsHP_of hints_burinref0_words (by kernel_rfl) Go.Proofs.Try.func63 (by kernel_rfl) (by rw [eq_burinref0_words]; exact H)

noncomputable def hints_burinref0_Do : Hints := Hints.mk (fun i => none)
  (fun i => none)
  (fun i => none)
set_option maxRecDepth 100000 in
theorem eq_burinref0_Do (C : CallP) (op : Int) (d : Int) (s : Int) (h : Heap) (K : Value → Heap → Prop) (Kp : List PanicEntry → Heap → Prop) :
    fnD Go.Proofs.Try.prog C hints_burinref0_Do Go.Proofs.Try.f64 [.int .i64 op, .int .i64 d, .int .i64 s] h K Kp = burinref0_Do C op d s h K Kp := by kernel_rfl

theorem call_burinref0_Do {op : Int} {d : Int} {s : Int} {h : Heap} {K : Value → Heap → Prop} {Kp : List PanicEntry → Heap → Prop} (H : burinref0_Do (CallsHP Go.Proofs.Try.prog) op d s h K Kp) : CallsHP Go.Proofs.Try.prog F_burinref0_Do #[.int .i64 op, .int .i64 d, .int .i64 s] h K Kp :=
  callsHP_of hints_burinref0_Do (by kernel_rfl) Go.Proofs.Try.func64 (by kernel_rfl) (by rw [eq_burinref0_Do]; exact H)

noncomputable def hints_burinref0_Get : Hints := Hints.mk (fun i => bif Nat.beq i 3 then some ([], .take 0 <| .take 2 <| .take 3 <| .take 7 <| .take 8 <| .take 12 <| .take 13 <| .take 14 <| .take 15 <| .take 1 <| .take 4 <| .go 5 <| .take 6 <| .take 9 <| .take 10 <| .take 11 <| .take 16 <| .take 17 <| .take 18 <| .take 19 <| .done) else (none))
  (fun i => none)
  (fun i => none)
set_option maxRecDepth 100000 in
theorem eq_burinref0_Get (C : CallP) (b_1 : Int) (b_2 : Int) (b_3 : Option Addr) (b_3n : Nat) (b_3c : Nat) (x : Int) (y : Int) (h : Heap) (K : Value → Heap → Prop) (Kp : List PanicEntry → Heap → Prop) :
    fnD Go.Proofs.Try.prog C hints_burinref0_Get Go.Proofs.Try.f65 [.agg #[.int .i64 b_1, .int .i64 b_2, .slice b_3 b_3n b_3c], .int .i64 x, .int .i64 y] h K Kp = burinref0_Get C b_1 b_2 b_3 b_3n b_3c x y h K Kp := by kernel_rfl

theorem call_burinref0_Get {b_1 : Int} {b_2 : Int} {b_3 : Option Addr} {b_3n : Nat} {b_3c : Nat} {x : Int} {y : Int} {h : Heap} {K : Value → Heap → Prop} {Kp : List PanicEntry → Heap → Prop} (H : burinref0_Get (CallsHP Go.Proofs.Try.prog) b_1 b_2 b_3 b_3n b_3c x y h K Kp) : CallsHP Go.Proofs.Try.prog F_burinref0_Get #[.agg #[.int .i64 b_1, .int .i64 b_2, .slice b_3 b_3n b_3c], .int .i64 x, .int .i64 y] h K Kp :=
  callsHP_of hints_burinref0_Get (by kernel_rfl) Go.Proofs.Try.func65 (by kernel_rfl) (by rw [eq_burinref0_Get]; exact H)

end Go.Den.Ytlmopdohgipbeaa
