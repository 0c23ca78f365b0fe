/- W4: put together by wip/tools/bundle.py: Bbits PbA PbB RnD RfB PbF RfC PbG RfD ArF ArG Mburinref4 Bburinref4 ArR ArS ArT ArU ArV ArW ArX ArH ArY PgB Mlaw15x Blaw15x PgC PgD PgF RfE RfF RfG RfH RfI RfJ RfK BkA BkB BkC. -/
import Derived.Test.YtfaclehehhgpcaaGreatW1
import Derived.Test.YtfaclehehhgpcaaGreatW2
import Derived.Test.YtfaclehehhgpcaaGreatW3
import Derived.Test.YtfaclehehhgpcaaGreatProg

/- Written by gen.py: each condition of the functions of bits is the one of its body; so it is enough for its call. -/
set_option linter.unusedVariables false
set_option linter.unusedSimpArgs false
namespace Go.Den.YtfaclehehhgpcaaGreat
open Go Go.Den

noncomputable def hints_bits_Reader_Left : Hints := Hints.mk (fun i => bif Nat.beq i 1 then some ([], .take 0 <| .take 1 <| .take 2 <| .take 6 <| .take 7 <| .take 8 <| .take 3 <| .take 4 <| .take 5 <| .take 9 <| .take 10 <| .take 11 <| .done) else (none))
  (fun i => none)
  (fun i => none) []
set_option maxRecDepth 100000 in
theorem eq_bits_Reader_Left (C : CallP) (r : Option Addr) (h : Heap) (K : Value → Heap → Prop) (Kp : List PanicEntry → Heap → Prop) :
    fnD Go.Proofs.Tryz.prog C hints_bits_Reader_Left Go.Proofs.Tryz.f71 [.pointer r] h K Kp = bits_Reader_Left C r h K Kp := by kernel_rfl

theorem call_bits_Reader_Left {r : Option Addr} {h : Heap} {K : Value → Heap → Prop} {Kp : List PanicEntry → Heap → Prop} (H : bits_Reader_Left (CallsHP Go.Proofs.Tryz.prog) r h K Kp) : CallsHP Go.Proofs.Tryz.prog F_bits_Reader_Left #[.pointer r] h K Kp :=
  callsHP_of hints_bits_Reader_Left (by kernel_rfl) Go.Proofs.Tryz.func71 (by kernel_rfl) (by rw [eq_bits_Reader_Left]; exact H)

noncomputable def hints_bits_NewReader : Hints := Hints.mk (fun i => none)
  (fun i => none)
  (fun i => none) []
set_option maxRecDepth 100000 in
theorem eq_bits_NewReader (C : CallP) (b : Option Addr) (bn : Nat) (bc : Nat) (h : Heap) (K : Value → Heap → Prop) (Kp : List PanicEntry → Heap → Prop) :
    fnD Go.Proofs.Tryz.prog C hints_bits_NewReader Go.Proofs.Tryz.f107 [.slice b bn bc] h K Kp = bits_NewReader C b bn bc h K Kp := by kernel_rfl

theorem call_bits_NewReader {b : Option Addr} {bn : Nat} {bc : Nat} {h : Heap} {K : Value → Heap → Prop} {Kp : List PanicEntry → Heap → Prop} (H : bits_NewReader (CallsHP Go.Proofs.Tryz.prog) b bn bc h K Kp) : CallsHP Go.Proofs.Tryz.prog F_bits_NewReader #[.slice b bn bc] h K Kp :=
  callsHP_of hints_bits_NewReader (by kernel_rfl) Go.Proofs.Tryz.func107 (by kernel_rfl) (by rw [eq_bits_NewReader]; exact H)

noncomputable def hints_bits_Reader_Take : Hints := Hints.mk (fun i => bif Nat.beq i 6 then some ([11], .take 0 <| .take 1 <| .take 2 <| .take 4 <| .take 5 <| .take 6 <| .take 8 <| .take 10 <| .take 3 <| .take 7 <| .take 9 <| .bar 11 [] <| .take 12 <| .take 13 <| .done) else (none))
  (fun i => none)
  (fun i => none) []
set_option maxRecDepth 100000 in
theorem eq_bits_Reader_Take (C : CallP) (r : Option Addr) (width : Int) (h : Heap) (K : Value → Heap → Prop) (Kp : List PanicEntry → Heap → Prop) :
    fnD Go.Proofs.Tryz.prog C hints_bits_Reader_Take Go.Proofs.Tryz.f108 [.pointer r, .int .i64 width] h K Kp = bits_Reader_Take C r width h K Kp := by kernel_rfl

theorem call_bits_Reader_Take {r : Option Addr} {width : Int} {h : Heap} {K : Value → Heap → Prop} {Kp : List PanicEntry → Heap → Prop} (H : bits_Reader_Take (CallsHP Go.Proofs.Tryz.prog) r width h K Kp) : CallsHP Go.Proofs.Tryz.prog F_bits_Reader_Take #[.pointer r, .int .i64 width] h K Kp :=
  callsHP_of hints_bits_Reader_Take (by kernel_rfl) Go.Proofs.Tryz.func108 (by kernel_rfl) (by rw [eq_bits_Reader_Take]; exact H)

noncomputable def hints_bits_Reader_Var : Hints := Hints.mk (fun i => bif Nat.beq i 11 then some ([7], .take 1 <| .take 2 <| .take 3 <| .take 4 <| .take 5 <| .take 0 <| .take 6 <| .bar 7 [] <| .done) else (none))
  (fun i => bif Nat.beq i 5 then some ([(5, .int .i64)], 70368744169696) else (none))
  (fun i => bif Nat.beq i 11 then some ([], 68718428160) else (none)) []
set_option maxRecDepth 100000 in
theorem eq_bits_Reader_Var (C : CallP) (D : CallDP) (r : Option Addr) (h : Heap) (K : Value → Heap → Prop) (Kp : List PanicEntry → Heap → Prop) :
    fnDD Go.Proofs.Tryz.prog C D hints_bits_Reader_Var Go.Proofs.Tryz.f109 [.pointer r] h K Kp = bits_Reader_Var C D r h K Kp := by kernel_rfl

theorem call_bits_Reader_Var {r : Option Addr} {h : Heap} {K : Value → Heap → Prop} {Kp : List PanicEntry → Heap → Prop} (H : bits_Reader_Var (CallsHP Go.Proofs.Tryz.prog) (DCalls Go.Proofs.Tryz.prog) r h K Kp) : CallsHP Go.Proofs.Tryz.prog F_bits_Reader_Var #[.pointer r] h K Kp :=
  callsHP_ofD hints_bits_Reader_Var (by kernel_rfl) Go.Proofs.Tryz.func109 (by kernel_rfl) (by rw [eq_bits_Reader_Var]; exact H)

noncomputable def hints_bits_told_uint64 : Hints := Hints.mk (fun i => none)
  (fun i => bif Nat.beq i 3 then some ([(7, .int .u64), (10, .int .i64)], 4294966656) else (none))
  (fun i => none) []
set_option maxRecDepth 100000 in
theorem eq_bits_told_uint64 (C : CallP) (b : Option Addr) (bn : Nat) (bc : Nat) (atv : Int) (width : Int) (h : Heap) (K : Value → Heap → Prop) (Kp : List PanicEntry → Heap → Prop) :
    fnD Go.Proofs.Tryz.prog C hints_bits_told_uint64 Go.Proofs.Tryz.f159 [.slice b bn bc, .int .i64 atv, .int .i64 width] h K Kp = bits_told_uint64 C b bn bc atv width h K Kp := by kernel_rfl

theorem call_bits_told_uint64 {b : Option Addr} {bn : Nat} {bc : Nat} {atv : Int} {width : Int} {h : Heap} {K : Value → Heap → Prop} {Kp : List PanicEntry → Heap → Prop} (H : bits_told_uint64 (CallsHP Go.Proofs.Tryz.prog) b bn bc atv width h K Kp) : CallsHP Go.Proofs.Tryz.prog F_bits_told_uint64 #[.slice b bn bc, .int .i64 atv, .int .i64 width] h K Kp :=
  callsHP_of hints_bits_told_uint64 (by kernel_rfl) Go.Proofs.Tryz.func159 (by kernel_rfl) (by rw [eq_bits_told_uint64]; exact H)

noncomputable def hints_bits_Reader_Var_c1 : Hints := Hints.mk (fun i => none)
  (fun i => none)
  (fun i => none) []
set_option maxRecDepth 100000 in
theorem eq_bits_Reader_Var_c1 (C : CallP) (cap0 : Addr) (cap1 : Addr) (cap2 : Addr) (cap3 : Addr) (h : Heap) (K : Value → Heap → Prop) (Kp : List PanicEntry → Heap → Prop) :
    fnD Go.Proofs.Tryz.prog C hints_bits_Reader_Var_c1 Go.Proofs.Tryz.f160 [.pointer (some cap0), .pointer (some cap1), .pointer (some cap2), .pointer (some cap3)] h K Kp = bits_Reader_Var_c1 C cap0 cap1 cap2 cap3 h K Kp := by kernel_rfl

noncomputable def hints_bits_Reader_group : Hints := Hints.mk (fun i => bif Nat.beq i 4 then some ([9], .take 0 <| .take 1 <| .take 2 <| .take 4 <| .take 5 <| .take 6 <| .take 3 <| .take 7 <| .take 8 <| .bar 9 [] <| .take 10 <| .take 11 <| .done) else (none))
  (fun i => none)
  (fun i => none) []
set_option maxRecDepth 100000 in
theorem eq_bits_Reader_group (C : CallP) (r : Option Addr) (h : Heap) (K : Value → Heap → Prop) (Kp : List PanicEntry → Heap → Prop) :
    fnD Go.Proofs.Tryz.prog C hints_bits_Reader_group Go.Proofs.Tryz.f161 [.pointer r] h K Kp = bits_Reader_group C r h K Kp := by kernel_rfl

theorem call_bits_Reader_group {r : Option Addr} {h : Heap} {K : Value → Heap → Prop} {Kp : List PanicEntry → Heap → Prop} (H : bits_Reader_group (CallsHP Go.Proofs.Tryz.prog) r h K Kp) : CallsHP Go.Proofs.Tryz.prog F_bits_Reader_group #[.pointer r] h K Kp :=
  callsHP_of hints_bits_Reader_group (by kernel_rfl) Go.Proofs.Tryz.func161 (by kernel_rfl) (by rw [eq_bits_Reader_group]; exact H)

noncomputable def hints_bits_told_uint8 : Hints := Hints.mk (fun i => none)
  (fun i => bif Nat.beq i 3 then some ([(7, .int .u8), (10, .int .i64)], 2147483008) else (none))
  (fun i => none) []
set_option maxRecDepth 100000 in
theorem eq_bits_told_uint8 (C : CallP) (b : Option Addr) (bn : Nat) (bc : Nat) (atv : Int) (width : Int) (h : Heap) (K : Value → Heap → Prop) (Kp : List PanicEntry → Heap → Prop) :
    fnD Go.Proofs.Tryz.prog C hints_bits_told_uint8 Go.Proofs.Tryz.f195 [.slice b bn bc, .int .i64 atv, .int .i64 width] h K Kp = bits_told_uint8 C b bn bc atv width h K Kp := by kernel_rfl

theorem call_bits_told_uint8 {b : Option Addr} {bn : Nat} {bc : Nat} {atv : Int} {width : Int} {h : Heap} {K : Value → Heap → Prop} {Kp : List PanicEntry → Heap → Prop} (H : bits_told_uint8 (CallsHP Go.Proofs.Tryz.prog) b bn bc atv width h K Kp) : CallsHP Go.Proofs.Tryz.prog F_bits_told_uint8 #[.slice b bn bc, .int .i64 atv, .int .i64 width] h K Kp :=
  callsHP_of hints_bits_told_uint8 (by kernel_rfl) Go.Proofs.Tryz.func195 (by kernel_rfl) (by rw [eq_bits_told_uint8]; exact H)

end Go.Den.YtfaclehehhgpcaaGreat

/- PbA: the writer of bits, where whole bytes are written. -/
set_option linter.unusedVariables false
set_option linter.unusedSimpArgs false
namespace Go.Bm
open Go Go.Den Go.Den.YtfaclehehhgpcaaGreat
-- (nothing of Go.Ar opened)

/-! ### groups -/
def grpF : Nat → Nat → List Nat
  | 0, n => [n % 128]
  | f + 1, n => if n < 128 then [n] else (n % 128 + 128) :: grpF f (n / 128)
def grp (n : Nat) : List Nat := grpF 10 n
theorem grpF_len : ∀ (f n : Nat), 1 ≤ (grpF f n).length ∧ (grpF f n).length ≤ f + 1
  | 0, n => ⟨Nat.le_refl _, Nat.le_refl _⟩
  | f + 1, n => by
    show 1 ≤ (if n < 128 then [n] else (n % 128 + 128) :: grpF f (n / 128)).length ∧ (if n < 128 then [n] else (n % 128 + 128) :: grpF f (n / 128)).length ≤ _
    have := grpF_len f (n / 128)
    split
    · exact ⟨Nat.le_refl _, by show 1 ≤ _; omega⟩
    · rw [List.length_cons]; omega
theorem grp_len (n : Nat) : 1 ≤ (grp n).length ∧ (grp n).length ≤ 11 := grpF_len 10 n

/-! ### one byte, bit by bit -/
section
variable {h0 h : Heap} {F : List Nat} {A B D : List Ent}
theorem Slot.stV {t : TypeId} {n c i : Nat} {q : Option Addr} {xs : List Value} {v : Value} (hd : Slot t 1 D q n c xs) (H : Hp h0 F h (A ++ (D ++ B))) (hi : i < n) (hv : v.oneCell' = true) {K : Heap → Prop}
    (hk : ∀ D' h', Slot t 1 D' q n c (xs.set i v) → Hp h0 F h' (A ++ (D' ++ B)) → K h') : ∃ b, q = some ⟨b, 0, none⟩ ∧ Go.Den.stV h ⟨b, i, none⟩ v K := by
  obtain ⟨hl, ⟨rfl, rfl, rfl, rfl⟩ | ⟨b, rest, rfl, rfl, hc⟩⟩ := hd
  · omega
  · refine ⟨b, rfl, ?_⟩
    rw [Nat.mul_one] at hl
    have hlen : i < (xs ++ rest).length := by rw [List.length_append]; omega
    have he : (xs ++ rest).set i v = xs.set i v ++ rest := List.set_append_left _ _ (by omega)
    refine stV_hp (i := i) H A.length (by rw [List.getElem?_append_right (Nat.le_refl _), Nat.sub_self]; rfl) hlen hv fun h' _ H' => ?_
    refine hk [⟨b, true, t, xs.set i v ++ rest⟩] h' ⟨by rw [List.length_set]; omega, .inr ⟨b, rest, rfl, rfl, by rw [List.length_append, List.length_set, ← List.length_append]; exact hc⟩⟩ (H'.as ?_)
    rw [List.set_append_right _ _ (Nat.le_refl _), Nat.sub_self, ← he]
    rfl
end
section
variable {h0 h : Heap} {F : List Nat} {A B D : List Ent} {K : Value → Heap → Prop} {Kp : List PanicEntry → Heap → Prop} {q : Option Addr} {c : Nat} {bs : List Nat} {x : Nat}
end
end Go.Bm

/- PbB: the writer of bits: bytes, numbers in groups. -/
set_option linter.unusedVariables false
set_option linter.unusedSimpArgs false
namespace Go.Bm
open Go Go.Den Go.Den.YtfaclehehhgpcaaGreat
open Go.Ar (u8s)

section
variable {h0 h : Heap} {F : List Nat} {A B D : List Ent} {K : Value → Heap → Prop} {Kp : List PanicEntry → Heap → Prop} {q : Option Addr} {c : Nat} {bs : List Nat} {x : Nat}
end

/-- A writer's rows. -/
def wrE (w : Nat) (q : Option Addr) (c : Nat) (bs : List Nat) : Ent := ⟨w, true, T_bits_Writer, [.slice q bs.length c, .int .i64 ((8 * bs.length : Nat) : Int), .int .i64 536870912]⟩
def WrL (w : Nat) (bs : List Nat) (L : List Ent) : Prop := ∃ q c D, Slot T_uint8 1 D q bs.length c (u8s bs) ∧ L = wrE w q c bs :: D
theorem WrL.w {w : Nat} {bs : List Nat} {L : List Ent} (h : WrL w bs L) : L.all Ent.w = true := by
  obtain ⟨q, c, D, hs, rfl⟩ := h
  rw [List.all_cons, hs.w]
  rfl
section
variable {h0 h : Heap} {F : List Nat} {L : List Ent} {K : Value → Heap → Prop} {Kp : List PanicEntry → Heap → Prop} {w : Nat} {bs : List Nat} {x : Nat}
theorem pow7 (i : Nat) : (2 : Nat) ^ (7 * i) = 128 ^ i := by rw [Nat.pow_mul]
end
end Go.Bm

/- RnD: a deferred function that does not recover. No program in sight. -/
set_option linter.unusedVariables false
set_option linter.unusedSimpArgs false
namespace Go.Den
section
variable {P : Program}
theorem dcalls_of_plain {f : FuncId} {fn : Func} {args : List Value} {u : FrameMode} {h : Heap} {Kd : FrameMode → Heap → Prop} {Kdp : FrameMode → List PanicEntry → Heap → Prop} (Hn : Hints) (hm : P.follows .mixedOrders = true)
    (hf : P.funcs[f]? = some fn) (hn : (fn.name == "runtime.NumGoroutine") = false) (H : fnD P (CallsHP P) Hn fn args h (fun _ h' => Kd u h') fun c h' => Kdp u c h') : DCalls P f args.toArray u h Kd Kdp := by
  unfold fnD at H
  split at H
  · rename_i c hb
    refine ⟨⟨fn, hf, hn, by rw [hb]; rfl⟩, fun w hw => ?_⟩
    subst hw
    have hact : (⟨args.toArray ++ Array.replicate (fn.ntmps - args.toArray.size) undef, []⟩ : Act) = ⟨(args ++ List.replicate (fn.ntmps - args.length) undef).toArray, []⟩ := by
      congr 1
      apply Array.toList_inj.1
      simp
    refine (callsD_of_wp (R := fun e w' => keeps w w' ∧ match e with
      | .returned _ => Kd u w'.heap
      | .panicked c => Kdp u c w'.heap
      | .outgrown => False) hf hb ?_).mono fun e u' w' he => ?_
    · rw [hact]
      refine wp_mono (den_sound (callsHP_ok P) hm w c _ _ w (keeps.refl w) (fnQ_panic _ _ _ _) H) fun e a w' he => ?_
      cases e with
      | normal =>
        obtain ⟨h1, _, h3⟩ := he
        simp only [fnQ] at h3
        split at h3
        · rename_i hd
          obtain ⟨v, hr, hk⟩ := results_run (K := fun _ h' => Kd u h') h3
          exact ⟨hd, v, hr, h1, hk⟩
        · exact h3.elim
      | ret =>
        obtain ⟨h1, _, h3⟩ := he
        simp only [fnQ] at h3
        split at h3
        · rename_i hd
          obtain ⟨v, hr, hk⟩ := results_run (K := fun _ h' => Kd u h') h3
          exact ⟨hd, v, hr, h1, hk⟩
        · exact h3.elim
      | panic c =>
        obtain ⟨h1, h3⟩ := he
        simp only [fnQ] at h3
        split at h3
        · rename_i hd
          exact ⟨hd, h1, h3⟩
        · exact h3.elim
      | outgrown => exact he.elim
      | exit id => exact he.2.2.elim
      | goto l => exact he.2.2.elim
    · obtain ⟨rfl, h1, h2⟩ := he
      refine ⟨h1, ?_⟩
      cases e with
      | returned v => exact h2
      | panicked c => exact h2
      | outgrown => exact h2
  · exact H.elim
end
end Go.Den

/- RfB: the contexts of refinement: what the program's closures tell of a pixel's neighbours; the rows of a callee that stand last. -/
set_option linter.unusedVariables false
set_option linter.unusedSimpArgs false
namespace Go.Den
open Go

section
variable {h0 h h' : Heap} {F : List Nat} {A S S' : List Ent}
/-- The last rows are handed to a callee. -/
theorem Hp.giveS (H : Hp h0 F h (A ++ S)) : Hp h (S.map Ent.b) h S :=
  Hp.mk' (Fr.refl _ _) (fun e he => H.mem e (List.mem_append_right _ he)) (fun e he _ => .inl (List.mem_map.2 ⟨e, he, rfl⟩)) H.suf.pw
/-- They come back. -/
theorem Hp.putS (H : Hp h0 F h (A ++ S)) (hw : S.all Ent.w = true) (H' : Hp h (S.map Ent.b) h' S') (hw' : S'.all Ent.w = true) : Hp h0 F h' (A ++ S') := by
  have hSw : ∀ e ∈ S, e.w = true := List.all_eq_true.1 hw
  have hSw' : ∀ e ∈ S', e.w = true := List.all_eq_true.1 hw'
  have hown : ∀ b ∈ S.map Ent.b, b ∈ F ∨ h0.size ≤ b := fun b hb => by
    obtain ⟨e, he, rfl⟩ := List.mem_map.1 hb
    exact H.memw e (List.mem_append_right _ he) (hSw e he)
  have hap : ∀ e ∈ A, e.b ∉ S.map Ent.b := fun e he hb => by
    obtain ⟨e', he', hbb⟩ := List.mem_map.1 hb
    exact (List.pairwise_append.1 H.pw).2.2 e he e' he' hbb.symm
  have hlt : ∀ e ∈ A, e.b < h.size := fun e he => (H.mem e (List.mem_append_left _ he)).lt
  refine Hp.mk' ⟨Nat.le_trans H.fr.1 H'.fr.1, fun b hb hF => ?_⟩ (fun e he => ?_) (fun e he hwt => ?_) ?_
  · rw [H'.fr.2 b (Nat.lt_of_lt_of_le hb H.fr.1) (fun hm => by
      rcases hown b hm with h1 | h1
      · exact hF h1
      · omega)]
    exact H.fr.2 b hb hF
  · rcases List.mem_append.1 he with he | he
    · have h1 := H.mem e (List.mem_append_left _ he)
      unfold Blk at h1 ⊢
      rw [H'.fr.2 e.b (hlt e he) (hap e he)]
      exact h1
    · exact H'.mem e he
  · rcases List.mem_append.1 he with he | he
    · exact H.memw e (List.mem_append_left _ he) hwt
    · rcases H'.memw e he hwt with h1 | h1
      · exact hown _ h1
      · exact .inr (Nat.le_trans H.fr.1 h1)
  · refine List.pairwise_append.2 ⟨H.pre.pw, H'.pw, fun e he e' he' hb => ?_⟩
    rcases H'.memw e' he' (hSw' e' he') with h1 | h1
    · exact hap e he (hb ▸ h1)
    · have := hlt e he
      omega
end
end Go.Den

namespace Go.Bm
open Go Go.Den Go.Den.YtfaclehehhgpcaaGreat

/-- Bits, the first one the highest. -/
def bitsN : Nat → List Bool → Nat
  | n, [] => n
  | n, b :: l => bitsN (2 * n + b.toNat) l
def ownB (B : Int → Int → Bool) (x y : Int) : List Bool := [B (x - 1) (y + -1), B x (y + -1), B (x + 1) (y + -1), B (x - 1) (y + 0)]
def rowB3 (R : Int → Int → Bool) (dx x y : Int) : List Bool := [R (x - 1 - dx) y, R (x - dx) y, R (x + 1 - dx) y]
def rowsN (R : Int → Int → Bool) (dx dy x y : Int) : Nat → List Bool
  | 0 => []
  | d + 1 => rowsN R dx dy x y d ++ rowB3 R dx x (y + ((d : Int) - 1) - dy)
/-- The context of a pixel. -/
def ctxN (B R : Int → Int → Bool) (dx dy x y : Int) : Nat := bitsN 0 (ownB B x y ++ rowsN R dx dy x y 3)
theorem toNat_le (b : Bool) : b.toNat ≤ 1 := by cases b <;> decide
theorem bitsN_lt : ∀ (l : List Bool) (n m : Nat), n < 2 ^ m → bitsN n l < 2 ^ (m + l.length)
  | [], n, m, h => h
  | b :: l, n, m, h => by
    have := bitsN_lt l (2 * n + b.toNat) (m + 1) (by rw [Nat.pow_succ]; have := toNat_le b; omega)
    rw [show m + (b :: l).length = m + 1 + l.length by simp; omega]
    exact this
theorem bitsN_app : ∀ (l l' : List Bool) (n : Nat), bitsN n (l ++ l') = bitsN (bitsN n l) l'
  | [], _, _ => rfl
  | b :: l, l', n => bitsN_app l l' _

theorem orI (a b : Nat) (ha : a < 9223372036854775808) (hb : b < 9223372036854775808) : bitI .or .i64 a b = ((a ||| b : Nat) : Int) := (bits_nat .i64 63 (by decide) wr63 a b ha hb).2
theorem or_add {i a b : Nat} (hb : b < 2 ^ i) : (a * 2 ^ i) ||| b = a * 2 ^ i + b := by
  rw [Nat.mul_comm]
  exact (Nat.two_pow_add_eq_or_of_lt hb a).symm
theorem shlI_of {a i : Nat} (hi : i ≤ 64) (ha : a * 2 ^ i < 9223372036854775808) : shlI .i64 (a : Int) (i : Int) = ((a * 2 ^ i : Nat) : Int) := shl_of hi (i64_in _ (by omega) (by omega))
theorem orA {i A B : Nat} (hi : i ≤ 62) (hA : A % 2 ^ i = 0) (hB : B < 2 ^ i) (hA2 : A < 9223372036854775808) : bitI .or .i64 (A : Int) (B : Int) = ((A + B : Nat) : Int) := by
  have : 2 ^ i ≤ 2 ^ 62 := Nat.pow_le_pow_right (by decide) hi
  rw [orI _ _ hA2 (by omega)]
  have e : A = A / 2 ^ i * 2 ^ i := by have := Nat.div_add_mod A (2 ^ i); rw [hA, Nat.add_zero, Nat.mul_comm] at this; exact this.symm
  rw [e, or_add hB]
theorem shl1 {a : Nat} (h : a < 100000000000) : shlI .i64 (a : Int) 1 = ((a * 2 : Nat) : Int) := shlI_of (i := 1) (by decide) (by omega)

section
variable {h0 h : Heap} {FF : List Nat} {L : List Ent} {p q c W X r1 ry : Nat} {w : Bool} {t1 t2 : TypeId} {ws : List Nat} {rest : List Value} {K : Value → Heap → Prop} {Kp : List PanicEntry → Heap → Prop}

end

/-! ### the deferred closure of 'run' -/
end Go.Bm

/- PbF: the reader of bits, where whole bytes are read. -/
set_option linter.unusedVariables false
set_option linter.unusedSimpArgs false
namespace Go.Bm
open Go Go.Den Go.Den.YtfaclehehhgpcaaGreat
open Go.Ar (u8s)

/-! ### numbers in groups, read -/
/-- The error, the number, the place behind it. -/
def varF (b : List Nat) (i : Nat) : Nat → Nat → Nat → Int × Nat × Nat
  | 0, _, _ => (16, 0, i)
  | f + 1, j, n => match b[i + j]? with
    | none => (14, 0, i)
    | some c => if j = 9 ∧ 1 < c ∨ 0 < j ∧ c = 0 then (16, 0, i) else if c < 128 then (0, n + c % 128 * 128 ^ j, i + j + 1) else varF b i f (j + 1) (n + c % 128 * 128 ^ j)
def varP (b : List Nat) (i : Nat) : Int × Nat × Nat := varF b i 10 0 0
theorem varF_le {b : List Nat} {i : Nat} (hi : i ≤ b.length) : ∀ (f j n : Nat), (varF b i f j n).2.2 ≤ b.length ∧ i ≤ (varF b i f j n).2.2
  | 0, j, n => ⟨hi, Nat.le_refl _⟩
  | f + 1, j, n => by
    unfold varF
    cases hc : b[i + j]? with
    | none => exact ⟨hi, Nat.le_refl _⟩
    | some c =>
      have hl := (List.getElem?_eq_some_iff.1 hc).1
      dsimp only
      split
      · exact ⟨hi, Nat.le_refl _⟩
      · split
        · exact ⟨hl, by show i ≤ i + j + 1; omega⟩
        · exact varF_le hi f _ _
theorem varF_lt {b : List Nat} {i : Nat} : ∀ (f j n : Nat), f + j = 10 → n < 128 ^ j → (varF b i f j n).2.1 < 18446744073709551616
  | 0, j, n, _, _ => by show 0 < _; decide
  | f + 1, j, n, hfj, hn => by
    unfold varF
    cases hc : b[i + j]? with
    | none => show 0 < _; decide
    | some c =>
      dsimp only
      split
      · show 0 < _; decide
      · rename_i h1
        have hm : c % 128 * 128 ^ j ≤ 127 * 128 ^ j := Nat.mul_le_mul_right _ (by omega)
        have hp : 128 ^ (j + 1) = 128 * 128 ^ j := by rw [Nat.pow_succ, Nat.mul_comm]
        have key : n + c % 128 * 128 ^ j < 128 ^ (j + 1) := by omega
        split
        · show n + c % 128 * 128 ^ j < _
          by_cases hj : j = 9
          · have hc1 : c ≤ 1 := by omega
            have : c % 128 ≤ 1 := by omega
            have h2 : c % 128 * 128 ^ j ≤ 1 * 128 ^ j := Nat.mul_le_mul_right _ this
            rw [hj] at hn h2 ⊢
            have e9 : (128 : Nat) ^ 9 = 9223372036854775808 := by decide
            omega
          · have : 128 ^ (j + 1) ≤ 128 ^ 9 := Nat.pow_le_pow_right (by decide) (by omega)
            have e9 : (128 : Nat) ^ 9 = 9223372036854775808 := by decide
            omega
        · exact varF_lt f (j + 1) _ (by omega) key
theorem varP_lt (b : List Nat) (i : Nat) : (varP b i).2.1 < 18446744073709551616 := varF_lt 10 0 0 rfl (by decide)
theorem varP_le {b : List Nat} {i : Nat} (hi : i ≤ b.length) : (varP b i).2.2 ≤ b.length := (varF_le hi 10 0 0).1

/-! ### a byte, bit by bit -/
def dnOk : Bool := (List.range 256).all fun x => (List.range 8).all fun j => Nat.beq (x / 2 ^ (8 - j) * 2 ||| x / 2 ^ (7 - j) % 2) (x / 2 ^ (8 - (j + 1))) && Nat.beq (x / 2 ^ (8 - j) * 2 + x / 2 ^ (7 - j) % 2) (x / 2 ^ (8 - (j + 1)))
set_option maxRecDepth 100000 in
theorem dnOk_t : dnOk = true := by kernel_rfl
theorem dn_step {x j : Nat} (hx : x < 256) (hj : j < 8) : (x / 2 ^ (8 - j) * 2 ||| x / 2 ^ (7 - j) % 2) = x / 2 ^ (8 - (j + 1)) ∧ x / 2 ^ (8 - j) * 2 + x / 2 ^ (7 - j) % 2 = x / 2 ^ (8 - (j + 1)) ∧ x / 2 ^ (8 - j) * 2 < 256 := by
  have h := List.all_eq_true.1 (List.all_eq_true.1 dnOk_t x (List.mem_range.2 hx)) j (List.mem_range.2 hj)
  simp only [Bool.and_eq_true] at h
  have e := Nat.eq_of_beq_eq_true h.2
  have h3 : x / 2 ^ (8 - (j + 1)) < 256 := Nat.lt_of_le_of_lt (Nat.div_le_self _ _) hx
  exact ⟨Nat.eq_of_beq_eq_true h.1, e, by omega⟩
section
variable {h0 h : Heap} {F : List Nat} {K : Value → Heap → Prop} {Kp : List PanicEntry → Heap → Prop} {q : Option Addr} {c i x : Nat} {b : List Nat}
set_option maxRecDepth 100000 in
theorem told8_ok (hr : rdO h q (b.length * 1) (u8s b)) (hb : b[i]? = some x) (hx : x < 256) (hl : b.length ≤ 100000000000000) (hk : K (.int .u8 (x : Nat)) h) :
    CP F_bits_told_uint8 #[.slice q b.length c, .int .i64 ((8 * i : Nat) : Int), .int .i64 8] h K Kp := by
  refine call_bits_told_uint8 ?_
  unfold bits_told_uint8
  have hil := (List.getElem?_eq_some_iff.1 hb).1
  obtain ⟨a, rfl, hc⟩ := rdO_cell hr (i := i) (v := .int .u8 (x : Nat)) (by unfold u8s; rw [List.getElem?_map, hb]; rfl)
  refine ⟨fun f vs h' => ∃ j : Nat, j + f = 8 ∧ vs = [.int .u8 ((x / 2 ^ (8 - j) : Nat) : Int), .int .i64 (j : Nat)] ∧ h' = h, ⟨8, 0, rfl, by rw [Nat.sub_zero, Nat.div_eq_of_lt (show x < 2 ^ 8 by omega)]; rfl, rfl⟩, ?_⟩
  rintro f h' u xa xb ⟨j, hjf, hxx, rfl⟩
  injection hxx with hx1 hxx
  injection hxx with hx2 hxx
  injection hx1 with _ hx1
  injection hx2 with _ hx2
  subst xa xb
  refine bcase_dec (fun h1 => ?_) fun h1 => ?_
  · have hj : j < 8 := by omega
    obtain ⟨d1, d2, d3⟩ := dn_step hx hj
    have hb2 : x / 2 ^ (7 - j) % 2 < 256 := by omega
    have hxd : x / 2 ^ (7 - j) < 256 := Nat.lt_of_le_of_lt (Nat.div_le_self _ _) hx
    refine bindI_of (((x / 2 ^ (8 - j) * 2 : Nat) : Int)) (by exact shl_of (i := 1) (by decide) (by rw [Nat.pow_one]; exact wr8 _ (by omega) (by omega))) ?_
    refine bindI_of (((8 * i + j : Nat) : Int)) (by exact i64_at _ _ (by omega) (by omega) (by omega)) ?_
    refine bindI_of (((i : Nat) : Int)) (by exact i64_at _ _ (by rw [show ((8 * i + j : Nat) : Int).tdiv 8 = (((8 * i + j) / 8 : Nat) : Int) from rfl]; omega) (by omega) (by omega)) ?_
    refine needs_of (by omega) (ptr_of (a := a) ?_)
    rw [Int.toNat_natCast, Nat.mul_one]
    refine ldI_of hc ?_
    refine bindI_of (((8 * i + j : Nat) : Int)) (by exact i64_at _ _ (by omega) (by omega) (by omega)) ?_
    refine bindI_of (((j : Nat) : Int)) (by exact (tmod_nat (8 * i + j) 8).trans (by omega)) ?_
    refine bindI_of (((7 - j : Nat) : Int)) (by exact i64_at _ _ (by omega) (by omega) (by omega)) ?_
    refine needs_of (by omega) ?_
    refine bindI_of (((x / 2 ^ (7 - j) : Nat) : Int)) (by exact shr_of (by show 7 - j ≤ 8; omega)) ?_
    refine bindI_of (((x / 2 ^ (7 - j) % 2 : Nat) : Int)) (by exact (and8 _ 1 hxd (by decide)).trans (by rw [Nat.and_one_is_mod])) ?_
    refine bindI_of (((x / 2 ^ (8 - (j + 1)) : Nat) : Int)) (by exact (or8 _ _ d3 hb2).trans (by rw [d1])) ?_
    refine bindI_of (((j + 1 : Nat) : Int)) (by exact i64_at _ _ (by omega) (by omega) (by omega)) ?_
    exact ⟨f - 1, by omega, j + 1, by omega, rfl, rfl⟩
  · have hj : j = 8 := by omega
    subst hj
    rw [Nat.sub_self, Nat.pow_zero, Nat.div_one]
    exact hk
set_option maxRecDepth 100000 in
theorem told64_ok (hr : rdO h q (b.length * 1) (u8s b)) (hb : b[i]? = some x) (hx : x < 256) (hl : b.length ≤ 100000000000000) (hk : K (.int .u64 (x : Nat)) h) :
    CP F_bits_told_uint64 #[.slice q b.length c, .int .i64 ((8 * i : Nat) : Int), .int .i64 8] h K Kp := by
  refine call_bits_told_uint64 ?_
  unfold bits_told_uint64
  have hil := (List.getElem?_eq_some_iff.1 hb).1
  obtain ⟨a, rfl, hc⟩ := rdO_cell hr (i := i) (v := .int .u8 (x : Nat)) (by unfold u8s; rw [List.getElem?_map, hb]; rfl)
  refine ⟨fun f vs h' => ∃ j : Nat, j + f = 8 ∧ vs = [.int .u64 ((x / 2 ^ (8 - j) : Nat) : Int), .int .i64 (j : Nat)] ∧ h' = h, ⟨8, 0, rfl, by rw [Nat.sub_zero, Nat.div_eq_of_lt (show x < 2 ^ 8 by omega)]; rfl, rfl⟩, ?_⟩
  rintro f h' u xa xb ⟨j, hjf, hxx, rfl⟩
  injection hxx with hx1 hxx
  injection hxx with hx2 hxx
  injection hx1 with _ hx1
  injection hx2 with _ hx2
  subst xa xb
  refine bcase_dec (fun h1 => ?_) fun h1 => ?_
  · have hj : j < 8 := by omega
    obtain ⟨d1, d2, d3⟩ := dn_step hx hj
    have hb2 : x / 2 ^ (7 - j) % 2 < 256 := by omega
    have hxd : x / 2 ^ (7 - j) < 256 := Nat.lt_of_le_of_lt (Nat.div_le_self _ _) hx
    refine bindI_of (((x / 2 ^ (8 - j) * 2 : Nat) : Int)) (by exact shl_of (i := 1) (by decide) (by rw [Nat.pow_one]; exact u64_in _ (by omega) (by omega))) ?_
    refine bindI_of (((8 * i + j : Nat) : Int)) (by exact i64_at _ _ (by omega) (by omega) (by omega)) ?_
    refine bindI_of (((i : Nat) : Int)) (by exact i64_at _ _ (by rw [show ((8 * i + j : Nat) : Int).tdiv 8 = (((8 * i + j) / 8 : Nat) : Int) from rfl]; omega) (by omega) (by omega)) ?_
    refine needs_of (by omega) (ptr_of (a := a) ?_)
    rw [Int.toNat_natCast, Nat.mul_one]
    refine ldI_of hc ?_
    refine bindI_of (((8 * i + j : Nat) : Int)) (by exact i64_at _ _ (by omega) (by omega) (by omega)) ?_
    refine bindI_of (((j : Nat) : Int)) (by exact (tmod_nat (8 * i + j) 8).trans (by omega)) ?_
    refine bindI_of (((7 - j : Nat) : Int)) (by exact i64_at _ _ (by omega) (by omega) (by omega)) ?_
    refine needs_of (by omega) ?_
    refine bindI_of (((x / 2 ^ (7 - j) : Nat) : Int)) (by exact shr_of (by show 7 - j ≤ 8; omega)) ?_
    refine bindI_of (((x / 2 ^ (7 - j) % 2 : Nat) : Int)) (by exact (and8 _ 1 hxd (by decide)).trans (by rw [Nat.and_one_is_mod])) ?_
    refine bindI_of (((x / 2 ^ (7 - j) % 2 : Nat) : Int)) (by exact u64_in _ (by omega) (by omega)) ?_
    refine bindI_of (((x / 2 ^ (8 - (j + 1)) : Nat) : Int)) (by exact (or64 _ _ (by omega) (by omega)).trans (by rw [d1])) ?_
    refine bindI_of (((j + 1 : Nat) : Int)) (by exact i64_at _ _ (by omega) (by omega) (by omega)) ?_
    exact ⟨f - 1, by omega, j + 1, by omega, rfl, rfl⟩
  · have hj : j = 8 := by omega
    subst hj
    rw [Nat.sub_self, Nat.pow_zero, Nat.div_one]
    exact hk

/-- A reader's rows. -/
def rdE (r : Nat) (q : Option Addr) (n c i : Nat) : Ent := ⟨r, true, T_bits_Reader, [.slice q n c, .int .i64 ((8 * i : Nat) : Int)]⟩
structure RdB (b : List Nat) : Prop where
  b8 : ∀ x ∈ b, x < 256
  bl : b.length ≤ 100000000000000
variable {r : Nat} {D L : List Ent}
theorem rleft_ok (H : Hp h0 F h (rdE r q b.length c i :: D)) (hb : RdB b) (hi : i ≤ b.length) (hk : K (.int .i64 ((8 * (b.length - i) : Nat) : Int)) h) : CP F_bits_Reader_Left #[.pointer (some ⟨r, 0, none⟩)] h K Kp := by
  refine call_bits_Reader_Left ?_
  unfold bits_Reader_Left
  have hbl := hb.bl
  refine ptr_of (a := ⟨r, 0, none⟩) (ptr_of (a := ⟨r, 0, none⟩) ?_)
  refine ldS_of (hpA H 0 rfl rfl) ?_
  refine bindI_of (((8 * b.length : Nat) : Int)) (by exact i64_at _ _ (by omega) (by omega) (by omega)) ?_
  refine ldI_of (hpA H 0 rfl rfl) ?_
  refine bindI_of (((8 * (b.length - i) : Nat) : Int)) (by exact i64_at _ _ (by omega) (by omega) (by omega)) ?_
  exact hk
theorem rtake8_ok (H : Hp h0 F h (rdE r q b.length c i :: D)) (hs : Slot T_uint8 1 D q b.length c (u8s b)) (hb : RdB b) (hi : i ≤ b.length)
    (hk0 : b[i]? = none → K (.tuple #[.int .u64 0, .int .i64 14]) h) (hk1 : ∀ x h', b[i]? = some x → Hp h0 F h' (rdE r q b.length c (i + 1) :: D) → K (.tuple #[.int .u64 (x : Nat), .int .i64 0]) h') :
    CP F_bits_Reader_Take #[.pointer (some ⟨r, 0, none⟩), .int .i64 8] h K Kp := by
  refine call_bits_Reader_Take ?_
  unfold bits_Reader_Take
  have hbl := hb.bl
  refine bcase_dec (fun h1 => absurd h1 (by decide)) fun _ => ?_
  refine bcase_dec (fun h1 => absurd h1 (by decide)) fun _ => ?_
  refine rleft_ok H hb hi ?_
  refine ⟨_, rfl, ?_⟩
  refine bcase_dec (fun h1 => hk0 (List.getElem?_eq_none (by omega))) fun h1 => ?_
  obtain ⟨x, hx⟩ : ∃ x, b[i]? = some x := ⟨_, List.getElem?_eq_getElem (by omega)⟩
  refine ptr_of (a := ⟨r, 0, none⟩) ?_
  refine ldI_of (hpA H 0 rfl rfl) ?_
  refine bindI_of (((8 * (i + 1) : Nat) : Int)) (by exact i64_at _ _ (by omega) (by omega) (by omega)) ?_
  refine ptr_of (a := ⟨r, 0, none⟩) ?_
  refine stA H 0 rfl rfl rfl fun h H => ?_
  have H : Hp h0 F h (rdE r q b.length c (i + 1) :: D) := H
  refine ptr_of (a := ⟨r, 0, none⟩) (ptr_of (a := ⟨r, 0, none⟩) ?_)
  refine ldS_of (hpA H 0 rfl rfl) (ldI_of (hpA H 0 rfl rfl) ?_)
  refine bindI_of (((8 * i : Nat) : Int)) (by exact i64_at _ _ (by omega) (by omega) (by omega)) ?_
  refine told64_ok (Slot.rdO' hs H fun e he => List.mem_cons_of_mem _ he) hx (hb.b8 x (List.mem_of_getElem? hx)) hb.bl ?_
  refine ⟨_, rfl, ?_⟩
  exact hk1 x h hx H
theorem rgroup_ok (H : Hp h0 F h (rdE r q b.length c i :: D)) (hs : Slot T_uint8 1 D q b.length c (u8s b)) (hb : RdB b) (hi : i ≤ b.length)
    (hk0 : b[i]? = none → K (.tuple #[.int .u8 0, .bool false]) h) (hk1 : ∀ x h', b[i]? = some x → Hp h0 F h' (rdE r q b.length c (i + 1) :: D) → K (.tuple #[.int .u8 (x : Nat), .bool true]) h') :
    CP F_bits_Reader_group #[.pointer (some ⟨r, 0, none⟩)] h K Kp := by
  refine call_bits_Reader_group ?_
  unfold bits_Reader_group
  have hbl := hb.bl
  refine rleft_ok H hb hi ?_
  refine ⟨_, rfl, ?_⟩
  refine bcase_dec (fun h1 => hk0 (List.getElem?_eq_none (by omega))) fun h1 => ?_
  obtain ⟨x, hx⟩ : ∃ x, b[i]? = some x := ⟨_, List.getElem?_eq_getElem (by omega)⟩
  refine ptr_of (a := ⟨r, 0, none⟩) ?_
  refine ldI_of (hpA H 0 rfl rfl) ?_
  refine bindI_of (((8 * (i + 1) : Nat) : Int)) (by exact i64_at _ _ (by omega) (by omega) (by omega)) ?_
  refine ptr_of (a := ⟨r, 0, none⟩) ?_
  refine stA H 0 rfl rfl rfl fun h H => ?_
  have H : Hp h0 F h (rdE r q b.length c (i + 1) :: D) := H
  refine ptr_of (a := ⟨r, 0, none⟩) (ptr_of (a := ⟨r, 0, none⟩) ?_)
  refine ldS_of (hpA H 0 rfl rfl) (ldI_of (hpA H 0 rfl rfl) ?_)
  refine bindI_of (((8 * i : Nat) : Int)) (by exact i64_at _ _ (by omega) (by omega) (by omega)) ?_
  refine told8_ok (Slot.rdO' hs H fun e he => List.mem_cons_of_mem _ he) hx (hb.b8 x (List.mem_of_getElem? hx)) hb.bl ?_
  refine ⟨_, rfl, ?_⟩
  exact hk1 x h hx H
end
/-! ### Var -/
theorem deferVar {cap0 cap1 cap2 cap3 : Addr} {u : FrameMode} {h : Heap} {Kd : FrameMode → Heap → Prop} {Kdp : FrameMode → List PanicEntry → Heap → Prop} (H : bits_Reader_Var_c1 (CallsHP Go.Proofs.Tryz.prog) cap0 cap1 cap2 cap3 h (fun _ h' => Kd u h') fun c h' => Kdp u c h') :
    DCalls Go.Proofs.Tryz.prog F_bits_Reader_Var_c1 #[.pointer (some cap0), .pointer (some cap1), .pointer (some cap2), .pointer (some cap3)] u h Kd Kdp :=
  dcalls_of_plain hints_bits_Reader_Var_c1 (by kernel_rfl) Go.Proofs.Tryz.func160 (by kernel_rfl) (by rw [eq_bits_Reader_Var_c1]; exact H)
section
variable {h0 h : Heap} {F : List Nat} {K : Value → Heap → Prop} {Kp : List PanicEntry → Heap → Prop} {q : Option Addr} {c i x : Nat} {b : List Nat} {r : Nat} {D : List Ent}
set_option maxRecDepth 100000 in
set_option maxHeartbeats 4000000 in
theorem rvar_ok (H : Hp h0 F h (rdE r q b.length c i :: D)) (hs : Slot T_uint8 1 D q b.length c (u8s b)) (hb : RdB b) (hi : i ≤ b.length)
    (hk : ∀ h', Hp h0 F h' (rdE r q b.length c (varP b i).2.2 :: D) → K (.tuple #[.int .u64 ((varP b i).2.1 : Nat), .int .i64 (varP b i).1]) h') :
    CP F_bits_Reader_Var #[.pointer (some ⟨r, 0, none⟩)] h K Kp := by
  refine call_bits_Reader_Var ?_
  unfold bits_Reader_Var
  have hbl := hb.bl
  refine newC_hp H fun r1 h H => ?_
  refine newC_hp H fun r3 h H => ?_
  refine newC_hp H fun r5 h H => ?_
  have H : Hp h0 F h ((rdE r q b.length c i :: D) ++ [⟨r1, true, T_p_bits_Reader, [.pointer (some ⟨r, 0, none⟩)]⟩, ⟨r3, true, T_uint64, [.int .u64 0]⟩, ⟨r5, true, T_api_Errno, [.int .i64 0]⟩]) := H.as (by simp only [List.append_assoc, List.cons_append, List.nil_append])
  have H := H.rot
  refine ldP_of (H.cell 0 rfl rfl) (ptr_of (a := ⟨r, 0, none⟩) ?_)
  refine ldI_of (hpA H 3 rfl rfl) ?_
  refine newC_hp H fun r10 h H => ?_
  have H := H.rot
  refine st0 H 0 rfl rfl rfl fun h H => ?_
  have H : Hp h0 F h ([⟨r10, true, T_int, [.int .i64 ((8 * i : Nat) : Int)]⟩, ⟨r1, true, T_p_bits_Reader, [.pointer (some ⟨r, 0, none⟩)]⟩, ⟨r3, true, T_uint64, [.int .u64 ((0 : Nat) : Int)]⟩, ⟨r5, true, T_api_Errno, [.int .i64 0]⟩] ++ (rdE r q b.length c (i + 0) :: D)) := H
  have done : ∀ {e : Int} {n p : Nat} {h : Heap}, (e = 0 ∨ e ≠ 0 ∧ n = 0 ∧ p = i) → ∀ {p' n' : Nat}, (e = 0 → p' = p ∧ n' = n) → (∀ h', Hp h0 F h' (rdE r q b.length c p :: D) → K (.tuple #[.int .u64 (n : Nat), .int .i64 e]) h') →
      Hp h0 F h ([⟨r10, true, T_int, [.int .i64 ((8 * i : Nat) : Int)]⟩, ⟨r1, true, T_p_bits_Reader, [.pointer (some ⟨r, 0, none⟩)]⟩, ⟨r3, true, T_uint64, [.int .u64 (n' : Nat)]⟩, ⟨r5, true, T_api_Errno, [.int .i64 e]⟩] ++ (rdE r q b.length c p' :: D)) →
      leaveD (DCalls Go.Proofs.Tryz.prog) (fun h_29 => ldI h_29 (⟨r3, 0, none⟩ : Addr) .u64 fun r_30 => ldI h_29 (⟨r5, 0, none⟩ : Addr) .i64 fun r_31 => K (.tuple #[.int .u64 r_30, .int .i64 r_31]) h_29) Kp [{ target := .fn (.func F_bits_Reader_Var_c1) #[.pointer (some ⟨r5, 0, none⟩), .pointer (some ⟨r10, 0, none⟩), .pointer (some ⟨r3, 0, none⟩), .pointer (some ⟨r1, 0, none⟩)], args := #[] }] .returning h := by
    intro e n p h he p' n' hp hk H
    show DCalls Go.Proofs.Tryz.prog F_bits_Reader_Var_c1 #[.pointer (some ⟨r5, 0, none⟩), .pointer (some ⟨r10, 0, none⟩), .pointer (some ⟨r3, 0, none⟩), .pointer (some ⟨r1, 0, none⟩)] .returning h _ _
    refine deferVar ?_
    unfold bits_Reader_Var_c1
    refine ldI_of (H.cell 3 rfl rfl) ?_
    rcases he with he | ⟨he, hn, hpi⟩
    · refine bcase_ne (fun h1 => absurd he h1) fun _ => ?_
      obtain ⟨rfl, rfl⟩ := hp he
      show ldI h ⟨r3, 0, none⟩ .u64 _
      refine ldI_of (H.cell 2 rfl rfl) (ldI_of (H.cell 3 rfl rfl) ?_)
      exact hk h (Hp.suf H)
    · refine bcase_ne (fun _ => ?_) fun h1 => absurd h1 he
      refine ldP_of (H.cell 1 rfl rfl) (ldI_of (H.cell 0 rfl rfl) ?_)
      refine st0 H 2 rfl rfl rfl fun h H => ?_
      refine ptr_of (a := ⟨r, 0, none⟩) ?_
      refine stA H 4 rfl rfl rfl fun h H => ?_
      have H : Hp h0 F h ([⟨r10, true, T_int, [.int .i64 ((8 * i : Nat) : Int)]⟩, ⟨r1, true, T_p_bits_Reader, [.pointer (some ⟨r, 0, none⟩)]⟩, ⟨r3, true, T_uint64, [.int .u64 0]⟩, ⟨r5, true, T_api_Errno, [.int .i64 e]⟩] ++ (rdE r q b.length c i :: D)) := H
      show ldI h ⟨r3, 0, none⟩ .u64 _
      refine ldI_of (H.cell 2 rfl rfl) (ldI_of (H.cell 3 rfl rfl) ?_)
      rw [hn, hpi] at hk
      exact hk h (Hp.suf H)
  refine ⟨fun f vs h' => ∃ (j n : Nat), 1 ≤ f ∧ j + f = 10 ∧ n < 128 ^ j ∧ varF b i f j n = varP b i ∧ i + j ≤ b.length ∧ vs = [.int .i64 ((7 * j : Nat) : Int)] ∧
    Hp h0 F h' ([⟨r10, true, T_int, [.int .i64 ((8 * i : Nat) : Int)]⟩, ⟨r1, true, T_p_bits_Reader, [.pointer (some ⟨r, 0, none⟩)]⟩, ⟨r3, true, T_uint64, [.int .u64 (n : Nat)]⟩, ⟨r5, true, T_api_Errno, [.int .i64 0]⟩] ++ (rdE r q b.length c (i + j) :: D)), ⟨10, 0, 0, by omega, rfl, by decide, rfl, hi, rfl, H⟩, ?_⟩
  clear H
  rintro f h u xa ⟨j, n, hf1, hjf, hn, hv, hij, hxx, H⟩
  obtain ⟨f, rfl⟩ : ∃ g, f = g + 1 := ⟨f - 1, by omega⟩
  injection hxx with hx1 hxx
  injection hx1 with _ hx1
  subst xa
  refine ldP_of (H.cell 1 rfl rfl) ?_
  have hsw : ∀ p, (rdE r q b.length c p :: D).all Ent.w = true := fun p => by rw [List.all_cons, hs.w]; rfl
  refine rgroup_ok (Hp.giveS H) hs hb hij (fun hnone => ?_) fun y h hy H' => ?_
  · refine ⟨_, _, rfl, ?_⟩
    refine ⟨fun _ _ => False, ?_, fun _ _ hh => hh.elim⟩
    refine bcase_true (by rfl) ?_
    refine st0 H 2 rfl rfl rfl fun h H => ?_
    refine st0 H 3 rfl rfl rfl fun h H => ?_
    have hvp : varP b i = (14, 0, i) := by
      rw [← hv]
      unfold varF
      rw [hnone]
    rw [hvp] at hk
    exact done (e := 14) (n := 0) (p := i) (n' := 0) (p' := i + j) (.inr ⟨by decide, rfl, rfl⟩) (fun hh => absurd hh (by decide)) hk H
  · have H := Hp.putS H (hsw _) H' (hsw _)
    clear H'
    have hy8 := hb.b8 y (List.mem_of_getElem? hy)
    have hyl := (List.getElem?_eq_some_iff.1 hy).1
    refine ⟨_, _, rfl, ?_⟩
    have err : (j = 9 ∧ 1 < y ∨ 0 < j ∧ y = 0) → stV h (⟨r3, 0, none⟩ : Addr) (.int .u64 0) fun h_32 => stV h_32 (⟨r5, 0, none⟩ : Addr) (.int .i64 16) fun h_33 =>
        leaveD (DCalls Go.Proofs.Tryz.prog) (fun h_29 => ldI h_29 (⟨r3, 0, none⟩ : Addr) .u64 fun r_30 => ldI h_29 (⟨r5, 0, none⟩ : Addr) .i64 fun r_31 => K (.tuple #[.int .u64 r_30, .int .i64 r_31]) h_29) Kp [{ target := .fn (.func F_bits_Reader_Var_c1) #[.pointer (some ⟨r5, 0, none⟩), .pointer (some ⟨r10, 0, none⟩), .pointer (some ⟨r3, 0, none⟩), .pointer (some ⟨r1, 0, none⟩)], args := #[] }] .returning h_33 := fun hc => by
      refine st0 H 2 rfl rfl rfl fun h H => ?_
      refine st0 H 3 rfl rfl rfl fun h H => ?_
      have hvp : varP b i = (16, 0, i) := by
        rw [← hv]
        unfold varF
        rw [hy]
        dsimp only
        rw [if_pos hc]
      rw [hvp] at hk
      exact done (e := 16) (n := 0) (p := i) (n' := 0) (p' := i + j + 1) (.inr ⟨by decide, rfl, rfl⟩) (fun hh => absurd hh (by decide)) hk H
    refine ⟨fun _ h' => h' = h ∧ ¬ (j = 9 ∧ 1 < y ∨ 0 < j ∧ y = 0), ?_, ?_⟩
    · refine bcase_false (by rfl) ?_
      refine bcase_eq (fun h9 => ?_) fun h9 => ?_
      · refine bcase_dec (fun h10 => ?_) fun h10 => ?_
        · refine bcase_dec (fun _ => err (.inl ⟨by omega, by omega⟩)) fun h11 => absurd h10 h11
        · refine bcase_dec (fun h11 => ?_) fun h11 => ⟨rfl, by omega⟩
          refine bcase_eq (fun h12 => err (.inr ⟨by omega, by omega⟩)) fun h12 => ⟨rfl, by omega⟩
      · refine bcase_dec (fun h11 => ?_) fun h11 => ⟨rfl, by omega⟩
        refine bcase_eq (fun h12 => err (.inr ⟨by omega, by omega⟩)) fun h12 => ⟨rfl, by omega⟩
    rintro h' u ⟨rfl, hnc⟩
    have hz : y % 128 * 128 ^ j < 18446744073709551616 := by
      by_cases hj : j = 9
      · have h1 : y % 128 ≤ 1 := by omega
        have h2 : y % 128 * 128 ^ j ≤ 1 * 128 ^ j := Nat.mul_le_mul_right _ h1
        rw [hj] at h2 ⊢
        have e9 : (128 : Nat) ^ 9 = 9223372036854775808 := by decide
        omega
      · have h1 : y % 128 * 128 ^ j ≤ 127 * 128 ^ j := Nat.mul_le_mul_right _ (by omega)
        have h2 : 128 ^ j ≤ 128 ^ 8 := Nat.pow_le_pow_right (by decide) (by omega)
        have e8 : (128 : Nat) ^ 8 = 72057594037927936 := by decide
        omega
    have hm127 : y % 128 * 128 ^ j ≤ 127 * 128 ^ j := Nat.mul_le_mul_right _ (by omega)
    have hp1 : 128 ^ (j + 1) = 128 * 128 ^ j := by rw [Nat.pow_succ, Nat.mul_comm]
    refine bindI_of (((y % 128 : Nat) : Int)) (by exact (and8 _ 127 hy8 (by decide)).trans (by have := Nat.and_two_pow_sub_one_eq_mod y 7; rw [show (127 : Nat) = 2 ^ 7 - 1 from rfl, this])) ?_
    refine bindI_of (((y % 128 : Nat) : Int)) (by exact u64_in _ (by omega) (by omega)) ?_
    refine needs_of (by omega) ?_
    refine bindI_of (((y % 128 * 128 ^ j : Nat) : Int)) (by exact shl_of (by show 7 * j ≤ 64; omega) (by rw [pow7]; exact u64_in _ (by omega) (by omega))) ?_
    refine ldI_of (H.cell 2 rfl rfl) ?_
    have hn64 : n < 18446744073709551616 := by
      have h2 : 128 ^ j ≤ 128 ^ 9 := Nat.pow_le_pow_right (by decide) (by omega)
      have e9 : (128 : Nat) ^ 9 = 9223372036854775808 := by decide
      omega
    have hor : n ||| y % 128 * 128 ^ j = n + y % 128 * 128 ^ j := by
      have := Nat.shiftLeft_add_eq_or_of_lt (b := n) (i := 7 * j) (by rw [pow7]; exact hn) (y % 128)
      rw [Nat.shiftLeft_eq, pow7] at this
      rw [Nat.or_comm, ← this, Nat.add_comm]
    refine bindI_of (((n + y % 128 * 128 ^ j : Nat) : Int)) (by exact (or64 _ _ hn64 hz).trans (by rw [hor])) ?_
    refine st0 H 2 rfl rfl rfl fun h H => ?_
    refine bcase_dec (fun h13 => ?_) fun h13 => ?_
    · refine ldI_of (H.cell 2 rfl rfl) ?_
      refine st0 H 2 rfl rfl rfl fun h H => ?_
      refine st0 H 3 rfl rfl rfl fun h H => ?_
      have hvp : varP b i = (0, n + y % 128 * 128 ^ j, i + j + 1) := by
        rw [← hv]
        unfold varF
        rw [hy]
        dsimp only
        rw [if_neg hnc, if_pos (by omega)]
      rw [hvp] at hk
      exact done (e := 0) (n := n + y % 128 * 128 ^ j) (p := i + j + 1) (n' := n + y % 128 * 128 ^ j) (p' := i + j + 1) (.inl rfl) (fun _ => ⟨rfl, rfl⟩) hk H
    · refine bindI_of (((7 * (j + 1) : Nat) : Int)) (by exact i64_at _ _ (by omega) (by omega) (by omega)) ?_
      refine ⟨f, by omega, j + 1, n + y % 128 * 128 ^ j, by omega, by omega, by omega, ?_, by omega, rfl, H⟩
      rw [← hv]
      conv => rhs; unfold varF
      rw [hy]
      dsimp only
      rw [if_neg hnc, if_neg (by omega)]
end
end Go.Bm

/- RfC: the program's walk over the pixels of a bitmap, whatever decides. -/
set_option linter.unusedVariables false
set_option linter.unusedSimpArgs false
namespace Go.Bm
open Go Go.Den Go.Den.YtfaclehehhgpcaaGreat

def upd (G : Int → Int → Bool) (a b : Int) (bit : Bool) : Int → Int → Bool := fun x y => if x = a ∧ y = b then bit else G x y
section
variable {σ : Type}
/-- The walk: so many pixels, each told by its neighbours. -/
def runN (W : Nat) (R : Int → Int → Bool) (dx dy : Int) (step : σ → Nat → Bool → (Bool × σ) ⊕ (Int × σ)) : Nat → (Int → Int → Bool) × σ → ((Int → Int → Bool) × σ) ⊕ (Int × σ)
  | 0, g => .inl g
  | k + 1, g => match runN W R dx dy step k g with
    | .inr e => .inr e
    | .inl (G, s) => match step s (ctxN G R dx dy ((k % W : Nat) : Int) ((k / W : Nat) : Int)) (G ((k % W : Nat) : Int) ((k / W : Nat) : Int)) with
      | .inl (bit, s') => .inl (upd G ((k % W : Nat) : Int) ((k / W : Nat) : Int) bit, s')
      | .inr e => .inr e
theorem recD_iface {t : TypeId} {x : Value} {older : List PanicEntry} {KN : FrameMode → Prop} {KI : TypeId → Value → FrameMode → Prop} (h : KI t x (.panicking ({ v := .iface t x, recovered := true } :: older))) : recD (.panicking ({ v := .iface t x, recovered := false } :: older)) KN KI := h
end
end Go.Bm

/- PbG: page's reader: numbers, bytes, sizes; what gives up is caught. -/
set_option linter.unusedVariables false
set_option linter.unusedSimpArgs false
namespace Go.Bm
open Go Go.Den Go.Den.YtfaclehehhgpcaaGreat
open Go.Ar (u8s u8s_length)

def numP (b : List Nat) (i : Nat) : Except Int (Nat × Nat) := if (varP b i).1 = 0 then .ok ((varP b i).2.1, (varP b i).2.2) else .error 150
def placeP (b : List Nat) (i : Nat) : Except Int (Nat × Nat) := match numP b i with
  | .error e => .error e
  | .ok (n, j) => if 1048576 < n then .error 150 else .ok (n, j)
def byteP (b : List Nat) (i : Nat) : Except Int (Nat × Nat) := match b[i]? with
  | none => .error 150
  | some x => .ok (x, i + 1)
def sizeP (b : List Nat) (i : Nat) : Except Int ((Nat × Nat) × Nat) := match numP b i with
  | .error e => .error e
  | .ok (w, i1) => if w = 0 then .error 150 else match numP b i1 with
    | .error e => .error e
    | .ok (h, i2) => if h = 0 then .error 150 else if 1048576 < w ∨ 1048576 < h ∨ 1048576 < w * h then .error 120 else .ok ((w, h), i2)
def sheetPR (b : List Nat) : Except Int (Nat × Nat × Nat × Nat) := match sizeP b 0 with
  | .error e => .error e
  | .ok ((w, h), i1) => match byteP b i1 with
    | .error e => .error e
    | .ok (d, i2) => if 1 < d then .error 150 else match placeP b i2 with
      | .error e => .error e
      | .ok (s, i3) => if i3 < b.length then .error 150 else .ok (w, h, d, s)
/-- What it gives up with. -/
def flt (e : Int) : List PanicEntry := [{ v := .iface T_page_fault (.agg #[.int .i64 e]), recovered := false }]
section
variable {h0 h : Heap} {F : List Nat} {K : Value → Heap → Prop} {Kp : List PanicEntry → Heap → Prop} {q : Option Addr} {c i r : Nat} {b : List Nat} {D : List Ent}
theorem wrong_ok {bad : Bool} (hk : bad = false → K (.tuple #[]) h) (hp : bad = true → Kp (flt 150) h) : CP F_page_wrong #[.bool bad] h K Kp := by
  refine call_page_wrong ?_
  unfold page_wrong
  exact bcase_of (fun h1 => hp h1) fun h1 => hk h1
theorem rdw (hs : Slot T_uint8 1 D q b.length c (u8s b)) (p : Nat) : (rdE r q b.length c p :: D).all Ent.w = true := by rw [List.all_cons, hs.w]; rfl
theorem number_ok (H : Hp h0 F h (rdE r q b.length c i :: D)) (hs : Slot T_uint8 1 D q b.length c (u8s b)) (hb : RdB b) (hi : i ≤ b.length)
    (hk : ∀ n i' h', numP b i = .ok (n, i') → i' ≤ b.length → n < 18446744073709551616 → Hp h0 F h' (rdE r q b.length c i' :: D) → K (.int .u64 (n : Nat)) h')
    (hp : ∀ i' h', numP b i = .error 150 → i' ≤ b.length → Hp h0 F h' (rdE r q b.length c i' :: D) → Kp (flt 150) h') :
    CP F_page_reader_number #[.agg #[.pointer (some ⟨r, 0, none⟩)]] h K Kp := by
  refine call_page_reader_number ?_
  unfold page_reader_number
  refine newC_hp H fun r2 h H => ?_
  have H := H.rot
  refine ldP_of (hpA H 0 rfl rfl) ?_
  have hle := varP_le hi
  have hlt := varP_lt b i
  refine rvar_ok (Hp.giveS H) hs hb hi fun h H' => ?_
  have H := Hp.suf (Hp.putS H (rdw hs _) H' (rdw hs _))
  clear H'
  refine ⟨_, _, rfl, ?_⟩
  refine wrong_ok (fun h1 => ?_) fun h1 => ?_
  · have h1 : (varP b i).1 = 0 := by simpa using h1
    exact hk _ _ h (by unfold numP; rw [if_pos h1]) hle hlt H
  · have h1 : (varP b i).1 ≠ 0 := by simpa using h1
    exact hp _ h (by unfold numP; rw [if_neg h1]) hle H
theorem place_ok (H : Hp h0 F h (rdE r q b.length c i :: D)) (hs : Slot T_uint8 1 D q b.length c (u8s b)) (hb : RdB b) (hi : i ≤ b.length)
    (hk : ∀ n i' h', placeP b i = .ok (n, i') → i' ≤ b.length → n ≤ 1048576 → Hp h0 F h' (rdE r q b.length c i' :: D) → K (.int .i64 (n : Nat)) h')
    (hp : ∀ i' h', placeP b i = .error 150 → i' ≤ b.length → Hp h0 F h' (rdE r q b.length c i' :: D) → Kp (flt 150) h') :
    CP F_page_reader_place #[.agg #[.pointer (some ⟨r, 0, none⟩)]] h K Kp := by
  refine call_page_reader_place ?_
  unfold page_reader_place
  refine newC_hp H fun r2 h H => ?_
  have H := H.rot
  refine ldP_of (hpA H 0 rfl rfl) ?_
  refine number_ok (Hp.giveS H) hs hb hi (fun n i' h hn hi' hlt H' => ?_) fun i' h hn hi' H' => ?_
  · have H := Hp.suf (Hp.putS H (rdw hs _) H' (rdw hs _))
    refine ⟨_, rfl, ?_⟩
    refine wrong_ok (fun h1 => ?_) fun h1 => ?_
    · have h1 : ¬ ((n : Nat) : Int) > 1048576 := of_decide_eq_false h1
      refine bindI_of (((n : Nat) : Int)) (by exact i64_in _ (by omega) (by omega)) ?_
      exact hk n i' h (by unfold placeP; rw [hn]; dsimp only; rw [if_neg (by omega)]) hi' (by omega) H
    · have h1 : ((n : Nat) : Int) > 1048576 := of_decide_eq_true h1
      exact hp i' h (by unfold placeP; rw [hn]; dsimp only; rw [if_pos (by omega)]) hi' H
  · have H := Hp.suf (Hp.putS H (rdw hs _) H' (rdw hs _))
    exact hp i' h (by unfold placeP; rw [hn]) hi' H
theorem pbyte_ok (H : Hp h0 F h (rdE r q b.length c i :: D)) (hs : Slot T_uint8 1 D q b.length c (u8s b)) (hb : RdB b) (hi : i ≤ b.length)
    (hk : ∀ n i' h', byteP b i = .ok (n, i') → i' ≤ b.length → n < 256 → Hp h0 F h' (rdE r q b.length c i' :: D) → K (.int .i64 (n : Nat)) h')
    (hp : ∀ i' h', byteP b i = .error 150 → i' ≤ b.length → Hp h0 F h' (rdE r q b.length c i' :: D) → Kp (flt 150) h') :
    CP F_page_reader_byte #[.agg #[.pointer (some ⟨r, 0, none⟩)]] h K Kp := by
  refine call_page_reader_byte ?_
  unfold page_reader_byte
  refine newC_hp H fun r2 h H => ?_
  have H := H.rot
  refine ldP_of (hpA H 0 rfl rfl) ?_
  refine rtake8_ok (Hp.giveS H) hs hb hi (fun hn => ?_) fun x h hx H' => ?_
  · refine ⟨_, _, rfl, ?_⟩
    refine wrong_ok (fun h1 => by cases h1) fun h1 => ?_
    exact hp i _ (by unfold byteP; rw [hn]) hi (Hp.suf H)
  · have H := Hp.suf (Hp.putS H (rdw hs _) H' (rdw hs _))
    have hx8 := hb.b8 x (List.mem_of_getElem? hx)
    refine ⟨_, _, rfl, ?_⟩
    refine wrong_ok (fun h1 => ?_) fun h1 => by cases h1
    refine bindI_of (((x : Nat) : Int)) (by exact i64_in _ (by omega) (by omega)) ?_
    exact hk x (i + 1) h (by unfold byteP; rw [hx]) (List.getElem?_eq_some_iff.1 hx).1 hx8 H
set_option maxHeartbeats 1000000 in
theorem size_ok (H : Hp h0 F h (rdE r q b.length c i :: D)) (hs : Slot T_uint8 1 D q b.length c (u8s b)) (hb : RdB b) (hi : i ≤ b.length)
    (hk : ∀ w g i' h', sizeP b i = .ok ((w, g), i') → i' ≤ b.length → SizeP (w : Int) (g : Int) → Hp h0 F h' (rdE r q b.length c i' :: D) → K (.tuple #[.int .i64 (w : Nat), .int .i64 (g : Nat)]) h')
    (hp : ∀ e i' h', sizeP b i = .error e → e ≠ 0 → i' ≤ b.length → Hp h0 F h' (rdE r q b.length c i' :: D) → Kp (flt e) h') :
    CP F_page_reader_size #[.agg #[.pointer (some ⟨r, 0, none⟩)]] h K Kp := by
  refine call_page_reader_size ?_
  unfold page_reader_size
  refine newC_hp H fun r2 h H => ?_
  have H := H.rot
  refine ldP_of (hpA H 0 rfl rfl) ?_
  refine number_ok (Hp.giveS H) hs hb hi (fun w i1 h hw hi1 hwlt H' => ?_) fun i' h hn hi' H' => ?_
  rotate_left
  · have H := Hp.suf (Hp.putS H (rdw hs _) H' (rdw hs _))
    exact hp 150 i' h (by unfold sizeP; rw [hn]) (by decide) hi' H
  have H := Hp.putS H (rdw hs _) H' (rdw hs _)
  clear H'
  refine ⟨_, rfl, ?_⟩
  refine wrong_ok (fun h1 => ?_) fun h1 => ?_
  rotate_left
  · have h1 : ((w : Nat) : Int) = 0 := by simpa using h1
    exact hp 150 i1 h (by unfold sizeP; rw [hw]; dsimp only; rw [if_pos (by omega)]) (by decide) hi1 (Hp.suf H)
  have hw0 : w ≠ 0 := by
    have h1 : ¬ ((w : Nat) : Int) = 0 := by simpa using h1
    omega
  clear h1
  refine ldP_of (hpA H 0 rfl rfl) ?_
  refine number_ok (Hp.giveS H) hs hb hi1 (fun g i2 h hg hi2 hglt H' => ?_) fun i' h hn hi' H' => ?_
  rotate_left
  · have H := Hp.suf (Hp.putS H (rdw hs _) H' (rdw hs _))
    exact hp 150 i' h (by unfold sizeP; rw [hw]; dsimp only; rw [if_neg hw0, hn]) (by decide) hi' H
  have H := Hp.suf (Hp.putS H (rdw hs _) H' (rdw hs _))
  clear H'
  refine ⟨_, rfl, ?_⟩
  refine wrong_ok (fun h1 => ?_) fun h1 => ?_
  rotate_left
  · have h1 : ((g : Nat) : Int) = 0 := by simpa using h1
    exact hp 150 i2 h (by unfold sizeP; rw [hw]; dsimp only; rw [if_neg hw0, hg]; dsimp only; rw [if_pos (by omega)]) (by decide) hi2 H
  have hg0 : g ≠ 0 := by
    have h1 : ¬ ((g : Nat) : Int) = 0 := by simpa using h1
    omega
  clear h1
  have big : (1048576 < w ∨ 1048576 < g ∨ 1048576 < w * g) → Kp (flt 120) h := fun hh => hp 120 i2 h (by unfold sizeP; rw [hw]; dsimp only; rw [if_neg hw0, hg]; dsimp only; rw [if_neg hg0, if_pos hh]) (by decide) hi2 H
  refine bcase_dec (fun h1 => big (.inl (by omega))) fun h1 => ?_
  refine bcase_dec (fun h2 => big (.inr (.inl (by omega)))) fun h2 => ?_
  have hwg : w * g ≤ 1048576 * 1048576 := Nat.mul_le_mul (by omega) (by omega)
  refine bindI_of (((w * g : Nat) : Int)) (by exact u64_at _ _ (by simp) (by omega) (by omega)) ?_
  refine bcase_dec (fun h3 => big (.inr (.inr (by omega)))) fun h3 => ?_
  refine bindI_of (((w : Nat) : Int)) (by exact i64_in _ (by omega) (by omega)) ?_
  refine bindI_of (((g : Nat) : Int)) (by exact i64_in _ (by omega) (by omega)) ?_
  refine hk w g i2 h (by unfold sizeP; rw [hw]; dsimp only; rw [if_neg hw0, hg]; dsimp only; rw [if_neg hg0, if_neg (by omega)]) hi2 ?_ H
  unfold SizeP
  have : (w : Int) * (g : Int) = ((w * g : Nat) : Int) := by simp
  rw [this]
  omega
theorem newReader_ok (hr : rdO h q (b.length * 1) (u8s b)) (hb : RdB b) (hk : ∀ r q' c' D h', Slot T_uint8 1 D q' b.length c' (u8s b) → Hp h [] h' (rdE r q' b.length c' 0 :: D) → K (.pointer (some ⟨r, 0, none⟩)) h') : CP F_bits_NewReader #[.slice q b.length c] h K Kp := by
  refine call_bits_NewReader ?_
  unfold bits_NewReader
  have hbl := hb.bl
  have fin : ∀ D q' c' h', Slot T_uint8 1 D q' b.length c' (u8s b) → Hp h [] h' D → newC h' [.slice q' b.length c', .int .i64 0] T_bits_Reader fun r_3 h_4 => K (.pointer (some ⟨r_3, 0, none⟩)) h_4 := fun D q' c' h' hs H => by
    refine newC_hp H fun r h2 H => ?_
    have H := H.rot
    exact hk r q' c' D h2 hs H
  rcases Nat.eq_zero_or_pos b.length with h1 | h1
  · have hb0 : b = [] := List.length_eq_zero_iff.1 h1
    subst hb0
    refine ⟨u8s [], hr, ?_⟩
    rw [if_pos (by simp)]
    exact fin [] none 0 h (Slot.nil _ _) (Hp.nil h [])
  · have H := Hp.nil h []
    refine appC_new H hr (u8s_length b) h1 (by omega) fun o rest h' he H' => ?_
    exact fin _ _ _ h' (Slot.one (by rw [u8s_length, Nat.mul_one]) (by rw [List.length_append, u8s_length, Nat.mul_one])) H'

/-! ### read -/
theorem pcatch_idle {r : Nat} {Kd : FrameMode → Heap → Prop} {Kdp : FrameMode → List PanicEntry → Heap → Prop} (hk : Kd .returning h) : DCalls Go.Proofs.Tryz.prog F_page_read_c1 #[.pointer (some ⟨r, 0, none⟩)] .returning h Kd Kdp :=
  dcall_page_read_c1 (cap0 := ⟨r, 0, none⟩) (by unfold page_read_c1 recD; exact hk)
theorem pcatch {L : List Ent} {r : Nat} {e x : Int} (H : Hp h0 F h ([⟨r, true, T_api_Errno, [.int .i64 x]⟩] ++ L)) (hk : ∀ h', Hp h0 F h' L → K (.int .i64 e) h') :
    leaveD (DCalls Go.Proofs.Tryz.prog) (fun h => ldI h ⟨r, 0, none⟩ .i64 fun v => K (.int .i64 v) h) Kp [{ target := .fn (.func F_page_read_c1) #[.pointer (some ⟨r, 0, none⟩)], args := #[] }] (.panicking (flt e)) h := by
  show DCalls Go.Proofs.Tryz.prog F_page_read_c1 #[.pointer (some ⟨r, 0, none⟩)] _ h _ _
  refine dcall_page_read_c1 (cap0 := ⟨r, 0, none⟩) ?_
  unfold page_read_c1
  refine recD_iface ?_
  refine bcase_true (by decide) ?_
  refine ⟨e, rfl, ?_⟩
  refine newC_hp H fun r6 h H => ?_
  have H := H.rot
  refine stA H 0 rfl rfl rfl fun h H => ?_
  refine ldI_of (hpA H 0 rfl rfl) ?_
  refine st0 H 1 rfl rfl rfl fun h H => ?_
  show ldI h ⟨r, 0, none⟩ .i64 _
  refine ldI_of (H.cell 1 rfl rfl) ?_
  have H : Hp h0 F h ([⟨r6, true, T_page_fault, [.int .i64 e]⟩, ⟨r, true, T_api_Errno, [.int .i64 e]⟩] ++ L) := H
  exact hk h (Hp.suf H)
theorem pread_ok {L : List Ent} {run : Value} {qf : Option Addr} {cf : Nat} (Post : List Ent → Prop) (PostB : Int → List Ent → Prop) (hb : RdB b) (hr : rdO h0 qf (b.length * 1) (u8s b)) (H : Hp h0 [] h L)
    (hrun : ∀ {r rr q' c' D h1} {K1 : Value → Heap → Prop} {Kp1 : List PanicEntry → Heap → Prop}, Slot T_uint8 1 D q' b.length c' (u8s b) → Hp h0 [] h1 (([⟨r, true, T_api_Errno, [.int .i64 0]⟩] ++ L) ++ (rdE rr q' b.length c' 0 :: D)) →
      (∀ h2 L2 i', Post L2 → Hp h0 [] h2 (([⟨r, true, T_api_Errno, [.int .i64 0]⟩] ++ L2) ++ (rdE rr q' b.length c' i' :: D)) → K1 (.tuple #[]) h2) →
      (∀ e h2 L2 i', PostB e L2 → Hp h0 [] h2 (([⟨r, true, T_api_Errno, [.int .i64 0]⟩] ++ L2) ++ (rdE rr q' b.length c' i' :: D)) → Kp1 (flt e) h2) → callD (CallsHP Go.Proofs.Tryz.prog) Kp1 run [.agg #[.pointer (some ⟨rr, 0, none⟩)]] h1 K1)
    (hk0 : ∀ h' L', Post L' → Hp h0 [] h' L' → K (.int .i64 0) h') (hke : ∀ e h' L', PostB e L' → Hp h0 [] h' L' → K (.int .i64 e) h') : CP F_page_read #[.slice qf b.length cf, run] h K Kp := by
  refine call_page_read ?_
  unfold page_read
  refine newC_hp H fun r1 h H => ?_
  have H := H.rot
  refine newReader_ok (H.rdO hr) hb fun rr q' c' D h1 hs H' => ?_
  replace H := H.join H' (rdw hs _)
  clear H'
  refine ⟨_, rfl, ?_⟩
  refine hrun hs H (fun h2 L2 i' hp H => ?_) fun e h2 L2 i' hp H => ?_
  · have H := Hp.pre H
    refine st0 H 0 rfl rfl rfl fun h H => ?_
    show DCalls Go.Proofs.Tryz.prog F_page_read_c1 #[.pointer (some ⟨r1, 0, none⟩)] .returning h _ _
    refine pcatch_idle ?_
    show ldI h ⟨r1, 0, none⟩ .i64 _
    refine ldI_of (H.cell 0 rfl rfl) ?_
    have H : Hp h0 [] h ([⟨r1, true, T_api_Errno, [.int .i64 0]⟩] ++ L2) := H
    exact hk0 h L2 hp (Hp.suf H)
  · exact pcatch (Hp.pre H) fun h' H => hke e h' L2 hp H
end

/-! ### DecodeSheet -/
def shRes (b : List Nat) : Int × Nat × Nat × Nat × Nat := match sheetPR b with
  | .error e => (e, 0, 0, 0, 0)
  | .ok (w, h, d, s) => (0, w, h, d, s)
def shV (x : Int × Nat × Nat × Nat × Nat) : Value := .tuple #[.agg #[.int .i64 (x.2.1 : Nat), .int .i64 (x.2.2.1 : Nat), .int .i64 (x.2.2.2.1 : Nat), .int .i64 (x.2.2.2.2 : Nat)], .int .i64 x.1]
section
variable {hB : Heap} {K : Value → Heap → Prop} {Kp : List PanicEntry → Heap → Prop} {q : Option Addr} {c : Nat} {b : List Nat}
set_option maxRecDepth 100000 in
set_option maxHeartbeats 4000000 in
theorem decSheet_ok (hb : RdB b) (hr : rdO hB q (b.length * 1) (u8s b)) (hk : ∀ h', hext hB h' → K (shV (shRes b)) h') :
    CP F_page_DecodeSheet #[.slice q b.length c] hB K Kp := by
  refine call_page_DecodeSheet ?_
  unfold page_DecodeSheet
  have H := Hp.nil hB []
  refine newC_hp H fun r1 h H => ?_
  refine newC_hp H fun r3 h H => ?_
  have H : Hp hB [] h [⟨r1, true, T_api_Sheet, [.int .i64 0, .int .i64 0, .int .i64 0, .int .i64 0]⟩, ⟨r3, true, T_api_Sheet, [.int .i64 0, .int .i64 0, .int .i64 0, .int .i64 0]⟩] := H
  refine pread_ok (fun L2 => ∃ w g d s, sheetPR b = .ok (w, g, d, s) ∧ L2 = [⟨r1, true, T_api_Sheet, [.int .i64 0, .int .i64 0, .int .i64 0, .int .i64 0]⟩, ⟨r3, true, T_api_Sheet, [.int .i64 (w : Nat), .int .i64 (g : Nat), .int .i64 (d : Nat), .int .i64 (s : Nat)]⟩])
    (fun e L2 => sheetPR b = .error e ∧ e ≠ 0 ∧ ∃ cs, L2 = [⟨r1, true, T_api_Sheet, [.int .i64 0, .int .i64 0, .int .i64 0, .int .i64 0]⟩, ⟨r3, true, T_api_Sheet, cs⟩]) hb hr H (fun {r rr q' c' D h1 K1 Kp1} hs H hK hKp => ?_) (fun h' L' hp H => ?_) fun e h' L' hp H => ?_
  · show CP F_page_DecodeSheet_c1 #[.agg #[.pointer (some ⟨rr, 0, none⟩)], .pointer (some ⟨r3, 0, none⟩)] h1 K1 Kp1
    refine call_page_DecodeSheet_c1 (cap0 := ⟨r3, 0, none⟩) ?_
    unfold page_DecodeSheet_c1
    refine newC_hp H fun r2 h H => ?_
    have H := H.rot
    have bad : ∀ {e : Int} {i' : Nat} {h : Heap} {cs : List Value}, sheetPR b = .error e → e ≠ 0 → Hp hB [] h (([⟨r2, true, T_page_reader, [.pointer (some ⟨rr, 0, none⟩)]⟩] ++ [⟨r, true, T_api_Errno, [.int .i64 0]⟩, ⟨r1, true, T_api_Sheet, [.int .i64 0, .int .i64 0, .int .i64 0, .int .i64 0]⟩, ⟨r3, true, T_api_Sheet, cs⟩]) ++ (rdE rr q' b.length c' i' :: D)) → Kp1 (flt e) h := fun {e i' h cs} he he0 H => by
      refine hKp e h _ i' ⟨he, he0, cs, rfl⟩ ?_
      rw [List.append_assoc] at H
      exact Hp.suf H
    have H : Hp hB [] h (([⟨r2, true, T_page_reader, [.pointer (some ⟨rr, 0, none⟩)]⟩] ++ [⟨r, true, T_api_Errno, [.int .i64 0]⟩, ⟨r1, true, T_api_Sheet, [.int .i64 0, .int .i64 0, .int .i64 0, .int .i64 0]⟩, ⟨r3, true, T_api_Sheet, [.int .i64 0, .int .i64 0, .int .i64 0, .int .i64 0]⟩]) ++ (rdE rr q' b.length c' 0 :: D)) := H
    refine ldP_of (hpA H 0 rfl rfl) ?_
    refine size_ok (Hp.giveS H) hs hb (Nat.zero_le _) (fun w g i1 h hsz hi1 hP H' => ?_) fun e i' h hsz he hi' H' => ?_
    rotate_left
    · have H := Hp.putS H (rdw hs _) H' (rdw hs _)
      exact bad (by unfold sheetPR; rw [hsz]) he H
    have H := Hp.putS H (rdw hs _) H' (rdw hs _)
    clear H'
    refine ⟨_, _, rfl, ?_⟩
    refine stA H 3 rfl rfl rfl fun h H => ?_
    refine stA H 3 rfl rfl rfl fun h H => ?_
    have H : Hp hB [] h (([⟨r2, true, T_page_reader, [.pointer (some ⟨rr, 0, none⟩)]⟩] ++ [⟨r, true, T_api_Errno, [.int .i64 0]⟩, ⟨r1, true, T_api_Sheet, [.int .i64 0, .int .i64 0, .int .i64 0, .int .i64 0]⟩, ⟨r3, true, T_api_Sheet, [.int .i64 (w : Nat), .int .i64 (g : Nat), .int .i64 0, .int .i64 0]⟩]) ++ (rdE rr q' b.length c' i1 :: D)) := H
    refine ldP_of (hpA H 0 rfl rfl) ?_
    refine pbyte_ok (Hp.giveS H) hs hb hi1 (fun d i2 h hd hi2 hd8 H' => ?_) fun i' h hd hi' H' => ?_
    rotate_left
    · have H := Hp.putS H (rdw hs _) H' (rdw hs _)
      exact bad (e := 150) (by unfold sheetPR; rw [hsz]; dsimp only; rw [hd]) (by decide) H
    have H := Hp.putS H (rdw hs _) H' (rdw hs _)
    clear H'
    refine ⟨_, rfl, ?_⟩
    refine stA H 3 rfl rfl rfl fun h H => ?_
    have H : Hp hB [] h (([⟨r2, true, T_page_reader, [.pointer (some ⟨rr, 0, none⟩)]⟩] ++ [⟨r, true, T_api_Errno, [.int .i64 0]⟩, ⟨r1, true, T_api_Sheet, [.int .i64 0, .int .i64 0, .int .i64 0, .int .i64 0]⟩, ⟨r3, true, T_api_Sheet, [.int .i64 (w : Nat), .int .i64 (g : Nat), .int .i64 (d : Nat), .int .i64 0]⟩]) ++ (rdE rr q' b.length c' i2 :: D)) := H
    refine ldI_of (hpA H 3 rfl rfl) ?_
    refine wrong_ok (fun h1 => ?_) fun h1 => ?_
    rotate_left
    · have h1 : ((d : Nat) : Int) > 1 := of_decide_eq_true h1
      exact bad (e := 150) (by unfold sheetPR; rw [hsz]; dsimp only; rw [hd]; dsimp only; rw [if_pos (by omega)]) (by decide) H
    have h1 : ¬ ((d : Nat) : Int) > 1 := of_decide_eq_false h1
    refine ldP_of (hpA H 0 rfl rfl) ?_
    refine place_ok (Hp.giveS H) hs hb hi2 (fun s i3 h hsp hi3 hsM H' => ?_) fun i' h hd2 hi' H' => ?_
    rotate_left
    · have H := Hp.putS H (rdw hs _) H' (rdw hs _)
      exact bad (e := 150) (by unfold sheetPR; rw [hsz]; dsimp only; rw [hd]; dsimp only; rw [if_neg (by omega), hd2]) (by decide) H
    have H := Hp.putS H (rdw hs _) H' (rdw hs _)
    clear H'
    refine ⟨_, rfl, ?_⟩
    refine stA H 3 rfl rfl rfl fun h H => ?_
    have H : Hp hB [] h (([⟨r2, true, T_page_reader, [.pointer (some ⟨rr, 0, none⟩)]⟩] ++ [⟨r, true, T_api_Errno, [.int .i64 0]⟩, ⟨r1, true, T_api_Sheet, [.int .i64 0, .int .i64 0, .int .i64 0, .int .i64 0]⟩, ⟨r3, true, T_api_Sheet, [.int .i64 (w : Nat), .int .i64 (g : Nat), .int .i64 (d : Nat), .int .i64 (s : Nat)]⟩]) ++ (rdE rr q' b.length c' i3 :: D)) := H
    refine ldP_of (hpA H 0 rfl rfl) ?_
    refine rleft_ok (Hp.suf H) hb hi3 ?_
    refine ⟨_, rfl, ?_⟩
    refine wrong_ok (fun h2 => ?_) fun h2 => ?_
    · have h2 : ¬ ((8 * (b.length - i3) : Nat) : Int) > 0 := of_decide_eq_false h2
      refine hK h _ i3 ⟨w, g, d, s, ?_, rfl⟩ ?_
      · unfold sheetPR
        rw [hsz]; dsimp only; rw [hd]; dsimp only; rw [if_neg (by omega), hsp]; dsimp only; rw [if_neg (by omega)]
      · rw [List.append_assoc] at H
        exact Hp.suf H
    · have h2 : ((8 * (b.length - i3) : Nat) : Int) > 0 := of_decide_eq_true h2
      exact bad (e := 150) (by unfold sheetPR; rw [hsz]; dsimp only; rw [hd]; dsimp only; rw [if_neg (by omega), hsp]; dsimp only; rw [if_pos (by omega)]) (by decide) H
  · obtain ⟨w, g, d, s, hsh, rfl⟩ := hp
    have hres : shRes b = (0, w, g, d, s) := by unfold shRes; rw [hsh]
    rw [hres] at hk
    refine ⟨_, rfl, ?_⟩
    refine bcase_false (by rfl) ?_
    repeat first | with_reducible refine ldI_of (by with_unfolding_all first | exact hpA H 0 rfl rfl | exact hpA H 1 rfl rfl | exact Hp.cell H 0 rfl rfl | exact Hp.cell H 1 rfl rfl | exact hpB H 0 rfl rfl | exact hpB H 1 rfl rfl | exact hpC H 0 rfl rfl | exact hpC H 1 rfl rfl) ?_ | with_reducible refine ldS_of (by with_unfolding_all first | exact hpA H 0 rfl rfl | exact hpA H 1 rfl rfl | exact Hp.cell H 0 rfl rfl | exact Hp.cell H 1 rfl rfl | exact hpB H 0 rfl rfl | exact hpB H 1 rfl rfl | exact hpC H 0 rfl rfl | exact hpC H 1 rfl rfl) ?_ | with_reducible refine ldP_of (by with_unfolding_all first | exact hpA H 0 rfl rfl | exact hpA H 1 rfl rfl | exact Hp.cell H 0 rfl rfl | exact Hp.cell H 1 rfl rfl | exact hpB H 0 rfl rfl | exact hpB H 1 rfl rfl | exact hpC H 0 rfl rfl | exact hpC H 1 rfl rfl) ?_ | with_reducible refine ldB_of (by with_unfolding_all first | exact hpA H 0 rfl rfl | exact hpA H 1 rfl rfl | exact Hp.cell H 0 rfl rfl | exact Hp.cell H 1 rfl rfl | exact hpB H 0 rfl rfl | exact hpB H 1 rfl rfl | exact hpC H 0 rfl rfl | exact hpC H 1 rfl rfl) ?_ | with_reducible refine ldT_of (by with_unfolding_all first | exact hpA H 0 rfl rfl | exact hpA H 1 rfl rfl | exact Hp.cell H 0 rfl rfl | exact Hp.cell H 1 rfl rfl | exact hpB H 0 rfl rfl | exact hpB H 1 rfl rfl | exact hpC H 0 rfl rfl | exact hpC H 1 rfl rfl) ?_
    repeat first | with_reducible refine stA H 0 (by with_unfolding_all exact rfl) (by with_unfolding_all exact rfl) (by with_unfolding_all exact rfl) fun h H => ?_ | with_reducible refine st0 H 0 (by with_unfolding_all exact rfl) (by with_unfolding_all exact rfl) (by with_unfolding_all exact rfl) fun h H => ?_ | with_reducible refine stB H 0 (by with_unfolding_all exact rfl) (by with_unfolding_all exact rfl) (by with_unfolding_all exact rfl) fun h H => ?_
    repeat first | with_reducible refine ldI_of (by with_unfolding_all first | exact hpA H 0 rfl rfl | exact Hp.cell H 0 rfl rfl | exact hpB H 0 rfl rfl | exact hpC H 0 rfl rfl) ?_ | with_reducible refine ldS_of (by with_unfolding_all first | exact hpA H 0 rfl rfl | exact Hp.cell H 0 rfl rfl | exact hpB H 0 rfl rfl | exact hpC H 0 rfl rfl) ?_ | with_reducible refine ldP_of (by with_unfolding_all first | exact hpA H 0 rfl rfl | exact Hp.cell H 0 rfl rfl | exact hpB H 0 rfl rfl | exact hpC H 0 rfl rfl) ?_ | with_reducible refine ldB_of (by with_unfolding_all first | exact hpA H 0 rfl rfl | exact Hp.cell H 0 rfl rfl | exact hpB H 0 rfl rfl | exact hpC H 0 rfl rfl) ?_ | with_reducible refine ldT_of (by with_unfolding_all first | exact hpA H 0 rfl rfl | exact Hp.cell H 0 rfl rfl | exact hpB H 0 rfl rfl | exact hpC H 0 rfl rfl) ?_
    exact hk _ H.hext
  · obtain ⟨hsh, he, cs, rfl⟩ := hp
    have hres : shRes b = (e, 0, 0, 0, 0) := by unfold shRes; rw [hsh]
    rw [hres] at hk
    refine ⟨_, rfl, ?_⟩
    refine bcase_ne (fun _ => ?_) fun hh => absurd hh he
    repeat first | with_reducible refine stA H 0 (by with_unfolding_all exact rfl) (by with_unfolding_all exact rfl) (by with_unfolding_all exact rfl) fun h H => ?_ | with_reducible refine st0 H 0 (by with_unfolding_all exact rfl) (by with_unfolding_all exact rfl) (by with_unfolding_all exact rfl) fun h H => ?_ | with_reducible refine stB H 0 (by with_unfolding_all exact rfl) (by with_unfolding_all exact rfl) (by with_unfolding_all exact rfl) fun h H => ?_
    repeat first | with_reducible refine ldI_of (by with_unfolding_all first | exact hpA H 0 rfl rfl | exact Hp.cell H 0 rfl rfl | exact hpB H 0 rfl rfl | exact hpC H 0 rfl rfl) ?_ | with_reducible refine ldS_of (by with_unfolding_all first | exact hpA H 0 rfl rfl | exact Hp.cell H 0 rfl rfl | exact hpB H 0 rfl rfl | exact hpC H 0 rfl rfl) ?_ | with_reducible refine ldP_of (by with_unfolding_all first | exact hpA H 0 rfl rfl | exact Hp.cell H 0 rfl rfl | exact hpB H 0 rfl rfl | exact hpC H 0 rfl rfl) ?_ | with_reducible refine ldB_of (by with_unfolding_all first | exact hpA H 0 rfl rfl | exact Hp.cell H 0 rfl rfl | exact hpB H 0 rfl rfl | exact hpC H 0 rfl rfl) ?_ | with_reducible refine ldT_of (by with_unfolding_all first | exact hpA H 0 rfl rfl | exact Hp.cell H 0 rfl rfl | exact hpB H 0 rfl rfl | exact hpC H 0 rfl rfl) ?_
    exact hk _ H.hext
end
end Go.Bm

/- RfD: refine.run, whatever decides. -/
set_option linter.unusedVariables false
set_option linter.unusedSimpArgs false
namespace Go.Bm
open Go Go.Den Go.Den.YtfaclehehhgpcaaGreat

def PadZ (W X : Nat) (ws : List Nat) : Prop := ∀ y, y < X → ∀ x, W ≤ x → x < 64 * wds W → pix ws (wds W) x y = false
theorem getP_set {W X a b : Nat} {bit : Bool} {ws R : List Nat} (ha : a < W) (hb : b < X) (h : ∀ y, y < X → ∀ x, x < 64 * wds W → pix R (wds W) x y = if y = b ∧ x = a then bit else pix ws (wds W) x y) : getP R W X = upd (getP ws W X) (a : Int) (b : Int) bit := by
  funext x y
  show (decide (0 ≤ x ∧ 0 ≤ y ∧ x < (W : Int) ∧ y < (X : Int)) && pix R (wds W) x.toNat y.toNat) = if x = (a : Int) ∧ y = (b : Int) then bit else (decide (0 ≤ x ∧ 0 ≤ y ∧ x < (W : Int) ∧ y < (X : Int)) && pix ws (wds W) x.toNat y.toNat)
  by_cases h1 : 0 ≤ x ∧ 0 ≤ y ∧ x < W ∧ y < X
  · rw [decide_eq_true h1, Bool.true_and, Bool.true_and, h _ (by omega) _ (by unfold wds; omega)]
    by_cases h2 : x = a ∧ y = b
    · rw [if_pos (by omega), if_pos h2]
    · rw [if_neg (by omega), if_neg h2]
  · rw [decide_eq_false h1, Bool.false_and, Bool.false_and, if_neg (by omega)]
theorem PadZ.set {W X a b : Nat} {bit : Bool} {ws R : List Nat} (hz : PadZ W X ws) (ha : a < W) (h : ∀ y, y < X → ∀ x, x < 64 * wds W → pix R (wds W) x y = if y = b ∧ x = a then bit else pix ws (wds W) x y) : PadZ W X R := fun y hy x h1 h2 => by
  rw [h y hy x h2, if_neg (by omega)]
  exact hz y hy x h1 h2

end Go.Bm

/- ArF: the law ArithKnown, said of memory. -/
set_option linter.unusedVariables false
set_option linter.unusedSimpArgs false
namespace Go.Ar
open Go Go.Den Go.Den.YtfaclehehhgpcaaGreat

theorem row_rdO {h0 h : Heap} {F : List Nat} {L : List Ent} (H : Hp h0 F h L) (k : Nat) {b : Nat} {w : Bool} {t : TypeId} {xs : List Nat} {rest : List Value} (he : L[k]? = some ⟨b, w, t, u8s xs ++ rest⟩) : rdO h (at0 b) (xs.length * 1) (u8s xs) := by
  have h2 := rdO_hp H k (o := 0) (n := xs.length * 1) he (by rw [List.length_append, u8s_length]; omega)
  rw [List.drop_zero, List.take_append_of_le_length (by rw [u8s_length]; omega), List.take_of_length_le (by rw [u8s_length]; omega)] at h2
  exact h2
end Go.Ar

/- ArG: the laws' script in memory; the law ArithReduced, said of memory. -/
set_option linter.unusedVariables false
set_option linter.unusedSimpArgs false
namespace Go.Ar
open Go Go.Den Go.Den.YtfaclehehhgpcaaGreat

/-- A script's decisions can be read. -/
def SV (h : Heap) (q : Option Addr) (len : Nat) : Prop := ∀ i, i < len → ∃ a c b, q = some a ∧ hcell h (a.add (i * 2)) = some (.int .i64 c) ∧ hcell h (a.add (i * 2 + 1)) = some (.int .i64 b)

theorem add_add' (a : Addr) (m n : Nat) : (a.add m).add n = a.add (m + n) := by
  unfold Addr.add
  by_cases h1 : m = 0
  · subst h1; simp
  · by_cases h2 : n = 0
    · subst h2; simp
    · rw [if_neg h1, if_neg h2, if_neg (by omega)]
      simp [Nat.add_assoc]
end Go.Ar

/- Written by gen.py: the conditions of the functions of burinref4. -/
set_option linter.unusedVariables false
set_option linter.unusedSimpArgs false
namespace Go.Den.YtfaclehehhgpcaaGreat
open Go Go.Den

/- burin/burinref4.New -/
/- (*burin/burinref4.Coder).Flush -/
/- burin/burinref4.NewDecoder -/
set_option maxRecDepth 100000 in
def burinref4_NewDecoder (C : CallP) (b : Option Addr) (bn : Nat) (bc : Nat) (contexts : Int) (h : Heap) (K : Value → Heap → Prop) (Kp : List PanicEntry → Heap → Prop) : Prop :=
C F_burinref4_begun #[.int .i64 contexts] h (fun v_1 h_2 =>
∃ (r_3 : Option Addr) (r_3n : Nat) (r_3c : Nat) (r_4 : Option Addr) (r_4n : Nat) (r_4c : Nat) (r_5 : Option Addr) (r_5n : Nat) (r_5c : Nat) (r_6 : Int), v_1 = .agg #[.slice r_3 r_3n r_3c, .slice r_4 r_4n r_4c, .slice r_5 r_5n r_5c, .int .i64 r_6] ∧ (
appC h_2 T_uint8 1 1 [.int .u8 0] none (0) (0) b (bn) fun q_7 q_7n q_7c h_8 =>
newC h_8 [.slice r_3 r_3n r_3c, .slice r_4 r_4n r_4c, .slice r_5 r_5n r_5c, .int .i64 r_6, .int .i64 32768, .int .i64 0, .int .i64 0, .slice q_7 q_7n q_7c, .int .i64 0] T_burinref4_Decoder fun r_9 h_10 =>
C F_burinref4_Decoder_byte #[.pointer (some ⟨r_9, 0, none⟩), .int .i64 0] h_10 (fun v_11 h_12 =>
∃ (r_13 : Int), v_11 = .int .i64 r_13 ∧ (
bindI (shlI .i64 r_13 (16 : Int)) fun z_14 =>
stV h_12 ((⟨r_9, 0, none⟩ : Addr).add 5) (.int .i64 z_14) fun h_15 =>
C F_burinref4_Decoder_in #[.pointer (some ⟨r_9, 0, none⟩)] h_15 (fun v_16 h_17 =>
ldI h_17 ((⟨r_9, 0, none⟩ : Addr).add 5) .i64 fun x_18 =>
bindI (shlI .i64 x_18 (7 : Int)) fun z_19 =>
bindI (bitI .and .i64 z_19 (4294967295 : Int)) fun z_20 =>
stV h_17 ((⟨r_9, 0, none⟩ : Addr).add 5) (.int .i64 z_20) fun h_21 =>
ldI h_21 ((⟨r_9, 0, none⟩ : Addr).add 6) .i64 fun x_22 =>
bindI (IntKind.i64.wrap (x_22 - (7 : Int))) fun z_23 =>
stV h_21 ((⟨r_9, 0, none⟩ : Addr).add 6) (.int .i64 z_23) fun h_24 =>
K (.pointer (some ⟨r_9, 0, none⟩)) h_24) (Kp))) (Kp))) (Kp)

/- burin/burinref4.begun -/
set_option maxRecDepth 100000 in
def burinref4_begun (C : CallP) (contexts : Int) (h : Heap) (K : Value → Heap → Prop) (Kp : List PanicEntry → Heap → Prop) : Prop :=
newC h [.slice none 0 0, .slice none 0 0, .slice none 0 0, .int .i64 0] T_burinref4_side fun r_1 h_2 =>
(
C F_burinref4_table #[] h_2 (fun v_3 h_4 =>
∃ (r_5 : Option Addr) (r_5n : Nat) (r_5c : Nat), v_3 = .slice r_5 r_5n r_5c ∧ (
hext h_2 h_4 ∧ (
(
needs (0 ≤ contexts ∧ contexts ≤ contexts ∧ contexts ≤ 9223372036854775807 ∧ ((8 : Nat) : Int) * contexts ≤ 281474976710656) <|
newC h_4 (repZ [.int .i64 0] contexts.toNat) T_int fun r_6 h_7 =>
needs (0 ≤ contexts ∧ contexts ≤ contexts ∧ contexts ≤ 9223372036854775807 ∧ ((8 : Nat) : Int) * contexts ≤ 281474976710656) <|
newC h_7 (repZ [.int .i64 0] contexts.toNat) T_int fun r_8 h_9 =>
stV h_9 ((⟨r_1, 0, none⟩ : Addr).add 0) (.slice r_5 r_5n r_5c) fun h_10 =>
stV h_10 ((⟨r_1, 0, none⟩ : Addr).add 1) (.slice (some ⟨r_6, 0, none⟩) contexts.toNat contexts.toNat) fun h_11 =>
stV h_11 ((⟨r_1, 0, none⟩ : Addr).add 2) (.slice (some ⟨r_8, 0, none⟩) contexts.toNat contexts.toNat) fun h_12 =>
stV h_12 ((⟨r_1, 0, none⟩ : Addr).add 3) (.int .i64 0) fun h_13 =>
ldS h_13 ((⟨r_1, 0, none⟩ : Addr).add 0) fun r_14 r_14n r_14c =>
ldS h_13 ((⟨r_1, 0, none⟩ : Addr).add 1) fun r_15 r_15n r_15c =>
ldS h_13 ((⟨r_1, 0, none⟩ : Addr).add 2) fun r_16 r_16n r_16c =>
ldI h_13 ((⟨r_1, 0, none⟩ : Addr).add 3) .i64 fun r_17 =>
K (.agg #[.slice r_14 r_14n r_14c, .slice r_15 r_15n r_15c, .slice r_16 r_16n r_16c, .int .i64 r_17]) h_13) ∧ (
needs (0 ≤ contexts ∧ contexts ≤ contexts ∧ contexts ≤ 9223372036854775807 ∧ ((8 : Nat) : Int) * contexts ≤ 281474976710656) <|
newC h_4 (repZ [.int .i64 0] contexts.toNat) T_int fun r_18 h_19 =>
needs (0 ≤ contexts ∧ contexts ≤ contexts ∧ contexts ≤ 9223372036854775807 ∧ ((8 : Nat) : Int) * contexts ≤ 281474976710656) <|
newC h_19 (repZ [.int .i64 0] contexts.toNat) T_int fun r_20 h_21 =>
stV h_21 ((⟨r_1, 0, none⟩ : Addr).add 0) (.slice r_5 r_5n r_5c) fun h_22 =>
stV h_22 ((⟨r_1, 0, none⟩ : Addr).add 1) (.slice (some ⟨r_20, 0, none⟩) contexts.toNat contexts.toNat) fun h_23 =>
stV h_23 ((⟨r_1, 0, none⟩ : Addr).add 2) (.slice (some ⟨r_18, 0, none⟩) contexts.toNat contexts.toNat) fun h_24 =>
stV h_24 ((⟨r_1, 0, none⟩ : Addr).add 3) (.int .i64 0) fun h_25 =>
ldS h_25 ((⟨r_1, 0, none⟩ : Addr).add 0) fun r_26 r_26n r_26c =>
ldS h_25 ((⟨r_1, 0, none⟩ : Addr).add 1) fun r_27 r_27n r_27c =>
ldS h_25 ((⟨r_1, 0, none⟩ : Addr).add 2) fun r_28 r_28n r_28c =>
ldI h_25 ((⟨r_1, 0, none⟩ : Addr).add 3) .i64 fun r_29 =>
K (.agg #[.slice r_26 r_26n r_26c, .slice r_27 r_27n r_27c, .slice r_28 r_28n r_28c, .int .i64 r_29]) h_25)))) (Kp)) ∧ (
(
needs (0 ≤ contexts ∧ contexts ≤ contexts ∧ contexts ≤ 9223372036854775807 ∧ ((8 : Nat) : Int) * contexts ≤ 281474976710656) <|
newC h_2 (repZ [.int .i64 0] contexts.toNat) T_int fun r_30 h_31 =>
(
C F_burinref4_table #[] h_31 (fun v_32 h_33 =>
∃ (r_34 : Option Addr) (r_34n : Nat) (r_34c : Nat), v_32 = .slice r_34 r_34n r_34c ∧ (
hext h_31 h_33 ∧ (
needs (0 ≤ contexts ∧ contexts ≤ contexts ∧ contexts ≤ 9223372036854775807 ∧ ((8 : Nat) : Int) * contexts ≤ 281474976710656) <|
newC h_33 (repZ [.int .i64 0] contexts.toNat) T_int fun r_35 h_36 =>
stV h_36 ((⟨r_1, 0, none⟩ : Addr).add 0) (.slice r_34 r_34n r_34c) fun h_37 =>
stV h_37 ((⟨r_1, 0, none⟩ : Addr).add 1) (.slice (some ⟨r_30, 0, none⟩) contexts.toNat contexts.toNat) fun h_38 =>
stV h_38 ((⟨r_1, 0, none⟩ : Addr).add 2) (.slice (some ⟨r_35, 0, none⟩) contexts.toNat contexts.toNat) fun h_39 =>
stV h_39 ((⟨r_1, 0, none⟩ : Addr).add 3) (.int .i64 0) fun h_40 =>
ldS h_40 ((⟨r_1, 0, none⟩ : Addr).add 0) fun r_41 r_41n r_41c =>
ldS h_40 ((⟨r_1, 0, none⟩ : Addr).add 1) fun r_42 r_42n r_42c =>
ldS h_40 ((⟨r_1, 0, none⟩ : Addr).add 2) fun r_43 r_43n r_43c =>
ldI h_40 ((⟨r_1, 0, none⟩ : Addr).add 3) .i64 fun r_44 =>
K (.agg #[.slice r_41 r_41n r_41c, .slice r_42 r_42n r_42c, .slice r_43 r_43n r_43c, .int .i64 r_44]) h_40))) (Kp)) ∧ (
needs (0 ≤ contexts ∧ contexts ≤ contexts ∧ contexts ≤ 9223372036854775807 ∧ ((8 : Nat) : Int) * contexts ≤ 281474976710656) <|
newC h_31 (repZ [.int .i64 0] contexts.toNat) T_int fun r_45 h_46 =>
C F_burinref4_table #[] h_46 (fun v_47 h_48 =>
∃ (r_49 : Option Addr) (r_49n : Nat) (r_49c : Nat), v_47 = .slice r_49 r_49n r_49c ∧ (
hext h_46 h_48 ∧ (
stV h_48 ((⟨r_1, 0, none⟩ : Addr).add 0) (.slice r_49 r_49n r_49c) fun h_50 =>
stV h_50 ((⟨r_1, 0, none⟩ : Addr).add 1) (.slice (some ⟨r_30, 0, none⟩) contexts.toNat contexts.toNat) fun h_51 =>
stV h_51 ((⟨r_1, 0, none⟩ : Addr).add 2) (.slice (some ⟨r_45, 0, none⟩) contexts.toNat contexts.toNat) fun h_52 =>
stV h_52 ((⟨r_1, 0, none⟩ : Addr).add 3) (.int .i64 0) fun h_53 =>
ldS h_53 ((⟨r_1, 0, none⟩ : Addr).add 0) fun r_54 r_54n r_54c =>
ldS h_53 ((⟨r_1, 0, none⟩ : Addr).add 1) fun r_55 r_55n r_55c =>
ldS h_53 ((⟨r_1, 0, none⟩ : Addr).add 2) fun r_56 r_56n r_56c =>
ldI h_53 ((⟨r_1, 0, none⟩ : Addr).add 3) .i64 fun r_57 =>
K (.agg #[.slice r_54 r_54n r_54c, .slice r_55 r_55n r_55c, .slice r_56 r_56n r_56c, .int .i64 r_57]) h_53))) (Kp))) ∧ (
needs (0 ≤ contexts ∧ contexts ≤ contexts ∧ contexts ≤ 9223372036854775807 ∧ ((8 : Nat) : Int) * contexts ≤ 281474976710656) <|
newC h_2 (repZ [.int .i64 0] contexts.toNat) T_int fun r_58 h_59 =>
(
C F_burinref4_table #[] h_59 (fun v_60 h_61 =>
∃ (r_62 : Option Addr) (r_62n : Nat) (r_62c : Nat), v_60 = .slice r_62 r_62n r_62c ∧ (
hext h_59 h_61 ∧ (
needs (0 ≤ contexts ∧ contexts ≤ contexts ∧ contexts ≤ 9223372036854775807 ∧ ((8 : Nat) : Int) * contexts ≤ 281474976710656) <|
newC h_61 (repZ [.int .i64 0] contexts.toNat) T_int fun r_63 h_64 =>
stV h_64 ((⟨r_1, 0, none⟩ : Addr).add 0) (.slice r_62 r_62n r_62c) fun h_65 =>
stV h_65 ((⟨r_1, 0, none⟩ : Addr).add 1) (.slice (some ⟨r_63, 0, none⟩) contexts.toNat contexts.toNat) fun h_66 =>
stV h_66 ((⟨r_1, 0, none⟩ : Addr).add 2) (.slice (some ⟨r_58, 0, none⟩) contexts.toNat contexts.toNat) fun h_67 =>
stV h_67 ((⟨r_1, 0, none⟩ : Addr).add 3) (.int .i64 0) fun h_68 =>
ldS h_68 ((⟨r_1, 0, none⟩ : Addr).add 0) fun r_69 r_69n r_69c =>
ldS h_68 ((⟨r_1, 0, none⟩ : Addr).add 1) fun r_70 r_70n r_70c =>
ldS h_68 ((⟨r_1, 0, none⟩ : Addr).add 2) fun r_71 r_71n r_71c =>
ldI h_68 ((⟨r_1, 0, none⟩ : Addr).add 3) .i64 fun r_72 =>
K (.agg #[.slice r_69 r_69n r_69c, .slice r_70 r_70n r_70c, .slice r_71 r_71n r_71c, .int .i64 r_72]) h_68))) (Kp)) ∧ (
needs (0 ≤ contexts ∧ contexts ≤ contexts ∧ contexts ≤ 9223372036854775807 ∧ ((8 : Nat) : Int) * contexts ≤ 281474976710656) <|
newC h_59 (repZ [.int .i64 0] contexts.toNat) T_int fun r_73 h_74 =>
C F_burinref4_table #[] h_74 (fun v_75 h_76 =>
∃ (r_77 : Option Addr) (r_77n : Nat) (r_77c : Nat), v_75 = .slice r_77 r_77n r_77c ∧ (
hext h_74 h_76 ∧ (
stV h_76 ((⟨r_1, 0, none⟩ : Addr).add 0) (.slice r_77 r_77n r_77c) fun h_78 =>
stV h_78 ((⟨r_1, 0, none⟩ : Addr).add 1) (.slice (some ⟨r_73, 0, none⟩) contexts.toNat contexts.toNat) fun h_79 =>
stV h_79 ((⟨r_1, 0, none⟩ : Addr).add 2) (.slice (some ⟨r_58, 0, none⟩) contexts.toNat contexts.toNat) fun h_80 =>
stV h_80 ((⟨r_1, 0, none⟩ : Addr).add 3) (.int .i64 0) fun h_81 =>
ldS h_81 ((⟨r_1, 0, none⟩ : Addr).add 0) fun r_82 r_82n r_82c =>
ldS h_81 ((⟨r_1, 0, none⟩ : Addr).add 1) fun r_83 r_83n r_83c =>
ldS h_81 ((⟨r_1, 0, none⟩ : Addr).add 2) fun r_84 r_84n r_84c =>
ldI h_81 ((⟨r_1, 0, none⟩ : Addr).add 3) .i64 fun r_85 =>
K (.agg #[.slice r_82 r_82n r_82c, .slice r_83 r_83n r_83c, .slice r_84 r_84n r_84c, .int .i64 r_85]) h_81))) (Kp))))

/- (*burin/burinref4.Coder).Put -/
/- (*burin/burinref4.Coder).out -/
/- (*burin/burinref4.Decoder).byte -/
set_option maxRecDepth 100000 in
def burinref4_Decoder_byte (C : CallP) (d : Option Addr) (atv : Int) (h : Heap) (K : Value → Heap → Prop) (Kp : List PanicEntry → Heap → Prop) : Prop :=
ptr d fun a_1 =>
ldS h (a_1.add 7) fun x_2 x_2n x_2c =>
bcase (decide (atv < (x_2n : Int))) (
ptr d fun a_3 =>
ldS h (a_3.add 7) fun x_4 x_4n x_4c =>
needs (0 ≤ atv ∧ atv < (x_4n : Int)) <|
ptr x_4 fun a_5 =>
ldI h (a_5.add (atv.toNat * 1)) .u8 fun x_6 =>
bindI (IntKind.i64.wrap x_6) fun z_7 =>
K (.int .i64 z_7) h) <|
K (.int .i64 255) h

/- (*burin/burinref4.Decoder).in -/
set_option maxRecDepth 100000 in
def burinref4_Decoder_in (C : CallP) (a0 : Option Addr) (h : Heap) (K : Value → Heap → Prop) (Kp : List PanicEntry → Heap → Prop) : Prop :=
ptr a0 fun a_1 =>
ldI h (a_1.add 8) .i64 fun x_2 =>
C F_burinref4_Decoder_byte #[.pointer a0, .int .i64 x_2] h (fun v_3 h_4 =>
∃ (r_5 : Int), v_3 = .int .i64 r_5 ∧ (
bcase (r_5 == (255 : Int)) (
ptr a0 fun a_6 =>
ldI h_4 (a_6.add 8) .i64 fun x_7 =>
bindI (IntKind.i64.wrap (x_7 + (1 : Int))) fun z_8 =>
C F_burinref4_Decoder_byte #[.pointer a0, .int .i64 z_8] h_4 (fun v_9 h_10 =>
∃ (r_11 : Int), v_9 = .int .i64 r_11 ∧ (
bcase (decide (r_11 > (143 : Int))) (
ptr a0 fun a_12 =>
ldI h_10 (a_12.add 5) .i64 fun x_13 =>
bindI (IntKind.i64.wrap (x_13 + (65280 : Int))) fun z_14 =>
ptr a0 fun a_15 =>
stV h_10 (a_15.add 5) (.int .i64 z_14) fun h_16 =>
ptr a0 fun a_17 =>
stV h_16 (a_17.add 6) (.int .i64 8) fun h_18 =>
ptr a0 fun a_19 =>
ldI h_18 (a_19.add 5) .i64 fun x_20 =>
bindI (bitI .and .i64 x_20 (4294967295 : Int)) fun z_21 =>
ptr a0 fun a_22 =>
stV h_18 (a_22.add 5) (.int .i64 z_21) fun h_23 =>
K (.tuple #[]) h_23) <|
ptr a0 fun a_24 =>
ldI h_10 (a_24.add 8) .i64 fun x_25 =>
bindI (IntKind.i64.wrap (x_25 + (1 : Int))) fun z_26 =>
ptr a0 fun a_27 =>
stV h_10 (a_27.add 8) (.int .i64 z_26) fun h_28 =>
ptr a0 fun a_29 =>
ldI h_28 (a_29.add 5) .i64 fun x_30 =>
bindI (shlI .i64 r_11 (9 : Int)) fun z_31 =>
bindI (IntKind.i64.wrap (x_30 + z_31)) fun z_32 =>
ptr a0 fun a_33 =>
stV h_28 (a_33.add 5) (.int .i64 z_32) fun h_34 =>
ptr a0 fun a_35 =>
stV h_34 (a_35.add 6) (.int .i64 7) fun h_36 =>
ptr a0 fun a_37 =>
ldI h_36 (a_37.add 5) .i64 fun x_38 =>
bindI (bitI .and .i64 x_38 (4294967295 : Int)) fun z_39 =>
ptr a0 fun a_40 =>
stV h_36 (a_40.add 5) (.int .i64 z_39) fun h_41 =>
K (.tuple #[]) h_41)) (Kp)) <|
ptr a0 fun a_42 =>
ldI h_4 (a_42.add 8) .i64 fun x_43 =>
bindI (IntKind.i64.wrap (x_43 + (1 : Int))) fun z_44 =>
ptr a0 fun a_45 =>
stV h_4 (a_45.add 8) (.int .i64 z_44) fun h_46 =>
ptr a0 fun a_47 =>
ptr a0 fun a_48 =>
ldI h_46 (a_47.add 5) .i64 fun x_49 =>
ldI h_46 (a_48.add 8) .i64 fun x_50 =>
C F_burinref4_Decoder_byte #[.pointer a0, .int .i64 x_50] h_46 (fun v_51 h_52 =>
∃ (r_53 : Int), v_51 = .int .i64 r_53 ∧ (
hext h_46 h_52 ∧ (
bindI (shlI .i64 r_53 (8 : Int)) fun z_54 =>
bindI (IntKind.i64.wrap (x_49 + z_54)) fun z_55 =>
ptr a0 fun a_56 =>
stV h_52 (a_56.add 5) (.int .i64 z_55) fun h_57 =>
ptr a0 fun a_58 =>
stV h_57 (a_58.add 6) (.int .i64 8) fun h_59 =>
ptr a0 fun a_60 =>
ldI h_59 (a_60.add 5) .i64 fun x_61 =>
bindI (bitI .and .i64 x_61 (4294967295 : Int)) fun z_62 =>
ptr a0 fun a_63 =>
stV h_59 (a_63.add 5) (.int .i64 z_62) fun h_64 =>
K (.tuple #[]) h_64))) (Kp))) (Kp)

/- (*burin/burinref4.Decoder).Get -/
set_option maxRecDepth 100000 in
def burinref4_Decoder_Get (C : CallP) (a0 : Option Addr) (a1 : Int) (h : Heap) (K : Value → Heap → Prop) (Kp : List PanicEntry → Heap → Prop) : Prop :=
ptr a0 fun a_1 =>
ldI h ((a_1.add 0).add 3) .i64 fun x_2 =>
bcase (x_2 == (16777216 : Int)) (
K (.tuple #[.int .i64 0, .int .i64 41]) h) <|
ptr a0 fun a_3 =>
ldI h ((a_3.add 0).add 3) .i64 fun x_4 =>
bindI (IntKind.i64.wrap (x_4 + (1 : Int))) fun z_5 =>
ptr a0 fun a_6 =>
stV h ((a_6.add 0).add 3) (.int .i64 z_5) fun h_7 =>
ptr a0 fun a_8 =>
C F_burinref4_side_Index #[.pointer (some (a_8.add 0)), .int .i64 a1] h_7 (fun v_9 h_10 =>
∃ (r_11 : Int), v_9 = .int .i64 r_11 ∧ (
ptr a0 fun a_12 =>
ptr a0 fun a_13 =>
ldS h_10 ((a_12.add 0).add 0) fun x_14 x_14n x_14c =>
ldS h_10 ((a_13.add 0).add 1) fun x_15 x_15n x_15c =>
needs (0 ≤ r_11 ∧ r_11 < (x_15n : Int)) <|
ptr x_15 fun a_16 =>
ldI h_10 (a_16.add (r_11.toNat * 1)) .i64 fun x_17 =>
needs (0 ≤ x_17 ∧ x_17 < (x_14n : Int)) <|
ptr x_14 fun a_18 =>
ldI h_10 ((a_18.add (x_17.toNat * 4)).add 0) .i64 fun x_19 =>
ptr a0 fun a_20 =>
ldS h_10 ((a_20.add 0).add 2) fun x_21 x_21n x_21c =>
needs (0 ≤ r_11 ∧ r_11 < (x_21n : Int)) <|
ptr x_21 fun a_22 =>
ldI h_10 (a_22.add (r_11.toNat * 1)) .i64 fun x_23 =>
ptr a0 fun a_24 =>
ldI h_10 (a_24.add 4) .i64 fun x_25 =>
bindI (IntKind.i64.wrap (x_25 - x_19)) fun z_26 =>
ptr a0 fun a_27 =>
stV h_10 (a_27.add 4) (.int .i64 z_26) fun h_28 =>
ptr a0 fun a_29 =>
ldI h_28 (a_29.add 5) .i64 fun x_30 =>
bindI (shrI .i64 x_30 (16 : Int)) fun z_31 =>
bcase (decide (z_31 < x_19)) (
∃ K_32 : List Value → Heap → Prop, (
ptr a0 fun a_35 =>
ldI h_28 (a_35.add 4) .i64 fun x_36 =>
bcase (decide (x_36 < x_19)) (
ptr a0 fun a_37 =>
C F_burinref4_side_likely #[.pointer (some (a_37.add 0)), .int .i64 r_11] h_28 (fun v_38 h_39 =>
K_32 [.int .i64 x_23] h_39) (Kp)) <|
bindI (IntKind.i64.wrap ((1 : Int) - x_23)) fun z_40 =>
ptr a0 fun a_41 =>
C F_burinref4_side_other #[.pointer (some (a_41.add 0)), .int .i64 r_11] h_28 (fun v_42 h_43 =>
K_32 [.int .i64 z_40] h_43) (Kp)) ∧ ∀ (h_33 : Heap) (u_34 : Nat → Value) (x_44 : Int), K_32 [.int .i64 x_44] h_33 → (
ptr a0 fun a_45 =>
stV h_33 (a_45.add 4) (.int .i64 x_19) fun h_46 =>
C F_burinref4_Decoder_renew #[.pointer a0] h_46 (fun v_47 h_48 =>
K (.tuple #[.int .i64 x_44, .int .i64 0]) h_48) (Kp))) <|
ptr a0 fun a_49 =>
ldI h_28 (a_49.add 5) .i64 fun x_50 =>
bindI (shlI .i64 x_19 (16 : Int)) fun z_51 =>
bindI (IntKind.i64.wrap (x_50 - z_51)) fun z_52 =>
ptr a0 fun a_53 =>
stV h_28 (a_53.add 5) (.int .i64 z_52) fun h_54 =>
ptr a0 fun a_55 =>
ldI h_54 (a_55.add 4) .i64 fun x_56 =>
bcase (decide (x_56 ≥ (32768 : Int))) (
K (.tuple #[.int .i64 x_23, .int .i64 0]) h_54) <|
ptr a0 fun a_57 =>
ldI h_54 (a_57.add 4) .i64 fun x_58 =>
bcase (decide (x_58 < x_19)) (
bindI (IntKind.i64.wrap ((1 : Int) - x_23)) fun z_59 =>
ptr a0 fun a_60 =>
C F_burinref4_side_other #[.pointer (some (a_60.add 0)), .int .i64 r_11] h_54 (fun v_61 h_62 =>
C F_burinref4_Decoder_renew #[.pointer a0] h_62 (fun v_63 h_64 =>
K (.tuple #[.int .i64 z_59, .int .i64 0]) h_64) (Kp)) (Kp)) <|
ptr a0 fun a_65 =>
C F_burinref4_side_likely #[.pointer (some (a_65.add 0)), .int .i64 r_11] h_54 (fun v_66 h_67 =>
C F_burinref4_Decoder_renew #[.pointer a0] h_67 (fun v_68 h_69 =>
K (.tuple #[.int .i64 x_23, .int .i64 0]) h_69) (Kp)) (Kp))) (Kp)

/- burin/burinref4.table -/
set_option maxRecDepth 100000 in
def burinref4_table (C : CallP)  (h : Heap) (K : Value → Heap → Prop) (Kp : List PanicEntry → Heap → Prop) : Prop :=
∃ J_1 : Nat → List Value → Heap → Prop, (∃ n_3, J_1 n_3 [.slice none 0 0, .int .i64 0] h) ∧ ∀ (n_3 : Nat) (h_4 : Heap) (u_5 : Nat → Value) (t_6 : Option Addr) (t_6n : Nat) (t_6c : Nat) (i_7 : Int), J_1 n_3 [.slice t_6 t_6n t_6c, .int .i64 i_7] h_4 → (
bcase (decide (i_7 < (47 : Int))) (
C F_burinref4_row #[.int .i64 i_7] h_4 (fun v_8 h_9 =>
∃ (r_10 : Int) (r_11 : Int) (r_12 : Int) (r_13 : Bool), v_8 = .agg #[.int .i64 r_10, .int .i64 r_11, .int .i64 r_12, .bool r_13] ∧ (
newC h_9 [.int .i64 r_10, .int .i64 r_11, .int .i64 r_12, .bool r_13] T_burinref4_Row fun r_14 h_15 =>
appC h_15 T_burinref4_Row 4 32 [.int .i64 0, .int .i64 0, .int .i64 0, .bool false] t_6 (t_6n) (t_6c) (some ⟨r_14, 0, none⟩) (1) fun q_16 q_16n q_16c h_17 =>
bindI (IntKind.i64.wrap (i_7 + (1 : Int))) fun z_18 =>
∃ m_2, m_2 < n_3 ∧ J_1 m_2 [.slice q_16 q_16n q_16c, .int .i64 z_18] h_17)) (Kp)) <|
K (.slice t_6 t_6n t_6c) h_4)

/- (*burin/burinref4.side).Index -/
set_option maxRecDepth 100000 in
def burinref4_side_Index (C : CallP) (s : Option Addr) (context : Int) (h : Heap) (K : Value → Heap → Prop) (Kp : List PanicEntry → Heap → Prop) : Prop :=
ptr s fun a_1 =>
ldS h (a_1.add 1) fun x_2 x_2n x_2c =>
needs (IntKind.i64 = IntKind.i64 ∧ (x_2n : Int) ≠ 0) <|
bindI (context.tmod (x_2n : Int)) fun z_3 =>
bcase (decide (z_3 < (0 : Int))) (
ptr s fun a_4 =>
ldS h (a_4.add 1) fun x_5 x_5n x_5c =>
bindI (IntKind.i64.wrap (z_3 + (x_5n : Int))) fun z_6 =>
K (.int .i64 z_6) h) <|
K (.int .i64 z_3) h

/- (*burin/burinref4.side).likely -/
set_option maxRecDepth 100000 in
def burinref4_side_likely (C : CallP) (s : Option Addr) (k : Int) (h : Heap) (K : Value → Heap → Prop) (Kp : List PanicEntry → Heap → Prop) : Prop :=
ptr s fun a_1 =>
ptr s fun a_2 =>
ptr s fun a_3 =>
ldS h (a_1.add 1) fun x_4 x_4n x_4c =>
ldS h (a_2.add 0) fun x_5 x_5n x_5c =>
ldS h (a_3.add 1) fun x_6 x_6n x_6c =>
needs (0 ≤ k ∧ k < (x_6n : Int)) <|
ptr x_6 fun a_7 =>
ldI h (a_7.add (k.toNat * 1)) .i64 fun x_8 =>
needs (0 ≤ x_8 ∧ x_8 < (x_5n : Int)) <|
ptr x_5 fun a_9 =>
ldI h ((a_9.add (x_8.toNat * 4)).add 1) .i64 fun x_10 =>
needs (0 ≤ k ∧ k < (x_4n : Int)) <|
ptr x_4 fun a_11 =>
stV h (a_11.add (k.toNat * 1)) (.int .i64 x_10) fun h_12 =>
K (.tuple #[]) h_12

/- (*burin/burinref4.side).other -/
set_option maxRecDepth 100000 in
def burinref4_side_other (C : CallP) (s : Option Addr) (k : Int) (h : Heap) (K : Value → Heap → Prop) (Kp : List PanicEntry → Heap → Prop) : Prop :=
ptr s fun a_1 =>
ptr s fun a_2 =>
ldS h (a_1.add 0) fun x_3 x_3n x_3c =>
ldS h (a_2.add 1) fun x_4 x_4n x_4c =>
needs (0 ≤ k ∧ k < (x_4n : Int)) <|
ptr x_4 fun a_5 =>
ldI h (a_5.add (k.toNat * 1)) .i64 fun x_6 =>
needs (0 ≤ x_6 ∧ x_6 < (x_3n : Int)) <|
ptr x_3 fun a_7 =>
ldI h ((a_7.add (x_6.toNat * 4)).add 0) .i64 fun x_8 =>
ldI h ((a_7.add (x_6.toNat * 4)).add 1) .i64 fun x_9 =>
ldI h ((a_7.add (x_6.toNat * 4)).add 2) .i64 fun x_10 =>
ldB h ((a_7.add (x_6.toNat * 4)).add 3) fun x_11 =>
newC h [.int .i64 0, .int .i64 0, .int .i64 0, .bool false] T_burinref4_Row fun r_12 h_13 =>
stV h_13 ((⟨r_12, 0, none⟩ : Addr).add 0) (.int .i64 x_8) fun h_14 =>
stV h_14 ((⟨r_12, 0, none⟩ : Addr).add 1) (.int .i64 x_9) fun h_15 =>
stV h_15 ((⟨r_12, 0, none⟩ : Addr).add 2) (.int .i64 x_10) fun h_16 =>
stV h_16 ((⟨r_12, 0, none⟩ : Addr).add 3) (.bool x_11) fun h_17 =>
ldB h_17 ((⟨r_12, 0, none⟩ : Addr).add 3) fun x_18 =>
bcase x_18 (
ptr s fun a_19 =>
ptr s fun a_20 =>
ldS h_17 (a_19.add 2) fun x_21 x_21n x_21c =>
ldS h_17 (a_20.add 2) fun x_22 x_22n x_22c =>
needs (0 ≤ k ∧ k < (x_22n : Int)) <|
ptr x_22 fun a_23 =>
ldI h_17 (a_23.add (k.toNat * 1)) .i64 fun x_24 =>
bindI (IntKind.i64.wrap ((1 : Int) - x_24)) fun z_25 =>
needs (0 ≤ k ∧ k < (x_21n : Int)) <|
ptr x_21 fun a_26 =>
stV h_17 (a_26.add (k.toNat * 1)) (.int .i64 z_25) fun h_27 =>
ptr s fun a_28 =>
ldS h_27 (a_28.add 1) fun x_29 x_29n x_29c =>
ldI h_27 ((⟨r_12, 0, none⟩ : Addr).add 2) .i64 fun x_30 =>
needs (0 ≤ k ∧ k < (x_29n : Int)) <|
ptr x_29 fun a_31 =>
stV h_27 (a_31.add (k.toNat * 1)) (.int .i64 x_30) fun h_32 =>
K (.tuple #[]) h_32) <|
ptr s fun a_33 =>
ldS h_17 (a_33.add 1) fun x_34 x_34n x_34c =>
ldI h_17 ((⟨r_12, 0, none⟩ : Addr).add 2) .i64 fun x_35 =>
needs (0 ≤ k ∧ k < (x_34n : Int)) <|
ptr x_34 fun a_36 =>
stV h_17 (a_36.add (k.toNat * 1)) (.int .i64 x_35) fun h_37 =>
K (.tuple #[]) h_37

/- (*burin/burinref4.Coder).renew -/
/- (*burin/burinref4.Decoder).renew -/
set_option maxRecDepth 100000 in
def burinref4_Decoder_renew (C : CallP) (d : Option Addr) (h : Heap) (K : Value → Heap → Prop) (Kp : List PanicEntry → Heap → Prop) : Prop :=
∃ J_1 : Nat → List Value → Heap → Prop, (∃ n_3, J_1 n_3 [.bool true] h) ∧ ∀ (n_3 : Nat) (h_4 : Heap) (u_5 : Nat → Value) (first_6 : Bool), J_1 n_3 [.bool first_6] h_4 → (
∃ K_7 : List Value → Heap → Prop, (
bcase first_6 (
K_7 [] h_4) <|
ptr d fun a_10 =>
ldI h_4 (a_10.add 4) .i64 fun x_11 =>
bcase (decide (x_11 < (32768 : Int))) (
K_7 [] h_4) <|
K (.tuple #[]) h_4) ∧ ∀ (h_8 : Heap) (u_9 : Nat → Value) , K_7 [] h_8 → (
∃ K_12 : List Value → Heap → Prop, (
ptr d fun a_15 =>
ldI h_8 (a_15.add 6) .i64 fun x_16 =>
bcase (x_16 == (0 : Int)) (
C F_burinref4_Decoder_in #[.pointer d] h_8 (fun v_17 h_18 =>
K_12 [] h_18) (Kp)) <|
K_12 [] h_8) ∧ ∀ (h_13 : Heap) (u_14 : Nat → Value) , K_12 [] h_13 → (
ptr d fun a_19 =>
ldI h_13 (a_19.add 4) .i64 fun x_20 =>
bindI (IntKind.i64.wrap ((2 : Int) * x_20)) fun z_21 =>
ptr d fun a_22 =>
stV h_13 (a_22.add 4) (.int .i64 z_21) fun h_23 =>
ptr d fun a_24 =>
ldI h_23 (a_24.add 5) .i64 fun x_25 =>
bindI (IntKind.i64.wrap ((2 : Int) * x_25)) fun z_26 =>
bindI (bitI .and .i64 z_26 (4294967295 : Int)) fun z_27 =>
ptr d fun a_28 =>
stV h_23 (a_28.add 5) (.int .i64 z_27) fun h_29 =>
ptr d fun a_30 =>
ldI h_29 (a_30.add 6) .i64 fun x_31 =>
bindI (IntKind.i64.wrap (x_31 - (1 : Int))) fun z_32 =>
ptr d fun a_33 =>
stV h_29 (a_33.add 6) (.int .i64 z_32) fun h_34 =>
∃ m_2, m_2 < n_3 ∧ J_1 m_2 [.bool false] h_34)))

/- burin/burinref4.row -/
set_option maxRecDepth 100000 in
def burinref4_row (C : CallP) (n : Int) (h : Heap) (K : Value → Heap → Prop) (Kp : List PanicEntry → Heap → Prop) : Prop :=
newC h [.int .i64 0, .int .i64 0, .int .i64 0, .bool false] T_burinref4_Row fun r_1 h_2 =>
newC h_2 [.int .i64 22017, .int .i64 13313, .int .i64 6145, .int .i64 2753, .int .i64 1313, .int .i64 545, .int .i64 22017, .int .i64 21505, .int .i64 18433, .int .i64 14337, .int .i64 12289, .int .i64 9217, .int .i64 7169, .int .i64 5633, .int .i64 22017, .int .i64 21505, .int .i64 20737, .int .i64 18433, .int .i64 14337, .int .i64 13313, .int .i64 12289, .int .i64 10241, .int .i64 9217, .int .i64 8705, .int .i64 7169, .int .i64 6145, .int .i64 5633, .int .i64 5121, .int .i64 4609, .int .i64 4353, .int .i64 2753, .int .i64 2497, .int .i64 2209, .int .i64 1313, .int .i64 1089, .int .i64 673, .int .i64 545, .int .i64 321, .int .i64 273, .int .i64 133, .int .i64 73, .int .i64 37, .int .i64 21, .int .i64 9, .int .i64 5, .int .i64 1, .int .i64 22017] T_int fun r_3 h_4 =>
newC h_4 [.int .i64 1, .int .i64 2, .int .i64 3, .int .i64 4, .int .i64 5, .int .i64 38, .int .i64 7, .int .i64 8, .int .i64 9, .int .i64 10, .int .i64 11, .int .i64 12, .int .i64 13, .int .i64 29, .int .i64 15, .int .i64 16, .int .i64 17, .int .i64 18, .int .i64 19, .int .i64 20, .int .i64 21, .int .i64 22, .int .i64 23, .int .i64 24, .int .i64 25, .int .i64 26, .int .i64 27, .int .i64 28, .int .i64 29, .int .i64 30, .int .i64 31, .int .i64 32, .int .i64 33, .int .i64 34, .int .i64 35, .int .i64 36, .int .i64 37, .int .i64 38, .int .i64 39, .int .i64 40, .int .i64 41, .int .i64 42, .int .i64 43, .int .i64 44, .int .i64 45, .int .i64 45, .int .i64 46] T_int fun r_5 h_6 =>
newC h_6 [.int .i64 1, .int .i64 6, .int .i64 9, .int .i64 12, .int .i64 29, .int .i64 33, .int .i64 6, .int .i64 14, .int .i64 14, .int .i64 14, .int .i64 17, .int .i64 18, .int .i64 20, .int .i64 21, .int .i64 14, .int .i64 14, .int .i64 15, .int .i64 16, .int .i64 17, .int .i64 18, .int .i64 19, .int .i64 19, .int .i64 20, .int .i64 21, .int .i64 22, .int .i64 23, .int .i64 24, .int .i64 25, .int .i64 26, .int .i64 27, .int .i64 28, .int .i64 29, .int .i64 30, .int .i64 31, .int .i64 32, .int .i64 33, .int .i64 34, .int .i64 35, .int .i64 36, .int .i64 37, .int .i64 38, .int .i64 39, .int .i64 40, .int .i64 41, .int .i64 42, .int .i64 43, .int .i64 46] T_int fun r_7 h_8 =>
needs (0 ≤ n ∧ n < ((47 : Nat) : Int)) <|
needs (0 ≤ n ∧ n < ((47 : Nat) : Int)) <|
needs (0 ≤ n ∧ n < ((47 : Nat) : Int)) <|
bcase (n == (0 : Int)) (
ldI h_8 ((⟨r_3, 0, none⟩ : Addr).add (n.toNat * 1)) .i64 fun x_9 =>
ldI h_8 ((⟨r_5, 0, none⟩ : Addr).add (n.toNat * 1)) .i64 fun x_10 =>
ldI h_8 ((⟨r_7, 0, none⟩ : Addr).add (n.toNat * 1)) .i64 fun x_11 =>
stV h_8 ((⟨r_1, 0, none⟩ : Addr).add 0) (.int .i64 x_9) fun h_12 =>
stV h_12 ((⟨r_1, 0, none⟩ : Addr).add 1) (.int .i64 x_10) fun h_13 =>
stV h_13 ((⟨r_1, 0, none⟩ : Addr).add 2) (.int .i64 x_11) fun h_14 =>
stV h_14 ((⟨r_1, 0, none⟩ : Addr).add 3) (.bool true) fun h_15 =>
ldI h_15 ((⟨r_1, 0, none⟩ : Addr).add 0) .i64 fun r_16 =>
ldI h_15 ((⟨r_1, 0, none⟩ : Addr).add 1) .i64 fun r_17 =>
ldI h_15 ((⟨r_1, 0, none⟩ : Addr).add 2) .i64 fun r_18 =>
ldB h_15 ((⟨r_1, 0, none⟩ : Addr).add 3) fun r_19 =>
K (.agg #[.int .i64 r_16, .int .i64 r_17, .int .i64 r_18, .bool r_19]) h_15) <|
bcase (n == (6 : Int)) (
ldI h_8 ((⟨r_3, 0, none⟩ : Addr).add (n.toNat * 1)) .i64 fun x_20 =>
ldI h_8 ((⟨r_5, 0, none⟩ : Addr).add (n.toNat * 1)) .i64 fun x_21 =>
ldI h_8 ((⟨r_7, 0, none⟩ : Addr).add (n.toNat * 1)) .i64 fun x_22 =>
stV h_8 ((⟨r_1, 0, none⟩ : Addr).add 0) (.int .i64 x_20) fun h_23 =>
stV h_23 ((⟨r_1, 0, none⟩ : Addr).add 1) (.int .i64 x_21) fun h_24 =>
stV h_24 ((⟨r_1, 0, none⟩ : Addr).add 2) (.int .i64 x_22) fun h_25 =>
stV h_25 ((⟨r_1, 0, none⟩ : Addr).add 3) (.bool true) fun h_26 =>
ldI h_26 ((⟨r_1, 0, none⟩ : Addr).add 0) .i64 fun r_27 =>
ldI h_26 ((⟨r_1, 0, none⟩ : Addr).add 1) .i64 fun r_28 =>
ldI h_26 ((⟨r_1, 0, none⟩ : Addr).add 2) .i64 fun r_29 =>
ldB h_26 ((⟨r_1, 0, none⟩ : Addr).add 3) fun r_30 =>
K (.agg #[.int .i64 r_27, .int .i64 r_28, .int .i64 r_29, .bool r_30]) h_26) <|
ldI h_8 ((⟨r_3, 0, none⟩ : Addr).add (n.toNat * 1)) .i64 fun x_31 =>
ldI h_8 ((⟨r_5, 0, none⟩ : Addr).add (n.toNat * 1)) .i64 fun x_32 =>
ldI h_8 ((⟨r_7, 0, none⟩ : Addr).add (n.toNat * 1)) .i64 fun x_33 =>
stV h_8 ((⟨r_1, 0, none⟩ : Addr).add 0) (.int .i64 x_31) fun h_34 =>
stV h_34 ((⟨r_1, 0, none⟩ : Addr).add 1) (.int .i64 x_32) fun h_35 =>
stV h_35 ((⟨r_1, 0, none⟩ : Addr).add 2) (.int .i64 x_33) fun h_36 =>
stV h_36 ((⟨r_1, 0, none⟩ : Addr).add 3) (.bool (n == (14 : Int))) fun h_37 =>
ldI h_37 ((⟨r_1, 0, none⟩ : Addr).add 0) .i64 fun r_38 =>
ldI h_37 ((⟨r_1, 0, none⟩ : Addr).add 1) .i64 fun r_39 =>
ldI h_37 ((⟨r_1, 0, none⟩ : Addr).add 2) .i64 fun r_40 =>
ldB h_37 ((⟨r_1, 0, none⟩ : Addr).add 3) fun r_41 =>
K (.agg #[.int .i64 r_38, .int .i64 r_39, .int .i64 r_40, .bool r_41]) h_37

end Go.Den.YtfaclehehhgpcaaGreat

/- Written by gen.py: each condition of the functions of burinref4 is the one of its body; so it is enough for its call. -/
set_option linter.unusedVariables false
set_option linter.unusedSimpArgs false
namespace Go.Den.YtfaclehehhgpcaaGreat
open Go Go.Den

noncomputable def hints_burinref4_NewDecoder : Hints := Hints.mk (fun i => none)
  (fun i => none)
  (fun i => none) []
set_option maxRecDepth 100000 in
theorem eq_burinref4_NewDecoder (C : CallP) (b : Option Addr) (bn : Nat) (bc : Nat) (contexts : Int) (h : Heap) (K : Value → Heap → Prop) (Kp : List PanicEntry → Heap → Prop) :
    fnD Go.Proofs.Tryz.prog C hints_burinref4_NewDecoder Go.Proofs.Tryz.f116 [.slice b bn bc, .int .i64 contexts] h K Kp = burinref4_NewDecoder C b bn bc contexts h K Kp := by kernel_rfl

theorem call_burinref4_NewDecoder {b : Option Addr} {bn : Nat} {bc : Nat} {contexts : Int} {h : Heap} {K : Value → Heap → Prop} {Kp : List PanicEntry → Heap → Prop} (H : burinref4_NewDecoder (CallsHP Go.Proofs.Tryz.prog) b bn bc contexts h K Kp) : CallsHP Go.Proofs.Tryz.prog F_burinref4_NewDecoder #[.slice b bn bc, .int .i64 contexts] h K Kp :=
  callsHP_of hints_burinref4_NewDecoder (by kernel_rfl) Go.Proofs.Tryz.func116 (by kernel_rfl) (by rw [eq_burinref4_NewDecoder]; exact H)

noncomputable def hints_burinref4_begun : Hints := Hints.mk (fun i => bif Nat.beq i 1 then some ([6], .take 1 <| .take 3 <| .alt 0 (.alt 2 (.go 4 <| .take 5 <| .bar 6 [] <| .done) <| .go 4 <| .go 2 <| .take 5 <| .bar 6 [] <| .done) <| .alt 2 (.alt 0 (.go 4 <| .take 5 <| .bar 6 [] <| .done) <| .go 4 <| .go 0 <| .take 5 <| .bar 6 [] <| .done) <| .go 4 <| .alt 0 (.go 2 <| .take 5 <| .bar 6 [] <| .done) <| .go 2 <| .go 0 <| .take 5 <| .bar 6 [] <| .done) else (none))
  (fun i => none)
  (fun i => none) []
set_option maxRecDepth 100000 in
theorem eq_burinref4_begun (C : CallP) (contexts : Int) (h : Heap) (K : Value → Heap → Prop) (Kp : List PanicEntry → Heap → Prop) :
    fnD Go.Proofs.Tryz.prog C hints_burinref4_begun Go.Proofs.Tryz.f146 [.int .i64 contexts] h K Kp = burinref4_begun C contexts h K Kp := by kernel_rfl

theorem call_burinref4_begun {contexts : Int} {h : Heap} {K : Value → Heap → Prop} {Kp : List PanicEntry → Heap → Prop} (H : burinref4_begun (CallsHP Go.Proofs.Tryz.prog) contexts h K Kp) : CallsHP Go.Proofs.Tryz.prog F_burinref4_begun #[.int .i64 contexts] h K Kp :=
  callsHP_of hints_burinref4_begun (by kernel_rfl) Go.Proofs.Tryz.func146 (by kernel_rfl) (by rw [eq_burinref4_begun]; exact H)

noncomputable def hints_burinref4_Decoder_byte : Hints := Hints.mk (fun i => none)
  (fun i => none)
  (fun i => none) []
set_option maxRecDepth 100000 in
theorem eq_burinref4_Decoder_byte (C : CallP) (d : Option Addr) (atv : Int) (h : Heap) (K : Value → Heap → Prop) (Kp : List PanicEntry → Heap → Prop) :
    fnD Go.Proofs.Tryz.prog C hints_burinref4_Decoder_byte Go.Proofs.Tryz.f165 [.pointer d, .int .i64 atv] h K Kp = burinref4_Decoder_byte C d atv h K Kp := by kernel_rfl

theorem call_burinref4_Decoder_byte {d : Option Addr} {atv : Int} {h : Heap} {K : Value → Heap → Prop} {Kp : List PanicEntry → Heap → Prop} (H : burinref4_Decoder_byte (CallsHP Go.Proofs.Tryz.prog) d atv h K Kp) : CallsHP Go.Proofs.Tryz.prog F_burinref4_Decoder_byte #[.pointer d, .int .i64 atv] h K Kp :=
  callsHP_of hints_burinref4_Decoder_byte (by kernel_rfl) Go.Proofs.Tryz.func165 (by kernel_rfl) (by rw [eq_burinref4_Decoder_byte]; exact H)

noncomputable def hints_burinref4_Decoder_in : Hints := Hints.mk (fun i => bif Nat.beq i 9 then some ([15], .take 0 <| .take 1 <| .take 2 <| .take 3 <| .take 5 <| .take 6 <| .take 7 <| .take 8 <| .take 4 <| .take 9 <| .go 10 <| .take 11 <| .take 12 <| .take 13 <| .take 14 <| .bar 15 [] <| .done) else (none))
  (fun i => none)
  (fun i => none) []
set_option maxRecDepth 100000 in
theorem eq_burinref4_Decoder_in (C : CallP) (a0 : Option Addr) (h : Heap) (K : Value → Heap → Prop) (Kp : List PanicEntry → Heap → Prop) :
    fnD Go.Proofs.Tryz.prog C hints_burinref4_Decoder_in Go.Proofs.Tryz.f166 [.pointer a0] h K Kp = burinref4_Decoder_in C a0 h K Kp := by kernel_rfl

theorem call_burinref4_Decoder_in {a0 : Option Addr} {h : Heap} {K : Value → Heap → Prop} {Kp : List PanicEntry → Heap → Prop} (H : burinref4_Decoder_in (CallsHP Go.Proofs.Tryz.prog) a0 h K Kp) : CallsHP Go.Proofs.Tryz.prog F_burinref4_Decoder_in #[.pointer a0] h K Kp :=
  callsHP_of hints_burinref4_Decoder_in (by kernel_rfl) Go.Proofs.Tryz.func166 (by kernel_rfl) (by rw [eq_burinref4_Decoder_in]; exact H)

noncomputable def hints_burinref4_Decoder_Get : Hints := Hints.mk (fun i => bif Nat.beq i 5 then some ([], .take 0 <| .take 1 <| .take 2 <| .take 3 <| .take 5 <| .take 6 <| .take 7 <| .take 8 <| .take 10 <| .take 4 <| .take 9 <| .take 11 <| .take 12 <| .take 13 <| .take 14 <| .take 15 <| .take 16 <| .done) else (none))
  (fun i => none)
  (fun i => bif Nat.beq i 13 then some ([(8, .int .i64)], 154741914614862175656739072) else (none)) []
set_option maxRecDepth 100000 in
theorem eq_burinref4_Decoder_Get (C : CallP) (a0 : Option Addr) (a1 : Int) (h : Heap) (K : Value → Heap → Prop) (Kp : List PanicEntry → Heap → Prop) :
    fnD Go.Proofs.Tryz.prog C hints_burinref4_Decoder_Get Go.Proofs.Tryz.f180 [.pointer a0, .int .i64 a1] h K Kp = burinref4_Decoder_Get C a0 a1 h K Kp := by kernel_rfl

theorem call_burinref4_Decoder_Get {a0 : Option Addr} {a1 : Int} {h : Heap} {K : Value → Heap → Prop} {Kp : List PanicEntry → Heap → Prop} (H : burinref4_Decoder_Get (CallsHP Go.Proofs.Tryz.prog) a0 a1 h K Kp) : CallsHP Go.Proofs.Tryz.prog F_burinref4_Decoder_Get #[.pointer a0, .int .i64 a1] h K Kp :=
  callsHP_of hints_burinref4_Decoder_Get (by kernel_rfl) Go.Proofs.Tryz.func180 (by kernel_rfl) (by rw [eq_burinref4_Decoder_Get]; exact H)

noncomputable def hints_burinref4_table : Hints := Hints.mk (fun i => none)
  (fun i => bif Nat.beq i 3 then some ([(1, .slc), (2, .int .i64)], 4094) else (none))
  (fun i => none) []
set_option maxRecDepth 100000 in
theorem eq_burinref4_table (C : CallP)  (h : Heap) (K : Value → Heap → Prop) (Kp : List PanicEntry → Heap → Prop) :
    fnD Go.Proofs.Tryz.prog C hints_burinref4_table Go.Proofs.Tryz.f189 [] h K Kp = burinref4_table C  h K Kp := by kernel_rfl

theorem call_burinref4_table  {h : Heap} {K : Value → Heap → Prop} {Kp : List PanicEntry → Heap → Prop} (H : burinref4_table (CallsHP Go.Proofs.Tryz.prog)  h K Kp) : CallsHP Go.Proofs.Tryz.prog F_burinref4_table #[] h K Kp :=
  callsHP_of hints_burinref4_table (by kernel_rfl) Go.Proofs.Tryz.func189 (by kernel_rfl) (by rw [eq_burinref4_table]; exact H)

noncomputable def hints_burinref4_side_Index : Hints := Hints.mk (fun i => none)
  (fun i => none)
  (fun i => none) []
set_option maxRecDepth 100000 in
theorem eq_burinref4_side_Index (C : CallP) (s : Option Addr) (context : Int) (h : Heap) (K : Value → Heap → Prop) (Kp : List PanicEntry → Heap → Prop) :
    fnD Go.Proofs.Tryz.prog C hints_burinref4_side_Index Go.Proofs.Tryz.f190 [.pointer s, .int .i64 context] h K Kp = burinref4_side_Index C s context h K Kp := by kernel_rfl

theorem call_burinref4_side_Index {s : Option Addr} {context : Int} {h : Heap} {K : Value → Heap → Prop} {Kp : List PanicEntry → Heap → Prop} (H : burinref4_side_Index (CallsHP Go.Proofs.Tryz.prog) s context h K Kp) : CallsHP Go.Proofs.Tryz.prog F_burinref4_side_Index #[.pointer s, .int .i64 context] h K Kp :=
  callsHP_of hints_burinref4_side_Index (by kernel_rfl) Go.Proofs.Tryz.func190 (by kernel_rfl) (by rw [eq_burinref4_side_Index]; exact H)

noncomputable def hints_burinref4_side_likely : Hints := Hints.mk (fun i => bif Nat.beq i 0 then some ([20], .take 0 <| .take 1 <| .take 2 <| .take 4 <| .take 5 <| .take 6 <| .take 7 <| .take 9 <| .take 10 <| .take 11 <| .take 13 <| .take 3 <| .take 8 <| .take 12 <| .take 14 <| .take 15 <| .take 16 <| .take 17 <| .take 18 <| .take 19 <| .bar 20 [] <| .done) else (none))
  (fun i => none)
  (fun i => none) []
set_option maxRecDepth 100000 in
theorem eq_burinref4_side_likely (C : CallP) (s : Option Addr) (k : Int) (h : Heap) (K : Value → Heap → Prop) (Kp : List PanicEntry → Heap → Prop) :
    fnD Go.Proofs.Tryz.prog C hints_burinref4_side_likely Go.Proofs.Tryz.f191 [.pointer s, .int .i64 k] h K Kp = burinref4_side_likely C s k h K Kp := by kernel_rfl

theorem call_burinref4_side_likely {s : Option Addr} {k : Int} {h : Heap} {K : Value → Heap → Prop} {Kp : List PanicEntry → Heap → Prop} (H : burinref4_side_likely (CallsHP Go.Proofs.Tryz.prog) s k h K Kp) : CallsHP Go.Proofs.Tryz.prog F_burinref4_side_likely #[.pointer s, .int .i64 k] h K Kp :=
  callsHP_of hints_burinref4_side_likely (by kernel_rfl) Go.Proofs.Tryz.func191 (by kernel_rfl) (by rw [eq_burinref4_side_likely]; exact H)

noncomputable def hints_burinref4_side_other : Hints := Hints.mk (fun i => bif Nat.beq i 0 then some ([14], .take 0 <| .take 1 <| .take 2 <| .take 4 <| .take 5 <| .take 6 <| .take 8 <| .take 3 <| .take 7 <| .take 9 <| .take 10 <| .take 11 <| .take 12 <| .go 13 <| .bar 14 [] <| .done) else (bif Nat.beq i 2 then some ([14], .take 0 <| .take 1 <| .take 2 <| .take 4 <| .take 5 <| .take 6 <| .take 7 <| .take 9 <| .take 3 <| .take 8 <| .take 10 <| .take 11 <| .take 12 <| .take 13 <| .bar 14 [] <| .done) else (bif Nat.beq i 3 then some ([8], .take 0 <| .take 1 <| .take 2 <| .take 4 <| .take 5 <| .take 3 <| .take 6 <| .take 7 <| .bar 8 [] <| .done) else (none))))
  (fun i => none)
  (fun i => none) []
set_option maxRecDepth 100000 in
theorem eq_burinref4_side_other (C : CallP) (s : Option Addr) (k : Int) (h : Heap) (K : Value → Heap → Prop) (Kp : List PanicEntry → Heap → Prop) :
    fnD Go.Proofs.Tryz.prog C hints_burinref4_side_other Go.Proofs.Tryz.f192 [.pointer s, .int .i64 k] h K Kp = burinref4_side_other C s k h K Kp := by kernel_rfl

theorem call_burinref4_side_other {s : Option Addr} {k : Int} {h : Heap} {K : Value → Heap → Prop} {Kp : List PanicEntry → Heap → Prop} (H : burinref4_side_other (CallsHP Go.Proofs.Tryz.prog) s k h K Kp) : CallsHP Go.Proofs.Tryz.prog F_burinref4_side_other #[.pointer s, .int .i64 k] h K Kp :=
  callsHP_of hints_burinref4_side_other (by kernel_rfl) Go.Proofs.Tryz.func192 (by kernel_rfl) (by rw [eq_burinref4_side_other]; exact H)

noncomputable def hints_burinref4_Decoder_renew : Hints := Hints.mk (fun i => none)
  (fun i => bif Nat.beq i 1 then some ([(2, .bool)], 4398046511100) else (none))
  (fun i => bif Nat.beq i 3 then some ([], 2040) else (bif Nat.beq i 5 then some ([], 260096) else (none))) []
set_option maxRecDepth 100000 in
theorem eq_burinref4_Decoder_renew (C : CallP) (d : Option Addr) (h : Heap) (K : Value → Heap → Prop) (Kp : List PanicEntry → Heap → Prop) :
    fnD Go.Proofs.Tryz.prog C hints_burinref4_Decoder_renew Go.Proofs.Tryz.f208 [.pointer d] h K Kp = burinref4_Decoder_renew C d h K Kp := by kernel_rfl

theorem call_burinref4_Decoder_renew {d : Option Addr} {h : Heap} {K : Value → Heap → Prop} {Kp : List PanicEntry → Heap → Prop} (H : burinref4_Decoder_renew (CallsHP Go.Proofs.Tryz.prog) d h K Kp) : CallsHP Go.Proofs.Tryz.prog F_burinref4_Decoder_renew #[.pointer d] h K Kp :=
  callsHP_of hints_burinref4_Decoder_renew (by kernel_rfl) Go.Proofs.Tryz.func208 (by kernel_rfl) (by rw [eq_burinref4_Decoder_renew]; exact H)

noncomputable def hints_burinref4_row : Hints := Hints.mk (fun i => bif Nat.beq i 4 then some ([23], .take 0 <| .take 1 <| .take 2 <| .take 4 <| .take 5 <| .take 6 <| .take 8 <| .take 9 <| .take 10 <| .take 12 <| .take 13 <| .take 14 <| .take 15 <| .take 16 <| .take 17 <| .take 18 <| .take 19 <| .take 20 <| .take 21 <| .take 3 <| .take 7 <| .take 11 <| .take 22 <| .bar 23 [] <| .done) else (none))
  (fun i => none)
  (fun i => none) []
set_option maxRecDepth 100000 in
theorem eq_burinref4_row (C : CallP) (n : Int) (h : Heap) (K : Value → Heap → Prop) (Kp : List PanicEntry → Heap → Prop) :
    fnD Go.Proofs.Tryz.prog C hints_burinref4_row Go.Proofs.Tryz.f214 [.int .i64 n] h K Kp = burinref4_row C n h K Kp := by kernel_rfl

theorem call_burinref4_row {n : Int} {h : Heap} {K : Value → Heap → Prop} {Kp : List PanicEntry → Heap → Prop} (H : burinref4_row (CallsHP Go.Proofs.Tryz.prog) n h K Kp) : CallsHP Go.Proofs.Tryz.prog F_burinref4_row #[.int .i64 n] h K Kp :=
  callsHP_of hints_burinref4_row (by kernel_rfl) Go.Proofs.Tryz.func214 (by kernel_rfl) (by rw [eq_burinref4_row]; exact H)

end Go.Den.YtfaclehehhgpcaaGreat

/- ArR: the document's own coder (burinref4) in memory: its table, its side, what its functions do. The same plain coder as ArA's. -/
set_option linter.unusedVariables false
set_option linter.unusedSimpArgs false
namespace Go.Ar
open Go Go.Den Go.Den.YtfaclehehhgpcaaGreat

def i64s (l : List Nat) : List Value := l.map fun x : Nat => .int .i64 (x : Int)
theorem i64s_length (l : List Nat) : (i64s l).length = l.length := by simp [i64s]
theorem i64s_get {l : List Nat} {i x : Nat} (h : l[i]? = some x) : (i64s l)[i]? = some (.int .i64 (x : Int)) := by
  unfold i64s; rw [List.getElem?_map, h]; rfl
theorem i64s_set (l : List Nat) (i x : Nat) : i64s (l.set i x) = (i64s l).set i (.int .i64 (x : Int)) := by simp [i64s, List.map_set]
theorem tab_get {l : List Nat} (hl : l.length = 47) {k : Nat} (hk : k < 47) : (i64s l)[k]? = some (.int .i64 ((l.getD k 0 : Nat) : Int)) := by
  refine i64s_get ?_
  rw [List.getD_eq_getElem?_getD, List.getElem?_eq_getElem (by omega)]; rfl

def grow (k : Nat) : List Value := [.int .i64 (qOf k : Nat), .int .i64 (mOf k : Nat), .int .i64 (lOf k : Nat), .bool (cOf k == 1)]
def growsN : Nat → List Value
  | 0 => []
  | n + 1 => growsN n ++ grow n
theorem growsN_length : ∀ n, (growsN n).length = 4 * n
  | 0 => rfl
  | n + 1 => by rw [growsN, List.length_append, growsN_length n]; show 4 * n + 4 = _; omega
theorem growsN_get : ∀ {n r j : Nat} {v : Value}, r < n → (grow r)[j]? = some v → (growsN n)[r * 4 + j]? = some v
  | 0, r, j, v, h, _ => by omega
  | n + 1, r, j, v, h, hv => by
    rw [growsN]
    have hj : j < 4 := (List.getElem?_eq_some_iff.1 hv).1
    rcases Nat.lt_or_ge r n with h1 | h1
    · exact get_app (growsN_get h1 hv)
    · have : r = n := by omega
      subst this
      have := app_get (growsN_length r) (R := growsN r) j hv
      rw [Nat.mul_comm] at this
      exact this

theorem c_row {k : Nat} (hk : k < 47) : (cOf k == 1) = (k == 0 || k == 6 || k == 14) := forall_lt_47 (p := fun k => (cOf k == 1) = (k == 0 || k == 6 || k == 14)) (by decide) hk

set_option maxRecDepth 100000 in
theorem row_ok {h : Heap} {k : Nat} (hk : k < 47) {K : Value → Heap → Prop} {Kp : List PanicEntry → Heap → Prop} (hK : ∀ h', hext h h' → K (.agg #[.int .i64 (qOf k : Nat), .int .i64 (mOf k : Nat), .int .i64 (lOf k : Nat), .bool (cOf k == 1)]) h') :
    CP F_burinref4_row #[.int .i64 (k : Nat)] h K Kp := by
  refine call_burinref4_row ?_
  unfold burinref4_row
  have H := Hp.nil h []
  have hc := c_row hk
  have hq : ∀ X, X = i64s qTab → X[k]? = some (.int .i64 ((qOf k : Nat) : Int)) := fun X e => e ▸ tab_get (by decide) hk
  have hm : ∀ X, X = i64s mTab → X[k]? = some (.int .i64 ((mOf k : Nat) : Int)) := fun X e => e ▸ tab_get (by decide) hk
  have hl : ∀ X, X = i64s lTab → X[k]? = some (.int .i64 ((lOf k : Nat) : Int)) := fun X e => e ▸ tab_get (by decide) hk
  refine newC_hp H fun r h H => ?_
  refine newC_hp H fun a h H => ?_
  refine newC_hp H fun b h H => ?_
  refine newC_hp H fun c h H => ?_
  refine needs_of (by omega) ?_
  refine needs_of (by omega) ?_
  refine needs_of (by omega) ?_
  simp only [Int.toNat_natCast, Nat.mul_one]
  refine bcase_of (fun h1 => ?_) fun h1 => ?_
  · have h1 : k = 0 := by simp at h1; omega
    try simp only [ptr_some_eq, add_mk, Nat.zero_add, Nat.add_zero]
    refine ldI_of (H.cell 1 rfl (hq _ (by kernel_rfl))) ?_
    refine ldI_of (H.cell 2 rfl (hm _ (by kernel_rfl))) ?_
    refine ldI_of (H.cell 3 rfl (hl _ (by kernel_rfl))) ?_
    refine stV_hp H 0 rfl (by first | exact Nat.le_of_ble_eq_true rfl | simp) rfl fun h hsz H => ?_
    refine stV_hp H 0 rfl (by first | exact Nat.le_of_ble_eq_true rfl | simp) rfl fun h hsz H => ?_
    refine stV_hp H 0 rfl (by first | exact Nat.le_of_ble_eq_true rfl | simp) rfl fun h hsz H => ?_
    refine stV_hp H 0 rfl (by first | exact Nat.le_of_ble_eq_true rfl | simp) rfl fun h hsz H => ?_
    refine ldI_of (H.cell 0 rfl rfl) ?_
    refine ldI_of (H.cell 0 rfl rfl) ?_
    refine ldI_of (H.cell 0 rfl rfl) ?_
    refine ldB_of (H.cell 0 rfl rfl) ?_
    have := hK _ H.hext
    have e : (cOf k == 1) = true := by rw [hc, h1]; rfl
    rw [e] at this
    exact this
  · have h1 : k ≠ 0 := by simp at h1; omega
    refine bcase_of (fun h2 => ?_) fun h2 => ?_
    · have h2 : k = 6 := by simp at h2; omega
      try simp only [ptr_some_eq, add_mk, Nat.zero_add, Nat.add_zero]
      refine ldI_of (H.cell 1 rfl (hq _ (by kernel_rfl))) ?_
      refine ldI_of (H.cell 2 rfl (hm _ (by kernel_rfl))) ?_
      refine ldI_of (H.cell 3 rfl (hl _ (by kernel_rfl))) ?_
      refine stV_hp H 0 rfl (by first | exact Nat.le_of_ble_eq_true rfl | simp) rfl fun h hsz H => ?_
      refine stV_hp H 0 rfl (by first | exact Nat.le_of_ble_eq_true rfl | simp) rfl fun h hsz H => ?_
      refine stV_hp H 0 rfl (by first | exact Nat.le_of_ble_eq_true rfl | simp) rfl fun h hsz H => ?_
      refine stV_hp H 0 rfl (by first | exact Nat.le_of_ble_eq_true rfl | simp) rfl fun h hsz H => ?_
      refine ldI_of (H.cell 0 rfl rfl) ?_
      refine ldI_of (H.cell 0 rfl rfl) ?_
      refine ldI_of (H.cell 0 rfl rfl) ?_
      refine ldB_of (H.cell 0 rfl rfl) ?_
      have := hK _ H.hext
      have e : (cOf k == 1) = true := by rw [hc, h2]; rfl
      rw [e] at this
      exact this
    · have h2 : k ≠ 6 := by simp at h2; omega
      try simp only [ptr_some_eq, add_mk, Nat.zero_add, Nat.add_zero]
      refine ldI_of (H.cell 1 rfl (hq _ (by kernel_rfl))) ?_
      refine ldI_of (H.cell 2 rfl (hm _ (by kernel_rfl))) ?_
      refine ldI_of (H.cell 3 rfl (hl _ (by kernel_rfl))) ?_
      refine stV_hp H 0 rfl (by first | exact Nat.le_of_ble_eq_true rfl | simp) rfl fun h hsz H => ?_
      refine stV_hp H 0 rfl (by first | exact Nat.le_of_ble_eq_true rfl | simp) rfl fun h hsz H => ?_
      refine stV_hp H 0 rfl (by first | exact Nat.le_of_ble_eq_true rfl | simp) rfl fun h hsz H => ?_
      refine stV_hp H 0 rfl (by first | exact Nat.le_of_ble_eq_true rfl | simp) rfl fun h hsz H => ?_
      refine ldI_of (H.cell 0 rfl rfl) ?_
      refine ldI_of (H.cell 0 rfl rfl) ?_
      refine ldI_of (H.cell 0 rfl rfl) ?_
      refine ldB_of (H.cell 0 rfl rfl) ?_
      have := hK _ H.hext
      have e : (((k : Nat) : Int) == 14) = (cOf k == 1) := by
        rw [hc]
        by_cases h3 : k = 14
        · subst h3; rfl
        · have e1 : (((k : Nat) : Int) == 14) = false := by simp; omega
          have e2 : (k == 0 || k == 6 || k == 14) = false := by simp [h1, h2, h3]
          rw [e1, e2]
      rw [e]
      exact this

/-! ### the table -/
theorem table_ok {h : Heap} {K : Value → Heap → Prop} {Kp : List PanicEntry → Heap → Prop} (hK : ∀ g rest c h', Hp h [] h' [⟨g, true, T_burinref4_Row, growsN 47 ++ rest⟩] → K (.slice (at0 g) 47 c) h') :
    CP F_burinref4_table #[] h K Kp := by
  refine call_burinref4_table ?_
  unfold burinref4_table
  refine ⟨fun n vs h' => ∃ i : Nat, i + n = 47 ∧ ((i = 0 ∧ vs = [.slice none 0 0, .int .i64 0] ∧ h' = h) ∨ ∃ g rest c, 1 ≤ i ∧ vs = [.slice (at0 g) i c, .int .i64 (i : Int)] ∧ (growsN i ++ rest).length = c * 4 ∧ Hp h [] h' [⟨g, true, T_burinref4_Row, growsN i ++ rest⟩]),
    ⟨47, 0, rfl, .inl ⟨rfl, rfl, rfl⟩⟩, ?_⟩
  rintro n h' u t tn tc x ⟨i, hin, ⟨rfl, hx, rfl⟩ | ⟨g, rest, c, hi1, hx, hlen, H⟩⟩
  · injection hx with hx1 hx
    injection hx1 with e1 e2 e3
    injection hx with hx
    injection hx with _ hx
    subst e1 e2 e3 hx
    refine bcase_true (by rfl) ?_
    refine row_ok (k := 0) (by decide) fun h2 e => ?_
    refine ⟨_, _, _, _, rfl, ?_⟩
    have H := (Hp.nil h' []).ext e
    refine newC_hp H fun r h H => ?_
    refine appC_newZ (sz := 4) (by_ := 32) (m := 1) (z := [.int .i64 0, .int .i64 0, .int .i64 0, .bool false]) H rfl (rdO_hp (o := 0) (n := 1 * 4) H 0 rfl (Nat.le_refl _)) rfl (Nat.le_refl _) (by decide) fun g rest c h3 hl hc e3 H => ?_
    refine bindI_of (((1 : Nat) : Int)) (by decide) ?_
    exact ⟨n - 1, by omega, 1, by omega, .inr ⟨g, rest, c, Nat.le_refl _, rfl, hl, H.pick [1] (by decide) rfl⟩⟩
  · injection hx with hx1 hx
    injection hx1 with e1 e2 e3
    injection hx with hx
    injection hx with _ hx
    subst e1 e2 e3 hx
    refine bcase_of (fun h1 => ?_) fun h1 => ?_
    · have h1 : tn < 47 := by simp at h1; omega
      refine row_ok h1 fun h2 e => ?_
      refine ⟨_, _, _, _, rfl, ?_⟩
      have H := H.ext e
      refine newC_hp H fun r h H => ?_
      refine appC_ownZ (sz := 4) (by_ := 32) (m := 1) (z := [.int .i64 0, .int .i64 0, .int .i64 0, .bool false]) H 0 rfl rfl (by rw [growsN_length]; omega) hlen (rdO_hp (o := 0) (n := 1 * 4) H 1 rfl (Nat.le_refl _)) rfl ?_ (by omega) fun g' rest' c' h3 hl hc H => ?_
      · intro v hv
        have hv : v ∈ grow tn := hv
        simp only [grow, List.mem_cons, List.not_mem_nil, or_false] at hv
        rcases hv with rfl | rfl | rfl | rfl <;> rfl
      · refine bindI_of (((tn + 1 : Nat) : Int)) (by exact i64_at _ _ (by omega) (by omega) (by omega)) ?_
        exact ⟨n - 1, by omega, tn + 1, by omega, .inr ⟨g', rest', c', by omega, rfl, hl, H.take 1⟩⟩
    · have h1 : tn = 47 := by simp at h1; omega
      subst h1
      exact hK g rest _ _ H

end Go.Ar

/- ArS: the document's own coder in memory: begun, Index, likely, other, New, out, renew, Put. -/
set_option linter.unusedVariables false
set_option linter.unusedSimpArgs false
namespace Go.Ar
open Go Go.Den Go.Den.YtfaclehehhgpcaaGreat

theorem i64s_zero (n : Nat) : repZ [.int .i64 0] n = i64s (List.replicate n 0) := by rw [repZ_one]; simp [i64s]
theorem set_same {α : Type} {l : List α} {k : Nat} {v : α} (h : l[k]? = some v) : l.set k v = l := by
  apply List.ext_getElem?
  intro j
  by_cases hj : k = j
  · subst hj
    rw [List.getElem?_set_self (List.getElem?_eq_some_iff.1 h).1, h]
  · rw [List.getElem?_set_ne hj]

set_option maxRecDepth 100000 in
theorem begun_ok {h : Heap} {n : Nat} (hn : n ≤ 131072) {K : Value → Heap → Prop} {Kp : List PanicEntry → Heap → Prop}
    (hK : ∀ g grest gc sq bq (sp : Ent) h', sp.w = true → Hp h [] h' [⟨g, true, T_burinref4_Row, growsN 47 ++ grest⟩, ⟨sq, true, T_int, i64s (List.replicate n 0)⟩, ⟨bq, true, T_int, i64s (List.replicate n 0)⟩, sp] →
      K (.agg #[.slice (at0 g) 47 gc, .slice (at0 sq) n n, .slice (at0 bq) n n, .int .i64 0]) h') :
    CP F_burinref4_begun #[.int .i64 (n : Nat)] h K Kp := by
  refine call_burinref4_begun ?_
  unfold burinref4_begun
  have H := Hp.nil h []
  refine newC_hp H fun r1 h H => ?_
  simp only [Int.toNat_natCast, i64s_zero]
  refine ⟨table_ok fun g grest gc h' H' => ⟨_, _, _, rfl, H'.hext, ?_⟩, ?_⟩
  · replace H := H.join H' rfl
    refine ⟨?_, ?_⟩
    · refine needs_of (by omega) ?_
      refine newC_hp H fun sq h H => ?_
      refine needs_of (by omega) ?_
      refine newC_hp H fun bq h H => ?_
      try simp only [ptr_some_eq, add_mk, Nat.zero_add, Nat.add_zero]
      refine stV_hp H 0 rfl (by first | exact Nat.le_of_ble_eq_true rfl | simp) rfl fun h hsz H => ?_
      refine stV_hp H 0 rfl (by first | exact Nat.le_of_ble_eq_true rfl | simp) rfl fun h hsz H => ?_
      refine stV_hp H 0 rfl (by first | exact Nat.le_of_ble_eq_true rfl | simp) rfl fun h hsz H => ?_
      refine stV_hp H 0 rfl (by first | exact Nat.le_of_ble_eq_true rfl | simp) rfl fun h hsz H => ?_
      refine ldS_of (H.cell 0 rfl rfl) ?_
      refine ldS_of (H.cell 0 rfl rfl) ?_
      refine ldS_of (H.cell 0 rfl rfl) ?_
      refine ldI_of (H.cell 0 rfl rfl) ?_
      exact hK g grest gc sq bq _ _ rfl (H.pick [1, 2, 3, 0] (by decide) rfl)
    · refine needs_of (by omega) ?_
      refine newC_hp H fun bq h H => ?_
      refine needs_of (by omega) ?_
      refine newC_hp H fun sq h H => ?_
      try simp only [ptr_some_eq, add_mk, Nat.zero_add, Nat.add_zero]
      refine stV_hp H 0 rfl (by first | exact Nat.le_of_ble_eq_true rfl | simp) rfl fun h hsz H => ?_
      refine stV_hp H 0 rfl (by first | exact Nat.le_of_ble_eq_true rfl | simp) rfl fun h hsz H => ?_
      refine stV_hp H 0 rfl (by first | exact Nat.le_of_ble_eq_true rfl | simp) rfl fun h hsz H => ?_
      refine stV_hp H 0 rfl (by first | exact Nat.le_of_ble_eq_true rfl | simp) rfl fun h hsz H => ?_
      refine ldS_of (H.cell 0 rfl rfl) ?_
      refine ldS_of (H.cell 0 rfl rfl) ?_
      refine ldS_of (H.cell 0 rfl rfl) ?_
      refine ldI_of (H.cell 0 rfl rfl) ?_
      exact hK g grest gc sq bq _ _ rfl (H.pick [1, 3, 2, 0] (by decide) rfl)
  · refine ⟨?_, ?_⟩
    · refine needs_of (by omega) ?_
      refine newC_hp H fun sq h H => ?_
      refine ⟨table_ok fun g grest gc h' H' => ⟨_, _, _, rfl, H'.hext, ?_⟩, ?_⟩
      · replace H := H.join H' rfl
        refine needs_of (by omega) ?_
        refine newC_hp H fun bq h H => ?_
        try simp only [ptr_some_eq, add_mk, Nat.zero_add, Nat.add_zero]
        refine stV_hp H 0 rfl (by first | exact Nat.le_of_ble_eq_true rfl | simp) rfl fun h hsz H => ?_
        refine stV_hp H 0 rfl (by first | exact Nat.le_of_ble_eq_true rfl | simp) rfl fun h hsz H => ?_
        refine stV_hp H 0 rfl (by first | exact Nat.le_of_ble_eq_true rfl | simp) rfl fun h hsz H => ?_
        refine stV_hp H 0 rfl (by first | exact Nat.le_of_ble_eq_true rfl | simp) rfl fun h hsz H => ?_
        refine ldS_of (H.cell 0 rfl rfl) ?_
        refine ldS_of (H.cell 0 rfl rfl) ?_
        refine ldS_of (H.cell 0 rfl rfl) ?_
        refine ldI_of (H.cell 0 rfl rfl) ?_
        exact hK g grest gc sq bq _ _ rfl (H.pick [2, 1, 3, 0] (by decide) rfl)
      · refine needs_of (by omega) ?_
        refine newC_hp H fun bq h H => ?_
        refine table_ok fun g grest gc h' H' => ⟨_, _, _, rfl, H'.hext, ?_⟩
        replace H := H.join H' rfl
        try simp only [ptr_some_eq, add_mk, Nat.zero_add, Nat.add_zero]
        refine stV_hp H 0 rfl (by first | exact Nat.le_of_ble_eq_true rfl | simp) rfl fun h hsz H => ?_
        refine stV_hp H 0 rfl (by first | exact Nat.le_of_ble_eq_true rfl | simp) rfl fun h hsz H => ?_
        refine stV_hp H 0 rfl (by first | exact Nat.le_of_ble_eq_true rfl | simp) rfl fun h hsz H => ?_
        refine stV_hp H 0 rfl (by first | exact Nat.le_of_ble_eq_true rfl | simp) rfl fun h hsz H => ?_
        refine ldS_of (H.cell 0 rfl rfl) ?_
        refine ldS_of (H.cell 0 rfl rfl) ?_
        refine ldS_of (H.cell 0 rfl rfl) ?_
        refine ldI_of (H.cell 0 rfl rfl) ?_
        exact hK g grest gc sq bq _ _ rfl (H.pick [3, 1, 2, 0] (by decide) rfl)
    · refine needs_of (by omega) ?_
      refine newC_hp H fun bq h H => ?_
      refine ⟨table_ok fun g grest gc h' H' => ⟨_, _, _, rfl, H'.hext, ?_⟩, ?_⟩
      · replace H := H.join H' rfl
        refine needs_of (by omega) ?_
        refine newC_hp H fun sq h H => ?_
        try simp only [ptr_some_eq, add_mk, Nat.zero_add, Nat.add_zero]
        refine stV_hp H 0 rfl (by first | exact Nat.le_of_ble_eq_true rfl | simp) rfl fun h hsz H => ?_
        refine stV_hp H 0 rfl (by first | exact Nat.le_of_ble_eq_true rfl | simp) rfl fun h hsz H => ?_
        refine stV_hp H 0 rfl (by first | exact Nat.le_of_ble_eq_true rfl | simp) rfl fun h hsz H => ?_
        refine stV_hp H 0 rfl (by first | exact Nat.le_of_ble_eq_true rfl | simp) rfl fun h hsz H => ?_
        refine ldS_of (H.cell 0 rfl rfl) ?_
        refine ldS_of (H.cell 0 rfl rfl) ?_
        refine ldS_of (H.cell 0 rfl rfl) ?_
        refine ldI_of (H.cell 0 rfl rfl) ?_
        exact hK g grest gc sq bq _ _ rfl (H.pick [2, 3, 1, 0] (by decide) rfl)
      · refine needs_of (by omega) ?_
        refine newC_hp H fun sq h H => ?_
        refine table_ok fun g grest gc h' H' => ⟨_, _, _, rfl, H'.hext, ?_⟩
        replace H := H.join H' rfl
        try simp only [ptr_some_eq, add_mk, Nat.zero_add, Nat.add_zero]
        refine stV_hp H 0 rfl (by first | exact Nat.le_of_ble_eq_true rfl | simp) rfl fun h hsz H => ?_
        refine stV_hp H 0 rfl (by first | exact Nat.le_of_ble_eq_true rfl | simp) rfl fun h hsz H => ?_
        refine stV_hp H 0 rfl (by first | exact Nat.le_of_ble_eq_true rfl | simp) rfl fun h hsz H => ?_
        refine stV_hp H 0 rfl (by first | exact Nat.le_of_ble_eq_true rfl | simp) rfl fun h hsz H => ?_
        refine ldS_of (H.cell 0 rfl rfl) ?_
        refine ldS_of (H.cell 0 rfl rfl) ?_
        refine ldS_of (H.cell 0 rfl rfl) ?_
        refine ldI_of (H.cell 0 rfl rfl) ?_
        exact hK g grest gc sq bq _ _ rfl (H.pick [3, 2, 1, 0] (by decide) rfl)

/-! ### the side: where a coder's or a decoder's row begins -/
def sideV (g gc sq bq m : Nat) (n : Nat) : List Value := [.slice (at0 g) 47 gc, .slice (at0 sq) m m, .slice (at0 bq) m m, .int .i64 (n : Nat)]
def half (st : List Nat) : List Nat := st.map (· / 2)
def low (st : List Nat) : List Nat := st.map (· % 2)
theorem half_get {st : List Nat} {k x : Nat} (h : st[k]? = some x) : (half st)[k]? = some (x / 2) := by unfold half; rw [List.getElem?_map, h]; rfl
theorem low_get {st : List Nat} {k x : Nat} (h : st[k]? = some x) : (low st)[k]? = some (x % 2) := by unfold low; rw [List.getElem?_map, h]; rfl
theorem half_set (st : List Nat) (k v : Nat) : half (st.set k v) = (half st).set k (v / 2) := List.map_set
theorem low_set (st : List Nat) (k v : Nat) : low (st.set k v) = (low st).set k (v % 2) := List.map_set

theorem index_ok {h : Heap} {p g gc sq bq m n : Nat} {F : List Nat} {h0 : Heap} {L : List Ent} (H : Hp h0 F h L) (kp : Nat) {w : Bool} {t : TypeId} {T : List Value} (hp : L[kp]? = some ⟨p, w, t, sideV g gc sq bq m n ++ T⟩) (hm : 1 ≤ m) (hm2 : m ≤ 131072)
    {ctx : Int} {K : Value → Heap → Prop} {Kp : List PanicEntry → Heap → Prop} (hk : K (.int .i64 (idx ctx m : Nat)) h) : CP F_burinref4_side_Index #[.pointer (at0 p), .int .i64 ctx] h K Kp := by
  refine call_burinref4_side_Index ?_
  unfold burinref4_side_Index
  have habs := tmod_abs ctx hm
  have e2 := Int.tmod_eq_emod (a := ctx) (b := (m : Int))
  have h1 := Int.emod_nonneg ctx (b := (m : Int)) (by omega)
  have hlt := Int.emod_lt_of_pos ctx (b := (m : Int)) (by omega)
  have e1 : ((idx ctx m : Nat) : Int) = ctx % m := by unfold idx; omega
  try simp only [ptr_some_eq, add_mk, Nat.zero_add, Nat.add_zero]
  refine ldS_of (H.cell kp hp rfl) ?_
  refine needs_of (by exact ⟨trivial, by omega⟩) ?_
  refine bindI_gen fun z ez => ?_
  subst ez
  refine bcase_of (fun h2 => ?_) fun h2 => ?_
  · have h2 : ctx.tmod m < 0 := of_decide_eq_true h2
    refine ldS_of (H.cell kp hp rfl) ?_
    refine bindI_of ((idx ctx m : Nat)) (by exact i64_at _ _ (by split at e2 <;> omega) (by omega) (by omega)) ?_
    exact hk
  · have h2 : ¬ ctx.tmod m < 0 := of_decide_eq_false h2
    have e3 : ctx.tmod m = ((idx ctx m : Nat) : Int) := by split at e2 <;> omega
    rw [e3]
    exact hk

theorem g_get {k j : Nat} {v : Value} {rest : List Value} (hk : k < 47) (h : (grow k)[j]? = some v) : (growsN 47 ++ rest)[k * 4 + j]? = some v := get_app (growsN_get hk h)

theorem slikely_ok {h : Heap} {p g gc sq bq n k x : Nat} {st : List Nat} {grest : List Value} {F : List Nat} {h0 : Heap} {L : List Ent} (H : Hp h0 F h L) (kp kg ks : Nat) {w wg : Bool} {t : TypeId} {T : List Value} (hp : L[kp]? = some ⟨p, w, t, sideV g gc sq bq st.length n ++ T⟩)
    (hg : L[kg]? = some ⟨g, wg, T_burinref4_Row, growsN 47 ++ grest⟩) (hs : L[ks]? = some ⟨sq, true, T_int, i64s (half st)⟩) (hx : st[k]? = some x) (hx94 : x < 94)
    {K : Value → Heap → Prop} {Kp : List PanicEntry → Heap → Prop} (hk : ∀ h', Hp h0 F h' (L.set ks ⟨sq, true, T_int, i64s (half (st.set k (upM x)))⟩) → K (.tuple #[]) h') :
    CP F_burinref4_side_likely #[.pointer (at0 p), .int .i64 (k : Nat)] h K Kp := by
  refine call_burinref4_side_likely ?_
  unfold burinref4_side_likely
  have hkl : k < st.length := (List.getElem?_eq_some_iff.1 hx).1
  have hr : x / 2 < 47 := by omega
  try simp only [ptr_some_eq, add_mk, Nat.zero_add, Nat.add_zero]
  refine ldS_of (H.cell kp hp rfl) (ldS_of (H.cell kp hp rfl) (ldS_of (H.cell kp hp rfl) ?_))
  refine needs_of (by omega) ?_
  try simp only [ptr_some_eq, add_mk, Nat.zero_add, Int.toNat_natCast, Nat.mul_one]
  refine ldI_of (H.cell ks hs (i64s_get (half_get hx))) ?_
  refine needs_of (by omega) ?_
  try simp only [ptr_some_eq, add_mk, Nat.zero_add, Int.toNat_natCast, Nat.mul_one]
  refine ldI_of (H.cell kg hg (g_get hr (j := 1) rfl)) ?_
  refine needs_of (by omega) ?_
  try simp only [ptr_some_eq, add_mk, Nat.zero_add]
  refine stV_hp H ks hs (by rw [i64s_length]; simpa [half] using hkl) rfl fun h' hsz H => hk _ ?_
  rw [half_set, i64s_set]
  have e : upM x / 2 = mOf (x / 2) := by unfold upM; omega
  rw [e]
  exact H

end Go.Ar

/- ArT: the document's own coder in memory: other, New, out, renew, Put, States. -/
set_option linter.unusedVariables false
set_option linter.unusedSimpArgs false
namespace Go.Ar
open Go Go.Den Go.Den.YtfaclehehhgpcaaGreat

def sideL (p : Nat) (t : TypeId) (T : List Value) (g gc sq bq n : Nat) (st : List Nat) (grest : List Value) (e5 : Ent) : List Ent :=
  [⟨p, true, t, sideV g gc sq bq st.length n ++ T⟩, ⟨g, true, T_burinref4_Row, growsN 47 ++ grest⟩, ⟨sq, true, T_int, i64s (half st)⟩, ⟨bq, true, T_int, i64s (low st)⟩, e5]

theorem slk_ok {h : Heap} {p g gc sq bq n k x : Nat} {st : List Nat} {grest : List Value} {F : List Nat} {h0 : Heap} {t : TypeId} {T : List Value} {e5 : Ent} (H : Hp h0 F h (sideL p t T g gc sq bq n st grest e5)) (hx : st[k]? = some x) (hx94 : x < 94)
    {K : Value → Heap → Prop} {Kp : List PanicEntry → Heap → Prop} (hk : ∀ h', Hp h0 F h' (sideL p t T g gc sq bq n (st.set k (upM x)) grest e5) → K (.tuple #[]) h') :
    CP F_burinref4_side_likely #[.pointer (at0 p), .int .i64 (k : Nat)] h K Kp :=
  slikely_ok H 0 1 2 rfl rfl rfl hx hx94 fun h' H' => hk _ (H'.as (by
    have e : low (st.set k (upM x)) = low st := by
      rw [low_set]
      have e2 : upM x % 2 = x % 2 := by unfold upM; omega
      rw [e2]
      exact set_same (low_get hx)
    simp [sideL, e]))

set_option maxRecDepth 100000 in
theorem sother_ok {h : Heap} {p g gc sq bq n k x : Nat} {st : List Nat} {grest : List Value} {F : List Nat} {h0 : Heap} {t : TypeId} {T : List Value} {e5 : Ent} (H : Hp h0 F h (sideL p t T g gc sq bq n st grest e5)) (hx : st[k]? = some x) (hx94 : x < 94)
    {K : Value → Heap → Prop} {Kp : List PanicEntry → Heap → Prop} (hk : ∀ h', Hp h0 F h' (sideL p t T g gc sq bq n (st.set k (upL x)) grest e5) → K (.tuple #[]) h') :
    CP F_burinref4_side_other #[.pointer (at0 p), .int .i64 (k : Nat)] h K Kp := by
  refine call_burinref4_side_other ?_
  unfold burinref4_side_other
  have hkl : k < st.length := (List.getElem?_eq_some_iff.1 hx).1
  have hr : x / 2 < 47 := by omega
  have hc1 := cOf_le hr
  have eh : half (st.set k (upL x)) = (half st).set k (lOf (x / 2)) := by
    rw [half_set]; congr 1; unfold upL; omega
  have el : low (st.set k (upL x)) = (low st).set k ((x % 2 + cOf (x / 2)) % 2) := by
    rw [low_set]; congr 1; unfold upL; omega
  try simp only [ptr_some_eq, add_mk, Nat.zero_add, Nat.add_zero]
  refine ldS_of (H.cell 0 rfl rfl) ?_
  refine ldS_of (H.cell 0 rfl rfl) ?_
  refine needs_of (by omega) ?_
  try simp only [ptr_some_eq, add_mk, Nat.zero_add, Int.toNat_natCast, Nat.mul_one]
  refine ldI_of (H.cell 2 rfl (i64s_get (half_get hx))) ?_
  refine needs_of (by omega) ?_
  try simp only [ptr_some_eq, add_mk, Nat.zero_add, Int.toNat_natCast, Nat.mul_one]
  refine ldI_of (H.cell 1 rfl (g_get hr (j := 0) rfl)) ?_
  refine ldI_of (H.cell 1 rfl (g_get hr (j := 1) rfl)) ?_
  refine ldI_of (H.cell 1 rfl (g_get hr (j := 2) rfl)) ?_
  refine ldB_of (H.cell 1 rfl (g_get hr (j := 3) rfl)) ?_
  refine newC_hp H fun w h H => ?_
  try simp only [ptr_some_eq, add_mk, Nat.zero_add, Nat.add_zero]
  refine stV_hp H 5 rfl (by first | exact Nat.le_of_ble_eq_true rfl | simp) rfl fun h hsz H => ?_
  refine stV_hp H 5 rfl (by first | exact Nat.le_of_ble_eq_true rfl | simp) rfl fun h hsz H => ?_
  refine stV_hp H 5 rfl (by first | exact Nat.le_of_ble_eq_true rfl | simp) rfl fun h hsz H => ?_
  refine stV_hp H 5 rfl (by first | exact Nat.le_of_ble_eq_true rfl | simp) rfl fun h hsz H => ?_
  refine ldB_of (H.cell 5 rfl rfl) ?_
  refine bcase_of (fun h1 => ?_) fun h1 => ?_
  · have h1 : cOf (x / 2) = 1 := by simpa using h1
    refine ldS_of (H.cell 0 rfl rfl) ?_
    refine ldS_of (H.cell 0 rfl rfl) ?_
    refine needs_of (by omega) ?_
    try simp only [ptr_some_eq, add_mk, Nat.zero_add, Int.toNat_natCast, Nat.mul_one]
    refine ldI_of (H.cell 3 rfl (i64s_get (low_get hx))) ?_
    refine bindI_of (((1 - x % 2 : Nat) : Int)) (by exact i64_at _ _ (by omega) (by omega) (by omega)) ?_
    refine needs_of (by omega) ?_
    try simp only [ptr_some_eq, add_mk, Nat.zero_add, Int.toNat_natCast, Nat.mul_one]
    refine stV_hp H 3 rfl (by rw [i64s_length]; simpa [low] using hkl) rfl fun h hsz H => ?_
    refine ldS_of (H.cell 0 rfl rfl) ?_
    refine ldI_of (H.cell 5 rfl rfl) ?_
    refine needs_of (by omega) ?_
    try simp only [ptr_some_eq, add_mk, Nat.zero_add, Int.toNat_natCast, Nat.mul_one]
    refine stV_hp H 2 rfl (by rw [i64s_length]; simpa [half] using hkl) rfl fun h hsz H => ?_
    refine hk _ ((H.take 5).as ?_)
    have e3 : (x % 2 + cOf (x / 2)) % 2 = 1 - x % 2 := by rw [h1]; omega
    rw [e3] at el
    simp [sideL, eh, el, i64s_set]
  · have h1 : cOf (x / 2) = 0 := by
      have : cOf (x / 2) ≠ 1 := by simpa using h1
      omega
    refine ldS_of (H.cell 0 rfl rfl) ?_
    refine ldI_of (H.cell 5 rfl rfl) ?_
    refine needs_of (by omega) ?_
    try simp only [ptr_some_eq, add_mk, Nat.zero_add, Int.toNat_natCast, Nat.mul_one]
    refine stV_hp H 2 rfl (by rw [i64s_length]; simpa [half] using hkl) rfl fun h hsz H => ?_
    refine hk _ ((H.take 5).as ?_)
    have e3 : (x % 2 + cOf (x / 2)) % 2 = x % 2 := by rw [h1]; omega
    rw [e3] at el
    have el2 : low (st.set k (upL x)) = low st := el.trans (set_same (low_get hx))
    simp [sideL, eh, el2, i64s_set]

/-! ### the coder -/
structure RP where
  p : Nat
  g : Nat
  gc : Nat
  sq : Nat
  bq : Nat
  grest : List Value
end Go.Ar

/- ArU: the document's own coder in memory: renew, Put, Flush, States. -/
set_option linter.unusedVariables false
set_option linter.unusedSimpArgs false
namespace Go.Ar
open Go Go.Den Go.Den.YtfaclehehhgpcaaGreat

end Go.Ar

/- ArV: the document's own coder in memory: States, Flush. -/
set_option linter.unusedVariables false
set_option linter.unusedSimpArgs false
namespace Go.Ar
open Go Go.Den Go.Den.YtfaclehehhgpcaaGreat

end Go.Ar

/- ArW: what the coders answer where they do not code: contexts out of range, a bit that is none, a coder that is done; Over. -/
set_option linter.unusedVariables false
set_option linter.unusedSimpArgs false
namespace Go.Ar
open Go Go.Den Go.Den.YtfaclehehhgpcaaGreat

end Go.Ar

/- ArX: what a call on rows of one's own leaves: the rows that came in, and another known row. -/
set_option linter.unusedVariables false
set_option linter.unusedSimpArgs false
namespace Go.Ar
open Go Go.Den Go.Den.YtfaclehehhgpcaaGreat

end Go.Ar

/- ArH: the law ArithApart, said of memory. -/
set_option linter.unusedVariables false
set_option linter.unusedSimpArgs false
namespace Go.Ar
open Go Go.Den Go.Den.YtfaclehehhgpcaaGreat

theorem SV.fn {h : Heap} {q : Option Addr} {len : Nat} (hv : SV h q len) : ∃ C B : Nat → Int, ∀ i, i < len → ∃ a, q = some a ∧ hcell h (a.add (i * 2)) = some (.int .i64 (C i)) ∧ hcell h (a.add (i * 2 + 1)) = some (.int .i64 (B i)) := by
  have h1 : ∀ i, ∃ cb : Int × Int, i < len → ∃ a, q = some a ∧ hcell h (a.add (i * 2)) = some (.int .i64 cb.1) ∧ hcell h (a.add (i * 2 + 1)) = some (.int .i64 cb.2) := fun i => by
    by_cases hi : i < len
    · obtain ⟨a, c, b, e1, e2, e3⟩ := hv i hi
      exact ⟨(c, b), fun _ => ⟨a, e1, e2, e3⟩⟩
    · exact ⟨(0, 0), fun h => absurd h hi⟩
  exact ⟨fun i => (Classical.choose (h1 i)).1, fun i => (Classical.choose (h1 i)).2, fun i hi => Classical.choose_spec (h1 i) hi⟩

theorem contexts_ok {h : Heap} {p q n : Nat} {F : List Nat} {h0 : Heap} {L : List Ent} (H : Hp h0 F h L) (kp : Nat) {w : Bool} {t : TypeId} {T : List Value} (hp : L[kp]? = some ⟨p, w, t, rowsV ++ (.slice (some ⟨q, 0, none⟩) n n :: T)⟩)
    {K : Value → Heap → Prop} {Kp : List PanicEntry → Heap → Prop} (hk : K (.int .i64 (n : Nat)) h) : CP F_arith_table_Contexts #[.pointer (at0 p)] h K Kp := by
  refine call_arith_table_Contexts ?_
  unfold arith_table_Contexts
  try simp only [ptr_some_eq, add_mk, Nat.zero_add, Nat.add_zero]
  refine ldS_of (H.cell kp hp (app_get hR 0 rfl)) ?_
  exact hk

end Go.Ar

/- ArY: the law ArithCodes, said of memory. -/
set_option linter.unusedVariables false
set_option linter.unusedSimpArgs false
namespace Go.Ar
open Go Go.Den Go.Den.YtfaclehehhgpcaaGreat

end Go.Ar

/- PgB: pages: Add, Stripe, End, Next, the program's and the document's. -/
set_option linter.unusedVariables false
set_option linter.unusedSimpArgs false
namespace Go.Bm
open Go Go.Den Go.Den.YtfaclehehhgpcaaGreat

/-- What a bitmap that is laid leaves. -/
def LaidP (g : Pg) (x y : Int) (op W2 X2 : Nat) (ws2 R : List Nat) : Prop := R.length = g.X * wds g.W ∧ W64 R ∧ ∀ Y, Y < g.X → ∀ x', x' < 64 * wds g.W → pix R (wds g.W) x' Y =
  if x ≤ x' ∧ (x' : Int) < x + W2 ∧ x' < g.W ∧ y ≤ Y ∧ (Y : Int) < y + X2 then opB op (pix g.ws (wds g.W) x' Y) (pix ws2 (wds W2) (x' - x).toNat (Y - y).toNat) else pix g.ws (wds g.W) x' Y
theorem LaidP.eq {g : Pg} {x y : Int} {op W2 X2 : Nat} {ws2 R R' : List Nat} (h : LaidP g x y op W2 X2 ws2 R) (h' : LaidP g x y op W2 X2 ws2 R') : R = R' :=
  pix_ext h.1 h'.1 h.2.1 h'.2.1 fun Y hY x' hx' => by rw [h.2.2 Y hY x' hx', h'.2.2 Y hY x' hx']
def LateP (g : Pg) (y h : Int) : Prop := g.dn = true ∨ y < g.nx ∨ g.s ≠ 0 ∧ (g.s : Int) - h < y - g.nx
def AddR (g : Pg) (x y op w h : Int) (ws2 : List Nat) (e : Int) (g' : Pg) : Prop :=
  ¬ (0 ≤ op ∧ op ≤ 4 ∧ MayP w h ws2) ∧ e = 150 ∧ g' = g ∨
  (0 ≤ op ∧ op ≤ 4 ∧ MayP w h ws2) ∧ LateP g y h ∧ e = 151 ∧ g' = g ∨
  (0 ≤ op ∧ op ≤ 4 ∧ MayP w h ws2) ∧ ¬ LateP g y h ∧ e = 0 ∧ ∃ R, LaidP g x y op.toNat w.toNat h.toNat ws2 R ∧ g' = { g with ws := R }
theorem AddR.det {g g1 g2 : Pg} {x y op w h e1 e2 : Int} {ws2 : List Nat} (h1 : AddR g x y op w h ws2 e1 g1) (h2 : AddR g x y op w h ws2 e2 g2) : e1 = e2 ∧ g1 = g2 := by
  rcases h1 with ⟨a, b, c⟩ | ⟨a, l, b, c⟩ | ⟨a, l, b, R, r, c⟩ <;> rcases h2 with ⟨a', b', c'⟩ | ⟨a', l', b', c'⟩ | ⟨a', l', b', R', r', c'⟩
  · exact ⟨b.trans b'.symm, c.trans c'.symm⟩
  · exact absurd a' a
  · exact absurd a' a
  · exact absurd a a'
  · exact ⟨b.trans b'.symm, c.trans c'.symm⟩
  · exact absurd l l'
  · exact absurd a a'
  · exact absurd l' l
  · refine ⟨b.trans b'.symm, ?_⟩
    rw [c, c', r.eq r']
theorem AddR.ok {g g' : Pg} {x y op w h e : Int} {ws2 : List Nat} (h1 : AddR g x y op w h ws2 e g') (hg : PgOk g) : PgOk g' := by
  rcases h1 with ⟨_, _, c⟩ | ⟨_, _, _, c⟩ | ⟨_, _, _, R, r, c⟩
  · rw [c]; exact hg
  · rw [c]; exact hg
  · rw [c]; exact ⟨hg.size, r.1, r.2.1, hg.nx, hg.s⟩

theorem operation_ok {h : Heap} {op : Int} {K : Value → Heap → Prop} {Kp : List PanicEntry → Heap → Prop} (hk : ∀ b : Bool, (b = true ↔ 0 ≤ op ∧ op ≤ 4) → K (.bool b) h) : CP F_page_operation #[.int .i64 op] h K Kp := by
  refine call_page_operation ?_
  unfold page_operation
  refine bcase_dec (fun h1 => ?_) fun h1 => hk false (by simp; omega)
  exact hk _ (by simp; omega)
set_option maxRecDepth 100000 in
set_option maxHeartbeats 1000000 in
theorem padd_ok {h0 h : Heap} {F : List Nat} {p m q : Nat} {rest : List Value} {g : Pg} (H : Hp h0 F h (pgL p m q rest g)) (hg : PgOk g) {x y op w b : Int} {q2 : Option Addr} {c2 : Nat} {ws2 : List Nat} (hr : rdO h q2 (ws2.length * 1) (u64s ws2)) (hw2 : W64 ws2) (hl2 : ws2.length < 140737488351300)
    (hx : InI x) (hy : InI y) (hb : InI b) {K : Value → Heap → Prop} {Kp : List PanicEntry → Heap → Prop} (hk : ∀ e g' h', AddR g x y op w b ws2 e g' → Hp h0 F h' (pgL p m q rest g') → K (.int .i64 e) h') :
    CP F_page_Page_Add #[.pointer (at0 p), .int .i64 x, .int .i64 y, .int .i64 op, .agg #[.int .i64 w, .int .i64 b, .slice q2 ws2.length c2]] h K Kp := by
  refine call_page_Page_Add ?_
  unfold page_Page_Add
  have hgb := hg.b
  have hnx := hg.nx
  have hss := hg.s
  refine newC_hpx H fun r4 h1 x1 H => ?_
  have hr := rdO_ext x1 hr
  try simp only [ptr_some_eq, add_mk, Nat.zero_add, Nat.add_zero]
  have e3 : ∀ (T : List Ent), (pgL p m q rest g ++ ([⟨r4, true, T_api_Bitmap, [.int .i64 w, .int .i64 b, .slice q2 ws2.length c2]⟩] ++ T))[3]? = some ⟨r4, true, T_api_Bitmap, [.int .i64 w, .int .i64 b, .slice q2 ws2.length c2]⟩ := fun T => rfl
  refine ldI_of (H.cell 3 rfl (i := 0) rfl) ?_
  refine ldI_of (H.cell 3 rfl (i := 1) rfl) ?_
  refine ldS_of (H.cell 3 rfl (i := 2) rfl) ?_
  refine from_ok hr hw2 hl2 (fun W2 X2 p2 qs srest h2 hw hb' hm H' => ?_) fun h2 hm e2 => ?_
  · subst hw hb'
    replace H := H.join H' rfl
    clear H'
    refine ⟨_, _, rfl, ?_⟩
    obtain ⟨W', X', e1, e2, hV1, hV2, hY1, hY2, hVY⟩ := size_nat hm.1
    obtain rfl : W2 = W' := by omega
    obtain rfl : X2 = X' := by omega
    refine ⟨fun vs h' => h' = h2 ∧ (0 ≤ op ∧ op ≤ 4) ∧ ¬ LateP g y (X2 : Int), ?_, ?_⟩
    · refine ⟨fun vs h' => h' = h2 ∧ ∃ bb : Bool, (bb = true ↔ ¬ (0 ≤ op ∧ op ≤ 4)) ∧ vs = [.bool bb], ?_, ?_⟩
      · refine operation_ok fun bb hbb => ?_
        refine ⟨_, rfl, ?_⟩
        refine bcase_not (fun h3 => ?_) fun h3 => ?_
        · rw [h3]
          exact ⟨rfl, true, ⟨(fun _ h4 => by rw [hbb.2 h4] at h3; cases h3), fun _ => rfl⟩, rfl⟩
        · exact ⟨rfl, false, ⟨(fun h => Bool.noConfusion h), fun h4 => absurd (hbb.1 h3) h4⟩, rfl⟩
      · rintro h' u xx ⟨rfl, bb, hbb, hxx⟩
        injection hxx with hxx
        injection hxx with hxx
        subst hxx
        refine bcase_of (fun h3 => ?_) fun h3 => ?_
        · exact hk 150 g _ (.inl ⟨fun h4 => hbb.1 h3 ⟨h4.1, h4.2.1⟩, rfl, rfl⟩) H.pre.pre
        have hop : 0 ≤ op ∧ op ≤ 4 := Classical.byContradiction fun h4 => by rw [hbb.2 h4] at h3; cases h3
        have late : LateP g y (X2 : Int) → K (.int .i64 151) h' := fun hl => hk 151 g _ (.inr (.inl ⟨⟨hop.1, hop.2, hm⟩, hl, rfl, rfl⟩)) H.pre.pre
        refine ldB_of (H.cell 0 rfl (i := 6) rfl) ?_
        refine bcase_of (fun h4 => ?_) fun h4 => ?_
        · refine bcase_true h4 (late (.inl h4))
        refine ldI_of (H.cell 0 rfl (i := 5) rfl) ?_
        refine bcase_dec (fun h5 => ?_) fun h5 => ?_
        · simp only [decide_eq_true h5]
          exact bcase_true rfl (late (.inr (.inl h5)))
        refine ldI_of (H.cell 0 rfl (i := 3) rfl) ?_
        refine bcase_ne (fun h6 => ?_) fun h6 => ?_
        · refine ldI_of (H.cell 0 rfl (i := 5) rfl) ?_
          unfold InI at hy
          refine bindI_of ((y - (g.nx : Nat))) (by exact i64_in _ (by omega) (by omega)) ?_
          refine ldI_of (H.cell 0 rfl (i := 3) rfl) ?_
          refine ldI_of (H.cell 3 rfl (i := 1) rfl) ?_
          refine bindI_of (((g.s : Nat) - (X2 : Int))) (by exact i64_in _ (by omega) (by omega)) ?_
          refine bcase_dec (fun h7 => ?_) fun h7 => ?_
          · exact late (.inr (.inr ⟨by omega, by omega⟩))
          · refine ⟨by first | rfl | trivial, hop, ?_⟩
            rintro (h8 | h8 | h8)
            · rw [h4] at h8; cases h8
            · omega
            · omega
        · refine ⟨by first | rfl | trivial, hop, ?_⟩
          rintro (h8 | h8 | h8)
          · rw [h4] at h8; cases h8
          · omega
          · omega
    · rintro h' u ⟨rfl, hop, hnl⟩
      obtain ⟨opn, rfl⟩ : ∃ n : Nat, op = (n : Nat) := ⟨op.toNat, by omega⟩
      refine ldP_of (H.cell 0 rfl (i := 4) rfl) ?_
      refine ldI_of (H.cell 3 rfl (i := 0) rfl) ?_
      refine ldI_of (H.cell 3 rfl (i := 1) rfl) ?_
      refine blit_ok (p := m) (q := q) (W := g.W) (X := g.X) (ws := g.ws) (rest := rest) (p2 := p2) (q2 := qs) (ws2 := ws2) (rest2 := srest) (H.give [1, 2, 4, 5] (by decide) rfl) hg.size hg.len hg.w hm.1 hm.2.1 hw2 ⟨by omega, by omega⟩ ⟨by omega, by omega⟩ ⟨by omega, by omega⟩ ⟨by omega, by omega⟩ hx hy (by omega) (by omega) (by omega) fun R h' k1 k2 k3 H' => ?_
      have H := (H.pick [0, 1, 2, 4, 5] (by decide) (L' := pgL p m q rest g ++ mapL p2 qs W2 X2 ws2 srest) rfl)
      have H := (H.back [1, 2, 3, 4] (by decide) rfl rfl H' rfl (Nat.le_of_ble_eq_true rfl))
      refine ⟨_, rfl, hk 0 { g with ws := R } _ (.inr (.inr ⟨⟨hop.1, hop.2, hm⟩, hnl, rfl, R, ⟨k1, k2, fun Y hY x' hx' => ?_⟩, rfl⟩)) (H.pick [0, 1, 2] (by decide) (by rfl))⟩
      rw [k3 Y hY x' hx']
      have e1 : ((W2 : Int)).toNat = W2 := by simp
      have e2 : ((X2 : Int)).toNat = X2 := by simp
      rw [e1, e2, Int.toNat_natCast]
      by_cases h9 : x ≤ x' ∧ (x' : Int) < x + W2 ∧ x' < g.W ∧ y ≤ Y ∧ (Y : Int) < y + X2
      · rw [if_pos (by omega), if_pos h9]
        congr 2 <;> omega
      · rw [if_neg (by omega), if_neg h9]
  · have H := H.ext e2
    refine ⟨_, _, rfl, ?_⟩
    refine ⟨fun vs h' => False, ?_, fun h u hf => hf.elim⟩
    refine ⟨fun vs h' => h' = h2 ∧ vs = [.bool true], ?_, ?_⟩
    · refine operation_ok fun bb hbb => ?_
      refine ⟨_, rfl, ?_⟩
      refine bcase_not (fun h3 => ?_) fun h3 => ?_
      · rw [h3]; exact ⟨rfl, rfl⟩
      · exact ⟨rfl, rfl⟩
    · rintro h' u xx ⟨rfl, hxx⟩
      injection hxx with hxx
      injection hxx with hxx
      subst hxx
      refine bcase_true (by rfl) ?_
      exact hk 150 g _ (.inl ⟨fun h4 => hm h4.2.2, rfl, rfl⟩) H.pre

/-! ### Stripe, End, Next -/
def stripeG (g : Pg) (last : Int) : Int × Pg := if g.dn = true ∨ g.s = 0 ∨ g.nx = g.X ∨ last ≠ ((min (g.nx + g.s) g.X : Nat) : Int) - 1 then (151, g) else (0, { g with nx := min (g.nx + g.s) g.X })
theorem stripeG_ok {g : Pg} (h : PgOk g) (last : Int) : PgOk (stripeG g last).2 := by
  unfold stripeG
  split
  · exact h
  · exact ⟨h.size, h.len, h.w, Nat.min_le_right _ _, h.s⟩
theorem pstripe_ok {h0 h : Heap} {F : List Nat} {p m q : Nat} {rest : List Value} {g : Pg} (H : Hp h0 F h (pgL p m q rest g)) (hg : PgOk g) {last : Int} {K : Value → Heap → Prop} {Kp : List PanicEntry → Heap → Prop}
    (hk : ∀ h', Hp h0 F h' (pgL p m q rest (stripeG g last).2) → K (.int .i64 (stripeG g last).1) h') : CP F_page_Page_Stripe #[.pointer (at0 p), .int .i64 last] h K Kp := by
  refine call_page_Page_Stripe ?_
  unfold page_Page_Stripe
  have hgb := hg.b
  have hnx := hg.nx
  have hss := hg.s
  unfold stripeG at hk
  have bad : (g.dn = true ∨ g.s = 0 ∨ g.nx = g.X ∨ last ≠ ((min (g.nx + g.s) g.X : Nat) : Int) - 1) → K (.int .i64 151) h := fun hz => by
    rw [if_pos hz] at hk
    exact hk h H
  try simp only [ptr_some_eq, add_mk, Nat.zero_add, Nat.add_zero]
  refine ldB_of (H.cell 0 rfl (i := 6) rfl) ?_
  refine bcase_of (fun h1 => bad (.inl h1)) fun h1 => ?_
  refine ldI_of (H.cell 0 rfl (i := 3) rfl) ?_
  refine bcase_eq (fun h2 => bad (.inr (.inl (by omega)))) fun h2 => ?_
  refine ldI_of (H.cell 0 rfl (i := 5) rfl) ?_
  refine ldI_of (H.cell 0 rfl (i := 1) rfl) ?_
  refine bcase_eq (fun h3 => bad (.inr (.inr (.inl (by omega))))) fun h3 => ?_
  refine ldI_of (H.cell 0 rfl (i := 5) rfl) ?_
  refine ldI_of (H.cell 0 rfl (i := 3) rfl) ?_
  refine bindI_of (((g.nx + g.s : Nat) : Int)) (by exact i64_at _ _ (by omega) (by omega) (by omega)) ?_
  refine ldI_of (H.cell 0 rfl (i := 1) rfl) ?_
  refine min_of fun mm hmm => ?_
  obtain rfl : mm = ((min (g.nx + g.s) g.X : Nat) : Int) := by omega
  refine bindI_of ((((min (g.nx + g.s) g.X : Nat) : Int) - 1)) (by exact i64_in _ (by omega) (by omega)) ?_
  refine bcase_ne (fun h4 => bad (.inr (.inr (.inr h4)))) fun h4 => ?_
  refine bindI_of (((min (g.nx + g.s) g.X : Nat) : Int)) (by exact i64_at _ _ (by omega) (by omega) (by omega)) ?_
  refine stV_hp H 0 rfl (Nat.le_of_ble_eq_true rfl) rfl fun h hsz H => ?_
  rw [if_neg (by
    rintro (h5 | h5 | h5 | h5)
    · rw [h1] at h5; cases h5
    · omega
    · omega
    · exact h5 h4)] at hk
  exact hk h H
theorem pnext_ok {h0 h : Heap} {F : List Nat} {p m : Nat} {L : List Ent} {g : Pg} (H : Hp h0 F h L) (k : Nat) (hp : L[k]? = some (pgE p m g)) {K : Value → Heap → Prop} {Kp : List PanicEntry → Heap → Prop}
    (hk : K (.int .i64 (g.nx : Nat)) h) : CP F_page_Page_Next #[.pointer (at0 p)] h K Kp := by
  refine call_page_Page_Next ?_
  unfold page_Page_Next
  try simp only [ptr_some_eq, add_mk, Nat.zero_add, Nat.add_zero]
  refine ldI_of (H.cell k hp (i := 5) rfl) ?_
  exact hk

/-- What End answers, and leaves. -/
def EndR (g : Pg) (e w b : Int) (bs : List Nat) (g' : Pg) : Prop :=
  (g.dn = true ∨ g.s ≠ 0 ∧ g.nx < g.X) ∧ e = 151 ∧ w = 0 ∧ b = 0 ∧ bs = [] ∧ g' = g ∨
  ¬ (g.dn = true ∨ g.s ≠ 0 ∧ g.nx < g.X) ∧ e = 0 ∧ w = (g.W : Nat) ∧ b = (g.X : Nat) ∧ bs = g.ws ∧ g' = { g with nx := g.X, dn := true }
theorem EndR.det {g g1 g2 : Pg} {e1 e2 w1 w2 b1 b2 : Int} {bs1 bs2 : List Nat} (h1 : EndR g e1 w1 b1 bs1 g1) (h2 : EndR g e2 w2 b2 bs2 g2) : e1 = e2 ∧ w1 = w2 ∧ b1 = b2 ∧ bs1 = bs2 ∧ g1 = g2 := by
  rcases h1 with ⟨a, b, c, d, e, f⟩ | ⟨a, b, c, d, e, f⟩ <;> rcases h2 with ⟨a', b', c', d', e', f'⟩ | ⟨a', b', c', d', e', f'⟩
  · exact ⟨b.trans b'.symm, c.trans c'.symm, d.trans d'.symm, e.trans e'.symm, f.trans f'.symm⟩
  · exact absurd a a'
  · exact absurd a' a
  · exact ⟨b.trans b'.symm, c.trans c'.symm, d.trans d'.symm, e.trans e'.symm, f.trans f'.symm⟩
theorem EndR.ok {g g' : Pg} {e w b : Int} {bs : List Nat} (h : EndR g e w b bs g') (hg : PgOk g) : PgOk g' ∧ bs.length ≤ 1048576 := by
  have hb := hg.b
  rcases h with ⟨a, b, c, d, e, f⟩ | ⟨a, b, c, d, e, f⟩
  · rw [f, e]; exact ⟨hg, by simp⟩
  · rw [f, e]; exact ⟨⟨hg.size, hg.len, hg.w, Nat.le_refl _, hg.s⟩, by omega⟩

set_option maxRecDepth 100000 in
theorem pend_ok {h0 h : Heap} {F : List Nat} {p m q : Nat} {rest : List Value} {g : Pg} (H : Hp h0 F h (pgL p m q rest g)) (hg : PgOk g) {K : Value → Heap → Prop} {Kp : List PanicEntry → Heap → Prop}
    (hk : ∀ e w b bs g' D qo c h', EndR g e w b bs g' → Slot T_uint64 1 D qo bs.length c (u64s bs) → Hp h0 F h' (pgL p m q rest g' ++ D) → K (.tuple #[.agg #[.int .i64 w, .int .i64 b, .slice qo bs.length c], .int .i64 e]) h') :
    CP F_page_Page_End #[.pointer (at0 p)] h K Kp := by
  refine call_page_Page_End ?_
  unfold page_Page_End
  have hgb := hg.b
  refine newC_hp H fun r h H => ?_
  have H := H.rot
  refine ⟨fun vs h' => ¬ (g.dn = true ∨ g.s ≠ 0 ∧ g.nx < g.X) ∧ Hp h0 F h' ([⟨r, true, T_api_Bitmap, [.int .i64 0, .int .i64 0, .slice none 0 0]⟩] ++ pgL p m q rest g), ?_, ?_⟩
  · try simp only [ptr_some_eq, add_mk, Nat.zero_add, Nat.add_zero]
    have bad : (g.dn = true ∨ g.s ≠ 0 ∧ g.nx < g.X) → ∀ h, Hp h0 F h ([⟨r, true, T_api_Bitmap, [.int .i64 0, .int .i64 0, .slice none 0 0]⟩] ++ pgL p m q rest g) → stV h ⟨r, 0, none⟩ (.int .i64 0) fun h_8 => stV h_8 ⟨r, 1, none⟩ (.int .i64 0) fun h_9 => stV h_9 ⟨r, 2, none⟩ (.slice none 0 0) fun h_10 =>
        ldI h_10 ⟨r, 0, none⟩ .i64 fun r_11 => ldI h_10 ⟨r, 1, none⟩ .i64 fun r_12 => ldS h_10 ⟨r, 2, none⟩ fun r_13 r_13n r_13c => K (.tuple #[.agg #[.int .i64 r_11, .int .i64 r_12, .slice r_13 r_13n r_13c], .int .i64 151]) h_10 := fun hz h H => by
      refine stV_hp H 0 rfl (by first | exact Nat.le_of_ble_eq_true rfl | simp) rfl fun h hsz H => ?_
      refine stV_hp H 0 rfl (by first | exact Nat.le_of_ble_eq_true rfl | simp) rfl fun h hsz H => ?_
      refine stV_hp H 0 rfl (by first | exact Nat.le_of_ble_eq_true rfl | simp) rfl fun h hsz H => ?_
      refine ldI_of (H.cell 0 rfl rfl) ?_
      refine ldI_of (H.cell 0 rfl rfl) ?_
      refine ldS_of (H.cell 0 rfl rfl) ?_
      exact hk 151 0 0 [] g [] none 0 _ (.inl ⟨hz, rfl, rfl, rfl, rfl, rfl⟩) (Slot.nil _ _) ((Hp.suf (X := [_]) H).as (List.append_nil _).symm)
    refine ldB_of (H.cell 1 rfl (i := 6) rfl) ?_
    refine bcase_of (fun h1 => bad (.inl h1) _ H) fun h1 => ?_
    refine ldI_of (H.cell 1 rfl (i := 3) rfl) ?_
    refine bcase_ne (fun h2 => ?_) fun h2 => ?_
    · refine ldI_of (H.cell 1 rfl (i := 5) rfl) ?_
      refine ldI_of (H.cell 1 rfl (i := 1) rfl) ?_
      refine bcase_dec (fun h3 => bad (.inr ⟨by omega, by omega⟩) _ H) fun h3 => ?_
      refine ⟨?_, H⟩
      rintro (h4 | h4)
      · rw [h1] at h4; cases h4
      · omega
    · refine ⟨?_, H⟩
      rintro (h4 | h4)
      · rw [h1] at h4; cases h4
      · omega
  · rintro h u ⟨hn, H⟩
    try simp only [ptr_some_eq, add_mk, Nat.zero_add, Nat.add_zero]
    refine ldI_of (H.cell 1 rfl (i := 1) rfl) ?_
    refine stV_hp H 1 rfl (Nat.le_of_ble_eq_true rfl) rfl fun h hsz H => ?_
    refine stV_hp H 1 rfl (Nat.le_of_ble_eq_true rfl) rfl fun h hsz H => ?_
    have H : Hp h0 F h ([⟨r, true, T_api_Bitmap, [.int .i64 0, .int .i64 0, .slice none 0 0]⟩] ++ pgL p m q rest { g with nx := g.X, dn := true }) := H
    refine ldP_of (H.cell 1 rfl (i := 4) rfl) ?_
    refine plain_ok (W := g.W) (X := g.X) (ws := g.ws) (rest := rest) H 2 3 rfl rfl (by omega) (by omega) fun o orest h H => ?_
    refine ⟨_, _, _, _, _, rfl, ?_⟩
    refine stV_hp H 0 rfl (by first | exact Nat.le_of_ble_eq_true rfl | simp) rfl fun h hsz H => ?_
    refine stV_hp H 0 rfl (by first | exact Nat.le_of_ble_eq_true rfl | simp) rfl fun h hsz H => ?_
    refine stV_hp H 0 rfl (by first | exact Nat.le_of_ble_eq_true rfl | simp) rfl fun h hsz H => ?_
    refine ldI_of (H.cell 0 rfl rfl) ?_
    refine ldI_of (H.cell 0 rfl rfl) ?_
    refine ldS_of (H.cell 0 rfl rfl) ?_
    refine hk 0 _ _ g.ws _ [⟨o, true, T_uint64, u64s g.ws ++ orest⟩] _ _ _ (.inr ⟨hn, rfl, rfl, rfl, rfl, rfl⟩) (Slot.one (by rw [u64s_length, Nat.mul_one]) (by rw [List.length_append, u64s_length, Nat.mul_one])) ?_
    exact H.pick [1, 2, 3, 4] (by decide) rfl

end Go.Bm

/- Written by gen.py: the conditions of the functions of law15x. -/
set_option linter.unusedVariables false
set_option linter.unusedSimpArgs false
namespace Go.Den.YtfaclehehhgpcaaGreat
open Go Go.Den

/- burin/burinlaw15.wakes -/
set_option maxRecDepth 100000 in
def burinlaw15_wakes (C : CallP)  (h : Heap) (K : Value → Heap → Prop) (Kp : List PanicEntry → Heap → Prop) : Prop :=
C F_page_New #[.agg #[.int .i64 3, .int .i64 3, .int .i64 0, .int .i64 2]] h (fun v_1 h_2 =>
∃ (r_3 : Option Addr), ∃ (r_4 : Int), v_1 = .tuple #[.pointer r_3, .int .i64 r_4] ∧ (
bcase (r_4 != (0 : Int)) (
K (.bool false) h_2) <|
bcase r_3.isNone (
K (.bool false) h_2) <|
newC h_2 [.int .u64 9223372036854775808] T_uint64 fun r_5 h_6 =>
C F_page_Page_Add #[.pointer r_3, .int .i64 0, .int .i64 0, .int .i64 0, .agg #[.int .i64 1, .int .i64 1, .slice (some ⟨r_5, 0, none⟩) 1 1]] h_6 (fun v_7 h_8 =>
∃ (r_9 : Int), v_7 = .int .i64 r_9 ∧ (
bcase (r_9 != (0 : Int)) (
K (.bool false) h_8) <|
C F_page_Page_Stripe #[.pointer r_3, .int .i64 2] h_8 (fun v_10 h_11 =>
∃ (r_12 : Int), v_10 = .int .i64 r_12 ∧ (
bcase (r_12 != (151 : Int)) (
K (.bool false) h_11) <|
C F_page_Page_Stripe #[.pointer r_3, .int .i64 1] h_11 (fun v_13 h_14 =>
∃ (r_15 : Int), v_13 = .int .i64 r_15 ∧ (
bcase (r_15 != (0 : Int)) (
K (.bool false) h_14) <|
C F_page_Page_Next #[.pointer r_3] h_14 (fun v_16 h_17 =>
∃ (r_18 : Int), v_16 = .int .i64 r_18 ∧ (
bcase (r_18 != (2 : Int)) (
K (.bool false) h_17) <|
C F_page_Page_Stripe #[.pointer r_3, .int .i64 2] h_17 (fun v_19 h_20 =>
∃ (r_21 : Int), v_19 = .int .i64 r_21 ∧ (
bcase (r_21 != (0 : Int)) (
K (.bool false) h_20) <|
C F_page_Page_End #[.pointer r_3] h_20 (fun v_22 h_23 =>
∃ (r_24 : Int) (r_25 : Int) (r_26 : Option Addr) (r_26n : Nat) (r_26c : Nat), ∃ (r_27 : Int), v_22 = .tuple #[.agg #[.int .i64 r_24, .int .i64 r_25, .slice r_26 r_26n r_26c], .int .i64 r_27] ∧ (
newC h_23 [.int .i64 0, .int .i64 0, .slice none 0 0] T_api_Bitmap fun r_28 h_29 =>
stV h_29 ((⟨r_28, 0, none⟩ : Addr).add 0) (.int .i64 r_24) fun h_30 =>
stV h_30 ((⟨r_28, 0, none⟩ : Addr).add 1) (.int .i64 r_25) fun h_31 =>
stV h_31 ((⟨r_28, 0, none⟩ : Addr).add 2) (.slice r_26 r_26n r_26c) fun h_32 =>
bcase (r_27 == (0 : Int)) (
ldI h_32 ((⟨r_28, 0, none⟩ : Addr).add 0) .i64 fun x_33 =>
ldI h_32 ((⟨r_28, 0, none⟩ : Addr).add 1) .i64 fun x_34 =>
ldS h_32 ((⟨r_28, 0, none⟩ : Addr).add 2) fun x_35 x_35n x_35c =>
newC h_32 [.int .u64 9223372036854775808, .int .u64 0, .int .u64 0] T_uint64 fun r_36 h_37 =>
C F_burinref0_EqBitmap #[.agg #[.int .i64 x_33, .int .i64 x_34, .slice x_35 x_35n x_35c], .agg #[.int .i64 3, .int .i64 3, .slice (some ⟨r_36, 0, none⟩) 3 3]] h_37 (fun v_38 h_39 =>
∃ (r_40 : Bool), v_38 = .bool r_40 ∧ (
K (.bool r_40) h_39)) (Kp)) <|
K (.bool false) h_32)) (Kp))) (Kp))) (Kp))) (Kp))) (Kp))) (Kp))) (Kp)

/- burin/burinlaw15.great -/
set_option maxRecDepth 100000 in
def burinlaw15_great (C : CallP) (f : Option Addr) (fn : Nat) (fc : Nat) (h : Heap) (K : Value → Heap → Prop) (Kp : List PanicEntry → Heap → Prop) : Prop :=
newC h [.int .i64 0, .int .i64 0, .int .i64 0, .int .i64 0] T_4_int fun r_1 h_2 =>
∃ J_3 : Nat → List Value → Heap → Prop, (∃ n_5, J_3 n_5 [.int .i64 0, .int .i64 0] h_2) ∧ ∀ (n_5 : Nat) (h_6 : Heap) (u_7 : Nat → Value) (at_8 : Int) (k_9 : Int), J_3 n_5 [.int .i64 at_8, .int .i64 k_9] h_6 → (
bcase (decide (k_9 < (4 : Int))) (
∃ J_10 : Nat → List Value → Heap → Prop, (∃ n_12, J_10 n_12 [.int .i64 at_8, .int .i64 1] h_6) ∧ ∀ (n_12 : Nat) (h_13 : Heap) (u_14 : Nat → Value) (at_15 : Int) (unit_16 : Int), J_10 n_12 [.int .i64 at_15, .int .i64 unit_16] h_13 → (
bcase (decide (at_15 < (fn : Int))) (
bcase (decide (unit_16 < (1073741824 : Int))) (
needs (0 ≤ k_9 ∧ k_9 < ((4 : Nat) : Int)) <|
needs (0 ≤ at_15 ∧ at_15 < (fn : Int)) <|
ptr f fun a_17 =>
ldI h_13 ((⟨r_1, 0, none⟩ : Addr).add (k_9.toNat * 1)) .i64 fun x_18 =>
ldI h_13 (a_17.add (at_15.toNat * 1)) .u8 fun x_19 =>
bindI (IntKind.i64.wrap x_19) fun z_20 =>
bindI (z_20.tmod (128 : Int)) fun z_21 =>
bindI (IntKind.i64.wrap (z_21 * unit_16)) fun z_22 =>
bindI (IntKind.i64.wrap (x_18 + z_22)) fun z_23 =>
needs (0 ≤ k_9 ∧ k_9 < ((4 : Nat) : Int)) <|
stV h_13 ((⟨r_1, 0, none⟩ : Addr).add (k_9.toNat * 1)) (.int .i64 z_23) fun h_24 =>
bindI (IntKind.i64.wrap (unit_16 * (128 : Int))) fun z_25 =>
bindI (IntKind.i64.wrap (at_15 + (1 : Int))) fun z_26 =>
bindI (IntKind.i64.wrap (z_26 - (1 : Int))) fun z_27 =>
needs (0 ≤ z_27 ∧ z_27 < (fn : Int)) <|
ptr f fun a_28 =>
ldI h_24 (a_28.add (z_27.toNat * 1)) .u8 fun x_29 =>
bcase (decide (x_29 < (128 : Int))) (
bindI (IntKind.i64.wrap (k_9 + (1 : Int))) fun z_30 =>
∃ m_4, m_4 < n_5 ∧ J_3 m_4 [.int .i64 z_26, .int .i64 z_30] h_24) <|
∃ m_11, m_11 < n_12 ∧ J_10 m_11 [.int .i64 z_26, .int .i64 z_25] h_24) <|
bindI (IntKind.i64.wrap (k_9 + (1 : Int))) fun z_31 =>
∃ m_4, m_4 < n_5 ∧ J_3 m_4 [.int .i64 at_15, .int .i64 z_31] h_13) <|
bindI (IntKind.i64.wrap (k_9 + (1 : Int))) fun z_32 =>
∃ m_4, m_4 < n_5 ∧ J_3 m_4 [.int .i64 at_15, .int .i64 z_32] h_13)) <|
needs (0 ≤ (2 : Int) ∧ (2 : Int) < ((4 : Nat) : Int)) <|
ldI h_6 ((⟨r_1, 0, none⟩ : Addr).add ((2 : Int).toNat * 1)) .i64 fun x_33 =>
needs (0 ≤ (3 : Int) ∧ (3 : Int) < ((4 : Nat) : Int)) <|
ldI h_6 ((⟨r_1, 0, none⟩ : Addr).add ((3 : Int).toNat * 1)) .i64 fun x_34 =>
C F_burinref0_Size #[.int .i64 x_33, .int .i64 x_34] h_6 (fun v_35 h_36 =>
∃ (r_37 : Bool), v_35 = .bool r_37 ∧ (
bcase r_37 (
needs (0 ≤ (2 : Int) ∧ (2 : Int) < ((4 : Nat) : Int)) <|
ldI h_36 ((⟨r_1, 0, none⟩ : Addr).add ((2 : Int).toNat * 1)) .i64 fun x_38 =>
needs (0 ≤ (3 : Int) ∧ (3 : Int) < ((4 : Nat) : Int)) <|
ldI h_36 ((⟨r_1, 0, none⟩ : Addr).add ((3 : Int).toNat * 1)) .i64 fun x_39 =>
bindI (IntKind.i64.wrap (x_38 * x_39)) fun z_40 =>
bcase (decide (z_40 > (6000 : Int))) (
K (.bool true) h_36) <|
needs (0 ≤ (3 : Int) ∧ (3 : Int) < ((4 : Nat) : Int)) <|
ldI h_36 ((⟨r_1, 0, none⟩ : Addr).add ((3 : Int).toNat * 1)) .i64 fun x_41 =>
K (.bool (decide (x_41 > (2000 : Int)))) h_36) <|
K (.bool false) h_36)) (Kp))

end Go.Den.YtfaclehehhgpcaaGreat

/- Written by gen.py: each condition of the functions of law15x is the one of its body; so it is enough for its call. -/
set_option linter.unusedVariables false
set_option linter.unusedSimpArgs false
namespace Go.Den.YtfaclehehhgpcaaGreat
open Go Go.Den

noncomputable def hints_burinlaw15_wakes : Hints := Hints.mk (fun i => none)
  (fun i => none)
  (fun i => none) []
set_option maxRecDepth 100000 in
theorem eq_burinlaw15_wakes (C : CallP)  (h : Heap) (K : Value → Heap → Prop) (Kp : List PanicEntry → Heap → Prop) :
    fnD Go.Proofs.Tryz.prog C hints_burinlaw15_wakes Go.Proofs.Tryz.f20 [] h K Kp = burinlaw15_wakes C  h K Kp := by kernel_rfl

theorem call_burinlaw15_wakes  {h : Heap} {K : Value → Heap → Prop} {Kp : List PanicEntry → Heap → Prop} (H : burinlaw15_wakes (CallsHP Go.Proofs.Tryz.prog)  h K Kp) : CallsHP Go.Proofs.Tryz.prog F_burinlaw15_wakes #[] h K Kp :=
  callsHP_of hints_burinlaw15_wakes (by kernel_rfl) Go.Proofs.Tryz.func20 (by kernel_rfl) (by rw [eq_burinlaw15_wakes]; exact H)

noncomputable def hints_burinlaw15_great : Hints := Hints.mk (fun i => bif Nat.beq i 8 then some ([14], .take 0 <| .take 1 <| .take 2 <| .take 4 <| .take 5 <| .take 6 <| .take 10 <| .take 3 <| .take 7 <| .take 8 <| .take 9 <| .take 11 <| .take 12 <| .take 13 <| .bar 14 [] <| .done) else (none))
  (fun i => bif Nat.beq i 4 then some ([(4, .int .i64), (5, .int .i64)], 8796093022192) else (bif Nat.beq i 7 then some ([(4, .int .i64), (6, .int .i64)], 8796093020240) else (none)))
  (fun i => none) []
set_option maxRecDepth 100000 in
theorem eq_burinlaw15_great (C : CallP) (f : Option Addr) (fn : Nat) (fc : Nat) (h : Heap) (K : Value → Heap → Prop) (Kp : List PanicEntry → Heap → Prop) :
    fnD Go.Proofs.Tryz.prog C hints_burinlaw15_great Go.Proofs.Tryz.f25 [.slice f fn fc] h K Kp = burinlaw15_great C f fn fc h K Kp := by kernel_rfl

theorem call_burinlaw15_great {f : Option Addr} {fn : Nat} {fc : Nat} {h : Heap} {K : Value → Heap → Prop} {Kp : List PanicEntry → Heap → Prop} (H : burinlaw15_great (CallsHP Go.Proofs.Tryz.prog) f fn fc h K Kp) : CallsHP Go.Proofs.Tryz.prog F_burinlaw15_great #[.slice f fn fc] h K Kp :=
  callsHP_of hints_burinlaw15_great (by kernel_rfl) Go.Proofs.Tryz.func25 (by kernel_rfl) (by rw [eq_burinlaw15_great]; exact H)

end Go.Den.YtfaclehehhgpcaaGreat

/- PgC: the law PageExact, said of memory. -/
set_option linter.unusedVariables false
set_option linter.unusedSimpArgs false
namespace Go.Bm
open Go Go.Den Go.Den.YtfaclehehhgpcaaGreat

theorem one_may : MayP 1 1 [9223372036854775808] := by
  refine ⟨by unfold SizeP; omega, by decide, fun y hy => ?_⟩
  have : y = 0 := by simp at hy; omega
  subst this
  decide
theorem three_ws {R0 R : List Nat} (h0 : FullP 3 3 0 R0) (h : LaidP ⟨3, 3, 0, 2, R0, 0, false⟩ 0 0 0 1 1 [9223372036854775808] R) : R = [9223372036854775808, 0, 0] := by
  have hw3 : wds 3 = 1 := rfl
  obtain ⟨h1, h2, h3⟩ := h
  dsimp only at h1 h3
  rw [hw3] at h1 h3
  refine pix_ext (wd := 1) (h := 3) h1 rfl h2 (fun v hv => by simp at hv; rcases hv with rfl | rfl <;> decide) fun y hy x hx => ?_
  have := h3 y hy x hx
  have hz := h0.2.2 y hy x hx
  rw [hw3] at hz
  rw [this]
  have hx64 : x / 64 = 0 := by omega
  have hR : pix [9223372036854775808, 0, 0] 1 x y = decide (x = 0 ∧ y = 0) := by
    unfold pix
    rw [hx64]
    have hb : (9223372036854775808 : Nat) = 2 ^ 63 := rfl
    rcases (show y = 0 ∨ y = 1 ∨ y = 2 by omega) with rfl | rfl | rfl
    · show (9223372036854775808 : Nat).testBit _ = _
      rw [hb, Nat.testBit_two_pow, decide_eq_decide]
      omega
    · show (0 : Nat).testBit _ = _
      rw [Nat.zero_testBit, eq_comm, decide_eq_false_iff_not]; omega
    · show (0 : Nat).testBit _ = _
      rw [Nat.zero_testBit, eq_comm, decide_eq_false_iff_not]; omega
  rw [hR, hz]
  by_cases h4 : x = 0 ∧ y = 0
  · obtain ⟨rfl, rfl⟩ := h4
    rw [if_pos (by omega)]
    decide
  · rw [if_neg (by omega), decide_eq_false h4]
    simp

set_option maxRecDepth 100000 in
set_option maxHeartbeats 1000000 in
theorem wakes15_ok {hB : Heap} {K : Value → Heap → Prop} {Kp : List PanicEntry → Heap → Prop} (hk : ∀ h', hext hB h' → K (.bool true) h') : CP F_burinlaw15_wakes #[] hB K Kp := by
  refine call_burinlaw15_wakes ?_
  unfold burinlaw15_wakes
  have hs : SheetP 3 3 0 2 := ⟨by unfold SizeP; omega, by omega, by omega, by omega⟩
  refine pnew_ok (fun G p m q rest h hw hx hd hss _ hn hdn hf H => ?_) fun _ hbad _ => absurd hs hbad
  obtain ⟨W, X, d, s, ws, nx, dn⟩ := G
  dsimp only at hw hx hd hss hn hdn hf
  obtain rfl : W = 3 := by omega
  obtain rfl : X = 3 := by omega
  obtain rfl : d = 0 := by omega
  obtain rfl : s = 2 := by omega
  obtain rfl : nx = 0 := hn
  obtain rfl : dn = false := hdn
  refine ⟨_, _, rfl, ?_⟩
  refine bcase_false (by rfl) ?_
  refine bcase_false (by rfl) ?_
  refine newC_hp H fun o h H => ?_
  have hok : PgOk ⟨3, 3, 0, 2, ws, 0, false⟩ := ⟨hs.1, hf.1, hf.2.1, Nat.zero_le _, by show 2 ≤ 1048576; decide⟩
  have hr := row_rdO H 3 (xs := [9223372036854775808]) (rest := []) rfl
  refine padd_ok (ws2 := [9223372036854775808]) (H.give [0, 1, 2] (by decide) rfl) hok hr (fun v hv => by simp at hv; rw [hv]; decide) (by decide) ⟨by omega, by omega⟩ ⟨by omega, by omega⟩ ⟨by omega, by omega⟩ fun e g' h' ha H' => ?_
  replace H := H.put [0, 1, 2] (by decide) rfl rfl H' rfl rfl
  clear H'
  have hok' := ha.ok hok
  rcases ha with ⟨a, _, _⟩ | ⟨_, l, _, _⟩ | ⟨_, _, rfl, R, hR, rfl⟩
  · exact absurd ⟨by omega, by omega, one_may⟩ a
  · rcases l with l | l | l
    · cases l
    · exact absurd l (by show ¬ (0 : Int) < ((0 : Nat) : Int); omega)
    · exact absurd l.2 (by show ¬ ((2 : Nat) : Int) - 1 < 0 - ((0 : Nat) : Int); omega)
  have hRe := three_ws hf hR
  subst hRe
  dsimp only at hok' H
  have hs1 : stripeG ⟨3, 3, 0, 2, [9223372036854775808, 0, 0], 0, false⟩ 2 = (151, ⟨3, 3, 0, 2, [9223372036854775808, 0, 0], 0, false⟩) := by simp [stripeG]
  have hs2 : stripeG ⟨3, 3, 0, 2, [9223372036854775808, 0, 0], 0, false⟩ 1 = (0, ⟨3, 3, 0, 2, [9223372036854775808, 0, 0], 2, false⟩) := by simp [stripeG]
  have hs3 : stripeG ⟨3, 3, 0, 2, [9223372036854775808, 0, 0], 2, false⟩ 2 = (0, ⟨3, 3, 0, 2, [9223372036854775808, 0, 0], 3, false⟩) := by simp [stripeG]
  have H : Hp hB [] h' (pgL p m q rest ⟨3, 3, 0, 2, [9223372036854775808, 0, 0], 0, false⟩ ++ [⟨o, true, T_uint64, [.int .u64 9223372036854775808]⟩]) := H
  refine ⟨_, rfl, ?_⟩
  refine bcase_false (by rfl) ?_
  refine pstripe_ok (H.give [0, 1, 2] (by decide) rfl) hok' fun h' H' => ?_
  rw [hs1] at H' ⊢
  replace H := H.put [0, 1, 2] (by decide) rfl rfl H' rfl rfl
  clear H'
  have H : Hp hB [] h' (pgL p m q rest ⟨3, 3, 0, 2, [9223372036854775808, 0, 0], 0, false⟩ ++ [⟨o, true, T_uint64, [.int .u64 9223372036854775808]⟩]) := H
  refine ⟨_, rfl, ?_⟩
  refine bcase_false (by rfl) ?_
  refine pstripe_ok (H.give [0, 1, 2] (by decide) rfl) hok' fun h' H' => ?_
  rw [hs2] at H' ⊢
  replace H := H.put [0, 1, 2] (by decide) rfl rfl H' rfl rfl
  clear H'
  have H : Hp hB [] h' (pgL p m q rest ⟨3, 3, 0, 2, [9223372036854775808, 0, 0], 2, false⟩ ++ [⟨o, true, T_uint64, [.int .u64 9223372036854775808]⟩]) := H
  refine ⟨_, rfl, ?_⟩
  refine bcase_false (by rfl) ?_
  refine pnext_ok (m := m) (g := ⟨3, 3, 0, 2, [9223372036854775808, 0, 0], 2, false⟩) H 0 rfl ?_
  refine ⟨_, rfl, ?_⟩
  refine bcase_false (by rfl) ?_
  have hok2 : PgOk ⟨3, 3, 0, 2, [9223372036854775808, 0, 0], 2, false⟩ := by have := stripeG_ok hok' 1; rw [hs2] at this; exact this
  refine pstripe_ok (H.give [0, 1, 2] (by decide) rfl) hok2 fun h' H' => ?_
  rw [hs3] at H' ⊢
  replace H := H.put [0, 1, 2] (by decide) rfl rfl H' rfl rfl
  clear H'
  have H : Hp hB [] h' (pgL p m q rest ⟨3, 3, 0, 2, [9223372036854775808, 0, 0], 3, false⟩ ++ [⟨o, true, T_uint64, [.int .u64 9223372036854775808]⟩]) := H
  refine ⟨_, rfl, ?_⟩
  refine bcase_false (by rfl) ?_
  have hok3 : PgOk ⟨3, 3, 0, 2, [9223372036854775808, 0, 0], 3, false⟩ := by have := stripeG_ok hok2 2; rw [hs3] at this; exact this
  refine pend_ok (g := ⟨3, 3, 0, 2, [9223372036854775808, 0, 0], 3, false⟩) (H.give [0, 1, 2] (by decide) rfl) hok3 fun e w b bs g' D qo c h' he hd H' => ?_
  have H := Go.Bm.Hp.backD H [0, 1, 2] (by decide) rfl rfl H' rfl hd.w rfl
  clear H'
  rcases he with ⟨a, _⟩ | ⟨_, rfl, rfl, rfl, rfl, rfl⟩
  · exact absurd a (by simp)
  refine ⟨_, _, _, _, _, _, rfl, ?_⟩
  have H : Hp hB [] h' (pgL p m q rest ⟨3, 3, 0, 2, [9223372036854775808, 0, 0], 3, true⟩ ++ [⟨o, true, T_uint64, [.int .u64 9223372036854775808]⟩] ++ D) := H
  refine newC_hp H fun r h H => ?_
  have H := H.rot
  try simp only [ptr_some_eq, add_mk, Nat.zero_add, Nat.add_zero]
  refine stV_hp H 0 rfl (by first | exact Nat.le_of_ble_eq_true rfl | simp) rfl fun h hsz H => ?_
  refine stV_hp H 0 rfl (by first | exact Nat.le_of_ble_eq_true rfl | simp) rfl fun h hsz H => ?_
  refine stV_hp H 0 rfl (by first | exact Nat.le_of_ble_eq_true rfl | simp) rfl fun h hsz H => ?_
  refine bcase_true (by rfl) ?_
  refine ldI_of (H.cell 0 rfl rfl) ?_
  refine ldI_of (H.cell 0 rfl rfl) ?_
  refine ldS_of (H.cell 0 rfl rfl) ?_
  refine newC_hp H fun r2 h H => ?_
  have H := H.rot
  have H : Hp hB [] h ([⟨r2, true, T_uint64, [.int .u64 9223372036854775808, .int .u64 0, .int .u64 0]⟩] ++ ([⟨r, true, T_api_Bitmap, [.int .i64 ((3 : Nat) : Int), .int .i64 ((3 : Nat) : Int), .slice qo 3 c]⟩] ++ (pgL p m q rest ⟨3, 3, 0, 2, [9223372036854775808, 0, 0], 3, true⟩ ++ [⟨o, true, T_uint64, [.int .u64 9223372036854775808]⟩] ++ D))) := H
  have h1 := row_rdO H 0 (xs := [9223372036854775808, 0, 0]) (rest := []) rfl
  have h2 := Slot.rdO' hd H fun e he => List.mem_append_right _ (List.mem_append_right _ (List.mem_append_right _ he))
  refine eqB_ok (xs := [9223372036854775808, 0, 0]) (ys := [9223372036854775808, 0, 0]) h2 h1 (by decide) fun h' e => ?_
  refine ⟨_, rfl, ?_⟩
  have := hk h' (H.hext.trans e)
  simpa using this

end Go.Bm

/- PgD: a script of pages as it comes in as an argument: the law PageExact over it. -/
set_option linter.unusedVariables false
set_option linter.unusedSimpArgs false
namespace Go.Bm
open Go Go.Den Go.Den.YtfaclehehhgpcaaGreat

theorem list3 {α : Type} {l : List α} (h : l.length = 3) : ∃ a b c, l = [a, b, c] := by
  match l, h with
  | [a, b, c], _ => exact ⟨a, b, c, rfl⟩
theorem list4 {α : Type} {l : List α} (h : l.length = 4) : ∃ a b c d, l = [a, b, c, d] := by
  match l, h with
  | [a, b, c, d], _ => exact ⟨a, b, c, d, rfl⟩
noncomputable abbrev TP := Go.Proofs.Tryz.prog
theorem one_of {P : Program} {h : Heap} {t : TypeId} {cs : List Value} {o : Nat} {v : Value} (k : P.cellsOf t = 1) (H : WDx P h t ((cs.drop o).take (P.cellsOf t))) (hv : cs[o]? = some v) : WDx P h t [v] := by
  rw [k] at H
  have : (cs.drop o).take 1 = [v] := by
    have ho := (List.getElem?_eq_some_iff.1 hv).1
    rw [List.drop_eq_getElem_cons ho]
    have := (List.getElem?_eq_some_iff.1 hv).2
    simp [this]
  rw [this] at H
  exact H
theorem inI_of {n : Int} (h : IntKind.i64.min ≤ n ∧ n ≤ IntKind.i64.max) : InI n := by
  have h1 : IntKind.i64.min = -9223372036854775808 := by decide
  have h2 : IntKind.i64.max = 9223372036854775807 := by decide
  rw [h1, h2] at h
  unfold InI
  omega
theorem u64s_ints {l : List Int} (h : ∀ x ∈ l, IntKind.u64.min ≤ x ∧ x ≤ IntKind.u64.max) : (l.map fun x => (.int .u64 x : Value)) = u64s (l.map Int.toNat) ∧ W64 (l.map Int.toNat) := by
  have h1 : IntKind.u64.min = 0 := by decide
  have h2 : IntKind.u64.max = 18446744073709551615 := by decide
  rw [h1, h2] at h
  constructor
  · unfold u64s
    rw [List.map_map]
    refine List.map_congr_left fun x hx => ?_
    have := h x hx
    show Value.int .u64 x = .int .u64 ((x.toNat : Nat) : Int)
    rw [Int.toNat_of_nonneg this.1]
  · intro y hy
    obtain ⟨x, hx, rfl⟩ := List.mem_map.1 hy
    have := h x hx
    show x.toNat < 18446744073709551616
    omega
theorem k_int : TP.cellsOf T_int = 1 := by kernel_rfl
theorem k_s_uint64 : TP.cellsOf T_s_uint64 = 1 := by kernel_rfl
theorem wd_words {h : Heap} {cs : List Value} (H : WDx TP h T_s_uint64 cs) :
    ∃ q cap, ∃ ws : List Nat, cs = [.slice q ws.length cap] ∧ ws.length < 140737488351300 ∧ rdO h q (ws.length * 1) (u64s ws) ∧ W64 ws := by
  obtain ⟨q, cap, l, rfl, h1, h2, h3, h4, h5⟩ := wd_ints (k := .u64) Go.Proofs.Tryz.underlying34 Go.Proofs.Tryz.underlying85 (by kernel_rfl) H
  obtain ⟨e1, e2⟩ := u64s_ints h5
  have k1 : TP.bytesOf T_uint64 = 8 := by kernel_rfl
  rw [k1] at h2
  have hr : reachBytes = 140737488351232 := rfl
  rw [e1] at h4
  exact ⟨q, cap, l.map Int.toNat, by simp, by simp; omega, by simpa using h4, e2⟩
/-- A bitmap that comes in. -/
theorem wd_bitmap {h : Heap} {cs : List Value} (H : WDx TP h T_api_Bitmap cs) :
    ∃ w b q cap, ∃ ws : List Nat, cs = [.int .i64 w, .int .i64 b, .slice q ws.length cap] ∧ InI w ∧ InI b ∧ ws.length < 140737488351300 ∧ rdO h q (ws.length * 1) (u64s ws) ∧ W64 ws := by
  obtain ⟨hl, hf⟩ := wd_struct Go.Proofs.Tryz.underlying36 H
  have k : TP.cellsOf T_api_Bitmap = 3 := by kernel_rfl
  rw [k] at hl
  obtain ⟨a, b, c, rfl⟩ := list3 hl
  obtain ⟨w, ew, iw⟩ := wd_int Go.Proofs.Tryz.underlying3 (one_of k_int (hf 0 _ rfl) (v := a) rfl)
  obtain ⟨b', eb, ib⟩ := wd_int Go.Proofs.Tryz.underlying3 (one_of k_int (hf 1 _ rfl) (v := b) rfl)
  obtain ⟨q, cap, ws, e2, g1, g2, g3⟩ := wd_words (one_of k_s_uint64 (hf 2 _ rfl) (v := c) rfl)
  simp only [List.cons.injEq, and_true] at ew eb e2
  subst ew eb e2
  exact ⟨w, b', q, cap, ws, rfl, inI_of iw, inI_of ib, g1, g2, g3⟩
theorem wd_sheet {h : Heap} {cs : List Value} (H : WDx TP h T_api_Sheet cs) : ∃ w x d s : Int, cs = [.int .i64 w, .int .i64 x, .int .i64 d, .int .i64 s] ∧ InI w ∧ InI x ∧ InI d ∧ InI s := by
  obtain ⟨hl, hf⟩ := wd_struct Go.Proofs.Tryz.underlying32 H
  have k : TP.cellsOf T_api_Sheet = 4 := by kernel_rfl
  rw [k] at hl
  obtain ⟨a, b, c, d, rfl⟩ := list4 hl
  obtain ⟨w, e0, i0⟩ := wd_int Go.Proofs.Tryz.underlying3 (one_of k_int (hf 0 _ rfl) (v := a) rfl)
  obtain ⟨x, e1, i1⟩ := wd_int Go.Proofs.Tryz.underlying3 (one_of k_int (hf 1 _ rfl) (v := b) rfl)
  obtain ⟨y, e2, i2⟩ := wd_int Go.Proofs.Tryz.underlying3 (one_of k_int (hf 2 _ rfl) (v := c) rfl)
  obtain ⟨z, e3, i3⟩ := wd_int Go.Proofs.Tryz.underlying3 (one_of k_int (hf 3 _ rfl) (v := d) rfl)
  simp only [List.cons.injEq, and_true] at e0 e1 e2 e3
  subst e0 e1 e2 e3
  exact ⟨w, x, y, z, rfl, inI_of i0, inI_of i1, inI_of i2, inI_of i3⟩
end Go.Bm

/- PgF: what the laws PageLaid and PageStripes need besides. -/
set_option linter.unusedVariables false
set_option linter.unusedSimpArgs false
namespace Go.Bm
open Go Go.Den Go.Den.YtfaclehehhgpcaaGreat

end Go.Bm

/- RfE: refine.Put: the decisions of a bitmap, coded by the program. -/
set_option linter.unusedVariables false
set_option linter.unusedSimpArgs false
namespace Go.Bm
open Go Go.Den Go.Den.YtfaclehehhgpcaaGreat
open Go.Ar (Cod putM idx)

def stepP (m : Nat) (base : Int) (s : Cod) (n : Nat) (bit : Bool) : (Bool × Cod) ⊕ (Int × Cod) := .inl (bit, putM s (idx (base + (n : Int)) m) bit.toNat)
/-- What refine.Put answers. -/
def ShiftP (dx dy : Int) : Prop := (-1048576 ≤ dx ∧ dx ≤ 1048576) ∧ -1048576 ≤ dy ∧ dy ≤ 1048576
end Go.Bm

/- RfF: the document's side of refinement: the context of a pixel; a bitmap's decisions, coded. -/
set_option linter.unusedVariables false
set_option linter.unusedSimpArgs false
namespace Go.Bm
open Go Go.Den Go.Den.YtfaclehehhgpcaaGreat
-- (nothing of Go.Ar opened)

end Go.Bm

/- RfG: burinref8.Put. -/
set_option linter.unusedVariables false
set_option linter.unusedSimpArgs false
namespace Go.Bm
open Go Go.Den Go.Den.YtfaclehehhgpcaaGreat
-- (nothing of Go.Ar opened)

theorem upd_self (G : Int → Int → Bool) (a b : Int) : upd G a b (G a b) = G := by
  funext x y
  unfold upd
  by_cases h : x = a ∧ y = b
  · rw [if_pos h, h.1, h.2]
  · rw [if_neg h]

end Go.Bm

/- RfH: refine.Encode and burinref8.Encode answer alike. -/
set_option linter.unusedVariables false
set_option linter.unusedSimpArgs false
namespace Go.Bm
open Go Go.Den Go.Den.YtfaclehehhgpcaaGreat
open Go.Ar (CodOk newC flushM bytesM)

/-- What Encode answers. -/
def EncR (w b w2 b2 : Int) (ws ws2 : List Nat) (dx dy : Int) (e : Int) (bs : List Nat) : Prop :=
  ¬ (MayP w b ws ∧ MayP w2 b2 ws2) ∧ e = 62 ∧ bs = [] ∨
  (MayP w b ws ∧ MayP w2 b2 ws2) ∧ ¬ ShiftP dx dy ∧ e = 70 ∧ bs = [] ∨
  (MayP w b ws ∧ MayP w2 b2 ws2) ∧ ShiftP dx dy ∧ e = 0 ∧ ∃ G s', runN w.toNat (getP ws2 w2.toNat b2.toNat) dx dy (stepP 8192 0) (b.toNat * w.toNat) (getP ws w.toNat b.toNat, newC 8192) = .inl (G, s') ∧ CodOk 8192 (b.toNat * w.toNat) s' ∧ bs = bytesM (flushM s')
theorem EncR.det {w b w2 b2 : Int} {ws ws2 : List Nat} {dx dy e1 e2 : Int} {bs1 bs2 : List Nat} (h1 : EncR w b w2 b2 ws ws2 dx dy e1 bs1) (h2 : EncR w b w2 b2 ws ws2 dx dy e2 bs2) : e1 = e2 ∧ bs1 = bs2 := by
  rcases h1 with ⟨a, b, c⟩ | ⟨a, s, b, c⟩ | ⟨a, s, b, G, s1, r, _, c⟩ <;> rcases h2 with ⟨a', b', c'⟩ | ⟨a', s', b', c'⟩ | ⟨a', s', b', G', s1', r', _, c'⟩
  · exact ⟨b.trans b'.symm, c.trans c'.symm⟩
  · exact absurd a' a
  · exact absurd a' a
  · exact absurd a a'
  · exact ⟨b.trans b'.symm, c.trans c'.symm⟩
  · exact absurd s' s
  · exact absurd a a'
  · exact absurd s s'
  · refine ⟨b.trans b'.symm, ?_⟩
    rw [r] at r'
    injection r' with r'
    injection r' with _ r'
    rw [c, c', r']
section
variable {hB : Heap} {w b w2 b2 : Int} {q1 q2 : Option Addr} {c1 c2 : Nat} {ws ws2 : List Nat} {dx dy : Int} {K : Value → Heap → Prop} {Kp : List PanicEntry → Heap → Prop}
end
end Go.Bm

/- RfI: refine.Get's decider: bits out of the decoder. -/
set_option linter.unusedVariables false
set_option linter.unusedSimpArgs false
namespace Go.Bm
open Go Go.Den Go.Den.YtfaclehehhgpcaaGreat
open Go.Ar (Dec decL idx BOk)

def stepG (m : Nat) (base : Int) (s : Dec) (n : Nat) (_ : Bool) : (Bool × Dec) ⊕ (Int × Dec) := .inl (decide ((Go.Ar.getD s (idx (base + (n : Int)) m)).2 = 1), (Go.Ar.getD s (idx (base + (n : Int)) m)).1)
def SG (p q rc rb : Nat) (base : Int) (e : Ent) (bp : Option Addr) (bc : Nat) (s : Dec) (M : List Ent) : Prop := BOk e bp s.b ∧ M = decL p q e bp bc s ++ [⟨rc, true, T_p_arith_Decoder, [.pointer (at0 p)]⟩, ⟨rb, true, T_int, [.int .i64 base]⟩]
theorem SG.w {p q rc rb : Nat} {base : Int} {e : Ent} {bp : Option Addr} {bc : Nat} {s : Dec} {M : List Ent} (h : SG p q rc rb base e bp bc s M) : M.all Ent.w = true := by
  obtain ⟨h1, rfl⟩ := h
  simp [decL, Go.Ar.decE, h1.1]

end Go.Bm

/- RfJ: refine.Get. -/
set_option linter.unusedVariables false
set_option linter.unusedSimpArgs false
namespace Go.Bm
open Go Go.Den Go.Den.YtfaclehehhgpcaaGreat
open Go.Ar (Dec)

def GetR (bytes : List Nat) (m n0 : Nat) (base w b w2 b2 : Int) (ws2 : List Nat) (dx dy : Int) (s : Dec) (e w' b' : Int) (bs : List Nat) (s' : Dec) : Prop :=
  ¬ MayP w2 b2 ws2 ∧ e = 62 ∧ w' = 0 ∧ b' = 0 ∧ bs = [] ∧ s' = s ∨
  MayP w2 b2 ws2 ∧ ¬ SizeP w b ∧ e = 63 ∧ w' = 0 ∧ b' = 0 ∧ bs = [] ∧ s' = s ∨
  MayP w2 b2 ws2 ∧ SizeP w b ∧ ¬ ShiftP dx dy ∧ e = 70 ∧ w' = 0 ∧ b' = 0 ∧ bs = [] ∧ s' = s ∨
  MayP w2 b2 ws2 ∧ SizeP w b ∧ ShiftP dx dy ∧ ¬ (0 ≤ base ∧ base ≤ (m : Int) - 8192) ∧ e = 51 ∧ w' = 0 ∧ b' = 0 ∧ bs = [] ∧ s' = s ∨
  MayP w2 b2 ws2 ∧ SizeP w b ∧ ShiftP dx dy ∧ (0 ≤ base ∧ base ≤ (m : Int) - 8192) ∧ e = 0 ∧ w' = w ∧ b' = b ∧ runN w.toNat (getP ws2 w2.toNat b2.toNat) dx dy (stepG m base) (b.toNat * w.toNat) (fun _ _ => false, s) = .inl (getP bs w.toNat b.toNat, s') ∧
    bs.length = b.toNat * wds w.toNat ∧ W64 bs ∧ PadZ w.toNat b.toNat bs ∧ Go.Ar.DecOk bytes m (n0 + b.toNat * w.toNat) s'
theorem getP_zero (n W X : Nat) : getP (List.replicate n 0) W X = fun _ _ => false := by
  funext x y
  unfold getP
  rw [pix_zero, Bool.and_false]

end Go.Bm

/- RfK: refine.Decode. -/
set_option linter.unusedVariables false
set_option linter.unusedSimpArgs false
namespace Go.Bm
open Go Go.Den Go.Den.YtfaclehehhgpcaaGreat
-- (nothing of Go.Ar opened)

end Go.Bm

/- BkA: what the decoder reads is what the coder wrote: the interval of a code, plain numbers. No Go, no memory. -/
set_option linter.unusedVariables false
set_option linter.unusedSimpArgs false
namespace Go.Ar

/-! ### a code's value -/
/-- Of bytes, the last one first: a byte behind a 255 has seven bits of its own. -/
def valR : List Nat → Nat
  | [] => 0
  | x :: r => valR r * (if r.head? = some 255 then 128 else 256) + x
def valL (l : List Nat) : Nat := valR l.reverse
theorem valL_snoc (l : List Nat) (x : Nat) : valL (l ++ [x]) = valL l * (if l.getLast? = some 255 then 128 else 256) + x := by
  unfold valL
  rw [List.reverse_append, List.reverse_singleton, List.singleton_append, valR, List.head?_reverse]

/-! ### the whole code, ones behind it -/
section
variable (E : List Nat)
def fE (k : Nat) : Nat := E.getD k 255
def lenE (k : Nat) : Nat := if k < E.length ∧ fE E (k - 1) = 255 then 7 else 8
def XE : Nat → Nat
  | 0 => fE E 0
  | k + 1 => XE k * 2 ^ lenE E (k + 1) + fE E (k + 1)
def BE : Nat → Nat
  | 0 => 0
  | k + 1 => BE k + lenE E (k + 1)
end

theorem lenE_le (E : List Nat) (k : Nat) : lenE E k ≤ 8 ∧ 7 ≤ lenE E k := by unfold lenE; split <;> omega
theorem BE_mono (E : List Nat) {j k : Nat} (h : j ≤ k) : BE E j ≤ BE E k := by
  induction k with
  | zero => have : j = 0 := by omega
            subst this; exact Nat.le_refl _
  | succ k ih =>
    rcases Nat.lt_or_ge k j with h1 | h1
    · have : j = k + 1 := by omega
      subst this; exact Nat.le_refl _
    · exact Nat.le_trans (ih h1) (Nat.le_add_right _ _)
/-- A code's beginnings only grow. -/
theorem XE_mono (E : List Nat) {j k : Nat} (h : j ≤ k) : XE E j * 2 ^ BE E k ≤ XE E k * 2 ^ BE E j := by
  induction k with
  | zero => have : j = 0 := by omega
            subst this; exact Nat.le_refl _
  | succ k ih =>
    rcases Nat.lt_or_ge k j with h1 | h1
    · have : j = k + 1 := by omega
      subst this; exact Nat.le_refl _
    · have h2 := ih h1
      show XE E j * 2 ^ (BE E k + lenE E (k + 1)) ≤ (XE E k * 2 ^ lenE E (k + 1) + fE E (k + 1)) * 2 ^ BE E j
      rw [Nat.pow_add, ← Nat.mul_assoc, Nat.add_mul]
      have h3 := Nat.mul_le_mul_right (2 ^ lenE E (k + 1)) h2
      have e : XE E k * 2 ^ BE E j * 2 ^ lenE E (k + 1) = XE E k * 2 ^ lenE E (k + 1) * 2 ^ BE E j := Nat.mul_right_comm _ _ _
      omega
/-- Behind the end: ones. -/
theorem XE_end (E : List Nat) {m : Nat} (hm : m + 1 = E.length) : ∀ d, XE E (m + d) + 1 = (XE E m + 1) * 2 ^ (8 * d) ∧ BE E (m + d) = BE E m + 8 * d
  | 0 => by simp
  | d + 1 => by
    obtain ⟨h1, h2⟩ := XE_end E hm d
    have hl : lenE E (m + d + 1) = 8 := by unfold lenE; rw [if_neg (by omega)]
    have hf : fE E (m + d + 1) = 255 := by unfold fE; rw [List.getD_eq_getElem?_getD, List.getElem?_eq_none (by omega)]; rfl
    constructor
    · show XE E (m + d) * 2 ^ lenE E (m + d + 1) + fE E (m + d + 1) + 1 = _
      rw [hl, hf, show 8 * (d + 1) = 8 * d + 8 by omega, Nat.pow_add, ← Nat.mul_assoc, ← h1]
      omega
    · show BE E (m + d) + lenE E (m + d + 1) = _
      rw [hl, h2]; omega
theorem valL_XE (E : List Nat) : ∀ (p : List Nat) (x : Nat), p.length < E.length → (∀ j v, p[j]? = some v → fE E j = v) → valL (p ++ [x]) + fE E p.length = XE E p.length + x := by
  intro p
  have key : ∀ (n : Nat) (p : List Nat) (x : Nat), p.length = n → p.length < E.length → (∀ j v, p[j]? = some v → fE E j = v) → valL (p ++ [x]) + fE E p.length = XE E p.length + x := by
    intro n
    induction n with
    | zero =>
      intro p x hn hl hp
      have : p = [] := List.length_eq_zero_iff.1 hn
      subst this
      rw [valL_snoc]
      show valL [] * _ + x + fE E 0 = fE E 0 + x
      simp [valL, valR]; omega
    | succ n ih =>
      intro p x hn hl hp
      obtain ⟨q, y, rfl⟩ : ∃ q y, p = q ++ [y] := by
        rcases List.eq_nil_or_concat p with rfl | ⟨q, y, rfl⟩
        · simp at hn
        · exact ⟨q, y, by simp⟩
      have hq : q.length = n := by simp at hn; exact hn
      have hy : fE E q.length = y := hp q.length y (by simp)
      have h1 := ih q y hq (by omega) (fun j v hv => hp j v (by rw [List.getElem?_append_left (List.getElem?_eq_some_iff.1 hv).1]; exact hv))
      have h2 : valL (q ++ [y]) = XE E q.length := by omega
      rw [valL_snoc, h2, hn]
      have hlen : (if (q ++ [y]).getLast? = some 255 then 128 else 256) = 2 ^ lenE E (n + 1) := by
        unfold lenE
        rw [List.getLast?_concat, Nat.add_sub_cancel, ← hq, hy]
        by_cases h3 : y = 255
        · rw [if_pos (by rw [h3]), if_pos ⟨by rw [hn] at hl; omega, h3⟩]
        · rw [if_neg (by simpa using h3), if_neg (by simp [h3])]
      rw [hlen, ← hq]
      show _ = XE E q.length * 2 ^ lenE E (q.length + 1) + fE E (q.length + 1) + x
      omega
  exact fun x => key p.length p x rfl

/-! ### a coder's interval, and the code that becomes of it -/
def lowC (s : Cod) : Nat := valL (s.bs ++ [s.l]) * 2 ^ (27 - s.t) + s.c

/-- The code 'E' may become of a coder whose interval is 'A' wide. -/
structure Fut (E : List Nat) (s : Cod) (A : Nat) : Prop where
  len : s.bs.length < E.length
  pre : ∀ j v, s.bs[j]? = some v → fE E j = v
  last : fE E s.bs.length = s.l ∨ fE E s.bs.length = s.l + 1 ∧ s.l ≠ 255
  lo : ∀ k, s.bs.length < k → lowC s * 2 ^ BE E k < (XE E k + 1) * 2 ^ (BE E s.bs.length + (27 - s.t))
  hi : ∀ k, XE E k * 2 ^ (BE E s.bs.length + (27 - s.t)) < (lowC s + A) * 2 ^ BE E k

/-- A part of the interval. -/
theorem Fut.part {E : List Nat} {s : Cod} {A a' c' n' : Nat} {st' : List Nat} {d' : Bool} (h : Fut E { s with a := a', c := c', n := n', st := st', done := d' } A) {A0 : Nat} (h1 : s.c ≤ c') (h2 : c' + A ≤ s.c + A0) : Fut E s A0 := by
  have hl : lowC { s with a := a', c := c', n := n', st := st', done := d' } = lowC s + (c' - s.c) := by
    show valL (s.bs ++ [s.l]) * 2 ^ (27 - s.t) + c' = valL (s.bs ++ [s.l]) * 2 ^ (27 - s.t) + s.c + (c' - s.c)
    omega
  refine ⟨h.len, h.pre, h.last, fun k hk => ?_, fun k => ?_⟩
  · have := h.lo k hk
    rw [hl, Nat.add_mul] at this
    exact Nat.lt_of_le_of_lt (Nat.le_add_right _ _) this
  · have := h.hi k
    rw [hl] at this
    exact Nat.lt_of_lt_of_le this (Nat.mul_le_mul_right _ (by omega))
/-- The interval seen nearer. -/
theorem Fut.near {E : List Nat} {s : Cod} {A j a' : Nat} (h : Fut E { s with a := a', c := s.c * 2 ^ j, t := s.t - j } (A * 2 ^ j)) (hj : j ≤ s.t) (ht : s.t ≤ 27) : Fut E s A := by
  have hl : lowC { s with a := a', c := s.c * 2 ^ j, t := s.t - j } = lowC s * 2 ^ j := by
    show valL (s.bs ++ [s.l]) * 2 ^ (27 - (s.t - j)) + s.c * 2 ^ j = (valL (s.bs ++ [s.l]) * 2 ^ (27 - s.t) + s.c) * 2 ^ j
    rw [Nat.add_mul, Nat.mul_assoc, ← Nat.pow_add]
    congr 3; omega
  have he : BE E s.bs.length + (27 - (s.t - j)) = BE E s.bs.length + (27 - s.t) + j := by omega
  have hp : 0 < 2 ^ j := Nat.two_pow_pos j
  refine ⟨h.len, h.pre, h.last, fun k hk => ?_, fun k => ?_⟩
  · have h1 : _ < (XE E k + 1) * 2 ^ (BE E s.bs.length + (27 - (s.t - j))) := h.lo k hk
    rw [hl, he, Nat.pow_add _ _ j, ← Nat.mul_assoc, Nat.mul_right_comm] at h1
    exact Nat.lt_of_mul_lt_mul_right h1
  · have h1 : XE E k * 2 ^ (BE E s.bs.length + (27 - (s.t - j))) < _ := h.hi k
    rw [hl, he, Nat.pow_add _ _ j, ← Nat.mul_assoc, ← Nat.add_mul, Nat.mul_right_comm (lowC s + A)] at h1
    exact Nat.lt_of_mul_lt_mul_right h1
theorem outTail_low (s : Cod) (l c : Nat) (hc : c < 2 ^ 28) (hc2 : l ≠ 255 → c < 2 ^ 27) : lowC (outTail s l c) = valL (s.bs ++ [l]) * 2 ^ 27 + c := by
  unfold outTail lowC
  split
  · rename_i h
    show valL ((s.bs ++ [l]) ++ [c / 1048576 % 256]) * 2 ^ (27 - 7) + c % 1048576 = _
    rw [valL_snoc, List.getLast?_concat, if_pos (by rw [h])]
    generalize valL (s.bs ++ [l]) = v
    omega
  · rename_i h
    have := hc2 h
    show valL ((s.bs ++ [l]) ++ [c / 524288 % 256]) * 2 ^ (27 - 8) + c % 524288 = _
    rw [valL_snoc, List.getLast?_concat, if_neg (by simpa using h)]
    generalize valL (s.bs ++ [l]) = v
    omega
theorem Fut.tail {E : List Nat} {s : Cod} {A l c : Nat} (h : Fut E (outTail s l c) A) (hc : c < 2 ^ 28) (hc2 : l ≠ 255 → c < 2 ^ 27) (ht : s.t = 0) (hl : l = s.l ∧ c = s.c ∨ l = s.l + 1 ∧ s.l ≠ 255 ∧ c + 2 ^ 27 = s.c) : Fut E s A := by
  have hlow : lowC (outTail s l c) = lowC s := by
    rw [outTail_low s l c hc hc2]
    unfold lowC
    rw [ht, valL_snoc, valL_snoc]
    rcases hl with ⟨rfl, rfl⟩ | ⟨rfl, _, h2⟩
    · rfl
    · generalize (valL s.bs * if s.bs.getLast? = some 255 then 128 else 256) = v
      omega
  have hbs : (outTail s l c).bs = s.bs ++ [l] := by unfold outTail; split <;> rfl
  have hpre := h.pre
  have hlen := h.len
  rw [hbs] at hpre hlen
  have hfl : fE E s.bs.length = l := hpre s.bs.length l (by simp)
  have hlen' : s.bs.length + 1 < E.length := by simpa using hlen
  have hB : BE E (s.bs.length + 1) + (27 - (outTail s l c).t) = BE E s.bs.length + 27 := by
    show BE E s.bs.length + lenE E (s.bs.length + 1) + _ = _
    have : lenE E (s.bs.length + 1) + (27 - (outTail s l c).t) = 27 := by
      unfold lenE outTail
      rw [Nat.add_sub_cancel, hfl]
      by_cases h3 : l = 255
      · simp only [if_pos h3]; rw [if_pos ⟨hlen', h3⟩]
      · simp only [if_neg h3]; rw [if_neg (by simp [h3])]
    omega
  have hsl : (outTail s l c).bs.length = s.bs.length + 1 := by rw [hbs]; simp
  have hlo := h.lo
  have hhi := h.hi
  rw [hsl, hB, hlow] at hlo hhi
  refine ⟨by omega, fun j v hv => hpre j v (by rw [List.getElem?_append_left (List.getElem?_eq_some_iff.1 hv).1]; exact hv), ?_, fun k hk => ?_, fun k => ?_⟩
  · rw [hfl]
    rcases hl with ⟨rfl, rfl⟩ | ⟨rfl, h1, _⟩
    · exact .inl rfl
    · exact .inr ⟨rfl, h1⟩
  · rw [ht]
    rcases Nat.lt_or_ge (s.bs.length + 1) k with h1 | h1
    · exact hlo k h1
    · have hk : k = s.bs.length + 1 := by omega
      subst hk
      rw [← hlow, Nat.sub_zero, ← hB, Nat.pow_add, ← Nat.mul_assoc, Nat.mul_right_comm]
      refine Nat.mul_lt_mul_of_pos_right ?_ (Nat.two_pow_pos _)
      have hX := valL_XE E (s.bs ++ [l]) (outTail s l c).l (by simpa using hlen') hpre
      have hle : (outTail s l c).l ≤ fE E (s.bs.length + 1) := by
        have := h.last
        rw [hsl] at this
        omega
      rw [List.length_append, List.length_singleton] at hX
      have hcl : (outTail s l c).c < 2 ^ (27 - (outTail s l c).t) := by
        unfold outTail
        split
        · exact Nat.mod_lt _ (by decide)
        · exact Nat.mod_lt _ (by decide)
      unfold lowC
      rw [hbs]
      have h4 : valL (s.bs ++ [l] ++ [(outTail s l c).l]) ≤ XE E (s.bs.length + 1) := by omega
      have h5 := Nat.mul_le_mul_right (2 ^ (27 - (outTail s l c).t)) h4
      rw [Nat.add_mul]
      omega
  · rw [ht]; exact hhi k
theorem Fut.out {E : List Nat} {s : Cod} {A : Nat} (h : Fut E (outM s) A) (ht : s.t = 0) (hc : s.c < 2 ^ 28) : Fut E s A := by
  unfold outM at h
  split at h
  · rename_i h1
    refine h.tail (by omega) (fun _ => by omega) ht (.inr ⟨rfl, h1.1, by omega⟩)
  · rename_i h1
    exact h.tail hc (fun h2 => by
      rcases Nat.lt_or_ge s.c 134217728 with h3 | h3
      · exact h3
      · exact absurd ⟨h2, h3⟩ h1) ht (.inl ⟨rfl, rfl⟩)

end Go.Ar

/- BkB: coder and decoder in step: what is decoded are the decisions; no byte above 8f behind an ff. No Go, no memory. -/
set_option linter.unusedVariables false
set_option linter.unusedSimpArgs false
namespace Go.Ar

theorem outM_t (s : Cod) (t : Nat) : outM { s with t := t } = outM s := rfl
theorem outM_ct (s : Cod) : (outM s).c = s.c % 2 ^ (27 - (outM s).t) ∧ ((outM s).t = 7 ∨ (outM s).t = 8) := by
  unfold outM outTail
  split
  · split
    · refine ⟨?_, .inl rfl⟩; show s.c % 134217728 % 1048576 = s.c % 1048576; omega
    · refine ⟨?_, .inr rfl⟩; show s.c % 134217728 % 524288 = s.c % 524288; omega
  · split
    · exact ⟨rfl, .inl rfl⟩
    · exact ⟨rfl, .inr rfl⟩

theorem Fut.shift {E : List Nat} {s : Cod} {A : Nat} (h : Fut E (shiftM s) (2 * A)) (ht : 1 ≤ s.t) (ht2 : s.t ≤ 12) (hc : s.c < 2 ^ (28 - s.t)) : Fut E s A := by
  have key : Fut E { s with a := 2 * s.a, c := s.c * 2 ^ 1, t := s.t - 1 } (A * 2 ^ 1) := by
    rw [Nat.pow_one, Nat.mul_comm s.c 2, Nat.mul_comm A 2]
    unfold shiftM at h
    simp only [] at h
    split at h
    · rename_i h1
      have h1 : s.t - 1 = 0 := h1
      have : s.t = 1 := by omega
      rw [this] at hc
      exact h.out h1 (by show 2 * s.c < 2 ^ 28; omega)
    · exact h
  exact key.near ht (by omega)

theorem Fut.renew {E : List Nat} : ∀ (k : Nat) {s : Cod}, Mid s → s.a < 0x8000 → 0x8000 ≤ s.a * 2 ^ k → Fut E (renewM k s) (renewM k s).a → Fut E s s.a
  | 0, s, h, ha, hk, _ => by simp at hk; omega
  | k + 1, s, h, ha, hk, hF => by
    obtain ⟨h1, h2, h3, h4, h5, h6⟩ := shiftM_mid h ha
    have hc := h.ca
    unfold renewM at hF
    simp only [] at hF
    split at hF
    · rw [h2] at hF
      exact hF.shift h.t1 h.t12 (by omega)
    · rename_i hlt
      have hk' : 0x8000 ≤ (shiftM s).a * 2 ^ k := by
        rw [h2]
        rw [Nat.pow_succ] at hk
        have : s.a * (2 ^ k * 2) = 2 * s.a * 2 ^ k := by rw [Nat.mul_comm (2 ^ k) 2, ← Nat.mul_assoc, Nat.mul_comm s.a 2]
        omega
      have := Fut.renew k h1 (by omega) hk' hF
      rw [h2] at this
      exact this.shift h.t1 h.t12 (by omega)

/-- The code that Flush makes. -/
def codeE (s : Cod) : List Nat := s.bs ++ [s.l]
theorem flushC_mod (s : Cod) : 32768 ∣ flushC s + 1 := by
  unfold flushC
  simp only []
  split <;> omega
theorem fut_flush {s : Cod} (hs : Wf s) : Fut (codeE (flushM s)) s s.a := by
  have hca := hs.ca
  have ht1 := hs.t1
  have ht2 := hs.t12
  have hlo := hs.lo
  have hhi := hs.hi
  have hf1 : s.c ≤ flushC s ∧ flushC s + 1 ≤ s.c + s.a := by
    unfold flushC
    simp only []
    split <;> omega
  have hmod := flushC_mod s
  generalize hcf : flushC s = cf at hf1 hmod
  -- the states
  have hF : flushM s = flushS (flushS { s with c := cf, done := true }) := by unfold flushM; rw [hcf]
  generalize hS0 : ({ s with c := cf, done := true } : Cod) = S0 at hF
  have hS0t : S0.t = s.t := by rw [← hS0]
  have hS0c : S0.c = cf := by rw [← hS0]
  have hS1 : flushS S0 = outM { S0 with c := S0.c * 2 ^ S0.t, t := S0.t - S0.t } := (outM_t { S0 with c := S0.c * 2 ^ S0.t } _).symm
  generalize hG1 : flushS S0 = S1 at hF hS1
  have hS2 : flushM s = outM { S1 with c := S1.c * 2 ^ S1.t, t := S1.t - S1.t } := hF.trans (outM_t { S1 with c := S1.c * 2 ^ S1.t } _).symm
  generalize hG2 : flushM s = F at hS2
  obtain ⟨hc1, ht1'⟩ := outM_ct { S0 with c := S0.c * 2 ^ S0.t, t := S0.t - S0.t }
  obtain ⟨hc2, ht2'⟩ := outM_ct { S1 with c := S1.c * 2 ^ S1.t, t := S1.t - S1.t }
  rw [← hS1] at hc1 ht1'
  rw [← hS2] at hc2 ht2'
  have hc1 : S1.c = cf * 2 ^ s.t % 2 ^ (27 - S1.t) := by rw [hc1, ← hS0c, ← hS0t]
  have hc2 : F.c = S1.c * 2 ^ S1.t % 2 ^ (27 - F.t) := hc2
  -- the last interval
  have hdv : 2 ^ (27 - F.t) ≤ F.c + 2 ^ (s.t + S1.t) := by
    have e1 : F.c = cf * 2 ^ (s.t + S1.t) % 2 ^ (27 - F.t) := by
      rw [hc2, hc1, ← Nat.mul_mod_mul_right, ← Nat.pow_add, Nat.mul_assoc, ← Nat.pow_add, Nat.mod_mod_of_dvd]
      exact Nat.pow_dvd_pow 2 (by omega)
    have e2 : (F.c + 2 ^ (s.t + S1.t)) % 2 ^ (27 - F.t) = 0 := by
      rw [e1, Nat.mod_add_mod, ← Nat.succ_mul]
      refine Nat.mod_eq_zero_of_dvd (Nat.dvd_trans (Nat.pow_dvd_pow 2 (show 27 - F.t ≤ 15 + (s.t + S1.t) by omega)) ?_)
      rw [Nat.pow_add]
      exact Nat.mul_dvd_mul_right hmod _
    have e3 := Nat.two_pow_pos (s.t + S1.t)
    exact Nat.le_of_dvd (by omega) (Nat.dvd_of_mod_eq_zero e2)
  have hclt : F.c < 2 ^ (27 - F.t) := by rw [hc2]; exact Nat.mod_lt _ (Nat.two_pow_pos _)
  have hEl : F.bs.length + 1 = (codeE F).length := by simp [codeE]
  have hpre : ∀ j v, F.bs[j]? = some v → fE (codeE F) j = v := fun j v hj => by
    unfold fE codeE
    rw [List.getD_eq_getElem?_getD, List.getElem?_append_left (List.getElem?_eq_some_iff.1 hj).1, hj]; rfl
  have hlast : fE (codeE F) F.bs.length = F.l := by
    unfold fE codeE
    rw [List.getD_eq_getElem?_getD]; simp
  have hX : valL (F.bs ++ [F.l]) = XE (codeE F) F.bs.length := by
    have := valL_XE (codeE F) F.bs F.l (by omega) hpre
    rw [hlast] at this
    omega
  have hlow : lowC F = XE (codeE F) F.bs.length * 2 ^ (27 - F.t) + F.c := by unfold lowC; rw [hX]
  have fF : Fut (codeE F) F (2 ^ (s.t + S1.t)) := by
    refine ⟨by omega, hpre, .inl hlast, fun k hk => ?_, fun k => ?_⟩
    · obtain ⟨d, rfl⟩ : ∃ d, k = F.bs.length + d := ⟨k - F.bs.length, by omega⟩
      obtain ⟨h1, h2⟩ := XE_end (codeE F) hEl d
      rw [h1, h2, hlow, Nat.pow_add, Nat.pow_add]
      have h3 : XE (codeE F) F.bs.length * 2 ^ (27 - F.t) + F.c < (XE (codeE F) F.bs.length + 1) * 2 ^ (27 - F.t) := by rw [Nat.add_mul]; omega
      have h4 := Nat.mul_lt_mul_of_pos_right h3 (show 0 < 2 ^ BE (codeE F) F.bs.length * 2 ^ (8 * d) from Nat.mul_pos (Nat.two_pow_pos _) (Nat.two_pow_pos _))
      have e : (XE (codeE F) F.bs.length + 1) * 2 ^ (8 * d) * (2 ^ BE (codeE F) F.bs.length * 2 ^ (27 - F.t)) = (XE (codeE F) F.bs.length + 1) * 2 ^ (27 - F.t) * (2 ^ BE (codeE F) F.bs.length * 2 ^ (8 * d)) := by
        simp only [Nat.mul_assoc, Nat.mul_comm, Nat.mul_left_comm]
      rw [e]
      exact h4
    · rcases Nat.lt_or_ge k F.bs.length with hk | hk
      · have h1 := XE_mono (codeE F) (Nat.le_of_lt hk)
        have h2 := Nat.mul_le_mul_right (2 ^ (27 - F.t)) h1
        rw [hlow, Nat.pow_add, ← Nat.mul_assoc]
        refine Nat.lt_of_le_of_lt h2 ?_
        rw [Nat.mul_right_comm]
        refine Nat.mul_lt_mul_of_pos_right ?_ (Nat.two_pow_pos _)
        have := Nat.two_pow_pos (s.t + S1.t)
        omega
      · obtain ⟨d, rfl⟩ : ∃ d, k = F.bs.length + d := ⟨k - F.bs.length, by omega⟩
        obtain ⟨h1, h2⟩ := XE_end (codeE F) hEl d
        have h3 : XE (codeE F) (F.bs.length + d) < (XE (codeE F) F.bs.length + 1) * 2 ^ (8 * d) := by omega
        rw [h2, hlow]
        have h4 := Nat.mul_lt_mul_of_pos_right h3 (Nat.two_pow_pos (BE (codeE F) F.bs.length + (27 - F.t)))
        refine Nat.lt_of_lt_of_le h4 ?_
        have h5 : (XE (codeE F) F.bs.length + 1) * 2 ^ (27 - F.t) ≤ XE (codeE F) F.bs.length * 2 ^ (27 - F.t) + F.c + 2 ^ (s.t + S1.t) := by rw [Nat.add_mul]; omega
        have h6 := Nat.mul_le_mul_right (2 ^ (BE (codeE F) F.bs.length + 8 * d)) h5
        refine Nat.le_trans (Nat.le_of_eq ?_) h6
        rw [Nat.pow_add, Nat.pow_add]
        simp only [Nat.mul_assoc, Nat.mul_comm, Nat.mul_left_comm]
  -- backwards
  generalize codeE F = E at fF ⊢
  rw [hS2] at fF
  have hp1 : (2 : Nat) ^ (27 - S1.t) * 2 ^ S1.t = 2 ^ 27 := by rw [← Nat.pow_add]; congr 1; omega
  have hc1lt : S1.c < 2 ^ (27 - S1.t) := by rw [hc1]; exact Nat.mod_lt _ (Nat.two_pow_pos _)
  have f1 := fF.out (Nat.sub_self _) (by
    show S1.c * 2 ^ S1.t < 2 ^ 28
    have := Nat.mul_lt_mul_of_pos_right hc1lt (Nat.two_pow_pos S1.t)
    omega)
  rw [Nat.pow_add] at f1
  have f2 : Fut E S1 (2 ^ s.t) := f1.near (a' := S1.a) (Nat.le_refl _) (by omega)
  rw [hS1] at f2
  have f3 := f2.out (Nat.sub_self _) (by
    show S0.c * 2 ^ S0.t < 2 ^ 28
    rw [hS0c, hS0t]
    have h1 : cf < 2 ^ (28 - s.t) := by omega
    have h2 := Nat.mul_lt_mul_of_pos_right h1 (Nat.two_pow_pos s.t)
    have h3 : (2 : Nat) ^ (28 - s.t) * 2 ^ s.t = 2 ^ 28 := by rw [← Nat.pow_add]; congr 1; omega
    omega)
  rw [← hS0t] at f3
  have f3' : Fut E { S0 with c := S0.c * 2 ^ S0.t, t := S0.t - S0.t } (1 * 2 ^ S0.t) := by rw [Nat.one_mul]; exact f3
  have f4 : Fut E S0 1 := f3'.near (a' := S0.a) (Nat.le_refl _) (by omega)
  rw [← hS0] at f4
  exact Fut.part (s := s) (a' := s.a) (n' := s.n) (st' := s.st) f4 hf1.1 hf1.2

end Go.Ar

/- BkC: coder and decoder in step: what is decoded are the decisions. No Go, no memory. -/
set_option linter.unusedVariables false
set_option linter.unusedSimpArgs false
namespace Go.Ar

/-- Where a decoder stands in the code 'E', of which it has 'k' bytes. -/
structure Pos (E : List Nat) (d : Dec) (k : Nat) : Prop where
  by_ : ∀ j, byteD d j = fE E (j + 1)
  at_ : k = d.i + 1 ∨ d.i + 1 ≤ k ∧ E.length ≤ d.i + 2 ∧ fE E (d.i + 1) = 255
/-- No byte above 8f stands behind an ff. -/
def Stuffed (E : List Nat) : Prop := ∀ j, fE E j = 255 → j + 1 < E.length → fE E (j + 1) ≤ 143
theorem fE_end (E : List Nat) {k : Nat} (h : E.length ≤ k) : fE E k = 255 := by unfold fE; rw [List.getD_eq_getElem?_getD, List.getElem?_eq_none h]; rfl

/-- A byte comes in. -/
theorem inD_pos {E : List Nat} {d : Dec} {k : Nat} (hE : Stuffed E) (h : Pos E d k) :
    Pos E (inD d) (k + 1) ∧ (inD d).t = lenE E (k + 1) ∧ (inD d).c = (d.c + fE E (k + 1) * 2 ^ (16 - lenE E (k + 1))) % M32 := by
  have hb0 := h.by_ d.i
  have hb1 := h.by_ (d.i + 1)
  have hb : ∀ d' : Dec, d'.b = d.b → ∀ j, byteD d' j = fE E (j + 1) := fun d' e j => by rw [← h.by_ j]; unfold byteD; rw [e]
  unfold inD
  split
  · rename_i h1
    rw [hb0] at h1
    have hlt : d.i + 1 < E.length := by
      rcases Nat.lt_or_ge (d.i + 1) E.length with h2 | h2
      · exact h2
      · exact absurd (fE_end E h2) h1
    have hk : k = d.i + 1 := by
      rcases h.at_ with h2 | ⟨_, h2, h3⟩
      · exact h2
      · exact absurd h3 h1
    have hl : lenE E (k + 1) = 8 := by
      unfold lenE
      rw [Nat.add_sub_cancel, if_neg]
      rintro ⟨_, h3⟩
      rw [hk] at h3
      exact h1 h3
    refine ⟨⟨hb _ rfl, .inl (by rw [hk])⟩, by rw [hl], ?_⟩
    rw [hb1, hl, hk]
  · rename_i h1
    rw [hb0] at h1
    have h1 : fE E (d.i + 1) = 255 := by simpa using h1
    split
    · rename_i h2
      rw [hb1] at h2
      have hge : E.length ≤ d.i + 2 := by
        rcases Nat.lt_or_ge (d.i + 1 + 1) E.length with h3 | h3
        · have := hE _ h1 h3; omega
        · exact h3
      have hkge : d.i + 1 ≤ k := by rcases h.at_ with h3 | ⟨h3, _⟩ <;> omega
      have hl : lenE E (k + 1) = 8 := by unfold lenE; rw [if_neg (by omega)]
      have hf : fE E (k + 1) = 255 := fE_end E (by omega)
      exact ⟨⟨hb _ rfl, .inr ⟨by show d.i + 1 ≤ k + 1; omega, hge, h1⟩⟩, by rw [hl], by rw [hl, hf]⟩
    · rename_i h2
      rw [hb1] at h2
      have hlt : d.i + 2 < E.length := by
        rcases Nat.lt_or_ge (d.i + 2) E.length with h3 | h3
        · exact h3
        · have := fE_end E h3
          rw [show d.i + 1 + 1 = d.i + 2 from rfl] at h2
          omega
      have hk : k = d.i + 1 := by
        rcases h.at_ with h3 | ⟨_, h3, _⟩
        · exact h3
        · omega
      have hl : lenE E (k + 1) = 7 := by
        unfold lenE
        rw [Nat.add_sub_cancel, if_pos ⟨by omega, by rw [hk]; exact h1⟩]
      refine ⟨⟨hb _ rfl, .inl (by rw [hk])⟩, by rw [hl], ?_⟩
      rw [hb1, hl, hk]

/-- The decoder's number: what it has of the code, above the coder's lower end. -/
structure Num (E : List Nat) (s : Cod) (d : Dec) (k : Nat) : Prop extends Pos E d k where
  pos : BE E k = BE E s.bs.length + (27 - s.t) + d.t
  num : d.c + lowC s * 65536 = XE E k * 2 ^ (16 - d.t)
structure Sync (E : List Nat) (s : Cod) (d : Dec) : Prop where
  a : d.a = s.a
  st : d.st = s.st
  n : d.n = s.n
  num : ∃ k, Num E s d k

section
variable {E : List Nat} {s : Cod} {d : Dec} {k A t : Nat}
theorem XE_split (x : Nat) (h : t ≤ 16) : x * 2 ^ (16 - t) * 2 ^ t = x * 65536 := by
  rw [Nat.mul_assoc, ← Nat.pow_add]
  congr 1
  have : 16 - t + t = 16 := by omega
  rw [this]
/-- The number lies in the interval. -/
theorem Fut.lt (h : Fut E s A) (hp : BE E k = BE E s.bs.length + (27 - s.t) + t) (ht : t ≤ 16) : XE E k * 2 ^ (16 - t) < (lowC s + A) * 65536 := by
  have h1 := h.hi k
  rw [hp, Nat.pow_add _ _ t, ← Nat.mul_assoc, Nat.mul_right_comm (lowC s + A)] at h1
  have h2 : XE E k < (lowC s + A) * 2 ^ t := Nat.lt_of_mul_lt_mul_right h1
  refine Nat.lt_of_mul_lt_mul_right (a := 2 ^ t) ?_
  rw [XE_split _ ht, Nat.mul_right_comm]
  exact Nat.mul_lt_mul_of_pos_right h2 (by decide)
theorem Fut.ge (h : Fut E s A) (hp : BE E k = BE E s.bs.length + (27 - s.t) + t) (ht : t ≤ 16) (hk : s.bs.length < k) : lowC s * 65536 ≤ XE E k * 2 ^ (16 - t) := by
  have h1 := h.lo k hk
  rw [hp, Nat.pow_add _ _ t, ← Nat.mul_assoc, Nat.mul_right_comm] at h1
  have h2 : lowC s * 2 ^ t < XE E k + 1 := Nat.lt_of_mul_lt_mul_right h1
  refine Nat.le_of_mul_le_mul_right (c := 2 ^ t) ?_ (Nat.two_pow_pos t)
  rw [XE_split _ ht, Nat.mul_right_comm]
  exact Nat.mul_le_mul_right _ (by omega)
theorem ahead (hp : BE E k = BE E s.bs.length + (27 - s.t) + t) (ht : s.t ≤ 12) : s.bs.length < k := by
  rcases Nat.lt_or_ge s.bs.length k with h1 | h1
  · exact h1
  · have := BE_mono E h1; omega

theorem shiftM_pos (h : Fut E (shiftM s) A) (ht1 : 1 ≤ s.t) (ht2 : s.t ≤ 12) (hc : s.c < 2 ^ (28 - s.t)) : lowC (shiftM s) = 2 * lowC s ∧ BE E (shiftM s).bs.length + (27 - (shiftM s).t) = BE E s.bs.length + (27 - s.t) + 1 := by
  have e0 : lowC { s with a := 2 * s.a, c := 2 * s.c, t := s.t - 1 } = 2 * lowC s := by
    show valL (s.bs ++ [s.l]) * 2 ^ (27 - (s.t - 1)) + 2 * s.c = 2 * (valL (s.bs ++ [s.l]) * 2 ^ (27 - s.t) + s.c)
    rw [show 27 - (s.t - 1) = (27 - s.t) + 1 by omega, Nat.pow_succ, ← Nat.mul_assoc]
    omega
  unfold shiftM at h ⊢
  simp only [] at h ⊢
  split
  · rename_i h1
    rw [if_pos h1] at h
    have h1 : s.t - 1 = 0 := h1
    have ht : s.t = 1 := by omega
    rw [ht] at hc
    have tail : ∀ {l c : Nat}, Fut E (outTail { s with a := 2 * s.a, c := 2 * s.c, t := s.t - 1 } l c) A → c < 2 ^ 28 → (l ≠ 255 → c < 2 ^ 27) → (l = s.l ∧ c = 2 * s.c ∨ l = s.l + 1 ∧ s.l ≠ 255 ∧ c + 2 ^ 27 = 2 * s.c) →
        lowC (outTail { s with a := 2 * s.a, c := 2 * s.c, t := s.t - 1 } l c) = 2 * lowC s ∧ BE E (outTail { s with a := 2 * s.a, c := 2 * s.c, t := s.t - 1 } l c).bs.length + (27 - (outTail { s with a := 2 * s.a, c := 2 * s.c, t := s.t - 1 } l c).t) = BE E s.bs.length + (27 - s.t) + 1 := by
      intro l c hF hc hc2 hl
      constructor
      · rw [outTail_low _ l c hc hc2, ← e0]
        unfold lowC
        show valL (s.bs ++ [l]) * 2 ^ 27 + c = valL (s.bs ++ [s.l]) * 2 ^ (27 - (s.t - 1)) + 2 * s.c
        rw [h1, valL_snoc, valL_snoc]
        rcases hl with ⟨rfl, rfl⟩ | ⟨rfl, _, h2⟩
        · rfl
        · generalize (valL s.bs * if s.bs.getLast? = some 255 then 128 else 256) = v
          omega
      · have hbs : (outTail { s with a := 2 * s.a, c := 2 * s.c, t := s.t - 1 } l c).bs = s.bs ++ [l] := by unfold outTail; split <;> rfl
        have hpre := hF.pre
        have hlen := hF.len
        rw [hbs] at hpre hlen
        have hfl : fE E s.bs.length = l := hpre s.bs.length l (by simp)
        have hlen' : s.bs.length + 1 < E.length := by simpa using hlen
        rw [hbs, List.length_append, List.length_singleton]
        show BE E s.bs.length + lenE E (s.bs.length + 1) + _ = _
        have : lenE E (s.bs.length + 1) + (27 - (outTail { s with a := 2 * s.a, c := 2 * s.c, t := s.t - 1 } l c).t) = 27 := by
          unfold lenE outTail
          rw [Nat.add_sub_cancel, hfl]
          by_cases h3 : l = 255
          · simp only [if_pos h3]; rw [if_pos ⟨hlen', h3⟩]
          · simp only [if_neg h3]; rw [if_neg (by simp [h3])]
        omega
    unfold outM at h ⊢
    split
    · rename_i h2
      rw [if_pos h2] at h
      exact tail h (by show 2 * s.c % 134217728 < _; omega) (fun _ => by show 2 * s.c % 134217728 < _; omega) (.inr ⟨rfl, h2.1, by
        have : 134217728 ≤ 2 * s.c := h2.2
        show 2 * s.c % 134217728 + _ = _
        omega⟩)
    · rename_i h2
      rw [if_neg h2] at h
      exact tail h (by show 2 * s.c < _; omega) (fun h3 => by
        rcases Nat.lt_or_ge (2 * s.c) 134217728 with h4 | h4
        · exact h4
        · exact absurd ⟨h3, h4⟩ h2) (.inl ⟨rfl, rfl⟩)
  · exact ⟨e0, by show BE E s.bs.length + (27 - (s.t - 1)) = _; omega⟩

/-- One doubling. -/
theorem sync_shift (hE : Stuffed E) (hm : Mid s) (hd : MidD d) (S : Sync E s d) (ha : s.a < 0x8000) (F : Fut E (shiftM s) (shiftM s).a) : Sync E (shiftM s) (shiftD d) := by
  obtain ⟨hm1, hma, hmn, hmst, _, _⟩ := shiftM_mid hm ha
  have hc := hm.ca
  rw [hma] at F
  have hF : Fut E s s.a := F.shift hm.t1 hm.t12 (by omega)
  obtain ⟨p1, p2⟩ := shiftM_pos F hm.t1 hm.t12 (by omega)
  obtain ⟨k, hN⟩ := S.num
  have key : ∃ (k : Nat) (d1 : Dec), (if d.t = 0 then inD d else d) = d1 ∧ Num E s d1 k ∧ 1 ≤ d1.t ∧ d1.t ≤ 8 ∧ d1.a = d.a ∧ d1.st = d.st ∧ d1.n = d.n := by
    by_cases h0 : d.t = 0
    · obtain ⟨q1, q2, q3⟩ := inD_pos hE hN.toPos
      obtain ⟨i1, i2, i3, i4, i5, i6⟩ := inD_mid hd
      obtain ⟨l1, l2⟩ := lenE_le E (k + 1)
      rw [if_pos h0]
      have hpos : BE E (k + 1) = BE E s.bs.length + (27 - s.t) + lenE E (k + 1) := by
        have := hN.pos
        show BE E k + lenE E (k + 1) = _
        omega
      have hlt := hF.lt hpos (by omega)
      have e1 : XE E (k + 1) * 2 ^ (16 - lenE E (k + 1)) = XE E k * 65536 + fE E (k + 1) * 2 ^ (16 - lenE E (k + 1)) := by
        show (XE E k * 2 ^ lenE E (k + 1) + fE E (k + 1)) * _ = _
        rw [Nat.add_mul, ← XE_split (t := lenE E (k + 1)) (XE E k) (by omega), Nat.mul_right_comm]
      have e2 := hN.num
      rw [h0, Nat.sub_zero] at e2
      have hcl : (inD d).c + lowC s * 65536 = XE E (k + 1) * 2 ^ (16 - lenE E (k + 1)) := by
        rw [q3, Nat.mod_eq_of_lt]
        · omega
        · show _ < 4294967296
          rw [Nat.add_mul] at hlt
          have e3 : XE E k * 2 ^ 16 = XE E k * 65536 := rfl
          omega
      exact ⟨k + 1, _, rfl, ⟨q1, by rw [q2]; exact hpos, by rw [q2]; exact hcl⟩, by omega, by omega, i2, i4, i3⟩
    · rw [if_neg h0]
      exact ⟨k, d, rfl, hN, by omega, hd.t8, rfl, rfl, rfl⟩
  obtain ⟨k1, d1, hd1, hN1, t1, t8, ea, est, en⟩ := key
  have hlt := hF.lt hN1.pos (by omega)
  rw [← hN1.num] at hlt
  rw [Nat.add_mul] at hlt
  have hsd : shiftD d = { d1 with a := 2 * d1.a, c := 2 * d1.c % M32, t := d1.t - 1 } := by rw [← hd1]; rfl
  rw [hsd]
  have hc2 : 2 * d1.c % M32 = 2 * d1.c := Nat.mod_eq_of_lt (by show 2 * d1.c < 4294967296; omega)
  rw [hc2]
  refine ⟨by show 2 * d1.a = _; rw [hma, ea, S.a], by show d1.st = _; rw [hmst, est, S.st], by show d1.n = _; rw [hmn, en, S.n], k1, ⟨⟨hN1.by_, hN1.at_⟩, ?_, ?_⟩⟩
  · show BE E k1 = _ + (d1.t - 1)
    have := hN1.pos
    omega
  · show 2 * d1.c + lowC (shiftM s) * 65536 = XE E k1 * 2 ^ (16 - (d1.t - 1))
    have := hN1.num
    rw [p1, show 16 - (d1.t - 1) = (16 - d1.t) + 1 by omega, Nat.pow_succ, ← Nat.mul_assoc]
    omega
end

theorem sync_renew {E : List Nat} (hE : Stuffed E) : ∀ (k : Nat) {s : Cod} {d : Dec}, Mid s → MidD d → Sync E s d → s.a < 0x8000 → 0x8000 ≤ s.a * 2 ^ k → Fut E (renewM k s) (renewM k s).a → Sync E (renewM k s) (renewD k d)
  | 0, s, d, h, _, _, ha, hk, _ => by simp at hk; omega
  | k + 1, s, d, h, hd, S, ha, hk, hF => by
    obtain ⟨h1, h2, h3, h4, h5, h6⟩ := shiftM_mid h ha
    obtain ⟨g1, g2, g3, g4, g5⟩ := shiftD_mid hd
    have ea : (shiftD d).a = (shiftM s).a := by rw [g2, h2, S.a]
    unfold renewM at hF ⊢
    unfold renewD
    simp only [] at hF ⊢
    rw [ea]
    by_cases hge : 0x8000 ≤ (shiftM s).a
    · rw [if_pos hge] at hF ⊢
      rw [if_pos hge]
      exact sync_shift hE h hd S ha hF
    · rw [if_neg hge] at hF ⊢
      rw [if_neg hge]
      have hk' : 0x8000 ≤ (shiftM s).a * 2 ^ k := by
        rw [h2]
        rw [Nat.pow_succ] at hk
        have : s.a * (2 ^ k * 2) = 2 * s.a * 2 ^ k := by rw [Nat.mul_comm (2 ^ k) 2, ← Nat.mul_assoc, Nat.mul_comm s.a 2]
        omega
      exact sync_renew hE k h1 g1 (sync_shift hE h hd S ha (Fut.renew k h1 (by omega) hk' hF)) (by omega) hk' hF

/-- One decision. -/
theorem sync_put {E : List Nat} (hE : Stuffed E) {s : Cod} {d : Dec} (hs : Wf s) (hd : WfD d) (S : Sync E s d) {k bit : Nat} (hb : bit ≤ 1) (hF : Fut E (putM s k bit) (putM s k bit).a) :
    Sync E (putM s k bit) (getD d k).1 ∧ (getD d k).2 = bit ∧ Fut E s s.a := by
  have hx := getD_lt hs.st k
  have hr : s.st.getD k 0 / 2 < 47 := by omega
  have hq1 := qOf_pos hr
  have hq2 := qOf_le hr
  have hM := set_lt hs.st (k := k) (upM_lt hx)
  have hL := set_lt hs.st (k := k) (upL_lt hx)
  have hlo := hs.lo
  have hhi := hs.hi
  have hca := hs.ca
  have ht1 := hs.t1
  have ht2 := hs.t12
  have hdc := hd.c
  have h17 : (2 : Nat) ^ 17 = 131072 := rfl
  obtain ⟨kk, hN⟩ := S.num
  have hdt := hd.t8
  -- the lower part, the upper part
  have up : ∀ {a' n' : Nat} {st' : List Nat}, Fut E { s with a := a', c := s.c + qOf (s.st.getD k 0 / 2), n := n', st := st' } (s.a - qOf (s.st.getD k 0 / 2)) → ¬ d.c / 65536 < qOf (s.st.getD k 0 / 2) ∧ Fut E s s.a := by
    intro a' n' st' h
    have hl : lowC { s with a := a', c := s.c + qOf (s.st.getD k 0 / 2), n := n', st := st' } = lowC s + qOf (s.st.getD k 0 / 2) := (Nat.add_assoc _ _ _).symm
    have h1 := h.ge (k := kk) (t := d.t) hN.pos (by omega) (ahead (s := s) hN.pos ht2)
    rw [hl, ← hN.num, Nat.add_mul] at h1
    refine ⟨by omega, Fut.part (s := s) (d' := s.done) h (by omega) (by omega)⟩
  have lw : ∀ {a' n' : Nat} {st' : List Nat}, Fut E { s with a := a', n := n', st := st' } (qOf (s.st.getD k 0 / 2)) → d.c / 65536 < qOf (s.st.getD k 0 / 2) ∧ Fut E s s.a := by
    intro a' n' st' h
    have h1 := h.lt (k := kk) (t := d.t) hN.pos (by omega)
    rw [← hN.num] at h1
    have hl : lowC { s with a := a', n := n', st := st' } = lowC s := rfl
    rw [hl, Nat.add_mul] at h1
    refine ⟨by omega, Fut.part (s := s) (c' := s.c) (d' := s.done) h (by omega) (by omega)⟩
  have hbit : s.st.getD k 0 % 2 < 2 := Nat.mod_lt _ (by omega)
  -- the numbers behind a step
  have nup : ¬ d.c / 65536 < qOf (s.st.getD k 0 / 2) → ∀ {a' n' : Nat} {st' : List Nat}, Sync E { s with a := a', c := s.c + qOf (s.st.getD k 0 / 2), n := n', st := st' } { d with a := a', c := d.c - qOf (s.st.getD k 0 / 2) * 65536, n := n', st := st' } := by
    intro h a' n' st'
    refine ⟨rfl, rfl, rfl, kk, ⟨hN.by_, hN.at_⟩, hN.pos, ?_⟩
    have := hN.num
    have hl : lowC { s with a := a', c := s.c + qOf (s.st.getD k 0 / 2), n := n', st := st' } = lowC s + qOf (s.st.getD k 0 / 2) := (Nat.add_assoc _ _ _).symm
    show d.c - qOf (s.st.getD k 0 / 2) * 65536 + lowC { s with a := a', c := s.c + qOf (s.st.getD k 0 / 2), n := n', st := st' } * 65536 = XE E kk * 2 ^ (16 - d.t)
    rw [hl, Nat.add_mul]
    omega
  have nlw : ∀ {a' n' : Nat} {st' : List Nat}, Sync E { s with a := a', n := n', st := st' } { d with a := a', n := n', st := st' } := by
    intro a' n' st'
    exact ⟨rfl, rfl, rfl, kk, ⟨hN.by_, hN.at_⟩, hN.pos, hN.num⟩
  have hget : getD d k = (if d.c / 65536 < qOf (s.st.getD k 0 / 2) then
    if s.a - qOf (s.st.getD k 0 / 2) < qOf (s.st.getD k 0 / 2) then (renewD 17 { d with a := qOf (s.st.getD k 0 / 2), n := s.n + 1, st := s.st.set k (upM (s.st.getD k 0)) }, s.st.getD k 0 % 2)
    else (renewD 17 { d with a := qOf (s.st.getD k 0 / 2), n := s.n + 1, st := s.st.set k (upL (s.st.getD k 0)) }, 1 - s.st.getD k 0 % 2)
  else
    if 0x8000 ≤ s.a - qOf (s.st.getD k 0 / 2) then ({ d with a := s.a - qOf (s.st.getD k 0 / 2), c := d.c - qOf (s.st.getD k 0 / 2) * 65536, n := s.n + 1, st := s.st }, s.st.getD k 0 % 2)
    else if s.a - qOf (s.st.getD k 0 / 2) < qOf (s.st.getD k 0 / 2) then (renewD 17 { d with a := s.a - qOf (s.st.getD k 0 / 2), c := d.c - qOf (s.st.getD k 0 / 2) * 65536, n := s.n + 1, st := s.st.set k (upL (s.st.getD k 0)) }, 1 - s.st.getD k 0 % 2)
    else (renewD 17 { d with a := s.a - qOf (s.st.getD k 0 / 2), c := d.c - qOf (s.st.getD k 0 / 2) * 65536, n := s.n + 1, st := s.st.set k (upM (s.st.getD k 0)) }, s.st.getD k 0 % 2)) := by
    have e1 := S.a
    have e2 := S.st
    have e3 := S.n
    obtain ⟨da, dc, dt, dn, dst, db, di⟩ := d
    simp only at e1 e2 e3
    subst e1 e2 e3
    rfl
  have hdm : ∀ {a' c' n' : Nat} {st' : List Nat}, c' ≤ d.c → (∀ x ∈ st', x < 94) → MidD { d with a := a', c := c', n := n', st := st' } := fun hc hst => ⟨hd.t8, Nat.lt_of_le_of_lt hc hdc, hd.b, hst, hd.i⟩
  rw [hget]
  unfold putM at hF ⊢
  simp only [] at hF ⊢
  generalize s.st.getD k 0 = x at *
  generalize qOf (x / 2) = q at *
  have mlw : ∀ {n' : Nat} {st' : List Nat}, (∀ x ∈ st', x < 94) → Mid { s with a := q, n := n', st := st' } := fun hst => ⟨ht1, ht2, by show s.c + q < 2 ^ (28 - s.t); omega, hs.l, hs.bs, hst⟩
  have mup : ∀ {n' : Nat} {st' : List Nat}, (∀ x ∈ st', x < 94) → Mid { s with a := s.a - q, c := s.c + q, n := n', st := st' } := fun hst => ⟨ht1, ht2, by show s.c + q + (s.a - q) < 2 ^ (28 - s.t); omega, hs.l, hs.bs, hst⟩
  have flw : ∀ {n' : Nat} {st' : List Nat}, (∀ x ∈ st', x < 94) → Fut E (renewM 17 { s with a := q, n := n', st := st' }) (renewM 17 { s with a := q, n := n', st := st' }).a →
      d.c / 65536 < q ∧ Fut E s s.a ∧ Sync E (renewM 17 { s with a := q, n := n', st := st' }) (renewD 17 { d with a := q, n := n', st := st' }) := by
    intro n' st' hst h
    have h0 := Fut.renew 17 (mlw (n' := n') hst) (by show q < _; omega) (by show _ ≤ q * _; omega) h
    obtain ⟨h1, h2⟩ := lw h0
    exact ⟨h1, h2, sync_renew hE 17 (mlw hst) (hdm (Nat.le_refl _) hst) nlw (by show q < _; omega) (by show _ ≤ q * _; omega) h⟩
  have fup : ∀ {n' : Nat} {st' : List Nat}, s.a - q < 0x8000 → 1 ≤ s.a - q → (∀ x ∈ st', x < 94) → Fut E (renewM 17 { s with a := s.a - q, c := s.c + q, n := n', st := st' }) (renewM 17 { s with a := s.a - q, c := s.c + q, n := n', st := st' }).a →
      ¬ d.c / 65536 < q ∧ Fut E s s.a ∧ Sync E (renewM 17 { s with a := s.a - q, c := s.c + q, n := n', st := st' }) (renewD 17 { d with a := s.a - q, c := d.c - q * 65536, n := n', st := st' }) := by
    intro n' st' h3 h4 hst h
    have h0 := Fut.renew 17 (mup (n' := n') hst) h3 (by show _ ≤ (s.a - q) * _; omega) h
    obtain ⟨h1, h2⟩ := up h0
    exact ⟨h1, h2, sync_renew hE 17 (mup hst) (hdm (Nat.sub_le _ _) hst) (nup h1) h3 (by show _ ≤ (s.a - q) * _; omega) h⟩
  by_cases hbx : bit = x % 2
  · rw [if_pos hbx] at hF ⊢
    by_cases h8 : 0x8000 ≤ s.a - q
    · rw [if_pos h8] at hF ⊢
      obtain ⟨h1, h2⟩ := up (a' := s.a - q) (n' := s.n + 1) (st' := s.st) hF
      rw [if_neg h1, if_pos h8]
      exact ⟨nup h1, hbx.symm, h2⟩
    · rw [if_neg h8] at hF ⊢
      by_cases hq : s.a - q < q
      · rw [if_pos hq] at hF ⊢
        obtain ⟨h1, h2, h3⟩ := flw hM hF
        rw [if_pos h1, if_pos hq]
        exact ⟨h3, hbx.symm, h2⟩
      · rw [if_neg hq] at hF ⊢
        obtain ⟨h1, h2, h3⟩ := fup (by omega) (by omega) hM hF
        rw [if_neg h1, if_neg h8, if_neg hq]
        exact ⟨h3, hbx.symm, h2⟩
  · rw [if_neg hbx] at hF ⊢
    by_cases hq : s.a - q < q
    · rw [if_pos hq] at hF ⊢
      obtain ⟨h1, h2, h3⟩ := fup (by omega) (by omega) hL hF
      rw [if_neg h1, if_neg (by omega), if_pos hq]
      exact ⟨h3, by show 1 - x % 2 = bit; omega, h2⟩
    · rw [if_neg hq] at hF ⊢
      obtain ⟨h1, h2, h3⟩ := flw hL hF
      rw [if_pos h1, if_neg hq]
      exact ⟨h3, by show 1 - x % 2 = bit; omega, h2⟩

end Go.Ar
