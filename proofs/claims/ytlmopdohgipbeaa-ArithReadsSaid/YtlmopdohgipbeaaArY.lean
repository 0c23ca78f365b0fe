/- ArY: the law ArithCodes, said of memory. -/
import Derived.Test.YtlmopdohgipbeaaArX
import Derived.Test.YtlmopdohgipbeaaArH
import Derived.Test.YtlmopdohgipbeaaBlaw4ArithCodes
set_option linter.unusedVariables false
set_option linter.unusedSimpArgs false
namespace Go.Ar
open Go Go.Den Go.Den.Ytlmopdohgipbeaa

/-- One decision, whatever its bit: what both coders become. -/
def putB (s : Cod) (k : Nat) (b : Int) : Cod := if b = 0 then putM s k 0 else if b = 1 then putM s k 1 else s
def ansB (b : Int) : Int := if b = 0 then 0 else if b = 1 then 0 else 42
theorem putB_ok {m n : Nat} {s : Cod} (h : CodOk m n s) (k : Nat) (b : Int) (hn : n < 16777216) : ∃ n', n' ≤ n + 1 ∧ CodOk m n' (putB s k b) := by
  unfold putB
  split
  · exact ⟨n + 1, Nat.le_refl _, putM_ok h k 0 hn⟩
  · split
    · exact ⟨n + 1, Nat.le_refl _, putM_ok h k 1 hn⟩
    · exact ⟨n, Nat.le_succ n, h⟩
theorem putI_ok {h : Heap} {p q r : Nat} {s : Cod} {rest : List Value} {F : List Nat} {h0 : Heap} (H : Hp h0 F h (codL p q r s rest)) {m n : Nat} (hs : CodOk m n s) (hn : n < 16777216) (hm1 : 1 ≤ m) (hm2 : m ≤ 131072) {ctx b : Int}
    {K : Value → Heap → Prop} {Kp : List PanicEntry → Heap → Prop} (hk : ∀ r' rest' h', Hp h0 F h' (codL p q r' (putB s (idx ctx m) b) rest') → K (.int .i64 (ansB b)) h') :
    CP F_arith_Coder_Put #[.pointer (at0 p), .int .i64 ctx, .int .i64 b] h K Kp := by
  unfold putB ansB at hk
  by_cases h0' : b = 0
  · subst h0'
    exact put_ok (bit := 0) H hs.wf hs.done (by rw [hs.n]; exact hn) (by rw [hs.len]; exact hm1) (by rw [hs.len]; exact hm2) (by decide) fun r' rest' h' H' => hk r' rest' h' (by rw [hs.len] at H'; exact H')
  · by_cases h1 : b = 1
    · subst h1
      exact put_ok (bit := 1) H hs.wf hs.done (by rw [hs.n]; exact hn) (by rw [hs.len]; exact hm1) (by rw [hs.len]; exact hm2) (by decide) fun r' rest' h' H' => hk r' rest' h' (by rw [hs.len] at H'; exact H')
    · rw [if_neg h0', if_neg h1, if_neg h0', if_neg h1] at hk
      exact put_bad H hs.done h0' h1 (hk r rest h H)
theorem rputI_ok {h : Heap} {A : RP} {r : Nat} {s : Cod} {rest : List Value} {F : List Nat} {h0 : Heap} (H : Hp h0 F h (refL A r s rest)) {m n : Nat} (hs : CodOk m n s) (hn : n < 16777216) (hm1 : 1 ≤ m) (hm2 : m ≤ 131072) {ctx b : Int}
    {K : Value → Heap → Prop} {Kp : List PanicEntry → Heap → Prop} (hk : ∀ r' rest' h', Hp h0 F h' (refL A r' (putB s (idx ctx m) b) rest') → K (.int .i64 (ansB b)) h') :
    CP F_burinref4_Coder_Put #[.pointer (at0 A.p), .int .i64 ctx, .int .i64 b] h K Kp := by
  unfold putB ansB at hk
  by_cases h0' : b = 0
  · subst h0'
    exact rput_ok (bit := 0) H hs.wf hs.done (by rw [hs.n]; exact hn) (by rw [hs.len]; exact hm1) (by rw [hs.len]; exact hm2) (by decide) fun r' rest' h' H' => hk r' rest' h' (by rw [hs.len] at H'; exact H')
  · by_cases h1 : b = 1
    · subst h1
      exact rput_ok (bit := 1) H hs.wf hs.done (by rw [hs.n]; exact hn) (by rw [hs.len]; exact hm1) (by rw [hs.len]; exact hm2) (by decide) fun r' rest' h' H' => hk r' rest' h' (by rw [hs.len] at H'; exact H')
    · rw [if_neg h0', if_neg h1, if_neg h0', if_neg h1] at hk
      exact rput_bad H hs.done h0' h1 (hk r rest h H)

end Go.Ar
