/- PgF: what the laws PageLaid and PageStripes need besides. -/
import Derived.Test.YtlmopdohgipbeaaPgC
import Derived.Test.YtlmopdohgipbeaaPgD
import Derived.Test.YtlmopdohgipbeaaBburinkit
set_option linter.unusedVariables false
set_option linter.unusedSimpArgs false
namespace Go.Bm
open Go Go.Den Go.Den.Ytlmopdohgipbeaa

theorem wi_ok {h : Heap} {i n : Int} (hn : 1 ≤ n) (hn2 : n < 1000000000) {K : Value → Heap → Prop} {Kp : List PanicEntry → Heap → Prop} (hk : ∀ z : Int, 0 ≤ z → z < n → K (.int .i64 z) h) : CP F_burinkit_Within #[.int .i64 i, .int .i64 n] h K Kp := by
  refine call_burinkit_Within ?_
  unfold burinkit_Within
  have h1 := Int.lt_tmod_of_pos i (b := n) (by omega)
  have h2 := Int.tmod_lt_of_pos i (b := n) (by omega)
  refine needs_of (by exact ⟨rfl, by omega⟩) ?_
  refine bindI_gen fun z ez => ?_
  subst ez
  refine bcase_dec (fun h3 => ?_) fun h3 => ?_
  · refine bindI_of ((i.tmod n + n)) (by exact i64_in _ (by omega) (by omega)) ?_
    exact hk _ (by omega) (by omega)
  · exact hk _ (by omega) (by omega)

theorem white_ok' {hB : Heap} {W X : Nat} (hs : SizeP (W : Int) (X : Int)) {K : Value → Heap → Prop} {Kp : List PanicEntry → Heap → Prop}
    (hk : ∀ ws q h, ws.length = X * wds W → W64 ws → (∀ x y, pix ws (wds W) x y = false) → Hp hB [] h [⟨q, true, T_uint64, u64s ws ++ []⟩] → K (.agg #[.int .i64 (W : Nat), .int .i64 (X : Nat), .slice (at0 q) ws.length ws.length]) h) :
    CP F_burinref0_White #[.int .i64 (W : Nat), .int .i64 (X : Nat)] hB K Kp := by
  refine white_ok hs fun q h H => ?_
  have := hk (List.replicate (X * wds W) 0) q h (by simp) (W64.zero _) (fun x y => pix_zero _ _ _ _) (H.as (by rw [List.append_nil]))
  rw [List.length_replicate] at this
  exact this

theorem may_of_pix {W X : Nat} {ws : List Nat} (hs : SizeP (W : Int) (X : Int)) (hl : ws.length = X * wds W) (hw : W64 ws) (hp : ∀ y, y < X → ∀ x, W ≤ x → x < 64 * wds W → pix ws (wds W) x y = false) : MayP (W : Int) (X : Int) ws := by
  obtain ⟨W', X', e1, e2, hW1, hW2, hX1, hX2, hWX⟩ := size_nat hs
  obtain rfl : W = W' := by omega
  refine ⟨hs, by simpa using hl, fun y hy => ?_⟩
  simp only [Int.toNat_natCast] at hy ⊢
  rw [mod_zero_bits]
  intro j hj
  unfold padn at hj
  have hwd : wds W = (W + 63) / 64 := rfl
  have := hp y hy (64 * (wds W - 1) + (63 - j)) (by omega) (by omega)
  unfold pix at this
  rw [show (64 * (wds W - 1) + (63 - j)) / 64 = wds W - 1 by omega, show 63 - (64 * (wds W - 1) + (63 - j)) % 64 = j by omega] at this
  exact this
theorem pix_of_may {W X : Nat} {ws : List Nat} (h : MayP (W : Int) (X : Int) ws) {x y : Nat} (hy : y < X) (h1 : W ≤ x) (h2 : x < 64 * wds W) : pix ws (wds W) x y = false := by
  have h3 := h.2.2 y (by simpa using hy)
  simp only [Int.toNat_natCast] at h3
  rw [mod_zero_bits] at h3
  have hwd : wds W = (W + 63) / 64 := rfl
  unfold padn at h3
  have := h3 (63 - x % 64) (by omega)
  unfold pix
  rw [show x / 64 = wds W - 1 by omega]
  exact this
theorem may_len {W X : Nat} {ws : List Nat} (h : MayP (W : Int) (X : Int) ws) : ws.length = X * wds W := by simpa using h.2.1

/-- A part of a bitmap, laid into a white one that begins 'j' rows below its top. -/
theorem part_ok {h0 h : Heap} {FF : List Nat} {L : List Ent} {q c W X n j : Nat} {ws : List Nat} {rest : List Value} (H : Hp h0 FF h L) (kq : Nat) (hq : L[kq]? = some ⟨q, true, T_uint64, u64s ws ++ rest⟩) (hs : SizeP (W : Int) (n : Int)) (hl : ws.length = n * wds W) (hw : W64 ws) (hz : ∀ x y, pix ws (wds W) x y = false)
    {q2 : Option Addr} {c2 : Nat} {ws2 : List Nat} (hr2 : ∀ h' R, Hp h0 FF h' (L.set kq ⟨q, true, T_uint64, u64s R ++ rest⟩) → rdO h' q2 (ws2.length * 1) (u64s ws2)) (hm : MayP (W : Int) (X : Int) ws2) (hw2 : W64 ws2) (hjn : j + n ≤ X)
    {op : Nat} (hop : op = 0 ∨ op = 4) {K : Value → Heap → Prop} {Kp : List PanicEntry → Heap → Prop}
    (hk : ∀ R h', R.length = n * wds W → W64 R → MayP (W : Int) (n : Int) R → (∀ Y, Y < n → ∀ x', x' < 64 * wds W → pix R (wds W) x' Y = pix ws2 (wds W) x' (Y + j)) →
      Hp h0 FF h' (L.set kq ⟨q, true, T_uint64, u64s R ++ rest⟩) → K (.tuple #[]) h') :
    CP F_burinref0_Lay #[.agg #[.int .i64 (W : Nat), .int .i64 (n : Nat), .slice (at0 q) ws.length c], .int .i64 0, .int .i64 (-(j : Int)), .int .i64 (op : Nat), .agg #[.int .i64 (W : Nat), .int .i64 (X : Nat), .slice q2 ws2.length c2]] h K Kp := by
  obtain ⟨W', X', e1, e2, hW1, hW2, hX1, hX2, hWX⟩ := size_nat hm.1
  obtain rfl : W = W' := by omega
  obtain rfl : X = X' := by omega
  refine lay_ok (ws := ws) H kq hq hs hl hw hr2 hm.1 (may_len hm) hw2 (x := 0) (y := -(j : Int)) ⟨by omega, by omega⟩ ⟨by omega, by omega⟩ (op := op) (by omega) fun R h' k1 k2 k3 H' => ?_
  have k4 : ∀ Y, Y < n → ∀ x', x' < 64 * wds W → pix R (wds W) x' Y = pix ws2 (wds W) x' (Y + j) := fun Y hY x' hx' => by
    rw [k3 Y hY x' hx', hz]
    by_cases h2 : x' < W
    · rw [if_pos (by omega), show ((x' : Int) - 0).toNat = x' by omega, show ((Y : Int) - -(j : Int)).toNat = Y + j by omega]
      rcases hop with rfl | rfl
      · show (false || _) = _
        simp
      · rfl
    · rw [if_neg (by omega), pix_of_may hm (by omega) (by omega) hx']
  exact hk R h' k1 k2 (may_of_pix hs k1 k2 fun y hy x h1 h2 => by rw [k4 y hy x h2]; exact pix_of_may hm (by omega) h1 h2) k4 H'

end Go.Bm
