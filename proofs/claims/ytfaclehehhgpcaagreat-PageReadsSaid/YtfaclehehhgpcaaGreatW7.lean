/- The given statement PageReadsSaid is proved of the given program; there are no further conditions. W7: put together by wip/tools/bundle.py: PbK ArLink2 PbReads. -/
import Derived.Test.YtfaclehehhgpcaaGreatW1
import Derived.Test.YtfaclehehhgpcaaGreatW2
import Derived.Test.YtfaclehehhgpcaaGreatW3
import Derived.Test.YtfaclehehhgpcaaGreatW4
import Derived.Test.YtfaclehehhgpcaaGreatW5
import Derived.Test.YtfaclehehhgpcaaGreatW6
import Derived.Test.YtfaclehehhgpcaaGreatProg
import Derived.WalkKit
import Derived.ProofKit
import Derived.OpenShut
import Derived.Carry
import Derived.Deep.SlicePairs
import Derived.Lib.SmallJoins
import Derived.Test.YtfaclehehhgpcaaGreatRows

/- PbK: the law PageReads, said of memory. -/
set_option linter.unusedVariables false
set_option linter.unusedSimpArgs false
namespace Go.Bm
open Go Go.Den Go.Den.YtfaclehehhgpcaaGreat
open Go.Ar (u8s u8s_length wd_bytes)

set_option maxRecDepth 100000 in
set_option maxHeartbeats 4000000 in
theorem great_ok {hB : Heap} {q : Option Addr} {c : Nat} {b : List Nat} (hb : RdB b) (hr : rdO hB q (b.length * 1) (u8s b)) {K : Value → Heap → Prop} {Kp : List PanicEntry → Heap → Prop} (hk : ∀ g h', hext hB h' → K (.bool g) h') :
    CP F_burinlaw15_great #[.slice q b.length c] hB K Kp := by
  refine call_burinlaw15_great ?_
  unfold burinlaw15_great
  have hbl := hb.bl
  have H := Hp.nil hB []
  refine newC_hp H fun r1 h H => ?_
  obtain ⟨I, hI⟩ : ∃ I : Heap → Prop, I = fun h' => ∃ cs : List Int, cs.length = 4 ∧ Hp hB [] h' [⟨r1, true, T_4_int, cs.map (.int .i64)⟩] := ⟨_, rfl⟩
  have hI0 : I h := by rw [hI]; exact ⟨[0, 0, 0, 0], rfl, H⟩
  clear H
  refine ⟨fun m vs h' => ∃ k at_ : Nat, k + m = 4 ∧ at_ ≤ b.length ∧ vs = [.int .i64 (at_ : Nat), .int .i64 (k : Nat)] ∧ I h', ⟨4, 0, 0, rfl, Nat.zero_le _, rfl, hI0⟩, ?_⟩
  clear hI0
  rintro m h u at0 kx ⟨k, at_, hkm, hat, hxx, H⟩
  injection hxx with hx1 hxx
  injection hxx with hx2 hxx
  injection hx1 with _ hx1
  injection hx2 with _ hx2
  subst at0 kx
  refine bcase_dec (fun h1 => ?_) fun h1 => ?_
  · refine ⟨fun m2 vs h' => ∃ at2 : Nat, ∃ un : Int, at2 + m2 = b.length ∧ vs = [.int .i64 (at2 : Nat), .int .i64 un] ∧ I h', ⟨b.length - at_, at_, 1, by omega, rfl, H⟩, ?_⟩
    clear H
    rintro m2 h u at3 un3 ⟨at2, un, hm2, hxx, H⟩
    injection hxx with hx1 hxx
    injection hxx with hx2 hxx
    injection hx1 with _ hx1
    injection hx2 with _ hx2
    subst at3 un3
    have stop : ∀ {h : Heap} {j : Nat}, j ≤ b.length → I h → ∃ m_4, m_4 < m ∧ ∃ k' at' : Nat, k' + m_4 = 4 ∧ at' ≤ b.length ∧ [Value.int .i64 (j : Nat), .int .i64 ((k + 1 : Nat) : Int)] = [Value.int .i64 (at' : Nat), .int .i64 (k' : Nat)] ∧ I h := fun {h j} hj H => ⟨m - 1, by omega, k + 1, j, by omega, hj, rfl, H⟩
    refine bcase_dec (fun h2 => ?_) fun h2 => ?_
    · refine bcase_dec (fun h3 => ?_) fun h3 => ?_
      · refine needs_of (by omega) (needs_of (by omega) ?_)
        rw [Int.toNat_natCast, Int.toNat_natCast, Nat.mul_one, Nat.mul_one]
        rw [hI] at H
        obtain ⟨cs, hcs, H⟩ := H
        obtain ⟨x, hx⟩ : ∃ x, b[at2]? = some x := ⟨_, List.getElem?_eq_getElem (by omega)⟩
        obtain ⟨a, rfl, hc⟩ := rdO_cell (H.rdO hr) (i := at2) (v := .int .u8 (x : Nat)) (by unfold u8s; rw [List.getElem?_map, hx]; rfl)
        obtain ⟨y, hy⟩ : ∃ y, cs[k]? = some y := ⟨_, List.getElem?_eq_getElem (by omega)⟩
        refine ptr_of (a := a) ?_
        refine ldI_of (hpA H 0 rfl (by rw [Nat.zero_add, List.getElem?_map, hy]; rfl)) (ldI_of hc ?_)
        refine bindI_gen fun _ _ => bindI_gen fun _ _ => bindI_gen fun _ _ => bindI_gen fun z _ => ?_
        refine needs_of (by omega) ?_
        rw [add_mk, Nat.zero_add]
        refine stV_hp H 0 rfl (by rw [List.length_map]; omega) rfl fun h _ H => ?_
        have H : Hp hB [] h [⟨r1, true, T_4_int, (cs.set k z).map (.int .i64)⟩] := H.as (by rw [List.map_set]; rfl)
        refine bindI_gen fun z25 _ => ?_
        refine bindI_of (((at2 + 1 : Nat) : Int)) (by exact i64_at _ _ (by omega) (by omega) (by omega)) ?_
        refine bindI_of (((at2 : Nat) : Int)) (by exact i64_at _ _ (by omega) (by omega) (by omega)) ?_
        refine needs_of (by omega) (ptr_of (a := a) ?_)
        rw [Int.toNat_natCast, Nat.mul_one]
        obtain ⟨a', ha', hc'⟩ := rdO_cell (H.rdO hr) (i := at2) (v := .int .u8 (x : Nat)) (by unfold u8s; rw [List.getElem?_map, hx]; rfl)
        injection ha' with ha'
        subst ha'
        refine ldI_of hc' ?_
        have HI : I h := by rw [hI]; exact ⟨_, by rw [List.length_set]; exact hcs, H⟩
        refine bcase_dec (fun h4 => ?_) fun h4 => ?_
        · refine bindI_of (((k + 1 : Nat) : Int)) (by exact i64_at _ _ (by omega) (by omega) (by omega)) ?_
          exact stop (by omega) HI
        · exact ⟨m2 - 1, by omega, at2 + 1, z25, by omega, rfl, HI⟩
      · refine bindI_of (((k + 1 : Nat) : Int)) (by exact i64_at _ _ (by omega) (by omega) (by omega)) ?_
        exact stop (by omega) H
    · refine bindI_of (((k + 1 : Nat) : Int)) (by exact i64_at _ _ (by omega) (by omega) (by omega)) ?_
      exact stop (by omega) H
  · rw [hI] at H
    obtain ⟨cs, hcs, H⟩ := H
    obtain ⟨n0, n1, n2, n3, rfl⟩ : ∃ a b c d, cs = [a, b, c, d] := by
      match cs, hcs with
      | [a, b, c, d], _ => exact ⟨a, b, c, d, rfl⟩
    have H : Hp hB [] h [⟨r1, true, T_4_int, [.int .i64 n0, .int .i64 n1, .int .i64 n2, .int .i64 n3]⟩] := H
    refine needs_of (by decide) (ldI_of (hpA H 0 rfl rfl) (needs_of (by decide) (ldI_of (hpA H 0 rfl rfl) ?_)))
    refine rsize_ok fun bb _ => ⟨_, rfl, ?_⟩
    refine bcase_of (fun h2 => ?_) fun h2 => hk _ _ H.hext
    refine needs_of (by decide) (ldI_of (hpA H 0 rfl rfl) (needs_of (by decide) (ldI_of (hpA H 0 rfl rfl) ?_)))
    refine bindI_gen fun z _ => ?_
    refine bcase_dec (fun h3 => hk _ _ H.hext) fun h3 => ?_
    refine needs_of (by decide) (ldI_of (hpA H 0 rfl rfl) ?_)
    exact hk _ _ H.hext
set_option maxRecDepth 100000 in
set_option maxHeartbeats 4000000 in
theorem eqReg_ok {hB : Heap} {a b : Option Addr} {ac bc : Nat} {x y op t w g : Int} {sk : Bool} {xs : List Nat} (ha : rdO hB a (xs.length * 1) (u64s xs)) (hb : rdO hB b (xs.length * 1) (u64s xs)) (hlen : xs.length < 140737488351300)
    {K : Value → Heap → Prop} {Kp : List PanicEntry → Heap → Prop} (hk : ∀ h, hext hB h → K (.bool true) h) :
    CP F_burinref0_EqRegion #[.agg #[.int .i64 x, .int .i64 y, .int .i64 op, .int .i64 t, .bool sk, .int .i64 w, .int .i64 g, .slice a xs.length ac], .agg #[.int .i64 x, .int .i64 y, .int .i64 op, .int .i64 t, .bool sk, .int .i64 w, .int .i64 g, .slice b xs.length bc]] hB K Kp := by
  refine call_burinref0_EqRegion ?_
  unfold burinref0_EqRegion
  have H := Hp.nil hB []
  refine newC_hp H fun r1 h H => ?_
  refine newC_hp H fun r2 h H => ?_
  have H : Hp hB [] h [⟨r1, true, T_api_Region, [.int .i64 x, .int .i64 y, .int .i64 op, .int .i64 t, .bool sk, .int .i64 w, .int .i64 g, .slice a xs.length ac]⟩, ⟨r2, true, T_api_Region, [.int .i64 x, .int .i64 y, .int .i64 op, .int .i64 t, .bool sk, .int .i64 w, .int .i64 g, .slice b xs.length bc]⟩] := H
  refine ldI_of (hpA H 0 rfl rfl) (ldI_of (hpA H 1 rfl rfl) ?_)
  refine bcase_true (by simp) ?_
  refine ldI_of (hpA H 0 rfl rfl) (ldI_of (hpA H 1 rfl rfl) ?_)
  refine bcase_true (by simp) ?_
  refine ldI_of (hpA H 0 rfl rfl) (ldI_of (hpA H 1 rfl rfl) ?_)
  refine bcase_true (by simp) ?_
  refine ldI_of (hpA H 0 rfl rfl) (ldI_of (hpA H 1 rfl rfl) ?_)
  refine bcase_true (by simp) ?_
  refine ldB_of (hpA H 0 rfl rfl) (ldB_of (hpA H 1 rfl rfl) ?_)
  refine bcase_true (by simp) ?_
  refine ldI_of (hpB H 0 rfl rfl) (ldI_of (hpB H 0 rfl rfl) (ldS_of (hpB H 0 rfl rfl) (ldI_of (hpB H 1 rfl rfl) (ldI_of (hpB H 1 rfl rfl) (ldS_of (hpB H 1 rfl rfl) ?_)))))
  refine eqB_ok (xs := xs) (ys := xs) (H.rdO ha) (H.rdO hb) hlen fun h e => ?_
  refine ⟨_, rfl, ?_⟩
  rw [decide_eq_true ⟨rfl, rfl, rfl⟩]
  exact hk _ (H.hext.trans e)
/-- Rows of bytes that come in. -/
structure BytesC (h : Heap) (a : Addr) (b : List Nat) (q : Option Addr) (c : Nat) : Prop where
  c0 : hcell h a = some (.slice q b.length c)
  r1 : rdO h q (b.length * 1) (u8s b)
  b8 : ∀ x ∈ b, x < 256
  bl : b.length < 140737488351300
  cap : b.length ≤ c
def ByteRowsV (h : Heap) (q : Option Addr) (n : Nat) : Prop := ∀ i, i < n → ∃ a b q1 c1, q = some a ∧ BytesC h (a.add (i * 1)) b q1 c1
theorem byteRows_of {h : Heap} {cs : List Value} (H : WDx TP h T_s_s_uint8 cs) : ∃ q len cap, cs = [.slice q len cap] ∧ ByteRowsV h q len := by
  obtain ⟨q, len, cap, rfl, _, _, _, h4⟩ := wd_slice Go.Proofs.Tryz.underlying24 H
  refine ⟨q, len, cap, rfl, fun i hi => ?_⟩
  obtain ⟨a, cs', ha, hr, hd⟩ := h4 i hi
  have k : TP.cellsOf T_s_uint8 = 1 := by kernel_rfl
  rw [k] at hr
  obtain ⟨q1, c1, bs, rfl, g1, g2, _, g3, g4⟩ := wd_bytes hd
  have c0 := hr.2 0 _ rfl
  rw [Go.Ar.add_add', Nat.add_zero] at c0
  exact ⟨a, bs, q1, c1, ha, ⟨c0, g3, g4, by omega, g1⟩⟩
theorem RgR.len {b : List Nat} {e x y op t w g : Int} {sk : Bool} {ys : List Nat} (h : RgR b e x y op t sk w g ys) : ys.length < 140737488351300 := by
  rcases h with ⟨_, _, _, _, _, _, _, _, _, rfl⟩ | ⟨_, _, _, _, _, _, _, _, _, _, _, _, _, _, _, _, _, _, _, s1, g1⟩
  · exact Nat.zero_lt_succ _
  · exact g1.len
set_option maxRecDepth 100000 in
set_option maxHeartbeats 8000000 in
theorem pReads_law {hB : Heap} {sq rq fq : Option Addr} {sn sc rn rc fn fc : Nat} (hf : ByteRowsV hB fq fn) {K : Value → Heap → Prop} {Kp : List PanicEntry → Heap → Prop} (hk : ∀ h', hext hB h' → K (.bool true) h') :
    CP F_burinlaw15_PageReads #[.agg #[.slice sq sn sc, .slice rq rn rc, .slice fq fn fc]] hB K Kp := by
  refine call_burinlaw15_PageReads ?_
  unfold burinlaw15_PageReads
  have fr : ∀ {h : Heap} {L : List Ent} {c : Addr} {v : Value}, Hp hB [] h L → hcell hB c = some v → hcell h c = some v := fun H hc => H.fr.cell (by simp) hc
  have H := Hp.nil hB []
  refine newC_hp H fun r4 h H => ?_
  obtain ⟨R4, hR4⟩ : ∃ R4 : Ent, R4 = ⟨r4, true, T_burinlaw15_Forms, [.slice sq sn sc, .slice rq rn rc, .slice fq fn fc]⟩ := ⟨_, rfl⟩
  have H : Hp hB [] h [R4] := by rw [hR4]; exact H
  refine ⟨fun m vs h' => ∃ i : Nat, i + m = 10 ∧ vs = [.int .i64 (i : Nat)] ∧ Hp hB [] h' [R4], ⟨10, 0, rfl, rfl, H⟩, ?_⟩
  clear H
  rintro m h u xi ⟨i, him, hxx, H⟩
  injection hxx with hxx
  injection hxx with _ hxx
  subst xi
  have r4p : ∀ {h : Heap} {L : List Ent} {K : Option Addr → Nat → Nat → Prop}, Hp hB [] h L → L[0]? = some R4 → K fq fn fc → ldS h ((⟨r4, 0, none⟩ : Addr).add 2) K := fun {h L K} H h0 hK => by
    refine ldS_of (hpA H 0 (by rw [h0, hR4]) rfl) hK
  refine r4p H rfl ?_
  refine bcase_dec (fun h1 => ?_) fun h1 => wakes15_ok fun h' e => ⟨_, rfl, hk _ (H.hext.trans e)⟩
  refine bcase_dec (fun h2 => ?_) fun h2 => wakes15_ok fun h' e => ⟨_, rfl, hk _ (H.hext.trans e)⟩
  obtain ⟨a, b, q1, c1, hfq, hC⟩ := hf i (by omega)
  have hnd : 0 ≤ ((i : Nat) : Int) ∧ ((i : Nat) : Int) < ((fn : Nat) : Int) := by omega
  have nx : IntKind.i64.wrap ((i : Nat) + (1 : Int)) = ((i + 1 : Nat) : Int) := i64_at _ _ (by omega) (by omega) (by omega)
  have next : ∀ {h' : Heap} {Y : List Ent}, Hp hB [] h' (R4 :: Y) → bindI (IntKind.i64.wrap ((i : Nat) + (1 : Int))) fun z => ∃ m', m' < m ∧ ∃ i' : Nat, i' + m' = 10 ∧ [Value.int .i64 z] = [.int .i64 (i' : Nat)] ∧ Hp hB [] h' [R4] := fun {h' Y} H => bindI_of _ nx ⟨m - 1, by omega, i + 1, by omega, rfl, H.take 1⟩
  have arg : ∀ {h : Heap} {L : List Ent} {K : Option Addr → Nat → Nat → Prop}, Hp hB [] h L → L[0]? = some R4 → K q1 b.length c1 → ldS h ((⟨r4, 0, none⟩ : Addr).add 2) fun x xn xc => needs (0 ≤ ((i : Nat) : Int) ∧ ((i : Nat) : Int) < (xn : Int)) <| ptr x fun a => ldS h (a.add (((i : Nat) : Int).toNat * 1)) K := fun {h L K} H h0 hK => by
    refine r4p H h0 ?_
    refine needs_of hnd (ptr_atB hfq ?_)
    rw [Int.toNat_natCast]
    exact ldS_of (fr H hC.c0) hK
  refine arg H rfl ?_
  refine bcase_dec (fun h3 => next H) fun h3 => ?_
  have hb : RdB b := ⟨hC.b8, by omega⟩
  refine arg H rfl ?_
  refine Go.Ar.lend_ok (H.rdO hC.r1) hC.bl fun o rest k1 h' hk1 H' => ?_
  replace H := H.join H' rfl
  clear H'
  refine ⟨_, _, _, rfl, ?_⟩
  refine decSheet_ok hb (Go.Ar.row_rdO H 1 rfl) fun h' e => ?_
  have H := H.ext e
  obtain ⟨x0, x1, x2, x3, x4, hres⟩ : ∃ x0 x1 x2 x3 x4, shRes b = (x0, x1, x2, x3, x4) := ⟨_, _, _, _, _, rfl⟩
  rw [hres]
  refine ⟨_, _, _, _, _, rfl, ?_⟩
  refine newC_hp H fun r30 h H => ?_
  repeat first | with_reducible refine stA H 2 (by with_unfolding_all exact rfl) (by with_unfolding_all exact rfl) (by with_unfolding_all exact rfl) fun h H => ?_ | with_reducible refine st0 H 2 (by with_unfolding_all exact rfl) (by with_unfolding_all exact rfl) (by with_unfolding_all exact rfl) fun h H => ?_ | with_reducible refine stB H 2 (by with_unfolding_all exact rfl) (by with_unfolding_all exact rfl) (by with_unfolding_all exact rfl) fun h H => ?_
  have H : Hp hB [] h [R4, ⟨o, true, T_uint8, u8s b ++ (u8s (List.replicate 7 165) ++ rest)⟩, ⟨r30, true, T_api_Sheet, [.int .i64 (x1 : Nat), .int .i64 (x2 : Nat), .int .i64 (x3 : Nat), .int .i64 (x4 : Nat)]⟩] := H
  refine arg H rfl ?_
  refine rdecSheet_ok hb (H.rdO hC.r1) fun h' e => ?_
  have H := H.ext e
  rw [hres]
  refine ⟨_, _, _, _, _, rfl, ?_⟩
  refine newC_hp H fun r46 h H => ?_
  repeat first | with_reducible refine stA H 3 (by with_unfolding_all exact rfl) (by with_unfolding_all exact rfl) (by with_unfolding_all exact rfl) fun h H => ?_ | with_reducible refine st0 H 3 (by with_unfolding_all exact rfl) (by with_unfolding_all exact rfl) (by with_unfolding_all exact rfl) fun h H => ?_ | with_reducible refine stB H 3 (by with_unfolding_all exact rfl) (by with_unfolding_all exact rfl) (by with_unfolding_all exact rfl) fun h H => ?_
  have H : Hp hB [] h [R4, ⟨o, true, T_uint8, u8s b ++ (u8s (List.replicate 7 165) ++ rest)⟩, ⟨r30, true, T_api_Sheet, [.int .i64 (x1 : Nat), .int .i64 (x2 : Nat), .int .i64 (x3 : Nat), .int .i64 (x4 : Nat)]⟩, ⟨r46, true, T_api_Sheet, [.int .i64 (x1 : Nat), .int .i64 (x2 : Nat), .int .i64 (x3 : Nat), .int .i64 (x4 : Nat)]⟩] := H
  refine arg H rfl ?_
  refine Go.Ar.back_ok (H.give [1] (by decide) rfl) (H.rdO hC.r1) hC.bl hk1 fun cs1 h' H' => ?_
  replace H := H.put [1] (by decide) rfl rfl H' rfl rfl
  clear H'
  have H : Hp hB [] h' [R4, ⟨o, true, T_uint8, cs1⟩, ⟨r30, true, T_api_Sheet, [.int .i64 (x1 : Nat), .int .i64 (x2 : Nat), .int .i64 (x3 : Nat), .int .i64 (x4 : Nat)]⟩, ⟨r46, true, T_api_Sheet, [.int .i64 (x1 : Nat), .int .i64 (x2 : Nat), .int .i64 (x3 : Nat), .int .i64 (x4 : Nat)]⟩] := H
  refine ⟨_, rfl, ?_⟩
  refine bcase_false (by rfl) ?_
  refine bcase_false (by simp) ?_
  refine ldI_of (hpA H 2 rfl rfl) (ldI_of (hpA H 2 rfl rfl) (ldI_of (hpA H 2 rfl rfl) (ldI_of (hpA H 2 rfl rfl) ?_)))
  refine ldI_of (hpA H 3 rfl rfl) (ldI_of (hpA H 3 rfl rfl) (ldI_of (hpA H 3 rfl rfl) (ldI_of (hpA H 3 rfl rfl) ?_)))
  refine needs_of rfl (needs_of rfl (needs_of rfl (needs_of rfl ?_)))
  refine bcase_false (by simp) ?_
  refine arg H rfl ?_
  refine great_ok hb (H.rdO hC.r1) fun g h' e => ?_
  have H := H.ext e
  refine ⟨_, rfl, ?_⟩
  refine bcase_of (fun _ => next H) fun _ => ?_
  have H : Hp hB [] h' [R4] := H.take 1
  refine arg H rfl ?_
  refine Go.Ar.lend_ok (H.rdO hC.r1) hC.bl fun o rest k1 h' hk1 H' => ?_
  replace H := H.join H' rfl
  clear H'
  refine ⟨_, _, _, rfl, ?_⟩
  refine decRegion_ok hb (Go.Ar.row_rdO H 1 rfl) (by rw [← hk1, List.length_append, u8s_length]; omega) fun e x y op t sk w g ys D qo co h' hR hsl H' => ?_
  replace H := H.join H' hsl.w
  clear H'
  refine ⟨_, _, _, _, _, _, _, _, _, _, _, rfl, ?_⟩
  refine newC_hp H fun r90 h H => ?_
  have H := H.rot
  repeat first | with_reducible refine stA H 0 (by with_unfolding_all exact rfl) (by with_unfolding_all exact rfl) (by with_unfolding_all exact rfl) fun h H => ?_ | with_reducible refine st0 H 0 (by with_unfolding_all exact rfl) (by with_unfolding_all exact rfl) (by with_unfolding_all exact rfl) fun h H => ?_ | with_reducible refine stB H 0 (by with_unfolding_all exact rfl) (by with_unfolding_all exact rfl) (by with_unfolding_all exact rfl) fun h H => ?_
  have H : Hp hB [] h (⟨r90, true, T_api_Region, [.int .i64 x, .int .i64 y, .int .i64 op, .int .i64 t, .bool sk, .int .i64 w, .int .i64 g, .slice qo ys.length co]⟩ :: R4 :: ⟨o, true, T_uint8, u8s b ++ (u8s (List.replicate 7 165) ++ rest)⟩ :: D) := H
  have H := H.perm (List.Perm.swap _ _ _)
  have H : Hp hB [] h (R4 :: ⟨r90, true, T_api_Region, [.int .i64 x, .int .i64 y, .int .i64 op, .int .i64 t, .bool sk, .int .i64 w, .int .i64 g, .slice qo ys.length co]⟩ :: ⟨o, true, T_uint8, u8s b ++ (u8s (List.replicate 7 165) ++ rest)⟩ :: D) := H
  refine arg H rfl ?_
  refine rdecRegion_ok hb (H.rdO hC.r1) hC.cap fun e2 x2' y2 op2 t2 sk2 w2 g2 ys2 D2 qo2 co2 h' hR2 hsl2 H' => ?_
  replace H := H.join H' hsl2.w
  clear H'
  have hlen := hR.len
  obtain ⟨rfl, rfl, rfl, rfl, rfl, rfl, rfl, rfl, rfl⟩ := hR.det hR2
  refine ⟨_, _, _, _, _, _, _, _, _, _, _, rfl, ?_⟩
  refine newC_hp H fun r114 h H => ?_
  have H := H.rot
  repeat first | with_reducible refine stA H 0 (by with_unfolding_all exact rfl) (by with_unfolding_all exact rfl) (by with_unfolding_all exact rfl) fun h H => ?_ | with_reducible refine st0 H 0 (by with_unfolding_all exact rfl) (by with_unfolding_all exact rfl) (by with_unfolding_all exact rfl) fun h H => ?_ | with_reducible refine stB H 0 (by with_unfolding_all exact rfl) (by with_unfolding_all exact rfl) (by with_unfolding_all exact rfl) fun h H => ?_
  have H : Hp hB [] h (⟨r114, true, T_api_Region, [.int .i64 x, .int .i64 y, .int .i64 op, .int .i64 t, .bool sk, .int .i64 w, .int .i64 g, .slice qo2 ys.length co2]⟩ :: R4 :: ([⟨r90, true, T_api_Region, [.int .i64 x, .int .i64 y, .int .i64 op, .int .i64 t, .bool sk, .int .i64 w, .int .i64 g, .slice qo ys.length co]⟩, ⟨o, true, T_uint8, u8s b ++ (u8s (List.replicate 7 165) ++ rest)⟩] ++ D ++ D2)) := H
  have H := H.perm (List.Perm.swap _ _ _)
  have H : Hp hB [] h (R4 :: ⟨r114, true, T_api_Region, [.int .i64 x, .int .i64 y, .int .i64 op, .int .i64 t, .bool sk, .int .i64 w, .int .i64 g, .slice qo2 ys.length co2]⟩ :: ([⟨r90, true, T_api_Region, [.int .i64 x, .int .i64 y, .int .i64 op, .int .i64 t, .bool sk, .int .i64 w, .int .i64 g, .slice qo ys.length co]⟩, ⟨o, true, T_uint8, u8s b ++ (u8s (List.replicate 7 165) ++ rest)⟩] ++ D ++ D2)) := H
  refine arg H rfl ?_
  refine Go.Ar.back_ok (H.give [3] (by simp) rfl) (H.rdO hC.r1) hC.bl hk1 fun cs1 h' H' => ?_
  replace H := H.put [3] (by simp) rfl rfl H' rfl rfl
  clear H'
  have H : Hp hB [] h' (R4 :: ⟨r114, true, T_api_Region, [.int .i64 x, .int .i64 y, .int .i64 op, .int .i64 t, .bool sk, .int .i64 w, .int .i64 g, .slice qo2 ys.length co2]⟩ :: ([⟨r90, true, T_api_Region, [.int .i64 x, .int .i64 y, .int .i64 op, .int .i64 t, .bool sk, .int .i64 w, .int .i64 g, .slice qo ys.length co]⟩, ⟨o, true, T_uint8, cs1⟩] ++ D ++ D2)) := H
  refine ⟨_, rfl, ?_⟩
  refine bcase_false (by rfl) ?_
  refine bcase_false (by simp) ?_
  refine (ldI_of (hpA H 2 rfl rfl) (ldI_of (hpA H 2 rfl rfl) (ldI_of (hpA H 2 rfl rfl) (ldI_of (hpA H 2 rfl rfl) (ldB_of (hpA H 2 rfl rfl) (ldI_of (hpA H 2 rfl rfl) (ldI_of (hpA H 2 rfl rfl) (ldS_of (hpA H 2 rfl rfl) ?_))))))))
  refine (ldI_of (hpA H 1 rfl rfl) (ldI_of (hpA H 1 rfl rfl) (ldI_of (hpA H 1 rfl rfl) (ldI_of (hpA H 1 rfl rfl) (ldB_of (hpA H 1 rfl rfl) (ldI_of (hpA H 1 rfl rfl) (ldI_of (hpA H 1 rfl rfl) (ldS_of (hpA H 1 rfl rfl) ?_))))))))
  refine eqReg_ok (xs := ys) (Slot.rdO' hsl H fun e he => List.mem_cons_of_mem _ (List.mem_cons_of_mem _ (List.mem_append_left _ (List.mem_append_right _ he)))) (Slot.rdO' hsl2 H fun e he => List.mem_cons_of_mem _ (List.mem_cons_of_mem _ (List.mem_append_right _ he))) hlen fun h' e => ?_
  have H := H.ext e
  refine ⟨_, rfl, ?_⟩
  refine bcase_false (by rfl) ?_
  exact next H
theorem forms_of {h : Heap} {cs : Array Value} (hw : WDx TP h T_burinlaw15_Forms cs.toList) : ∃ q0 n0 c0 q1 n1 c1 q2 n2 c2, cs = #[.slice q0 n0 c0, .slice q1 n1 c1, .slice q2 n2 c2] ∧ SheetsV h q0 n0 ∧ RegsV h q1 n1 ∧ ByteRowsV h q2 n2 := by
  obtain ⟨hl, hf⟩ := wd_struct Go.Proofs.Tryz.underlying26 hw
  have k : TP.cellsOf T_burinlaw15_Forms = 3 := by kernel_rfl
  rw [k] at hl
  obtain ⟨v0, v1, v2, hcs⟩ := list3 hl
  rw [hcs] at hf
  have k0 : TP.cellsOf T_s_api_Sheet = 1 := by kernel_rfl
  have k1 : TP.cellsOf T_s_api_Region = 1 := by kernel_rfl
  have k2 : TP.cellsOf T_s_s_uint8 = 1 := by kernel_rfl
  obtain ⟨q0, n0, c0, e0, g0⟩ := sheets_of (one_of k0 (hf 0 _ rfl) (v := v0) rfl)
  obtain ⟨q1, n1, c1, e1, g1⟩ := regs_of (one_of k1 (hf 1 _ rfl) (v := v1) rfl)
  obtain ⟨q2, n2, c2, e2, g2⟩ := byteRows_of (one_of k2 (hf 2 _ rfl) (v := v2) rfl)
  simp only [List.cons.injEq, and_true] at e0 e1 e2
  subst e0 e1 e2
  exact ⟨q0, n0, c0, q1, n1, c1, q2, n2, c2, by apply Array.toList_inj.1; rw [hcs], g0, g1, g2⟩
theorem pReads_arg {h : Heap} {cs : Array Value} (hsz : cs.size = TP.cellsOf T_burinlaw15_Forms) (hw : WDx TP h T_burinlaw15_Forms cs.toList) {K : Value → Heap → Prop} {Kp : List PanicEntry → Heap → Prop} (hk : ∀ h', hext h h' → K (.bool true) h') :
    CP F_burinlaw15_PageReads #[.agg cs] h K Kp := by
  obtain ⟨q0, n0, c0, q1, n1, c1, q2, n2, c2, rfl, g0, g1, g2⟩ := forms_of hw
  exact pReads_law g2 hk
end Go.Bm

/- ArLink2: what a law's walk hands on. -/
namespace Go.Proofs.YtfaclehehhgpcaaGreat
open Go.ChangeShapes Go.WideShapes Go.ChangeAt Go.RowKit
set_option linter.unusedVariables false

theorem own : ownKnob Tryz.prog.godebug = none := by kernel_rfl
theorem laidOut : laidOutB Tryz.prog = true := by kernel_rfl

/-- What a call that keeps all old rows leaves, as a row's statement asks it. -/
theorem below_of {W W' : World} (hk : Go.Den.keeps W W') (h : Go.Den.hext W.heap W'.heap) : Below W.heap.size W W' :=
  ⟨hk.1, hk.2.1, hk.2.2, h.1, fun k hlt => h.2 k hlt⟩

theorem walk_of {f : FuncId} {args : Array Value} {W : World}
    (h : Calls Tryz.prog f args W fun e w' => Go.Den.keeps W w' ∧ match e with
      | .returned v => v = .bool true ∧ Go.Den.hext W.heap w'.heap
      | .panicked c => False
      | .outgrown => False) : Calls Tryz.prog f args W fun e W' => e = .returned (.bool true) ∧ Below W.heap.size W W' := by
  refine h.mono fun e W' he => ?_
  obtain ⟨hk, he⟩ := he
  cases e with
  | returned v => exact ⟨by rw [he.1], below_of hk he.2⟩
  | panicked c => exact he.elim
  | outgrown => exact he.elim

end Go.Proofs.YtfaclehehhgpcaaGreat

/- PbReads: the given statement PageReadsSaid. -/
namespace Go.Proofs.YtfaclehehhgpcaaGreat
open Go.ChangeShapes Go.WideShapes Go.ChangeAt Go.RowKit
set_option linter.unusedVariables false

theorem pageReads_walk (W : World) {cs : Array Value} (hsz : cs.size = Tryz.prog.cellsOf 26) (hw : Go.Den.WDx Tryz.prog W.heap 26 cs.toList) : Calls Tryz.prog 4 #[.agg cs] W fun e W' => e = .returned (.bool true) ∧ Below W.heap.size W W' :=
  walk_of ((Go.Bm.pReads_arg (h := W.heap) (K := fun v h' => v = .bool true ∧ Go.Den.hext W.heap h') (Kp := fun _ _ => False) hsz hw fun h' e => ⟨rfl, e⟩).2 W rfl)

set_option maxRecDepth 100000 in
theorem pageReads_lifted (os : Os) (started : os.Started) (H : Type) (enc : TypeId × Value → H) :
    ReturnsInHanded {} Tryz.checked os 4 .any (Rows.pageReadsSpec.pre6 enc Tryz.prog Tryz.f4 Rows.pageReadsRow.domain false) (Rows.pageReadsSpec.post enc Tryz.prog Tryz.f4 false true false false) := by
  refine returnsInHanded_of_change_sized (C := Tryz.checked) own started (by kernel_rfl) Tryz.func4
    (ChangeSpec.witness6 (enc := enc) (C := Tryz.checked) false ⟨#[], #[.agg #[.slice none 0 0, .slice none 0 0, .slice none 0 0]], []⟩ 8 (by kernel_rfl) (by kernel_rfl) (by kernel_rfl) (by kernel_rfl)) ?_
  intro W base args ds gs before hval0 hW hcnd hz _
  have hval : ∀ (j : Nat) t v, Tryz.f4.params[j]? = some t → args[j]? = some v → Value.okWide Tryz.prog W .any base t v := hval0
  have hz : ∀ n ∈ DataW.weightsEach Tryz.prog (Tryz.f4.params.toList ++ Rows.pageReadsSpec.plain.varTypes Tryz.prog) (ds ++ gs), n ≤ reachBytes := fun n hn => by simpa using List.all_eq_true.1 hz n hn
  have hW' := hW
  obtain ⟨p, q, hA0, hV, rfl, hfz, hnd⟩ := hW
  have hA : DataW.TrodAll enc Tryz.prog W 0 (fun _ => true) true Tryz.f4.params.toList args.toList ds p := hA0
  rw [Tryz.params4] at hA hval hz
  obtain ⟨v0, vs0, d0, ds0, p0, q0, hargs, rfl, rfl, h0, r0⟩ := trodAll_cons hA
  obtain ⟨rfl, rfl, rfl⟩ := trodAll_nil r0
  obtain rfl : args = #[v0] := by cases args; simp_all
  obtain ⟨rfl, rfl⟩ := trodVars_none hV
  obtain ⟨cs, rfl, hsz⟩ := okWide_struct Tryz.underlying26 (hval 0 26 v0 rfl rfl)
  have hwd : Go.Den.WDx Tryz.prog W.heap 26 cs.toList := by
    obtain ⟨f, hf⟩ := h0
    exact ⟨f, Go.Den.wd_of hf fun n hn => hz n (DataW.weights_mem_each (j := 0) rfl rfl n hn)⟩
  clear hA0 hval0
  simp only [List.append_nil] at hW'
  refine (pageReads_walk W hsz hwd).mono fun e W' ⟨he, hb⟩ => ?_
  subst he
  refine ⟨_, rfl, [d0], [], _, [], p0, [], hW', ?_, ?_, ?_, hb.frame _, fun h => Bool.noConfusion h⟩
  · exact trodAll_cons_mk (shut_bool Go.Proofs.Tryz.underlying4 _) trodAll_mk0
  · exact ⟨p0, [], Below.trod laidOut (by kernel_rfl) (of_decide_eq_true (by kernel_rfl)) h0 hb (fun x hx => by simpa using hW'.lt x hx), rfl, (List.append_nil p0).symm⟩
  · rfl

theorem pageReads_over : Rows.pageReadsRow.holds Tryz.pinned (OpenSpec.ofChange Rows.pageReadsSpec) :=
  OpenClaim.holds_of_wide 4 Tryz.f4 rfl rfl rfl rfl rfl rfl rfl ⟨rfl, rfl, rfl, rfl, rfl⟩ rfl rfl rfl rfl rfl (by kernel_rfl) Tryz.func4 (by kernel_rfl)
    (of_decide_eq_true (by kernel_rfl)) (by unfold Func.isWrapper; first | (rw [if_pos (by decide +kernel)]; kernel_rfl) | (rw [if_neg (by decide +kernel)]; exact ⟨rfl, rfl⟩))
    (fun os started H enc _ => pageReads_lifted os started H enc)

theorem pageReads_proved : Rows.PageReadsSaid := pageReads_over

#print axioms pageReads_proved
end Go.Proofs.YtfaclehehhgpcaaGreat
