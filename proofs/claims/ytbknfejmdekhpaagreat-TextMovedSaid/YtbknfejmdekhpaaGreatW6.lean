/- W6: put together by wip/tools/bundle.py: PgD PgF RfE Mburinref8 Bburinref8 RfF RfG RfH RfI RfJ RfK BkA BkB BkC BkD RfL BkE RfM GnA GnB GnC GnS GnD GnE GnF RdA GnG RfR RfS GnH GnI GnJa GnJ GnK RdB RdC GnL GnQ Mbits Bbits PbA PbB RnD PbF PbG PbH Mburinref1 Bburinref1 PbI PbJ PbJb PbC PbD PbE PbK PbL PbM. -/
import Derived.Test.YtbknfejmdekhpaaGreatW1
import Derived.Test.YtbknfejmdekhpaaGreatW2
import Derived.Test.YtbknfejmdekhpaaGreatW3
import Derived.Test.YtbknfejmdekhpaaGreatW4
import Derived.Test.YtbknfejmdekhpaaGreatW5
import Derived.Test.YtbknfejmdekhpaaGreatProg
set_option linter.unusedVariables false
set_option linter.unusedSimpArgs false
set_option maxRecDepth 100000
namespace Go.Bm
open Go Go.Den Go.Den.YtbknfejmdekhpaaGreat
theorem list3 {α:Type} {l:List α} (h:l.length=3):∃ a b c,l=[a,b,c]:=by
 match l,h with
 | [a,b,c],_=>exact ⟨a,b,c,rfl⟩
theorem list7 {α:Type} {l:List α} (h:l.length=7):∃ a b c d e f g,l=[a,b,c,d,e,f,g]:=by
 match l,h with
 | [a,b,c,d,e,f,g],_=>exact ⟨a,b,c,d,e,f,g,rfl⟩
noncomputable abbrev TP:=Go.Proofs.Tryz.prog
theorem one_of {P:Program} {h:Heap} {t:TypeId} {cs:List Value} {o:Nat} {v:Value} (k:P.cellsOf t=1) (H:WDx P h t ((cs.drop o).take (P.cellsOf t))) (hv:cs[o]? = some v):WDx P h t [v]:=by
 rw [k] at H
 have:(cs.drop o).take 1=[v]:=by
  have ho:=(List.getElem?_eq_some_iff.1 hv).1
  rw [List.drop_eq_getElem_cons ho]
  have:=(List.getElem?_eq_some_iff.1 hv).2
  simp [this]
 rw [this] at H
 exact H
theorem inI_of {n:Int} (h:IntKind.i64.min<=n/\n<=IntKind.i64.max):InI n:=by
 have h1:IntKind.i64.min = -9223372036854775808:=by decide
 have h2:IntKind.i64.max=9223372036854775807:=by decide
 rw [h1,h2] at h
 unfold InI
 omega
theorem u64s_ints {l:List Int} (h:∀ x∈l,IntKind.u64.min<=x/\x<=IntKind.u64.max):(l.map fun x=>(.int .u64 x:Value))=u64s (l.map Int.toNat)/\W64 (l.map Int.toNat):=by
 have h1:IntKind.u64.min=0:=by decide
 have h2:IntKind.u64.max=18446744073709551615:=by decide
 rw [h1,h2] at h
 constructor
 ·unfold u64s
  rw [List.map_map]
  refine List.map_congr_left fun x hx=>?_
  have:=h x hx
  show Value.int .u64 x = .int .u64 ((x.toNat:Nat):Int)
  rw [Int.toNat_of_nonneg this.1]
 ·intro y hy
  obtain ⟨x,hx,rfl⟩:=List.mem_map.1 hy
  have:=h x hx
  show x.toNat<18446744073709551616
  omega
theorem k_int:TP.cellsOf T_int=1:=by kernel_rfl
theorem k_s_uint64:TP.cellsOf T_s_uint64=1:=by kernel_rfl
theorem wd_words {h:Heap} {cs:List Value} (H:WDx TP h T_s_uint64 cs) :
  ∃ q cap,∃ ws:List Nat,cs=[.slice q ws.length cap]/\ws.length<140737488351300/\rdO h q (ws.length*1) (u64s ws)/\W64 ws:=by
 obtain ⟨q,cap,l,rfl,h1,h2,h3,h4,h5⟩:=wd_ints (k := .u64) Go.Proofs.Tryz.underlying36 Go.Proofs.Tryz.underlying70 (by kernel_rfl) H
 obtain ⟨e1,e2⟩:=u64s_ints h5
 have k1:TP.bytesOf T_uint64=8:=by kernel_rfl
 rw [k1] at h2
 have hr:reachBytes=140737488351232:=rfl
 rw [e1] at h4
 exact ⟨q,cap,l.map Int.toNat,by simp,by simp; omega,by simpa using h4,e2⟩
theorem wd_bitmap {h:Heap} {cs:List Value} (H:WDx TP h T_api_Bitmap cs) :
  ∃ w b q cap,∃ ws:List Nat,cs=[.int .i64 w, .int .i64 b, .slice q ws.length cap]/\InI w/\InI b/\ws.length<140737488351300/\rdO h q (ws.length*1) (u64s ws)/\W64 ws:=by
 obtain ⟨hl,hf⟩:=wd_struct Go.Proofs.Tryz.underlying38 H
 have k:TP.cellsOf T_api_Bitmap=3:=by kernel_rfl
 rw [k] at hl
 obtain ⟨a,b,c,rfl⟩:=list3 hl
 obtain ⟨w,ew,iw⟩:=wd_int Go.Proofs.Tryz.underlying3 (one_of k_int (hf 0 _ rfl) (v:=a) rfl)
 obtain ⟨b',eb,ib⟩:=wd_int Go.Proofs.Tryz.underlying3 (one_of k_int (hf 1 _ rfl) (v:=b) rfl)
 obtain ⟨q,cap,ws,e2,g1,g2,g3⟩:=wd_words (one_of k_s_uint64 (hf 2 _ rfl) (v:=c) rfl)
 simp only [List.cons.injEq,and_true] at ew eb e2
 subst ew eb e2
 exact ⟨w,b',q,cap,ws,rfl,inI_of iw,inI_of ib,g1,g2,g3⟩
end Go.Bm
namespace Go.Bm
open Go Go.Den Go.Den.YtbknfejmdekhpaaGreat
theorem wi_ok {h:Heap} {i n:Int} (hn:1<=n) (hn2:n<1000000000) {K:VK} {Kp:PK} (hk:∀ z:Int,0<=z->z<n->K (.int .i64 z) h):CP F_burinkit_Within #[.int .i64 i, .int .i64 n] h K Kp:=by
 refine call_burinkit_Within ?_
 unfold burinkit_Within
 have h1:=Int.lt_tmod_of_pos i (b:=n) (by omega)
 have h2:=Int.tmod_lt_of_pos i (b:=n) (by omega)
 refine needs_of (by exact ⟨rfl,by omega⟩) ?_
 refine bindI_gen fun z ez=>?_
 subst ez
 refine bcase_dec (fun h3=>?_) fun h3=>?_
 ·refine bindI_of ((i.tmod n+n)) (by exact i64_in _ (by omega) (by omega)) ?_
  exact hk _ (by omega) (by omega)
 ·exact hk _ (by omega) (by omega)
theorem may_of_pix {W X:Nat} {ws:List Nat} (hs:SizeP (W:Int) (X:Int)) (hl:ws.length=X*wds W) (hw:W64 ws) (hp:∀ y,y<X->∀ x,W<=x->x<64*wds W->pix ws (wds W) x y=false):MayP (W:Int) (X:Int) ws:=by
 obtain ⟨W',X',e1,e2,hW1,hW2,hX1,hX2,hWX⟩:=size_nat hs
 obtain rfl:W=W':=by omega
 refine ⟨hs,by simpa using hl,fun y hy=>?_⟩
 simp only [Int.toNat_natCast] at hy ⊢
 rw [mod_zero_bits]
 intro j hj
 unfold padn at hj
 have hwd:wds W=(W+63) / 64:=rfl
 have:=hp y hy (64*(wds W-1)+(63-j)) (by omega) (by omega)
 unfold pix at this
 rw [show (64*(wds W-1)+(63-j)) / 64=wds W-1 by omega,show 63-(64*(wds W-1)+(63-j)) % 64=j by omega] at this
 exact this
theorem pix_of_may {W X:Nat} {ws:List Nat} (h:MayP (W:Int) (X:Int) ws) {x y:Nat} (hy:y<X) (h1:W<=x) (h2:x<64*wds W):pix ws (wds W) x y=false:=by
 have h3:=h.2.2 y (by simpa using hy)
 simp only [Int.toNat_natCast] at h3
 rw [mod_zero_bits] at h3
 have hwd:wds W=(W+63) / 64:=rfl
 unfold padn at h3
 have:=h3 (63-x % 64) (by omega)
 unfold pix
 rw [show x / 64=wds W-1 by omega]
 exact this
theorem may_len {W X:Nat} {ws:List Nat} (h:MayP (W:Int) (X:Int) ws):ws.length=X*wds W:=by simpa using h.2.1
end Go.Bm
namespace Go.Bm
open Go Go.Den Go.Den.YtbknfejmdekhpaaGreat
open Go.Ar (Cod CodOk codL putM idx putM_ok)
def stepP (m:Nat) (base:Int) (s:Cod) (n:Nat) (bit:Bool):(Bool × Cod) ⊕ (Int × Cod) := .inl (bit,putM s (idx (base+(n:Int)) m) bit.toNat)
def SP (p q rc rb:Nat) (base:Int) (s:Cod) (M:List Ent):Prop:=∃ r rest,M=codL p q r s rest++[⟨rc,true,T_p_arith_Coder,[.pointer (at0 p)]⟩,⟨rb,true,T_int,[.int .i64 base]⟩]
theorem putDec_ok {p q rc rb m n0 N:Nat} {base:Int} (hb:0<=base/\base<=131072) (hm1:1<=m) (hm2:m<=131072) (hN:n0+N<=16777216) :
  DecOk N (SP p q rc rb base) (fun k s=>CodOk m (n0+k) s) (stepP m base) (.func (.func F_refine_Put_c1) #[] #[.pointer (some ⟨rc,0,none⟩), .pointer (some ⟨rb,0,none⟩)]):=by
 intro h0 h FF s n bit K Kp M k hok hk hn hM H hgood hbad
 obtain ⟨r,rest,rfl⟩:=hM
 show CP F_refine_Put_c1 #[.int .i64 (n:Nat), .int .i64 (bit.toNat:Nat), .pointer (some ⟨rc,0,none⟩), .pointer (some ⟨rb,0,none⟩)] h K Kp
 refine call_refine_Put_c1 (cap0:=⟨rc,0,none⟩) (cap1:=⟨rb,0,none⟩) ?_
 unfold refine_Put_c1
 refine ldP_of (H.cell 3 rfl (i:=0) rfl) ?_
 refine ldI_of (H.cell 4 rfl (i:=0) rfl) ?_
 refine bindI_of ((base+(n:Int))) (by exact i64_in _ (by omega) (by omega)) ?_
 refine Go.Ar.put_ok (bit:=bit.toNat) (H.give [0,1,2] (by decide) rfl) hok.wf hok.done (by rw [hok.n]; omega) (by rw [hok.len]; exact hm1) (by rw [hok.len]; exact hm2) (toNat_le bit) fun r' rest' h' H'=>?_
 replace H:=H.put [0,1,2] (by decide) rfl rfl H' rfl rfl
 clear H'
 refine ⟨_,rfl,?_⟩
 refine bcase_false (by rfl) ?_
 rw [hok.len] at H
 exact hgood bit _ _ h' rfl (putM_ok hok _ _ (by omega)) ⟨r',rest',rfl⟩ H
def ShiftP (dx dy:Int):Prop:=(-1048576<=dx/\dx<=1048576)/\-1048576<=dy/\dy<=1048576
def rfRun (m:Nat) (base:Int) (W X W2 X2:Nat) (ws ws2:List Nat) (dx dy:Int) (s:Cod):((Int->Int->Bool) × Cod) ⊕ (Int × Cod):=runN W (getP ws2 W2 X2) dx dy (stepP m base) (X*W) (getP ws W X,s)
theorem rfRun_inl {m:Nat} {base:Int} {W:Nat} {R:Int->Int->Bool} {dx dy:Int} (g:(Int->Int->Bool) × Cod):∀ k,∃ g',runN W R dx dy (stepP m base) k g = .inl g'
 | 0=>⟨_,rfl⟩
 | k+1=>by
  obtain ⟨⟨G,s⟩,hg⟩:=rfRun_inl (m:=m) (base:=base) (W:=W) (R:=R) (dx:=dx) (dy:=dy) g k
  unfold runN
  rw [hg]
  exact ⟨_,rfl⟩
set_option maxHeartbeats 1000000 in
theorem rfPut_ok {h0 h:Heap} {FF:List Nat} {p q r m n0:Nat} {s:Cod} {rest:List Value} (H:Hp h0 FF h (codL p q r s rest)) (hc:CodOk m n0 s) (hm1:1<=m) (hm2:m<=131072) {base:Int} (hbase:base<=1000000000)
  {w b w2 b2:Int} {q1 q2:Option Addr} {c1 c2:Nat} {ws ws2:List Nat} (hr1:rdO h q1 (ws.length*1) (u64s ws)) (hw1:W64 ws) (hl1:ws.length<140737488351300) (hr2:∀ h',hext h h'->rdO h' q2 (ws2.length*1) (u64s ws2)) (hw2:W64 ws2) (hl2:ws2.length<140737488351300)
  {dx dy:Int} (hN:MayP w b ws->n0+b.toNat*w.toNat<=16777216) {K:VK} {Kp:PK}
  (hk62:∀ h',¬ (MayP w b ws/\MayP w2 b2 ws2)->Hp h0 FF h' (codL p q r s rest)->K (.int .i64 62) h')
  (hk70:∀ h',MayP w b ws/\MayP w2 b2 ws2->¬ ShiftP dx dy->Hp h0 FF h' (codL p q r s rest)->K (.int .i64 70) h')
  (hk51:∀ h',MayP w b ws/\MayP w2 b2 ws2->ShiftP dx dy->¬ (0<=base/\base<=(m:Int)-8192)->Hp h0 FF h' (codL p q r s rest)->K (.int .i64 51) h')
  (hk0:∀ s' r' rest' G h',MayP w b ws/\MayP w2 b2 ws2->ShiftP dx dy->0<=base/\base<=(m:Int)-8192->rfRun m base w.toNat b.toNat w2.toNat b2.toNat ws ws2 dx dy s = .inl (G,s')->CodOk m (n0+b.toNat*w.toNat) s'->Hp h0 FF h' (codL p q r' s' rest')->K (.int .i64 0) h') :
  CP F_refine_Put #[.pointer (at0 p), .int .i64 base, .agg #[.int .i64 w, .int .i64 b, .slice q1 ws.length c1], .agg #[.int .i64 w2, .int .i64 b2, .slice q2 ws2.length c2], .int .i64 dx, .int .i64 dy] h K Kp:=by
 refine call_refine_Put ?_
 unfold refine_Put
 refine newC_hpx H fun r7 h1 x1 H=>?_
 refine newC_hpx H fun r9 h2 x2 H=>?_
 refine newC_hpx H fun r11 h3 x3 H=>?_
 refine newC_hpx H fun r13 h4 x4 H=>?_
 have x:=((x1.trans x2).trans x3).trans x4
 clear x1 x2 x3 x4
 refine ldP_of (H.cell 3 rfl (i:=0) rfl) ?_
 refine bcase_false (by rfl) ?_
 refine ldI_of (Hp.cellA H 5 rfl (i:=0) rfl) ?_
 refine ldI_of (Hp.cellA H 5 rfl (i:=1) rfl) ?_
 refine ldS_of (Hp.cellA H 5 rfl (i:=2) rfl) ?_
 refine from_ok (rdO_ext x hr1) hw1 hl1 (fun W X p1 qs srest h5 hwW hbX hm H'=>?_) fun h5 hm e5=>?_
 ·subst hwW hbX
  have x5:=x.trans H'.hext
  replace H:=H.join H' rfl
  clear H'
  refine ⟨_,_,rfl,?_⟩
  refine ldI_of (Hp.cellA H 6 rfl (i:=0) rfl) ?_
  refine ldI_of (Hp.cellA H 6 rfl (i:=1) rfl) ?_
  refine ldS_of (Hp.cellA H 6 rfl (i:=2) rfl) ?_
  refine from_ok (hr2 _ x5) hw2 hl2 (fun W2 X2 p2 qs2 srest2 h6 hwW2 hbX2 hm2' H'=>?_) fun h6 hm2' e6=>?_
  ·subst hwW2 hbX2
   replace H:=H.join H' rfl
   clear H'
   refine ⟨_,_,rfl,?_⟩
   refine ⟨fun vs h'=>h'=h6/\vs=[.bool false],bcase_false rfl ⟨rfl,rfl⟩,?_⟩
   rintro h' u xx ⟨rfl,hxx⟩
   injection hxx with hxx
   injection hxx with hxx
   subst hxx
   refine bcase_false (by rfl) ?_
   refine shifts_ok fun bb hbb=>?_
   refine ⟨_,rfl,?_⟩
   refine bcase_not (fun h1=>?_) fun h1=>?_
   ·exact hk70 _ ⟨hm,hm2'⟩ (fun hsh=>by rw [hbb.2 hsh] at h1; cases h1) (H.take 3)
   have hsh:=hbb.1 h1
   refine ldI_of (H.cell 4 rfl (i:=0) rfl) ?_
   refine ldP_of (H.cell 3 rfl (i:=0) rfl) ?_
   refine ptr_of (a:=⟨p,0,none⟩) ?_
   rw [add_mk,Nat.zero_add]
   refine Go.Ar.contexts_ok (n:=s.st.length) H 0 rfl ?_
   refine ⟨_,rfl,hext.refl _,?_⟩
   rw [hc.len]
   refine fits8_ok (by omega) fun bf hbf=>?_
   refine ⟨_,rfl,?_⟩
   refine bcase_not (fun h2=>?_) fun h2=>?_
   ·exact hk51 _ ⟨hm,hm2'⟩ hsh (fun hh=>by rw [hbf.2 hh] at h2; cases h2) (H.take 3)
   have hft:=hbf.1 h2
   have hX:X*W<=16777216-n0/\n0+X*W<=16777216:=by have:=hN hm; simp only [Int.toNat_natCast] at this; omega
   have HH:=H.pick [7,8,9,10,0,1,2,3,4] (by decide) (L':=[mapE p1 qs W X ws.length (ws.length+srest.length),⟨qs,true,T_uint64,u64s ws++srest⟩,mapE p2 qs2 W2 X2 ws2.length (ws2.length+srest2.length),⟨qs2,true,T_uint64,u64s ws2++srest2⟩]++(codL p q r s rest++[⟨r7,true,T_p_arith_Coder,[.pointer (at0 p)]⟩,⟨r9,true,T_int,[.int .i64 base]⟩])) rfl
   refine run_ok (σ:=Cod) (S:=SP p q r7 r9 base) (Ok:=fun k s=>CodOk m (n0+k) s) (step:=stepP m base) (fun s M hM=>by obtain ⟨r,rest,rfl⟩:=hM; rfl) (putDec_ok ⟨by omega,by omega⟩ hm1 hm2 hX.2) ⟨r,rest,rfl⟩ HH rfl rfl hm.1 (may_len hm) hw1 (fun y hy x h1 h2=>pix_of_may hm hy h1 h2) hm2'.1 (may_len hm2') hw2 hsh.1 hsh.2 hc (fun ws' s' M h' T hM hrun _ _ _ hok' H'=>?_) fun e ws' s' M h' T hM hrun _ _ H'=>?_
   ·obtain ⟨r',rest',rfl⟩:=hM
    refine ⟨_,rfl,?_⟩
    refine hk0 s' r' rest' _ h' ⟨hm,hm2'⟩ hsh hft hrun (by simpa using hok') ?_
    exact Hp.pre (Hp.suf (Hp.suf H'))
   ·obtain ⟨g',hg⟩:=rfRun_inl (m:=m) (base:=base) (W:=W) (R:=getP ws2 W2 X2) (dx:=dx) (dy:=dy) (getP ws W X,s) (X*W)
    rw [hg] at hrun
    cases hrun
  ·have H:=H.ext e6
   refine ⟨_,_,rfl,?_⟩
   refine ⟨fun vs h'=>h'=h6/\vs=[.bool true],bcase_false rfl ⟨rfl,rfl⟩,?_⟩
   rintro h' u xx ⟨rfl,hxx⟩
   injection hxx with hxx
   injection hxx with hxx
   subst hxx
   refine bcase_true (by rfl) ?_
   exact hk62 _ (fun hh=>hm2' hh.2) (H.take 3)
 ·have H:=H.ext e5
  have x5:=x.trans e5
  refine ⟨_,_,rfl,?_⟩
  refine ldI_of (Hp.cellA H 6 rfl (i:=0) rfl) ?_
  refine ldI_of (Hp.cellA H 6 rfl (i:=1) rfl) ?_
  refine ldS_of (Hp.cellA H 6 rfl (i:=2) rfl) ?_
  have fin:∀ (h6:Heap) (z:Int),Hp h0 FF h6 (codL p q r s rest)->K (.int .i64 62) h6:=fun h6 z H=>hk62 _ (fun hh=>hm hh.1) H
  refine from_ok (hr2 _ x5) hw2 hl2 (fun W2 X2 p2 qs2 srest2 h6 hwW2 hbX2 hm2' H'=>?_) fun h6 hm2' e6=>?_
  ·replace H:=H.join H' rfl
   refine ⟨_,_,rfl,?_⟩
   refine ⟨fun vs h'=>h'=h6/\vs=[.bool true],bcase_true rfl ⟨rfl,rfl⟩,?_⟩
   rintro h' u xx ⟨rfl,hxx⟩
   injection hxx with hxx
   injection hxx with hxx
   subst hxx
   refine bcase_true (by rfl) ?_
   exact fin _ 0 (H.take 3)
  ·have H:=H.ext e6
   refine ⟨_,_,rfl,?_⟩
   refine ⟨fun vs h'=>h'=h6/\vs=[.bool true],bcase_true rfl ⟨rfl,rfl⟩,?_⟩
   rintro h' u xx ⟨rfl,hxx⟩
   injection hxx with hxx
   injection hxx with hxx
   subst hxx
   refine bcase_true (by rfl) ?_
   exact fin _ 0 (H.take 3)
end Go.Bm
namespace Go.Den.YtbknfejmdekhpaaGreat
open Go Go.Den
end Go.Den.YtbknfejmdekhpaaGreat
namespace Go.Den.YtbknfejmdekhpaaGreat
open Go Go.Den
end Go.Den.YtbknfejmdekhpaaGreat
namespace Go.Bm
open Go Go.Den Go.Den.YtbknfejmdekhpaaGreat
end Go.Bm
namespace Go.Bm
open Go Go.Den Go.Den.YtbknfejmdekhpaaGreat
theorem upd_self (G:Int->Int->Bool) (a b:Int):upd G a b (G a b)=G:=by
 funext x y
 unfold upd
 by_cases h:x=a/\y=b
 ·rw [if_pos h,h.1,h.2]
 ·rw [if_neg h]
end Go.Bm
namespace Go.Bm
open Go Go.Den Go.Den.YtbknfejmdekhpaaGreat
section
variable {hB:Heap} {w b w2 b2:Int} {q1 q2:Option Addr} {c1 c2:Nat} {ws ws2:List Nat} {dx dy:Int} {K:VK} {Kp:PK}
end
end Go.Bm
namespace Go.Bm
open Go Go.Den Go.Den.YtbknfejmdekhpaaGreat
open Go.Ar (Dec decL idx getD_ok getD_bit BOk)
def stepG (m:Nat) (base:Int) (s:Dec) (n:Nat) (_:Bool):(Bool × Dec) ⊕ (Int × Dec) := .inl (decide ((Go.Ar.getD s (idx (base+(n:Int)) m)).2=1),(Go.Ar.getD s (idx (base+(n:Int)) m)).1)
def SG (p q rc rb:Nat) (base:Int) (e:Ent) (bp:Option Addr) (bc:Nat) (s:Dec) (M:List Ent):Prop:=BOk e bp s.b/\M=decL p q e bp bc s++[⟨rc,true,T_p_arith_Decoder,[.pointer (at0 p)]⟩,⟨rb,true,T_int,[.int .i64 base]⟩]
theorem stepG_inl {m:Nat} {base:Int} {W:Nat} {R:Int->Int->Bool} {dx dy:Int} (g:(Int->Int->Bool) × Dec):∀ k,∃ g',runN W R dx dy (stepG m base) k g = .inl g'
 | 0=>⟨_,rfl⟩
 | k+1=>by
  obtain ⟨⟨G,s⟩,hg⟩:=stepG_inl (m:=m) (base:=base) (W:=W) (R:=R) (dx:=dx) (dy:=dy) g k
  unfold runN
  rw [hg]
  exact ⟨_,rfl⟩
theorem SG.w {p q rc rb:Nat} {base:Int} {e:Ent} {bp:Option Addr} {bc:Nat} {s:Dec} {M:List Ent} (h:SG p q rc rb base e bp bc s M):M.all Ent.w=true:=by
 obtain ⟨h1,rfl⟩:=h
 simp [decL,Go.Ar.decE,h1.1]
theorem getDec_ok {p q rc rb m n0 N:Nat} {e:Ent} {bp:Option Addr} {bc:Nat} {base:Int} {bytes:List Nat} (hbl:bytes.length<140737488351300) (hb:0<=base/\base<=131072) (hm1:1<=m) (hm2:m<=131072) (hN:n0+N<=16777216) :
  DecOk N (SG p q rc rb base e bp bc) (fun k s=>Go.Ar.DecOk bytes m (n0+k) s) (stepG m base) (.func (.func F_refine_Get_c1) #[] #[.pointer (some ⟨rc,0,none⟩), .pointer (some ⟨rb,0,none⟩)]):=by
 intro h0 h FF s n bit K Kp M k hok hk hn hM H hgood hbad
 obtain ⟨hbok,rfl⟩:=hM
 show CP F_refine_Get_c1 #[.int .i64 (n:Nat), .int .i64 (bit.toNat:Nat), .pointer (some ⟨rc,0,none⟩), .pointer (some ⟨rb,0,none⟩)] h K Kp
 refine call_refine_Get_c1 (cap0:=⟨rc,0,none⟩) (cap1:=⟨rb,0,none⟩) ?_
 unfold refine_Get_c1
 refine ldP_of (H.cell 3 rfl (i:=0) rfl) ?_
 refine ldI_of (H.cell 4 rfl (i:=0) rfl) ?_
 refine bindI_of ((base+(n:Int))) (by exact i64_in _ (by omega) (by omega)) ?_
 refine Go.Ar.get_ok (H.give [0,1,2] (by decide) rfl) hbok hok.wf (by rw [hok.b]; exact hbl) (by rw [hok.n]; omega) (by rw [hok.len]; exact hm1) (by rw [hok.len]; exact hm2) fun h' H'=>?_
 have hbw:=hbok.1
 replace H:=H.put [0,1,2] (by decide) rfl (by simp [decL,Go.Ar.decE,hbw]) H' (by simp [decL,Go.Ar.decE,hbw]) rfl
 clear H'
 refine ⟨_,_,rfl,?_⟩
 refine bcase_false (by rfl) ?_
 rw [hok.len] at H ⊢
 have hbit:=getD_bit (s:=s) (idx (base+(n:Int)) m)
 have hbn:=(Go.Ar.getD_n s (idx (base+(n:Int)) m)).2.2
 have e1:(Go.Ar.getD s (idx (base+(n:Int)) m)).2=(decide ((Go.Ar.getD s (idx (base+(n:Int)) m)).2=1)).toNat:=by
  by_cases h1:(Go.Ar.getD s (idx (base+(n:Int)) m)).2=1
  ·rw [decide_eq_true h1,h1]; rfl
  ·rw [decide_eq_false h1]; show _=0; omega
 rw [e1]
 exact hgood _ _ _ h' rfl (getD_ok hok _ (by omega)) ⟨by rw [hbn]; exact hbok,rfl⟩ H
end Go.Bm
namespace Go.Bm
open Go Go.Den Go.Den.YtbknfejmdekhpaaGreat
open Go.Ar (Dec decL BOk)
def GetR (bytes:List Nat) (m n0:Nat) (base w b w2 b2:Int) (ws2:List Nat) (dx dy:Int) (s:Dec) (e w' b':Int) (bs:List Nat) (s':Dec):Prop :=
 ¬ MayP w2 b2 ws2/\e=62/\w'=0/\b'=0/\bs=[]/\s'=s \/
 MayP w2 b2 ws2/\¬ SizeP w b/\e=63/\w'=0/\b'=0/\bs=[]/\s'=s \/
 MayP w2 b2 ws2/\SizeP w b/\¬ ShiftP dx dy/\e=70/\w'=0/\b'=0/\bs=[]/\s'=s \/
 MayP w2 b2 ws2/\SizeP w b/\ShiftP dx dy/\¬ (0<=base/\base<=(m:Int)-8192)/\e=51/\w'=0/\b'=0/\bs=[]/\s'=s \/
 MayP w2 b2 ws2/\SizeP w b/\ShiftP dx dy/\(0<=base/\base<=(m:Int)-8192)/\e=0/\w'=w/\b'=b/\runN w.toNat (getP ws2 w2.toNat b2.toNat) dx dy (stepG m base) (b.toNat*w.toNat) (fun _ _=>false,s) = .inl (getP bs w.toNat b.toNat,s') /\
  bs.length=b.toNat*wds w.toNat/\W64 bs/\PadZ w.toNat b.toNat bs/\Go.Ar.DecOk bytes m (n0+b.toNat*w.toNat) s'
theorem getP_zero (n W X:Nat):getP (List.replicate n 0) W X=fun _ _=>false:=by
 funext x y
 unfold getP
 rw [pix_zero,Bool.and_false]
set_option maxHeartbeats 1000000 in
theorem rfGet_ok {h0 h:Heap} {FF:List Nat} {p q m n0:Nat} {e0:Ent} {bp:Option Addr} {bc:Nat} {s:Dec} {bytes:List Nat} (H:Hp h0 FF h (decL p q e0 bp bc s)) (hb:BOk e0 bp s.b) (hbl:bytes.length<140737488351300) (hc:Go.Ar.DecOk bytes m n0 s) (hm1:1<=m) (hm2:m<=131072) {base:Int}
  {w b w2 b2:Int} {q2:Option Addr} {c2:Nat} {ws2:List Nat} (hr2:rdO h q2 (ws2.length*1) (u64s ws2)) (hw2:W64 ws2) (hl2:ws2.length<140737488351300)
  {dx dy:Int} (hN:SizeP w b->n0+b.toNat*w.toNat<=16777216) {K:VK} {Kp:PK}
  (hk:∀ e w' b' bs s' D qo c h',GetR bytes m n0 base w b w2 b2 ws2 dx dy s e w' b' bs s'->Slot T_uint64 1 D qo bs.length c (u64s bs)->Hp h0 FF h' (decL p q e0 bp bc s'++D)->K (.tuple #[.agg #[.int .i64 w', .int .i64 b', .slice qo bs.length c], .int .i64 e]) h') :
  CP F_refine_Get #[.pointer (at0 p), .int .i64 base, .int .i64 w, .int .i64 b, .agg #[.int .i64 w2, .int .i64 b2, .slice q2 ws2.length c2], .int .i64 dx, .int .i64 dy] h K Kp:=by
 refine call_refine_Get ?_
 unfold refine_Get
 refine newC_hpx H fun r4 h1 x1 H=>?_
 refine newC_hpx H fun r6 h2 x2 H=>?_
 refine newC_hpx H fun r8 h3 x3 H=>?_
 refine newC_hpx H fun r10 h4 x4 H=>?_
 have x:=((x1.trans x2).trans x3).trans x4
 clear x1 x2 x3 x4
 have bad:∀ (e:Int) (h:Heap) (T:List Ent),(∀ h',Hp h0 FF h' (decL p q e0 bp bc s++[])->K (.tuple #[.agg #[.int .i64 0, .int .i64 0, .slice none 0 0], .int .i64 e]) h')->Hp h0 FF h (decL p q e0 bp bc s++[⟨r4,true,T_p_arith_Decoder,[.pointer (at0 p)]⟩,⟨r6,true,T_int,[.int .i64 base]⟩,⟨r8,true,T_api_Bitmap,[.int .i64 w2, .int .i64 b2, .slice q2 ws2.length c2]⟩,⟨r10,true,T_api_Bitmap,[.int .i64 0, .int .i64 0, .slice none 0 0]⟩]++T) ->
   stV h ((⟨r10,0,none⟩:Addr).add 0) (.int .i64 0) fun h_13=>stV h_13 ((⟨r10,0,none⟩:Addr).add 1) (.int .i64 0) fun h_14=>stV h_14 ((⟨r10,0,none⟩:Addr).add 2) (.slice none 0 0) fun h_15 =>
    ldI h_15 ((⟨r10,0,none⟩:Addr).add 0) .i64 fun r_16=>ldI h_15 ((⟨r10,0,none⟩:Addr).add 1) .i64 fun r_17=>ldS h_15 ((⟨r10,0,none⟩:Addr).add 2) fun r_18 r_18n r_18c =>
     K (.tuple #[.agg #[.int .i64 r_16, .int .i64 r_17, .slice r_18 r_18n r_18c], .int .i64 e]) h_15:=fun e h T hk H=>by
  rw [add_mk,add_mk,add_mk]
  refine stV_hp H 6 rfl (Nat.le_of_ble_eq_true rfl) rfl fun h hsz H=>?_
  refine stV_hp H 6 rfl (Nat.le_of_ble_eq_true rfl) rfl fun h hsz H=>?_
  refine stV_hp H 6 rfl (Nat.le_of_ble_eq_true rfl) rfl fun h hsz H=>?_
  refine ldI_of (H.cell 6 rfl (i:=0) rfl) ?_
  refine ldI_of (H.cell 6 rfl (i:=1) rfl) ?_
  refine ldS_of (H.cell 6 rfl (i:=2) rfl) ?_
  exact hk _ ((H.take 3).as (List.append_nil _).symm)
 refine ldP_of (H.cell 3 rfl (i:=0) rfl) ?_
 refine bcase_false (by rfl) ?_
 refine ldI_of (Hp.cellA H 5 rfl (i:=0) rfl) ?_
 refine ldI_of (Hp.cellA H 5 rfl (i:=1) rfl) ?_
 refine ldS_of (Hp.cellA H 5 rfl (i:=2) rfl) ?_
 refine from_ok (rdO_ext x hr2) hw2 hl2 (fun W2 X2 p2 qs2 srest2 h5 hwW hbX hm H'=>?_) fun h5 hm e5=>?_
 ·subst hwW hbX
  replace H:=H.join H' rfl
  clear H'
  refine ⟨_,_,rfl,?_⟩
  refine bcase_false (by rfl) ?_
  refine newM_ok (fun W X p1 qs h6 hw hx hsz H'=>?_) fun hn=>?_
  ·subst hw hx
   have H2:Hp h5 [] h6 [mapE p1 qs W X (X*wds W) (X*wds W),⟨qs,true,T_uint64,u64s (List.replicate (X*wds W) 0)++[]⟩]:=by
    unfold mapL at H'
    rw [List.length_replicate] at H'
    exact H'
   clear H'
   have H':=H2
   clear H2
   replace H:=H.join H' rfl
   clear H'
   refine ⟨_,_,rfl,?_⟩
   refine bcase_false (by rfl) ?_
   refine shifts_ok fun bs hbs=>?_
   refine ⟨_,rfl,?_⟩
   refine bcase_not (fun h3=>?_) fun h3=>?_
   ·exact bad 70 _ _ (fun h' H'=>hk 70 0 0 [] s [] none 0 h' (.inr (.inr (.inl ⟨hm,hsz,(fun hh=>by rw [hbs.2 hh] at h3; cases h3),rfl,rfl,rfl,rfl,rfl⟩))) (Slot.nil _ _) H') H
   have hsh:=hbs.1 h3
   refine ldI_of (H.cell 4 rfl (i:=0) rfl) ?_
   refine ldP_of (H.cell 3 rfl (i:=0) rfl) ?_
   refine ptr_of (a:=⟨p,0,none⟩) ?_
   rw [add_mk,Nat.zero_add]
   refine Go.Ar.contexts_ok (n:=s.st.length) H 0 rfl ?_
   refine ⟨_,rfl,hext.refl _,?_⟩
   rw [hc.len]
   refine fits8_ok (by omega) fun bf hbf=>?_
   refine ⟨_,rfl,?_⟩
   refine bcase_not (fun h2=>?_) fun h2=>?_
   ·exact bad 51 _ _ (fun h' H'=>hk 51 0 0 [] s [] none 0 h' (.inr (.inr (.inr (.inl ⟨hm,hsz,hsh,(fun hh=>by rw [hbf.2 hh] at h2; cases h2),rfl,rfl,rfl,rfl,rfl⟩)))) (Slot.nil _ _) H') H
   have hft:=hbf.1 h2
   have hX:=hN hsz
   simp only [Int.toNat_natCast] at hX
   have HH:Hp h6 _ h6 ([mapE p1 qs W X (X*wds W) (X*wds W),⟨qs,true,T_uint64,u64s (List.replicate (X*wds W) 0)++[]⟩,mapE p2 qs2 W2 X2 ws2.length (ws2.length+srest2.length),⟨qs2,true,T_uint64,u64s ws2++srest2⟩]++(decL p q e0 bp bc s++[⟨r4,true,T_p_arith_Decoder,[.pointer (at0 p)]⟩,⟨r6,true,T_int,[.int .i64 base]⟩])):=H.give [9,10,7,8,0,1,2,3,4] (by decide) rfl
   refine run_ok (σ:=Dec) (S:=SG p q r4 r6 base e0 bp bc) (Ok:=fun k s=>Go.Ar.DecOk bytes m (n0+k) s) (step:=stepG m base) (fun s M hM=>hM.w) (getDec_ok hbl ⟨by omega,by omega⟩ hm1 hm2 hX) ⟨hb,rfl⟩ HH (by simp) rfl hsz rfl (W64.zero _) (fun y hy x h1 h2=>pix_zero _ _ _ _) hm.1 (may_len hm) hw2 hsh.1 hsh.2 hc (fun ws' s' M h' T hM hrun hlen hww hz hok' H'=>?_) fun e ws' s' M h' T hM hrun _ _ H'=>?_
   ·have hMw:=hM.w
    obtain ⟨hb',rfl⟩:=hM
    have H:=H.put [9,10,7,8,0,1,2,3,4] (by decide) rfl (by simp [decL,Go.Ar.decE,hb.1,mapE]) (Hp.suf H') (by simp [decL,Go.Ar.decE,hb.1,mapE]) rfl
    clear H'
    have hlen2:ws'.length=X*wds W:=hlen
    have H:Hp h0 FF h' (decL p q e0 bp bc s'++[⟨r4,true,T_p_arith_Decoder,[.pointer (at0 p)]⟩,⟨r6,true,T_int,[.int .i64 base]⟩,⟨r8,true,T_api_Bitmap,[.int .i64 (W2:Nat), .int .i64 (X2:Nat), .slice q2 ws2.length c2]⟩,⟨r10,true,T_api_Bitmap,[.int .i64 0, .int .i64 0, .slice none 0 0]⟩]++[mapE p2 qs2 W2 X2 ws2.length (ws2.length+srest2.length),⟨qs2,true,T_uint64,u64s ws2++srest2⟩,mapE p1 qs W X (X*wds W) (X*wds W),⟨qs,true,T_uint64,u64s ws'++[]⟩]):=H
    obtain ⟨W',X',e1,e2,hW1,hW2,hX1,hX2,hWX⟩:=size_nat hsz
    obtain rfl:W=W':=by omega
    obtain rfl:X=X':=by omega
    have hhw:=hw_le hW1 hWX
    have hpos:1<=X*wds W:=Nat.mul_pos hX1 (by unfold wds; omega)
    refine ⟨_,rfl,?_⟩
    refine bcase_false (by rfl) ?_
    refine plain_ok (ws:=ws') (rest:=[]) H 9 10 (by rw [hlen]; rfl) rfl (by omega) (by omega) fun o orest h' H=>?_
    refine ⟨_,_,_,_,_,rfl,?_⟩
    rw [add_mk,add_mk,add_mk]
    refine stV_hp H 6 rfl (Nat.le_of_ble_eq_true rfl) rfl fun h hs2 H=>?_
    refine stV_hp H 6 rfl (Nat.le_of_ble_eq_true rfl) rfl fun h hs2 H=>?_
    refine stV_hp H 6 rfl (Nat.le_of_ble_eq_true rfl) rfl fun h hs2 H=>?_
    refine ldI_of (H.cell 6 rfl (i:=0) rfl) ?_
    refine ldI_of (H.cell 6 rfl (i:=1) rfl) ?_
    refine ldS_of (H.cell 6 rfl (i:=2) rfl) ?_
    rw [getP_zero] at hrun
    refine hk 0 _ _ ws' s' [⟨o,true,T_uint64,u64s ws'++orest⟩] _ _ h (.inr (.inr (.inr (.inr ⟨hm,hsz,hsh,hft,rfl,rfl,rfl,by simpa using hrun,by simpa using hlen2,hww,by simpa using hz,by simpa using hok'⟩)))) (Slot.one (by rw [u64s_length,Nat.mul_one]) (by rw [List.length_append,u64s_length,Nat.mul_one])) ?_
    exact H.pick [0,1,2,11] (by decide) rfl
   ·obtain ⟨g',hg⟩:=stepG_inl (m:=m) (base:=base) (W:=W) (R:=getP ws2 W2 X2) (dx:=dx) (dy:=dy) (getP (List.replicate (X*wds W) 0) W X,s) (X*W)
    rw [hg] at hrun
    cases hrun
  ·refine ⟨_,_,rfl,?_⟩
   refine bcase_true (by rfl) ?_
   exact bad 63 _ _ (fun h' H'=>hk 63 0 0 [] s [] none 0 h' (.inr (.inl ⟨hm,hn,rfl,rfl,rfl,rfl,rfl⟩)) (Slot.nil _ _) H') H
 ·have H:=H.ext e5
  refine ⟨_,_,rfl,?_⟩
  refine bcase_true (by rfl) ?_
  exact bad 62 _ [] (fun h' H'=>hk 62 0 0 [] s [] none 0 h' (.inl ⟨hm,rfl,rfl,rfl,rfl,rfl⟩) (Slot.nil _ _) H') H
end Go.Bm
namespace Go.Bm
open Go Go.Den Go.Den.YtbknfejmdekhpaaGreat
end Go.Bm
namespace Go.Ar
def valR:List Nat->Nat
 | []=>0
 | x::r=>valR r*(if r.head? = some 255 then 128 else 256)+x
def valL (l:List Nat):Nat:=valR l.reverse
theorem valL_snoc (l:List Nat) (x:Nat):valL (l++[x])=valL l*(if l.getLast? = some 255 then 128 else 256)+x:=by
 unfold valL
 rw [List.reverse_append,List.reverse_singleton,List.singleton_append,valR,List.head?_reverse]
section
variable (E:List Nat)
def fE (k:Nat):Nat:=E.getD k 255
def lenE (k:Nat):Nat:=if k<E.length/\fE E (k-1)=255 then 7 else 8
def XE:Nat->Nat
 | 0=>fE E 0
 | k+1=>XE k*2 ^ lenE E (k+1)+fE E (k+1)
def BE:Nat->Nat
 | 0=>0
 | k+1=>BE k+lenE E (k+1)
end
theorem lenE_le (E:List Nat) (k:Nat):lenE E k<=8/\7<=lenE E k:=by unfold lenE; split <;> omega
theorem BE_mono (E:List Nat) {j k:Nat} (h:j<=k):BE E j<=BE E k:=by
 induction k with
 | zero=>have:j=0:=by omega
         subst this; exact Nat.le_refl _
 | succ k ih =>
  rcases Nat.lt_or_ge k j with h1 | h1
  ·have:j=k+1:=by omega
   subst this; exact Nat.le_refl _
  ·exact Nat.le_trans (ih h1) (Nat.le_add_right _ _)
theorem XE_mono (E:List Nat) {j k:Nat} (h:j<=k):XE E j*2 ^ BE E k<=XE E k*2 ^ BE E j:=by
 induction k with
 | zero=>have:j=0:=by omega
         subst this; exact Nat.le_refl _
 | succ k ih =>
  rcases Nat.lt_or_ge k j with h1 | h1
  ·have:j=k+1:=by omega
   subst this; exact Nat.le_refl _
  ·have h2:=ih h1
   show XE E j*2 ^ (BE E k+lenE E (k+1))<=(XE E k*2 ^ lenE E (k+1)+fE E (k+1))*2 ^ BE E j
   rw [Nat.pow_add,<- Nat.mul_assoc,Nat.add_mul]
   have h3:=Nat.mul_le_mul_right (2 ^ lenE E (k+1)) h2
   have e:XE E k*2 ^ BE E j*2 ^ lenE E (k+1)=XE E k*2 ^ lenE E (k+1)*2 ^ BE E j:=Nat.mul_right_comm _ _ _
   omega
theorem XE_end (E:List Nat) {m:Nat} (hm:m+1=E.length):∀ d,XE E (m+d)+1=(XE E m+1)*2 ^ (8*d)/\BE E (m+d)=BE E m+8*d
 | 0=>by simp
 | d+1=>by
  obtain ⟨h1,h2⟩:=XE_end E hm d
  have hl:lenE E (m+d+1)=8:=by unfold lenE; rw [if_neg (by omega)]
  have hf:fE E (m+d+1)=255:=by unfold fE; rw [List.getD_eq_getElem?_getD,List.getElem?_eq_none (by omega)]; rfl
  constructor
  ·show XE E (m+d)*2 ^ lenE E (m+d+1)+fE E (m+d+1)+1=_
   rw [hl,hf,show 8*(d+1)=8*d+8 by omega,Nat.pow_add,<- Nat.mul_assoc,<- h1]
   omega
  ·show BE E (m+d)+lenE E (m+d+1)=_
   rw [hl,h2]; omega
theorem valL_XE (E:List Nat):∀ (p:List Nat) (x:Nat),p.length<E.length->(∀ j v,p[j]? = some v->fE E j=v)->valL (p++[x])+fE E p.length=XE E p.length+x:=by
 intro p
 have key:∀ (n:Nat) (p:List Nat) (x:Nat),p.length=n->p.length<E.length->(∀ j v,p[j]? = some v->fE E j=v)->valL (p++[x])+fE E p.length=XE E p.length+x:=by
  intro n
  induction n with
  | zero =>
   intro p x hn hl hp
   have:p=[]:=List.length_eq_zero_iff.1 hn
   subst this
   rw [valL_snoc]
   show valL []*_+x+fE E 0=fE E 0+x
   simp [valL,valR]; omega
  | succ n ih =>
   intro p x hn hl hp
   obtain ⟨q,y,rfl⟩:∃ q y,p=q++[y]:=by
    rcases List.eq_nil_or_concat p with rfl | ⟨q,y,rfl⟩
    ·simp at hn
    ·exact ⟨q,y,by simp⟩
   have hq:q.length=n:=by simp at hn; exact hn
   have hy:fE E q.length=y:=hp q.length y (by simp)
   have h1:=ih q y hq (by omega) (fun j v hv=>hp j v (by rw [List.getElem?_append_left (List.getElem?_eq_some_iff.1 hv).1]; exact hv))
   have h2:valL (q++[y])=XE E q.length:=by omega
   rw [valL_snoc,h2,hn]
   have hlen:(if (q++[y]).getLast? = some 255 then 128 else 256)=2 ^ lenE E (n+1):=by
    unfold lenE
    rw [List.getLast?_concat,Nat.add_sub_cancel,<- hq,hy]
    by_cases h3:y=255
    ·rw [if_pos (by rw [h3]),if_pos ⟨by rw [hn] at hl; omega,h3⟩]
    ·rw [if_neg (by simpa using h3),if_neg (by simp [h3])]
   rw [hlen,<- hq]
   show _=XE E q.length*2 ^ lenE E (q.length+1)+fE E (q.length+1)+x
   omega
 exact fun x=>key p.length p x rfl
def lowC (s:Cod):Nat:=valL (s.bs++[s.l])*2 ^ (27-s.t)+s.c
structure Fut (E:List Nat) (s:Cod) (A:Nat):Prop where
 len:s.bs.length<E.length
 pre:∀ j v,s.bs[j]? = some v->fE E j=v
 last:fE E s.bs.length=s.l\/fE E s.bs.length=s.l+1/\s.l≠255
 lo:∀ k,s.bs.length<k->lowC s*2 ^ BE E k<(XE E k+1)*2 ^ (BE E s.bs.length+(27-s.t))
 hi:∀ k,XE E k*2 ^ (BE E s.bs.length+(27-s.t))<(lowC s+A)*2 ^ BE E k
theorem Fut.part {E:List Nat} {s:Cod} {A a' c' n':Nat} {st':List Nat} {d':Bool} (h:Fut E { s with a:=a',c:=c',n:=n',st:=st',done:=d' } A) {A0:Nat} (h1:s.c<=c') (h2:c'+A<=s.c+A0):Fut E s A0:=by
 have hl:lowC { s with a:=a',c:=c',n:=n',st:=st',done:=d' }=lowC s+(c'-s.c):=by
  show valL (s.bs++[s.l])*2 ^ (27-s.t)+c'=valL (s.bs++[s.l])*2 ^ (27-s.t)+s.c+(c'-s.c)
  omega
 refine ⟨h.len,h.pre,h.last,fun k hk=>?_,fun k=>?_⟩
 ·have:=h.lo k hk
  rw [hl,Nat.add_mul] at this
  exact Nat.lt_of_le_of_lt (Nat.le_add_right _ _) this
 ·have:=h.hi k
  rw [hl] at this
  exact Nat.lt_of_lt_of_le this (Nat.mul_le_mul_right _ (by omega))
theorem Fut.near {E:List Nat} {s:Cod} {A j a':Nat} (h:Fut E { s with a:=a',c:=s.c*2 ^ j,t:=s.t-j } (A*2 ^ j)) (hj:j<=s.t) (ht:s.t<=27):Fut E s A:=by
 have hl:lowC { s with a:=a',c:=s.c*2 ^ j,t:=s.t-j }=lowC s*2 ^ j:=by
  show valL (s.bs++[s.l])*2 ^ (27-(s.t-j))+s.c*2 ^ j=(valL (s.bs++[s.l])*2 ^ (27-s.t)+s.c)*2 ^ j
  rw [Nat.add_mul,Nat.mul_assoc,<- Nat.pow_add]
  congr 3; omega
 have he:BE E s.bs.length+(27-(s.t-j))=BE E s.bs.length+(27-s.t)+j:=by omega
 have hp:0<2 ^ j:=Nat.two_pow_pos j
 refine ⟨h.len,h.pre,h.last,fun k hk=>?_,fun k=>?_⟩
 ·have h1:_<(XE E k+1)*2 ^ (BE E s.bs.length+(27-(s.t-j))):=h.lo k hk
  rw [hl,he,Nat.pow_add _ _ j,<- Nat.mul_assoc,Nat.mul_right_comm] at h1
  exact Nat.lt_of_mul_lt_mul_right h1
 ·have h1:XE E k*2 ^ (BE E s.bs.length+(27-(s.t-j)))<_:=h.hi k
  rw [hl,he,Nat.pow_add _ _ j,<- Nat.mul_assoc,<- Nat.add_mul,Nat.mul_right_comm (lowC s+A)] at h1
  exact Nat.lt_of_mul_lt_mul_right h1
theorem outTail_low (s:Cod) (l c:Nat) (hc:c<2 ^ 28) (hc2:l≠255->c<2 ^ 27):lowC (outTail s l c)=valL (s.bs++[l])*2 ^ 27+c:=by
 unfold outTail lowC
 split
 ·rename_i h
  show valL ((s.bs++[l])++[c / 1048576 % 256])*2 ^ (27-7)+c % 1048576=_
  rw [valL_snoc,List.getLast?_concat,if_pos (by rw [h])]
  generalize valL (s.bs++[l])=v
  omega
 ·rename_i h
  have:=hc2 h
  show valL ((s.bs++[l])++[c / 524288 % 256])*2 ^ (27-8)+c % 524288=_
  rw [valL_snoc,List.getLast?_concat,if_neg (by simpa using h)]
  generalize valL (s.bs++[l])=v
  omega
theorem Fut.tail {E:List Nat} {s:Cod} {A l c:Nat} (h:Fut E (outTail s l c) A) (hc:c<2 ^ 28) (hc2:l≠255->c<2 ^ 27) (ht:s.t=0) (hl:l=s.l/\c=s.c\/l=s.l+1/\s.l≠255/\c+2 ^ 27=s.c):Fut E s A:=by
 have hlow:lowC (outTail s l c)=lowC s:=by
  rw [outTail_low s l c hc hc2]
  unfold lowC
  rw [ht,valL_snoc,valL_snoc]
  rcases hl with ⟨rfl,rfl⟩ | ⟨rfl,_,h2⟩
  ·rfl
  ·generalize (valL s.bs*if s.bs.getLast? = some 255 then 128 else 256)=v
   omega
 have hbs:(outTail s l c).bs=s.bs++[l]:=by unfold outTail; split <;> rfl
 have hpre:=h.pre
 have hlen:=h.len
 rw [hbs] at hpre hlen
 have hfl:fE E s.bs.length=l:=hpre s.bs.length l (by simp)
 have hlen':s.bs.length+1<E.length:=by simpa using hlen
 have hB:BE E (s.bs.length+1)+(27-(outTail s l c).t)=BE E s.bs.length+27:=by
  show BE E s.bs.length+lenE E (s.bs.length+1)+_=_
  have:lenE E (s.bs.length+1)+(27-(outTail s l c).t)=27:=by
   unfold lenE outTail
   rw [Nat.add_sub_cancel,hfl]
   by_cases h3:l=255
   ·simp only [if_pos h3]; rw [if_pos ⟨hlen',h3⟩]
   ·simp only [if_neg h3]; rw [if_neg (by simp [h3])]
  omega
 have hsl:(outTail s l c).bs.length=s.bs.length+1:=by rw [hbs]; simp
 have hlo:=h.lo
 have hhi:=h.hi
 rw [hsl,hB,hlow] at hlo hhi
 refine ⟨by omega,fun j v hv=>hpre j v (by rw [List.getElem?_append_left (List.getElem?_eq_some_iff.1 hv).1]; exact hv),?_,fun k hk=>?_,fun k=>?_⟩
 ·rw [hfl]
  rcases hl with ⟨rfl,rfl⟩ | ⟨rfl,h1,_⟩
  ·exact .inl rfl
  ·exact .inr ⟨rfl,h1⟩
 ·rw [ht]
  rcases Nat.lt_or_ge (s.bs.length+1) k with h1 | h1
  ·exact hlo k h1
  ·have hk:k=s.bs.length+1:=by omega
   subst hk
   rw [<- hlow,Nat.sub_zero,<- hB,Nat.pow_add,<- Nat.mul_assoc,Nat.mul_right_comm]
   refine Nat.mul_lt_mul_of_pos_right ?_ (Nat.two_pow_pos _)
   have hX:=valL_XE E (s.bs++[l]) (outTail s l c).l (by simpa using hlen') hpre
   have hle:(outTail s l c).l<=fE E (s.bs.length+1):=by
    have:=h.last
    rw [hsl] at this
    omega
   rw [List.length_append,List.length_singleton] at hX
   have hcl:(outTail s l c).c<2 ^ (27-(outTail s l c).t):=by
    unfold outTail
    split
    ·exact Nat.mod_lt _ (by decide)
    ·exact Nat.mod_lt _ (by decide)
   unfold lowC
   rw [hbs]
   have h4:valL (s.bs++[l]++[(outTail s l c).l])<=XE E (s.bs.length+1):=by omega
   have h5:=Nat.mul_le_mul_right (2 ^ (27-(outTail s l c).t)) h4
   rw [Nat.add_mul]
   omega
 ·rw [ht]; exact hhi k
theorem Fut.out {E:List Nat} {s:Cod} {A:Nat} (h:Fut E (outM s) A) (ht:s.t=0) (hc:s.c<2 ^ 28):Fut E s A:=by
 unfold outM at h
 split at h
 ·rename_i h1
  refine h.tail (by omega) (fun _=>by omega) ht (.inr ⟨rfl,h1.1,by omega⟩)
 ·rename_i h1
  exact h.tail hc (fun h2=>by
   rcases Nat.lt_or_ge s.c 134217728 with h3 | h3
   ·exact h3
   ·exact absurd ⟨h2,h3⟩ h1) ht (.inl ⟨rfl,rfl⟩)
end Go.Ar
namespace Go.Ar
theorem outM_t (s:Cod) (t:Nat):outM { s with t:=t }=outM s:=rfl
theorem outM_ct (s:Cod):(outM s).c=s.c % 2 ^ (27-(outM s).t)/\((outM s).t=7\/(outM s).t=8):=by
 unfold outM outTail
 split
 ·split
  ·refine ⟨?_, .inl rfl⟩; show s.c % 134217728 % 1048576=s.c % 1048576; omega
  ·refine ⟨?_, .inr rfl⟩; show s.c % 134217728 % 524288=s.c % 524288; omega
 ·split
  ·exact ⟨rfl, .inl rfl⟩
  ·exact ⟨rfl, .inr rfl⟩
theorem Fut.shift {E:List Nat} {s:Cod} {A:Nat} (h:Fut E (shiftM s) (2*A)) (ht:1<=s.t) (ht2:s.t<=12) (hc:s.c<2 ^ (28-s.t)):Fut E s A:=by
 have key:Fut E { s with a:=2*s.a,c:=s.c*2 ^ 1,t:=s.t-1 } (A*2 ^ 1):=by
  rw [Nat.pow_one,Nat.mul_comm s.c 2,Nat.mul_comm A 2]
  unfold shiftM at h
  simp only [] at h
  split at h
  ·rename_i h1
   have h1:s.t-1=0:=h1
   have:s.t=1:=by omega
   rw [this] at hc
   exact h.out h1 (by show 2*s.c<2 ^ 28; omega)
  ·exact h
 exact key.near ht (by omega)
theorem Fut.renew {E:List Nat}:∀ (k:Nat) {s:Cod},Mid s->s.a<0x8000->0x8000<=s.a*2 ^ k->Fut E (renewM k s) (renewM k s).a->Fut E s s.a
 | 0,s,h,ha,hk,_=>by simp at hk; omega
 | k+1,s,h,ha,hk,hF=>by
  obtain ⟨h1,h2,h3,h4,h5,h6⟩:=shiftM_mid h ha
  have hc:=h.ca
  unfold renewM at hF
  simp only [] at hF
  split at hF
  ·rw [h2] at hF
   exact hF.shift h.t1 h.t12 (by omega)
  ·rename_i hlt
   have hk':0x8000<=(shiftM s).a*2 ^ k:=by
    rw [h2]
    rw [Nat.pow_succ] at hk
    have:s.a*(2 ^ k*2)=2*s.a*2 ^ k:=by rw [Nat.mul_comm (2 ^ k) 2,<- Nat.mul_assoc,Nat.mul_comm s.a 2]
    omega
   have:=Fut.renew k h1 (by omega) hk' hF
   rw [h2] at this
   exact this.shift h.t1 h.t12 (by omega)
def codeE (s:Cod):List Nat:=s.bs++[s.l]
theorem flushC_mod (s:Cod):32768 ∣ flushC s+1:=by
 unfold flushC
 simp only []
 split <;> omega
theorem fut_flush {s:Cod} (hs:Wf s):Fut (codeE (flushM s)) s s.a:=by
 have hca:=hs.ca
 have ht1:=hs.t1
 have ht2:=hs.t12
 have hlo:=hs.lo
 have hhi:=hs.hi
 have hf1:s.c<=flushC s/\flushC s+1<=s.c+s.a:=by
  unfold flushC
  simp only []
  split <;> omega
 have hmod:=flushC_mod s
 generalize hcf:flushC s=cf at hf1 hmod
 have hF:flushM s=flushS (flushS { s with c:=cf,done:=true }):=by unfold flushM; rw [hcf]
 generalize hS0:({ s with c:=cf,done:=true }:Cod)=S0 at hF
 have hS0t:S0.t=s.t:=by rw [<- hS0]
 have hS0c:S0.c=cf:=by rw [<- hS0]
 have hS1:flushS S0=outM { S0 with c:=S0.c*2 ^ S0.t,t:=S0.t-S0.t }:=(outM_t { S0 with c:=S0.c*2 ^ S0.t } _).symm
 generalize hG1:flushS S0=S1 at hF hS1
 have hS2:flushM s=outM { S1 with c:=S1.c*2 ^ S1.t,t:=S1.t-S1.t }:=hF.trans (outM_t { S1 with c:=S1.c*2 ^ S1.t } _).symm
 generalize hG2:flushM s=F at hS2
 obtain ⟨hc1,ht1'⟩:=outM_ct { S0 with c:=S0.c*2 ^ S0.t,t:=S0.t-S0.t }
 obtain ⟨hc2,ht2'⟩:=outM_ct { S1 with c:=S1.c*2 ^ S1.t,t:=S1.t-S1.t }
 rw [<- hS1] at hc1 ht1'
 rw [<- hS2] at hc2 ht2'
 have hc1:S1.c=cf*2 ^ s.t % 2 ^ (27-S1.t):=by rw [hc1,<- hS0c,<- hS0t]
 have hc2:F.c=S1.c*2 ^ S1.t % 2 ^ (27-F.t):=hc2
 have hdv:2 ^ (27-F.t)<=F.c+2 ^ (s.t+S1.t):=by
  have e1:F.c=cf*2 ^ (s.t+S1.t) % 2 ^ (27-F.t):=by
   rw [hc2,hc1,<- Nat.mul_mod_mul_right,<- Nat.pow_add,Nat.mul_assoc,<- Nat.pow_add,Nat.mod_mod_of_dvd]
   exact Nat.pow_dvd_pow 2 (by omega)
  have e2:(F.c+2 ^ (s.t+S1.t)) % 2 ^ (27-F.t)=0:=by
   rw [e1,Nat.mod_add_mod,<- Nat.succ_mul]
   refine Nat.mod_eq_zero_of_dvd (Nat.dvd_trans (Nat.pow_dvd_pow 2 (show 27-F.t<=15+(s.t+S1.t) by omega)) ?_)
   rw [Nat.pow_add]
   exact Nat.mul_dvd_mul_right hmod _
  have e3:=Nat.two_pow_pos (s.t+S1.t)
  exact Nat.le_of_dvd (by omega) (Nat.dvd_of_mod_eq_zero e2)
 have hclt:F.c<2 ^ (27-F.t):=by rw [hc2]; exact Nat.mod_lt _ (Nat.two_pow_pos _)
 have hEl:F.bs.length+1=(codeE F).length:=by simp [codeE]
 have hpre:∀ j v,F.bs[j]? = some v->fE (codeE F) j=v:=fun j v hj=>by
  unfold fE codeE
  rw [List.getD_eq_getElem?_getD,List.getElem?_append_left (List.getElem?_eq_some_iff.1 hj).1,hj]; rfl
 have hlast:fE (codeE F) F.bs.length=F.l:=by
  unfold fE codeE
  rw [List.getD_eq_getElem?_getD]; simp
 have hX:valL (F.bs++[F.l])=XE (codeE F) F.bs.length:=by
  have:=valL_XE (codeE F) F.bs F.l (by omega) hpre
  rw [hlast] at this
  omega
 have hlow:lowC F=XE (codeE F) F.bs.length*2 ^ (27-F.t)+F.c:=by unfold lowC; rw [hX]
 have fF:Fut (codeE F) F (2 ^ (s.t+S1.t)):=by
  refine ⟨by omega,hpre, .inl hlast,fun k hk=>?_,fun k=>?_⟩
  ·obtain ⟨d,rfl⟩:∃ d,k=F.bs.length+d:=⟨k-F.bs.length,by omega⟩
   obtain ⟨h1,h2⟩:=XE_end (codeE F) hEl d
   rw [h1,h2,hlow,Nat.pow_add,Nat.pow_add]
   have h3:XE (codeE F) F.bs.length*2 ^ (27-F.t)+F.c<(XE (codeE F) F.bs.length+1)*2 ^ (27-F.t):=by rw [Nat.add_mul]; omega
   have h4:=Nat.mul_lt_mul_of_pos_right h3 (show 0<2 ^ BE (codeE F) F.bs.length*2 ^ (8*d) from Nat.mul_pos (Nat.two_pow_pos _) (Nat.two_pow_pos _))
   have e:(XE (codeE F) F.bs.length+1)*2 ^ (8*d)*(2 ^ BE (codeE F) F.bs.length*2 ^ (27-F.t))=(XE (codeE F) F.bs.length+1)*2 ^ (27-F.t)*(2 ^ BE (codeE F) F.bs.length*2 ^ (8*d)):=by
    simp only [Nat.mul_assoc,Nat.mul_comm,Nat.mul_left_comm]
   rw [e]
   exact h4
  ·rcases Nat.lt_or_ge k F.bs.length with hk | hk
   ·have h1:=XE_mono (codeE F) (Nat.le_of_lt hk)
    have h2:=Nat.mul_le_mul_right (2 ^ (27-F.t)) h1
    rw [hlow,Nat.pow_add,<- Nat.mul_assoc]
    refine Nat.lt_of_le_of_lt h2 ?_
    rw [Nat.mul_right_comm]
    refine Nat.mul_lt_mul_of_pos_right ?_ (Nat.two_pow_pos _)
    have:=Nat.two_pow_pos (s.t+S1.t)
    omega
   ·obtain ⟨d,rfl⟩:∃ d,k=F.bs.length+d:=⟨k-F.bs.length,by omega⟩
    obtain ⟨h1,h2⟩:=XE_end (codeE F) hEl d
    have h3:XE (codeE F) (F.bs.length+d)<(XE (codeE F) F.bs.length+1)*2 ^ (8*d):=by omega
    rw [h2,hlow]
    have h4:=Nat.mul_lt_mul_of_pos_right h3 (Nat.two_pow_pos (BE (codeE F) F.bs.length+(27-F.t)))
    refine Nat.lt_of_lt_of_le h4 ?_
    have h5:(XE (codeE F) F.bs.length+1)*2 ^ (27-F.t)<=XE (codeE F) F.bs.length*2 ^ (27-F.t)+F.c+2 ^ (s.t+S1.t):=by rw [Nat.add_mul]; omega
    have h6:=Nat.mul_le_mul_right (2 ^ (BE (codeE F) F.bs.length+8*d)) h5
    refine Nat.le_trans (Nat.le_of_eq ?_) h6
    rw [Nat.pow_add,Nat.pow_add]
    simp only [Nat.mul_assoc,Nat.mul_comm,Nat.mul_left_comm]
 generalize codeE F=E at fF ⊢
 rw [hS2] at fF
 have hp1:(2:Nat) ^ (27-S1.t)*2 ^ S1.t=2 ^ 27:=by rw [<- Nat.pow_add]; congr 1; omega
 have hc1lt:S1.c<2 ^ (27-S1.t):=by rw [hc1]; exact Nat.mod_lt _ (Nat.two_pow_pos _)
 have f1:=fF.out (Nat.sub_self _) (by
  show S1.c*2 ^ S1.t<2 ^ 28
  have:=Nat.mul_lt_mul_of_pos_right hc1lt (Nat.two_pow_pos S1.t)
  omega)
 rw [Nat.pow_add] at f1
 have f2:Fut E S1 (2 ^ s.t):=f1.near (a':=S1.a) (Nat.le_refl _) (by omega)
 rw [hS1] at f2
 have f3:=f2.out (Nat.sub_self _) (by
  show S0.c*2 ^ S0.t<2 ^ 28
  rw [hS0c,hS0t]
  have h1:cf<2 ^ (28-s.t):=by omega
  have h2:=Nat.mul_lt_mul_of_pos_right h1 (Nat.two_pow_pos s.t)
  have h3:(2:Nat) ^ (28-s.t)*2 ^ s.t=2 ^ 28:=by rw [<- Nat.pow_add]; congr 1; omega
  omega)
 rw [<- hS0t] at f3
 have f3':Fut E { S0 with c:=S0.c*2 ^ S0.t,t:=S0.t-S0.t } (1*2 ^ S0.t):=by rw [Nat.one_mul]; exact f3
 have f4:Fut E S0 1:=f3'.near (a':=S0.a) (Nat.le_refl _) (by omega)
 rw [<- hS0] at f4
 exact Fut.part (s:=s) (a':=s.a) (n':=s.n) (st':=s.st) f4 hf1.1 hf1.2
end Go.Ar
namespace Go.Ar
structure Pos (E:List Nat) (d:Dec) (k:Nat):Prop where
 by_:∀ j,byteD d j=fE E (j+1)
 at_:k=d.i+1\/d.i+1<=k/\E.length<=d.i+2/\fE E (d.i+1)=255
def Stuffed (E:List Nat):Prop:=∀ j,fE E j=255->j+1<E.length->fE E (j+1)<=143
theorem fE_end (E:List Nat) {k:Nat} (h:E.length<=k):fE E k=255:=by unfold fE; rw [List.getD_eq_getElem?_getD,List.getElem?_eq_none h]; rfl
theorem inD_pos {E:List Nat} {d:Dec} {k:Nat} (hE:Stuffed E) (h:Pos E d k) :
  Pos E (inD d) (k+1)/\(inD d).t=lenE E (k+1)/\(inD d).c=(d.c+fE E (k+1)*2 ^ (16-lenE E (k+1))) % M32:=by
 have hb0:=h.by_ d.i
 have hb1:=h.by_ (d.i+1)
 have hb:∀ d':Dec,d'.b=d.b->∀ j,byteD d' j=fE E (j+1):=fun d' e j=>by rw [<- h.by_ j]; unfold byteD; rw [e]
 unfold inD
 split
 ·rename_i h1
  rw [hb0] at h1
  have hlt:d.i+1<E.length:=by
   rcases Nat.lt_or_ge (d.i+1) E.length with h2 | h2
   ·exact h2
   ·exact absurd (fE_end E h2) h1
  have hk:k=d.i+1:=by
   rcases h.at_ with h2 | ⟨_,h2,h3⟩
   ·exact h2
   ·exact absurd h3 h1
  have hl:lenE E (k+1)=8:=by
   unfold lenE
   rw [Nat.add_sub_cancel,if_neg]
   rintro ⟨_,h3⟩
   rw [hk] at h3
   exact h1 h3
  refine ⟨⟨hb _ rfl, .inl (by rw [hk])⟩,by rw [hl],?_⟩
  rw [hb1,hl,hk]
 ·rename_i h1
  rw [hb0] at h1
  have h1:fE E (d.i+1)=255:=by simpa using h1
  split
  ·rename_i h2
   rw [hb1] at h2
   have hge:E.length<=d.i+2:=by
    rcases Nat.lt_or_ge (d.i+1+1) E.length with h3 | h3
    ·have:=hE _ h1 h3; omega
    ·exact h3
   have hkge:d.i+1<=k:=by rcases h.at_ with h3 | ⟨h3,_⟩ <;> omega
   have hl:lenE E (k+1)=8:=by unfold lenE; rw [if_neg (by omega)]
   have hf:fE E (k+1)=255:=fE_end E (by omega)
   exact ⟨⟨hb _ rfl, .inr ⟨by show d.i+1<=k+1; omega,hge,h1⟩⟩,by rw [hl],by rw [hl,hf]⟩
  ·rename_i h2
   rw [hb1] at h2
   have hlt:d.i+2<E.length:=by
    rcases Nat.lt_or_ge (d.i+2) E.length with h3 | h3
    ·exact h3
    ·have:=fE_end E h3
     rw [show d.i+1+1=d.i+2 from rfl] at h2
     omega
   have hk:k=d.i+1:=by
    rcases h.at_ with h3 | ⟨_,h3,_⟩
    ·exact h3
    ·omega
   have hl:lenE E (k+1)=7:=by
    unfold lenE
    rw [Nat.add_sub_cancel,if_pos ⟨by omega,by rw [hk]; exact h1⟩]
   refine ⟨⟨hb _ rfl, .inl (by rw [hk])⟩,by rw [hl],?_⟩
   rw [hb1,hl,hk]
structure Num (E:List Nat) (s:Cod) (d:Dec) (k:Nat):Prop extends Pos E d k where
 pos:BE E k=BE E s.bs.length+(27-s.t)+d.t
 num:d.c+lowC s*65536=XE E k*2 ^ (16-d.t)
structure Sync (E:List Nat) (s:Cod) (d:Dec):Prop where
 a:d.a=s.a
 st:d.st=s.st
 n:d.n=s.n
 num:∃ k,Num E s d k
section
variable {E:List Nat} {s:Cod} {d:Dec} {k A t:Nat}
theorem XE_split (x:Nat) (h:t<=16):x*2 ^ (16-t)*2 ^ t=x*65536:=by
 rw [Nat.mul_assoc,<- Nat.pow_add]
 congr 1
 have:16-t+t=16:=by omega
 rw [this]
theorem Fut.lt (h:Fut E s A) (hp:BE E k=BE E s.bs.length+(27-s.t)+t) (ht:t<=16):XE E k*2 ^ (16-t)<(lowC s+A)*65536:=by
 have h1:=h.hi k
 rw [hp,Nat.pow_add _ _ t,<- Nat.mul_assoc,Nat.mul_right_comm (lowC s+A)] at h1
 have h2:XE E k<(lowC s+A)*2 ^ t:=Nat.lt_of_mul_lt_mul_right h1
 refine Nat.lt_of_mul_lt_mul_right (a:=2 ^ t) ?_
 rw [XE_split _ ht,Nat.mul_right_comm]
 exact Nat.mul_lt_mul_of_pos_right h2 (by decide)
theorem Fut.ge (h:Fut E s A) (hp:BE E k=BE E s.bs.length+(27-s.t)+t) (ht:t<=16) (hk:s.bs.length<k):lowC s*65536<=XE E k*2 ^ (16-t):=by
 have h1:=h.lo k hk
 rw [hp,Nat.pow_add _ _ t,<- Nat.mul_assoc,Nat.mul_right_comm] at h1
 have h2:lowC s*2 ^ t<XE E k+1:=Nat.lt_of_mul_lt_mul_right h1
 refine Nat.le_of_mul_le_mul_right (c:=2 ^ t) ?_ (Nat.two_pow_pos t)
 rw [XE_split _ ht,Nat.mul_right_comm]
 exact Nat.mul_le_mul_right _ (by omega)
theorem ahead (hp:BE E k=BE E s.bs.length+(27-s.t)+t) (ht:s.t<=12):s.bs.length<k:=by
 rcases Nat.lt_or_ge s.bs.length k with h1 | h1
 ·exact h1
 ·have:=BE_mono E h1; omega
theorem shiftM_pos (h:Fut E (shiftM s) A) (ht1:1<=s.t) (ht2:s.t<=12) (hc:s.c<2 ^ (28-s.t)):lowC (shiftM s)=2*lowC s/\BE E (shiftM s).bs.length+(27-(shiftM s).t)=BE E s.bs.length+(27-s.t)+1:=by
 have e0:lowC { s with a:=2*s.a,c:=2*s.c,t:=s.t-1 }=2*lowC s:=by
  show valL (s.bs++[s.l])*2 ^ (27-(s.t-1))+2*s.c=2*(valL (s.bs++[s.l])*2 ^ (27-s.t)+s.c)
  rw [show 27-(s.t-1)=(27-s.t)+1 by omega,Nat.pow_succ,<- Nat.mul_assoc]
  omega
 unfold shiftM at h ⊢
 simp only [] at h ⊢
 split
 ·rename_i h1
  rw [if_pos h1] at h
  have h1:s.t-1=0:=h1
  have ht:s.t=1:=by omega
  rw [ht] at hc
  have tail:∀ {l c:Nat},Fut E (outTail { s with a:=2*s.a,c:=2*s.c,t:=s.t-1 } l c) A->c<2 ^ 28->(l≠255->c<2 ^ 27)->(l=s.l/\c=2*s.c\/l=s.l+1/\s.l≠255/\c+2 ^ 27=2*s.c) ->
    lowC (outTail { s with a:=2*s.a,c:=2*s.c,t:=s.t-1 } l c)=2*lowC s/\BE E (outTail { s with a:=2*s.a,c:=2*s.c,t:=s.t-1 } l c).bs.length+(27-(outTail { s with a:=2*s.a,c:=2*s.c,t:=s.t-1 } l c).t)=BE E s.bs.length+(27-s.t)+1:=by
   intro l c hF hc hc2 hl
   constructor
   ·rw [outTail_low _ l c hc hc2,<- e0]
    unfold lowC
    show valL (s.bs++[l])*2 ^ 27+c=valL (s.bs++[s.l])*2 ^ (27-(s.t-1))+2*s.c
    rw [h1,valL_snoc,valL_snoc]
    rcases hl with ⟨rfl,rfl⟩ | ⟨rfl,_,h2⟩
    ·rfl
    ·generalize (valL s.bs*if s.bs.getLast? = some 255 then 128 else 256)=v
     omega
   ·have hbs:(outTail { s with a:=2*s.a,c:=2*s.c,t:=s.t-1 } l c).bs=s.bs++[l]:=by unfold outTail; split <;> rfl
    have hpre:=hF.pre
    have hlen:=hF.len
    rw [hbs] at hpre hlen
    have hfl:fE E s.bs.length=l:=hpre s.bs.length l (by simp)
    have hlen':s.bs.length+1<E.length:=by simpa using hlen
    rw [hbs,List.length_append,List.length_singleton]
    show BE E s.bs.length+lenE E (s.bs.length+1)+_=_
    have:lenE E (s.bs.length+1)+(27-(outTail { s with a:=2*s.a,c:=2*s.c,t:=s.t-1 } l c).t)=27:=by
     unfold lenE outTail
     rw [Nat.add_sub_cancel,hfl]
     by_cases h3:l=255
     ·simp only [if_pos h3]; rw [if_pos ⟨hlen',h3⟩]
     ·simp only [if_neg h3]; rw [if_neg (by simp [h3])]
    omega
  unfold outM at h ⊢
  split
  ·rename_i h2
   rw [if_pos h2] at h
   exact tail h (by show 2*s.c % 134217728<_; omega) (fun _=>by show 2*s.c % 134217728<_; omega) (.inr ⟨rfl,h2.1,by
    have:134217728<=2*s.c:=h2.2
    show 2*s.c % 134217728+_=_
    omega⟩)
  ·rename_i h2
   rw [if_neg h2] at h
   exact tail h (by show 2*s.c<_; omega) (fun h3=>by
    rcases Nat.lt_or_ge (2*s.c) 134217728 with h4 | h4
    ·exact h4
    ·exact absurd ⟨h3,h4⟩ h2) (.inl ⟨rfl,rfl⟩)
 ·exact ⟨e0,by show BE E s.bs.length+(27-(s.t-1))=_; omega⟩
theorem sync_shift (hE:Stuffed E) (hm:Mid s) (hd:MidD d) (S:Sync E s d) (ha:s.a<0x8000) (F:Fut E (shiftM s) (shiftM s).a):Sync E (shiftM s) (shiftD d):=by
 obtain ⟨hm1,hma,hmn,hmst,_,_⟩:=shiftM_mid hm ha
 have hc:=hm.ca
 rw [hma] at F
 have hF:Fut E s s.a:=F.shift hm.t1 hm.t12 (by omega)
 obtain ⟨p1,p2⟩:=shiftM_pos F hm.t1 hm.t12 (by omega)
 obtain ⟨k,hN⟩:=S.num
 have key:∃ (k:Nat) (d1:Dec),(if d.t=0 then inD d else d)=d1/\Num E s d1 k/\1<=d1.t/\d1.t<=8/\d1.a=d.a/\d1.st=d.st/\d1.n=d.n:=by
  by_cases h0:d.t=0
  ·obtain ⟨q1,q2,q3⟩:=inD_pos hE hN.toPos
   obtain ⟨i1,i2,i3,i4,i5,i6⟩:=inD_mid hd
   obtain ⟨l1,l2⟩:=lenE_le E (k+1)
   rw [if_pos h0]
   have hpos:BE E (k+1)=BE E s.bs.length+(27-s.t)+lenE E (k+1):=by
    have:=hN.pos
    show BE E k+lenE E (k+1)=_
    omega
   have hlt:=hF.lt hpos (by omega)
   have e1:XE E (k+1)*2 ^ (16-lenE E (k+1))=XE E k*65536+fE E (k+1)*2 ^ (16-lenE E (k+1)):=by
    show (XE E k*2 ^ lenE E (k+1)+fE E (k+1))*_=_
    rw [Nat.add_mul,<- XE_split (t:=lenE E (k+1)) (XE E k) (by omega),Nat.mul_right_comm]
   have e2:=hN.num
   rw [h0,Nat.sub_zero] at e2
   have hcl:(inD d).c+lowC s*65536=XE E (k+1)*2 ^ (16-lenE E (k+1)):=by
    rw [q3,Nat.mod_eq_of_lt]
    ·omega
    ·show _<4294967296
     rw [Nat.add_mul] at hlt
     have e3:XE E k*2 ^ 16=XE E k*65536:=rfl
     omega
   exact ⟨k+1,_,rfl,⟨q1,by rw [q2]; exact hpos,by rw [q2]; exact hcl⟩,by omega,by omega,i2,i4,i3⟩
  ·rw [if_neg h0]
   exact ⟨k,d,rfl,hN,by omega,hd.t8,rfl,rfl,rfl⟩
 obtain ⟨k1,d1,hd1,hN1,t1,t8,ea,est,en⟩:=key
 have hlt:=hF.lt hN1.pos (by omega)
 rw [<- hN1.num] at hlt
 rw [Nat.add_mul] at hlt
 have hsd:shiftD d = { d1 with a:=2*d1.a,c:=2*d1.c % M32,t:=d1.t-1 }:=by rw [<- hd1]; rfl
 rw [hsd]
 have hc2:2*d1.c % M32=2*d1.c:=Nat.mod_eq_of_lt (by show 2*d1.c<4294967296; omega)
 rw [hc2]
 refine ⟨by show 2*d1.a=_; rw [hma,ea,S.a],by show d1.st=_; rw [hmst,est,S.st],by show d1.n=_; rw [hmn,en,S.n],k1,⟨⟨hN1.by_,hN1.at_⟩,?_,?_⟩⟩
 ·show BE E k1=_+(d1.t-1)
  have:=hN1.pos
  omega
 ·show 2*d1.c+lowC (shiftM s)*65536=XE E k1*2 ^ (16-(d1.t-1))
  have:=hN1.num
  rw [p1,show 16-(d1.t-1)=(16-d1.t)+1 by omega,Nat.pow_succ,<- Nat.mul_assoc]
  omega
end
theorem sync_renew {E:List Nat} (hE:Stuffed E):∀ (k:Nat) {s:Cod} {d:Dec},Mid s->MidD d->Sync E s d->s.a<0x8000->0x8000<=s.a*2 ^ k->Fut E (renewM k s) (renewM k s).a->Sync E (renewM k s) (renewD k d)
 | 0,s,d,h,_,_,ha,hk,_=>by simp at hk; omega
 | k+1,s,d,h,hd,S,ha,hk,hF=>by
  obtain ⟨h1,h2,h3,h4,h5,h6⟩:=shiftM_mid h ha
  obtain ⟨g1,g2,g3,g4,g5⟩:=shiftD_mid hd
  have ea:(shiftD d).a=(shiftM s).a:=by rw [g2,h2,S.a]
  unfold renewM at hF ⊢
  unfold renewD
  simp only [] at hF ⊢
  rw [ea]
  by_cases hge:0x8000<=(shiftM s).a
  ·rw [if_pos hge] at hF ⊢
   rw [if_pos hge]
   exact sync_shift hE h hd S ha hF
  ·rw [if_neg hge] at hF ⊢
   rw [if_neg hge]
   have hk':0x8000<=(shiftM s).a*2 ^ k:=by
    rw [h2]
    rw [Nat.pow_succ] at hk
    have:s.a*(2 ^ k*2)=2*s.a*2 ^ k:=by rw [Nat.mul_comm (2 ^ k) 2,<- Nat.mul_assoc,Nat.mul_comm s.a 2]
    omega
   exact sync_renew hE k h1 g1 (sync_shift hE h hd S ha (Fut.renew k h1 (by omega) hk' hF)) (by omega) hk' hF
theorem sync_put {E:List Nat} (hE:Stuffed E) {s:Cod} {d:Dec} (hs:Wf s) (hd:WfD d) (S:Sync E s d) {k bit:Nat} (hb:bit<=1) (hF:Fut E (putM s k bit) (putM s k bit).a) :
  Sync E (putM s k bit) (getD d k).1/\(getD d k).2=bit/\Fut E s s.a:=by
 have hx:=getD_lt hs.st k
 have hr:s.st.getD k 0 / 2<47:=by omega
 have hq1:=qOf_pos hr
 have hq2:=qOf_le hr
 have hM:=set_lt hs.st (k:=k) (upM_lt hx)
 have hL:=set_lt hs.st (k:=k) (upL_lt hx)
 have hlo:=hs.lo
 have hhi:=hs.hi
 have hca:=hs.ca
 have ht1:=hs.t1
 have ht2:=hs.t12
 have hdc:=hd.c
 have h17:(2:Nat) ^ 17=131072:=rfl
 obtain ⟨kk,hN⟩:=S.num
 have hdt:=hd.t8
 have up:∀ {a' n':Nat} {st':List Nat},Fut E { s with a:=a',c:=s.c+qOf (s.st.getD k 0 / 2),n:=n',st:=st' } (s.a-qOf (s.st.getD k 0 / 2))->¬ d.c / 65536<qOf (s.st.getD k 0 / 2)/\Fut E s s.a:=by
  intro a' n' st' h
  have hl:lowC { s with a:=a',c:=s.c+qOf (s.st.getD k 0 / 2),n:=n',st:=st' }=lowC s+qOf (s.st.getD k 0 / 2):=(Nat.add_assoc _ _ _).symm
  have h1:=h.ge (k:=kk) (t:=d.t) hN.pos (by omega) (ahead (s:=s) hN.pos ht2)
  rw [hl,<- hN.num,Nat.add_mul] at h1
  refine ⟨by omega,Fut.part (s:=s) (d':=s.done) h (by omega) (by omega)⟩
 have lw:∀ {a' n':Nat} {st':List Nat},Fut E { s with a:=a',n:=n',st:=st' } (qOf (s.st.getD k 0 / 2))->d.c / 65536<qOf (s.st.getD k 0 / 2)/\Fut E s s.a:=by
  intro a' n' st' h
  have h1:=h.lt (k:=kk) (t:=d.t) hN.pos (by omega)
  rw [<- hN.num] at h1
  have hl:lowC { s with a:=a',n:=n',st:=st' }=lowC s:=rfl
  rw [hl,Nat.add_mul] at h1
  refine ⟨by omega,Fut.part (s:=s) (c':=s.c) (d':=s.done) h (by omega) (by omega)⟩
 have hbit:s.st.getD k 0 % 2<2:=Nat.mod_lt _ (by omega)
 have nup:¬ d.c / 65536<qOf (s.st.getD k 0 / 2)->∀ {a' n':Nat} {st':List Nat},Sync E { s with a:=a',c:=s.c+qOf (s.st.getD k 0 / 2),n:=n',st:=st' } { d with a:=a',c:=d.c-qOf (s.st.getD k 0 / 2)*65536,n:=n',st:=st' }:=by
  intro h a' n' st'
  refine ⟨rfl,rfl,rfl,kk,⟨hN.by_,hN.at_⟩,hN.pos,?_⟩
  have:=hN.num
  have hl:lowC { s with a:=a',c:=s.c+qOf (s.st.getD k 0 / 2),n:=n',st:=st' }=lowC s+qOf (s.st.getD k 0 / 2):=(Nat.add_assoc _ _ _).symm
  show d.c-qOf (s.st.getD k 0 / 2)*65536+lowC { s with a:=a',c:=s.c+qOf (s.st.getD k 0 / 2),n:=n',st:=st' }*65536=XE E kk*2 ^ (16-d.t)
  rw [hl,Nat.add_mul]
  omega
 have nlw:∀ {a' n':Nat} {st':List Nat},Sync E { s with a:=a',n:=n',st:=st' } { d with a:=a',n:=n',st:=st' }:=by
  intro a' n' st'
  exact ⟨rfl,rfl,rfl,kk,⟨hN.by_,hN.at_⟩,hN.pos,hN.num⟩
 have hget:getD d k=(if d.c / 65536<qOf (s.st.getD k 0 / 2) then
  if s.a-qOf (s.st.getD k 0 / 2)<qOf (s.st.getD k 0 / 2) then (renewD 17 { d with a:=qOf (s.st.getD k 0 / 2),n:=s.n+1,st:=s.st.set k (upM (s.st.getD k 0)) },s.st.getD k 0 % 2)
  else (renewD 17 { d with a:=qOf (s.st.getD k 0 / 2),n:=s.n+1,st:=s.st.set k (upL (s.st.getD k 0)) },1-s.st.getD k 0 % 2)
 else
  if 0x8000<=s.a-qOf (s.st.getD k 0 / 2) then ({ d with a:=s.a-qOf (s.st.getD k 0 / 2),c:=d.c-qOf (s.st.getD k 0 / 2)*65536,n:=s.n+1,st:=s.st },s.st.getD k 0 % 2)
  else if s.a-qOf (s.st.getD k 0 / 2)<qOf (s.st.getD k 0 / 2) then (renewD 17 { d with a:=s.a-qOf (s.st.getD k 0 / 2),c:=d.c-qOf (s.st.getD k 0 / 2)*65536,n:=s.n+1,st:=s.st.set k (upL (s.st.getD k 0)) },1-s.st.getD k 0 % 2)
  else (renewD 17 { d with a:=s.a-qOf (s.st.getD k 0 / 2),c:=d.c-qOf (s.st.getD k 0 / 2)*65536,n:=s.n+1,st:=s.st.set k (upM (s.st.getD k 0)) },s.st.getD k 0 % 2)):=by
  have e1:=S.a
  have e2:=S.st
  have e3:=S.n
  obtain ⟨da,dc,dt,dn,dst,db,di⟩:=d
  simp only at e1 e2 e3
  subst e1 e2 e3
  rfl
 have hdm:∀ {a' c' n':Nat} {st':List Nat},c'<=d.c->(∀ x∈st',x<94)->MidD { d with a:=a',c:=c',n:=n',st:=st' }:=fun hc hst=>⟨hd.t8,Nat.lt_of_le_of_lt hc hdc,hd.b,hst,hd.i⟩
 rw [hget]
 unfold putM at hF ⊢
 simp only [] at hF ⊢
 generalize s.st.getD k 0=x at *
 generalize qOf (x / 2)=q at *
 have mlw:∀ {n':Nat} {st':List Nat},(∀ x∈st',x<94)->Mid { s with a:=q,n:=n',st:=st' }:=fun hst=>⟨ht1,ht2,by show s.c+q<2 ^ (28-s.t); omega,hs.l,hs.bs,hst⟩
 have mup:∀ {n':Nat} {st':List Nat},(∀ x∈st',x<94)->Mid { s with a:=s.a-q,c:=s.c+q,n:=n',st:=st' }:=fun hst=>⟨ht1,ht2,by show s.c+q+(s.a-q)<2 ^ (28-s.t); omega,hs.l,hs.bs,hst⟩
 have flw:∀ {n':Nat} {st':List Nat},(∀ x∈st',x<94)->Fut E (renewM 17 { s with a:=q,n:=n',st:=st' }) (renewM 17 { s with a:=q,n:=n',st:=st' }).a ->
   d.c / 65536<q/\Fut E s s.a/\Sync E (renewM 17 { s with a:=q,n:=n',st:=st' }) (renewD 17 { d with a:=q,n:=n',st:=st' }):=by
  intro n' st' hst h
  have h0:=Fut.renew 17 (mlw (n':=n') hst) (by show q<_; omega) (by show _<=q*_; omega) h
  obtain ⟨h1,h2⟩:=lw h0
  exact ⟨h1,h2,sync_renew hE 17 (mlw hst) (hdm (Nat.le_refl _) hst) nlw (by show q<_; omega) (by show _<=q*_; omega) h⟩
 have fup:∀ {n':Nat} {st':List Nat},s.a-q<0x8000->1<=s.a-q->(∀ x∈st',x<94)->Fut E (renewM 17 { s with a:=s.a-q,c:=s.c+q,n:=n',st:=st' }) (renewM 17 { s with a:=s.a-q,c:=s.c+q,n:=n',st:=st' }).a ->
   ¬ d.c / 65536<q/\Fut E s s.a/\Sync E (renewM 17 { s with a:=s.a-q,c:=s.c+q,n:=n',st:=st' }) (renewD 17 { d with a:=s.a-q,c:=d.c-q*65536,n:=n',st:=st' }):=by
  intro n' st' h3 h4 hst h
  have h0:=Fut.renew 17 (mup (n':=n') hst) h3 (by show _<=(s.a-q)*_; omega) h
  obtain ⟨h1,h2⟩:=up h0
  exact ⟨h1,h2,sync_renew hE 17 (mup hst) (hdm (Nat.sub_le _ _) hst) (nup h1) h3 (by show _<=(s.a-q)*_; omega) h⟩
 by_cases hbx:bit=x % 2
 ·rw [if_pos hbx] at hF ⊢
  by_cases h8:0x8000<=s.a-q
  ·rw [if_pos h8] at hF ⊢
   obtain ⟨h1,h2⟩:=up (a':=s.a-q) (n':=s.n+1) (st':=s.st) hF
   rw [if_neg h1,if_pos h8]
   exact ⟨nup h1,hbx.symm,h2⟩
  ·rw [if_neg h8] at hF ⊢
   by_cases hq:s.a-q<q
   ·rw [if_pos hq] at hF ⊢
    obtain ⟨h1,h2,h3⟩:=flw hM hF
    rw [if_pos h1,if_pos hq]
    exact ⟨h3,hbx.symm,h2⟩
   ·rw [if_neg hq] at hF ⊢
    obtain ⟨h1,h2,h3⟩:=fup (by omega) (by omega) hM hF
    rw [if_neg h1,if_neg h8,if_neg hq]
    exact ⟨h3,hbx.symm,h2⟩
 ·rw [if_neg hbx] at hF ⊢
  by_cases hq:s.a-q<q
  ·rw [if_pos hq] at hF ⊢
   obtain ⟨h1,h2,h3⟩:=fup (by omega) (by omega) hL hF
   rw [if_neg h1,if_neg (by omega),if_pos hq]
   exact ⟨h3,by show 1-x % 2=bit; omega,h2⟩
  ·rw [if_neg hq] at hF ⊢
   obtain ⟨h1,h2,h3⟩:=flw hL hF
   rw [if_pos h1,if_neg hq]
   exact ⟨h3,by show 1-x % 2=bit; omega,h2⟩
end Go.Ar
namespace Go.Ar
structure Stf0 (s:Cod) (A:Nat):Prop where
 bs:∀ j,s.bs[j]? = some 255->∀ y,s.bs[j+1]? = some y->y<=143
 last:s.bs.getLast? = some 255->s.l*2 ^ (27-s.t)+s.c+A<=144*2 ^ (27-s.t)
structure Stf (s:Cod) (A:Nat):Prop extends Stf0 s A where
 ff:s.l=255->s.t<=8/\s.c+A<=589824*2 ^ (8-s.t)
section
variable {s:Cod} {A:Nat}
theorem Stf.part (h:Stf s A) {A' a' c' n':Nat} {st':List Nat} {d':Bool} (hc:c'+A'<=s.c+A):Stf { s with a:=a',c:=c',n:=n',st:=st',done:=d' } A':=by
 refine ⟨⟨h.bs,fun hl=>?_⟩,fun hl=>?_⟩
 ·have:=h.last hl
  show s.l*2 ^ (27-s.t)+c'+A'<=144*2 ^ (27-s.t)
  omega
 ·have:=h.ff hl
  exact ⟨this.1,Nat.le_trans hc this.2⟩
theorem Stf.near (h:Stf s A) {j a':Nat} (hj:j<=s.t) (ht:s.t<=27):Stf { s with a:=a',c:=s.c*2 ^ j,t:=s.t-j } (A*2 ^ j):=by
 refine ⟨⟨h.bs,fun hl=>?_⟩,fun hl=>?_⟩
 ·have h1:=Nat.mul_le_mul_right (2 ^ j) (h.last hl)
  show s.l*2 ^ (27-(s.t-j))+s.c*2 ^ j+A*2 ^ j<=144*2 ^ (27-(s.t-j))
  have e:27-(s.t-j)=27-s.t+j:=by omega
  rw [e,Nat.pow_add,<- Nat.mul_assoc,<- Nat.mul_assoc]
  rw [Nat.add_mul,Nat.add_mul] at h1
  exact h1
 ·obtain ⟨h1,h2⟩:=h.ff hl
  have h3:=Nat.mul_le_mul_right (2 ^ j) h2
  refine ⟨by show s.t-j<=8; omega,?_⟩
  show s.c*2 ^ j+A*2 ^ j<=589824*2 ^ (8-(s.t-j))
  have e:8-(s.t-j)=8-s.t+j:=by omega
  rw [e,Nat.pow_add,<- Nat.mul_assoc,<- Nat.add_mul]
  exact h3
theorem Stf.out (h:Stf s A) (ht:s.t=0) (hc:s.c+A<=2 ^ 28) (hA:1<=A):Stf0 (outM s) A/\(A<=65536->Stf (outM s) A):=by
 have key:∀ l c,(l=s.l/\c=s.c/\(l≠255->c<2 ^ 27)\/l=s.l+1/\s.l≠255/\c+2 ^ 27=s.c)->Stf0 (outTail s l c) A/\(A<=65536->Stf (outTail s l c) A):=by
  intro l c hl
  have hbs:(outTail s l c).bs=s.bs++[l]:=by unfold outTail; split <;> rfl
  have hchain:∀ j,(s.bs++[l])[j]? = some 255->∀ y,(s.bs++[l])[j+1]? = some y->y<=143:=by
   intro j hj y hy
   have hlt:=(List.getElem?_eq_some_iff.1 hy).1
   rw [List.length_append,List.length_singleton] at hlt
   rw [List.getElem?_append_left (by omega)] at hj
   rcases Nat.lt_or_ge (j+1) s.bs.length with h1 | h1
   ·rw [List.getElem?_append_left h1] at hy
    exact h.bs j hj y hy
   ·have e:j+1=s.bs.length:=by omega
    rw [e] at hy
    simp at hy
    subst hy
    have hg:s.bs.getLast? = some 255:=by rw [List.getLast?_eq_getElem?,<- e,Nat.add_sub_cancel]; exact hj
    have:=h.last hg
    rw [ht] at this
    omega
  have hlast:(s.bs++[l]).getLast? = some 255->l=255/\c+A<=144*2 ^ 20:=by
   intro hg
   rw [List.getLast?_concat] at hg
   have hl2:l=255:=Option.some.inj hg
   refine ⟨hl2,?_⟩
   rcases hl with ⟨h1,h2,_⟩ | ⟨h1,h2,h3⟩
   ·have:=(h.ff (by omega)).2
    rw [ht] at this
    omega
   ·omega
  have hclt:c<2 ^ 28:=by omega
  have h0:Stf0 (outTail s l c) A:=by
   refine ⟨by rw [hbs]; exact hchain,fun hg=>?_⟩
   rw [hbs] at hg
   obtain ⟨h1,h2⟩:=hlast hg
   unfold outTail
   rw [if_pos h1]
   show c / 1048576 % 256*2 ^ 20+c % 1048576+A<=144*2 ^ 20
   omega
  refine ⟨h0,fun hA2=>⟨h0,fun hl2=>?_⟩⟩
  by_cases h3:l=255
  ·have:=h0.last (by rw [hbs,List.getLast?_concat,h3])
   rw [hl2] at this
   omega
  ·unfold outTail
   rw [if_neg h3]
   refine ⟨Nat.le_refl _,?_⟩
   show c % 524288+A<=589824
   omega
 unfold outM
 split
 ·rename_i h1
  exact key _ _ (.inr ⟨rfl,h1.1,by omega⟩)
 ·rename_i h1
  exact key _ _ (.inl ⟨rfl,rfl,fun h2=>by
   rcases Nat.lt_or_ge s.c 134217728 with h3 | h3
   ·exact h3
   ·exact absurd ⟨h2,h3⟩ h1⟩)
theorem stf_shift (h:Stf s s.a) (hm:Mid s) (ha:s.a<0x8000) (ha1:1<=s.a):Stf (shiftM s) (shiftM s).a:=by
 have ht1:=hm.t1
 have ht2:=hm.t12
 have hca:=hm.ca
 have h1:=h.near (j:=1) (a':=2*s.a) ht1 (by omega)
 rw [Nat.pow_one,Nat.mul_comm s.c 2,Nat.mul_comm s.a 2] at h1
 unfold shiftM
 simp only []
 split
 ·rename_i h0
  have h0:s.t-1=0:=h0
  have ht:s.t=1:=by omega
  rw [ht] at hca
  rw [(outM_same _).1]
  exact (h1.out h0 (by show 2*s.c+2*s.a<=_; omega) (by omega)).2 (by omega)
 ·exact h1
theorem stf_renew:∀ (k:Nat) {s:Cod},Stf s s.a->Mid s->s.a<0x8000->1<=s.a->Stf (renewM k s) (renewM k s).a
 | 0,s,h,_,_,_=>h
 | k+1,s,h,hm,ha,ha1=>by
  obtain ⟨g1,g2,_⟩:=shiftM_mid hm ha
  unfold renewM
  simp only []
  split
  ·exact stf_shift h hm ha ha1
  ·exact stf_renew k (stf_shift h hm ha ha1) g1 (by omega) (by omega)
theorem stf_put (h:Stf s s.a) (hs:Wf s) (k bit:Nat):Stf (putM s k bit) (putM s k bit).a:=by
 have hx:=getD_lt hs.st k
 have hr:s.st.getD k 0 / 2<47:=by omega
 have hq1:=qOf_pos hr
 have hq2:=qOf_le hr
 have hM:=set_lt hs.st (k:=k) (upM_lt hx)
 have hL:=set_lt hs.st (k:=k) (upL_lt hx)
 have hlo:=hs.lo
 have hhi:=hs.hi
 have hca:=hs.ca
 unfold putM
 simp only []
 generalize s.st.getD k 0=x at *
 generalize qOf (x / 2)=q at *
 have lw:∀ {n':Nat} {st':List Nat},(∀ x∈st',x<94)->Stf (renewM 17 { s with a:=q,n:=n',st:=st' }) (renewM 17 { s with a:=q,n:=n',st:=st' }).a:=fun {n' st'} hst =>
  stf_renew 17 (h.part (c':=s.c) (A':=q) (d':=s.done) (by omega)) ⟨hs.t1,hs.t12,by show s.c+q<2 ^ (28-s.t); omega,hs.l,hs.bs,hst⟩ (by show q<_; omega) hq1
 have up:∀ {n':Nat} {st':List Nat},s.a-q<0x8000->1<=s.a-q->(∀ x∈st',x<94)->Stf (renewM 17 { s with a:=s.a-q,c:=s.c+q,n:=n',st:=st' }) (renewM 17 { s with a:=s.a-q,c:=s.c+q,n:=n',st:=st' }).a:=fun {n' st'} h1 h2 hst =>
  stf_renew 17 (h.part (c':=s.c+q) (A':=s.a-q) (d':=s.done) (by omega)) ⟨hs.t1,hs.t12,by show s.c+q+(s.a-q)<2 ^ (28-s.t); omega,hs.l,hs.bs,hst⟩ h1 h2
 split
 ·split
  ·exact h.part (a':=s.a-q) (c':=s.c+q) (A':=s.a-q) (n':=s.n+1) (st':=s.st) (d':=s.done) (by omega)
  ·split
   ·exact lw hM
   ·exact up (by omega) (by omega) hM
 ·split
  ·exact up (by omega) (by omega) hL
  ·exact lw hL
theorem stf_new (m:Nat):Stf (newC m) (newC m).a:=⟨⟨fun j hj=>by simp [newC] at hj,fun hl=>by simp [newC] at hl⟩,fun hl=>by simp [newC] at hl⟩
theorem stf_flush (h:Stf s s.a) (hs:Wf s):Stf0 (flushM s) 1:=by
 have hca:=hs.ca
 have ht1:=hs.t1
 have ht2:=hs.t12
 have hlo:=hs.lo
 have hf1:s.c<=flushC s/\flushC s+1<=s.c+s.a:=by
  unfold flushC
  simp only []
  split <;> omega
 have h0:Stf { s with c:=flushC s,done:=true } 1:=h.part (a':=s.a) (n':=s.n) (st':=s.st) (by omega)
 have hS:flushM s=flushS (flushS { s with c:=flushC s,done:=true }):=rfl
 rw [hS]
 generalize hS0:({ s with c:=flushC s,done:=true }:Cod)=S0 at h0
 have hS0t:S0.t=s.t:=by rw [<- hS0]
 have hS0c:S0.c=flushC s:=by rw [<- hS0]
 have h1:=h0.near (j:=S0.t) (a':=S0.a) (Nat.le_refl _) (by omega)
 have hp:(2:Nat) ^ (28-s.t)*2 ^ s.t=2 ^ 28:=by rw [<- Nat.pow_add]; congr 1; omega
 have hp12:(2:Nat) ^ s.t<=2 ^ 12:=Nat.pow_le_pow_right (by omega) ht2
 have h2:=(h1.out (Nat.sub_self _) (by
  show S0.c*2 ^ S0.t+1*2 ^ S0.t<=2 ^ 28
  rw [<- Nat.add_mul,hS0c,hS0t,<- hp]
  exact Nat.mul_le_mul_right _ (by omega)) (by have:=Nat.two_pow_pos S0.t; omega)).2 (by rw [hS0t]; omega)
 have e1:outM { S0 with c:=S0.c*2 ^ S0.t,t:=S0.t-S0.t }=flushS S0:=outM_t { S0 with c:=S0.c*2 ^ S0.t } _
 rw [e1] at h2
 obtain ⟨hc1,ht1'⟩:=outM_ct { S0 with c:=S0.c*2 ^ S0.t,t:=S0.t-S0.t }
 rw [e1] at hc1 ht1'
 generalize flushS S0=S1 at *
 rw [hS0t,Nat.one_mul] at h2
 have h3:=h2.near (j:=S1.t) (a':=S1.a) (Nat.le_refl _) (by omega)
 have hp1:(2:Nat) ^ (27-S1.t)*2 ^ S1.t=2 ^ 27:=by rw [<- Nat.pow_add]; congr 1; omega
 have hc1lt:S1.c<2 ^ (27-S1.t):=by rw [hc1]; exact Nat.mod_lt _ (Nat.two_pow_pos _)
 have hp8:(2:Nat) ^ S1.t<=2 ^ 8:=Nat.pow_le_pow_right (by omega) (by omega)
 have hpp:2 ^ s.t*2 ^ S1.t<=2 ^ 12*2 ^ 8:=Nat.mul_le_mul hp12 hp8
 have hpz:0<2 ^ s.t*2 ^ S1.t:=Nat.mul_pos (Nat.two_pow_pos _) (Nat.two_pow_pos _)
 have h4:=(h3.out (Nat.sub_self _) (by
  show S1.c*2 ^ S1.t+2 ^ s.t*2 ^ S1.t<=2 ^ 28
  have:=Nat.mul_lt_mul_of_pos_right hc1lt (Nat.two_pow_pos S1.t)
  omega) hpz).1
 have e2:outM { S1 with c:=S1.c*2 ^ S1.t,t:=S1.t-S1.t }=flushS S1:=outM_t { S1 with c:=S1.c*2 ^ S1.t } _
 rw [e2] at h4
 exact ⟨h4.bs,fun hl=>by have:=h4.last hl; omega⟩
end
theorem codeE_get {F:Cod} (j:Nat) (h:j<F.bs.length):fE (codeE F) j=F.bs.getD j 0/\F.bs[j]? = some (fE (codeE F) j):=by
 unfold fE codeE
 rw [List.getD_eq_getElem?_getD,List.getD_eq_getElem?_getD,List.getElem?_append_left h,List.getElem?_eq_getElem h]
 exact ⟨rfl,rfl⟩
theorem codeE_last {F:Cod}:fE (codeE F) F.bs.length=F.l:=by
 unfold fE codeE
 rw [List.getD_eq_getElem?_getD]; simp
theorem codeE_len {F:Cod}:(codeE F).length=F.bs.length+1:=by simp [codeE]
theorem Stf0.prev {F:Cod} (h:Stf0 F 1) (hl:F.bs.getLast? = some 255):F.l<=143:=by
 have h1:=h.last hl
 have h2:=Nat.two_pow_pos (27-F.t)
 have h3:F.l*2 ^ (27-F.t)<144*2 ^ (27-F.t):=by omega
 have:=Nat.lt_of_mul_lt_mul_right h3
 omega
theorem Stf0.stuffed {F:Cod} (h:Stf0 F 1):Stuffed (codeE F):=by
 intro j hj hlt
 rw [codeE_len] at hlt
 have hjl:j<F.bs.length:=by omega
 have h1:=(codeE_get j hjl).2
 rw [hj] at h1
 rcases Nat.lt_or_ge (j+1) F.bs.length with h2 | h2
 ·exact h.bs j h1 _ (codeE_get (j+1) h2).2
 ·have e:j+1=F.bs.length:=by omega
  rw [e,codeE_last]
  refine h.prev ?_
  rw [List.getLast?_eq_getElem?,<- e,Nat.add_sub_cancel]
  exact h1
theorem bytes_code {F:Cod} (j:Nat):(bytesM F).getD j 255=fE (codeE F) (j+1):=by
 have hc:bytesM F=if F.l=255 then ((codeE F).drop 1).dropLast else (codeE F).drop 1:=rfl
 have hd:((codeE F).drop 1).getD j 255=fE (codeE F) (j+1):=by
  unfold fE
  rw [List.getD_eq_getElem?_getD,List.getD_eq_getElem?_getD,List.getElem?_drop,Nat.add_comm 1 j]
 rw [hc]
 split
 ·rename_i hl
  have hlen:=codeE_len (F:=F)
  have hdl:((codeE F).drop 1).length=F.bs.length:=by rw [List.length_drop,hlen]; omega
  rcases Nat.lt_trichotomy (j+1) F.bs.length with h1 | h1 | h1
  ·rw [<- hd,List.getD_eq_getElem?_getD,List.getD_eq_getElem?_getD,List.dropLast_eq_take,List.getElem?_take_of_lt (by omega)]
  ·have e:fE (codeE F) (j+1)=255:=by rw [h1,codeE_last,hl]
   rw [e,List.getD_eq_getElem?_getD,List.getElem?_eq_none (by rw [List.length_dropLast]; omega)]
   rfl
  ·rw [fE_end _ (by omega),List.getD_eq_getElem?_getD,List.getElem?_eq_none (by rw [List.length_dropLast]; omega)]
   rfl
 ·exact hd
theorem fut_put {E:List Nat} {s:Cod} (hs:Wf s) {k bit:Nat} (hF:Fut E (putM s k bit) (putM s k bit).a):Fut E s s.a:=by
 have hx:=getD_lt hs.st k
 have hr:s.st.getD k 0 / 2<47:=by omega
 have hq1:=qOf_pos hr
 have hq2:=qOf_le hr
 have hM:=set_lt hs.st (k:=k) (upM_lt hx)
 have hL:=set_lt hs.st (k:=k) (upL_lt hx)
 have hlo:=hs.lo
 have hhi:=hs.hi
 have hca:=hs.ca
 have h17:(2:Nat) ^ 17=131072:=rfl
 unfold putM at hF
 simp only [] at hF
 generalize s.st.getD k 0=x at *
 generalize qOf (x / 2)=q at *
 have lw:∀ {n':Nat} {st':List Nat},(∀ x∈st',x<94)->Fut E (renewM 17 { s with a:=q,n:=n',st:=st' }) (renewM 17 { s with a:=q,n:=n',st:=st' }).a->Fut E s s.a:=fun {n' st'} hst h =>
  Fut.part (s:=s) (c':=s.c) (d':=s.done) (Fut.renew 17 (s:={ s with a:=q,n:=n',st:=st' }) ⟨hs.t1,hs.t12,by show s.c+q<2 ^ (28-s.t); omega,hs.l,hs.bs,hst⟩ (by show q<_; omega) (by show _<=q*_; omega) h) (by omega) (by show s.c+q<=_; omega)
 have up:∀ {n':Nat} {st':List Nat},s.a-q<0x8000->1<=s.a-q->(∀ x∈st',x<94)->Fut E (renewM 17 { s with a:=s.a-q,c:=s.c+q,n:=n',st:=st' }) (renewM 17 { s with a:=s.a-q,c:=s.c+q,n:=n',st:=st' }).a->Fut E s s.a:=fun {n' st'} h1 h2 hst h =>
  Fut.part (s:=s) (d':=s.done) (Fut.renew 17 (s:={ s with a:=s.a-q,c:=s.c+q,n:=n',st:=st' }) ⟨hs.t1,hs.t12,by show s.c+q+(s.a-q)<2 ^ (28-s.t); omega,hs.l,hs.bs,hst⟩ h1 (by show _<=(s.a-q)*_; omega) h) (by omega) (by show s.c+q+(s.a-q)<=_; omega)
 split at hF
 ·split at hF
  ·exact Fut.part (s:=s) (A:=s.a-q) (d':=s.done) hF (by omega) (by omega)
  ·split at hF
   ·exact lw hM hF
   ·exact up (by omega) (by omega) hM hF
 ·split at hF
  ·exact up (by omega) (by omega) hL hF
  ·exact lw hL hF
theorem sync_new {E:List Nat} {m:Nat} {b:List Nat} (hE:Stuffed E) (hb:∀ j,b.getD j 255=fE E (j+1)) (hlt:∀ x∈b,x<256) (hF:Fut E (newC m) (newC m).a):Sync E (newC m) (newD b m):=by
 have hX0:fE E 0=0:=by
  have:=hF.hi 0
  have e:lowC (newC m)=0:=by simp [lowC,newC,valL,valR]
  rw [e] at this
  have e2:XE E 0=fE E 0:=rfl
  rw [e2] at this
  simp [newC,BE] at this
  omega
 have hb0:∀ d:Dec,d.b=b->∀ j,byteD d j=fE E (j+1):=fun d e j=>by unfold byteD; rw [e]; exact hb j
 have hl1:lenE E 1=8:=by
  unfold lenE
  rw [if_neg]
  rintro ⟨_,h⟩
  rw [show 1-1=0 from rfl,hX0] at h
  omega
 have hX1:XE E 1=fE E 1:=by
  show XE E 0*2 ^ lenE E 1+fE E 1=_
  have:XE E 0=0:=hX0
  rw [this]; omega
 have hf1:fE E 1<256:=by rw [<- hb0 { a:=0,c:=0,t:=0,n:=0,st:=[],b:=b,i:=0 } rfl 0]; exact byteD_lt (s:={ a:=0,c:=0,t:=0,n:=0,st:=[],b:=b,i:=0 }) hlt 0
 have hf2:fE E 2<256:=by rw [<- hb0 { a:=0,c:=0,t:=0,n:=0,st:=[],b:=b,i:=0 } rfl 1]; exact byteD_lt (s:={ a:=0,c:=0,t:=0,n:=0,st:=[],b:=b,i:=0 }) hlt 1
 have hc0:b.getD 0 255=fE E 1:=hb 0
 generalize hd:({ a:=0x8000,c:=b.getD 0 255*65536,t:=0,n:=0,st:=List.replicate m 0,b:=b,i:=0 }:Dec)=d
 have hdc:d.c=fE E 1*65536:=by rw [<- hd]; show b.getD 0 255*65536=_; rw [hc0]
 have hP:Pos E d 1:=⟨hb0 d (by rw [<- hd]), .inl (by rw [<- hd])⟩
 obtain ⟨q1,q2,q3⟩:=inD_pos hE hP
 have hnew:newD b m = { inD d with c:=(inD d).c*128 % M32,t:=(inD d).t-7 }:=by rw [<- hd]; rfl
 have hst:(inD d).a=0x8000/\(inD d).n=0/\(inD d).st=List.replicate m 0:=by
  rw [<- hd]; unfold inD; split
  ·exact ⟨rfl,rfl,rfl⟩
  ·split <;> exact ⟨rfl,rfl,rfl⟩
 obtain ⟨l1,l2⟩:=lenE_le E 2
 have hXX:XE E 2=fE E 1*2 ^ lenE E 2+fE E 2:=by show XE E 1*_+_=_; rw [hX1]
 have hBB:BE E 2=8+lenE E 2:=by show 0+lenE E 1+lenE E 2=_; rw [hl1]
 have q2:(inD d).t=lenE E 2:=q2
 have q3:(inD d).c=(d.c+fE E 2*2 ^ (16-lenE E 2)) % M32:=q3
 rw [hnew]
 refine ⟨hst.1,hst.2.2,hst.2.1,2,⟨⟨q1.by_,q1.at_⟩,?_,?_⟩⟩
 ·show BE E 2=0+(27-12)+((inD d).t-7)
  omega
 ·have e:lowC (newC m)=0:=by simp [lowC,newC,valL,valR]
  show (inD d).c*128 % M32+lowC (newC m)*65536=XE E 2*2 ^ (16-((inD d).t-7))
  have hM:M32=4294967296:=rfl
  rw [e,q3,q2,hXX,hdc,hM]
  rcases (show lenE E 2=7\/lenE E 2=8 by omega) with h | h <;> rw [h] <;> simp only [show (16-7)=9 from rfl,show 16-8=8 from rfl,show 16-(7-7)=16 from rfl,show 16-(8-7)=15 from rfl] <;> omega
section
variable (k b:Nat->Nat) (m cnt:Nat)
theorem codN_wf (h:∀ i,i<cnt->b i<=1):∀ i,i<=cnt->i<=16777216->Wf (codN k b m i)/\(codN k b m i).n=i
 | 0,_,_=>⟨newC_wf m,rfl⟩
 | i+1,hi,h2=>by
  obtain ⟨g1,g2⟩:=codN_wf h i (by omega) (by omega)
  exact ⟨putM_wf g1 _ _ (by omega),by show (putM _ _ _).n=_; rw [(putM_n _ _ _).1,g2]⟩
theorem codN_stf (h:∀ i,i<cnt->b i<=1):∀ i,i<=cnt->i<=16777216->Stf (codN k b m i) (codN k b m i).a
 | 0,_,_=>stf_new m
 | i+1,hi,h2=>stf_put (codN_stf h i (by omega) (by omega)) (codN_wf k b m cnt h i (by omega) (by omega)).1 _ _
theorem fut_run (h:∀ i,i<cnt->b i<=1) (hc:cnt<=16777216):∀ d,d<=cnt->Fut (codeE (flushM (codN k b m cnt))) (codN k b m (cnt-d)) (codN k b m (cnt-d)).a
 | 0,_=>fut_flush (codN_wf k b m cnt h cnt (Nat.le_refl _) hc).1
 | d+1,hd=>by
  have h1:=fut_run h hc d (by omega)
  have e:cnt-d=(cnt-(d+1))+1:=by omega
  rw [e] at h1
  exact fut_put (codN_wf k b m cnt h _ (by omega) (by omega)).1 h1
theorem decN_wfD {bytes:List Nat} (hb:∀ x∈bytes,x<256):∀ i,i<=16777216->WfD (decN k bytes m i)/\(decN k bytes m i).n=i
 | 0,_=>by
  have hnew:∀ d:Dec,MidD d->d.a=0x8000->d.n=0->WfD { inD d with c:=(inD d).c*128 % M32,t:=(inD d).t-7 }/\({ inD d with c:=(inD d).c*128 % M32,t:=(inD d).t-7 }:Dec).n=0:=fun d hd ha hn=>by
   obtain ⟨i1,i2,i3,i4,i5,i6⟩:=inD_mid hd
   have:=i1.t8
   exact ⟨⟨⟨by show (inD d).t-7<=8; omega,Nat.mod_lt _ (by decide),i1.b,i1.st,i1.i⟩,by show (inD d).n<=_; omega,by show _<=(inD d).a; omega,by show (inD d).a<_; omega⟩,by show (inD d).n=0; omega⟩
  refine hnew { a:=0x8000,c:=bytes.getD 0 255*65536,t:=0,n:=0,st:=List.replicate m 0,b:=bytes,i:=0 } ⟨Nat.zero_le _,?_,hb,fun x hx=>by simp only [List.mem_replicate] at hx; omega,Nat.zero_le _⟩ rfl rfl
  have:=byteD_lt (s:={ a:=0,c:=0,t:=0,n:=0,st:=[],b:=bytes,i:=0 }) hb 0
  have e:byteD { a:=0,c:=0,t:=0,n:=0,st:=[],b:=bytes,i:=0 } 0=bytes.getD 0 255:=rfl
  show bytes.getD 0 255*65536<4294967296
  omega
 | i+1,h=>by
  obtain ⟨g1,g2⟩:=decN_wfD hb i (by omega)
  refine ⟨getD_wf g1 _ (by omega),?_⟩
  have hrn:∀ (j:Nat) (s:Dec),(renewD j s).n=s.n:=by
   have hi:∀ s:Dec,(inD s).n=s.n:=fun s=>by unfold inD; split; rfl; split <;> rfl
   have hs:∀ s:Dec,(shiftD s).n=s.n:=fun s=>by unfold shiftD; simp only []; split; exact hi s; rfl
   intro j
   induction j with
   | zero=>intro s; rfl
   | succ j ih=>intro s; unfold renewD; simp only []; split; exact hs s; exact (ih _).trans (hs s)
  show (getD (decN k bytes m i) (k i)).1.n=i+1
  unfold getD
  simp only []
  split
  ·split <;> (rw [hrn]; exact congrArg (· + 1) g2)
  ·split
   ·exact congrArg (· + 1) g2
   ·split <;> (rw [hrn]; exact congrArg (· + 1) g2)
theorem back_run (h:∀ i,i<cnt->b i<=1) (hc:cnt<=16777216) (hlt:∀ x∈bytesM (flushM (codN k b m cnt)),x<256):∀ i,i<=cnt ->
  Sync (codeE (flushM (codN k b m cnt))) (codN k b m i) (decN k (bytesM (flushM (codN k b m cnt))) m i)
 | 0,_=>by
  have hE:=(stf_flush (codN_stf k b m cnt h cnt (Nat.le_refl _) hc) (codN_wf k b m cnt h cnt (Nat.le_refl _) hc).1).stuffed
  have hF:=fut_run k b m cnt h hc cnt (Nat.le_refl _)
  rw [Nat.sub_self] at hF
  exact sync_new hE bytes_code hlt hF
 | i+1,hi=>by
  have hE:=(stf_flush (codN_stf k b m cnt h cnt (Nat.le_refl _) hc) (codN_wf k b m cnt h cnt (Nat.le_refl _) hc).1).stuffed
  have hF:=fut_run k b m cnt h hc (cnt-(i+1)) (by omega)
  rw [show cnt-(cnt-(i+1))=i+1 by omega] at hF
  exact (sync_put hE (codN_wf k b m cnt h i (by omega) (by omega)).1 (decN_wfD k m hlt i (by omega)).1 (back_run h hc hlt i (by omega)) (h i (by omega)) hF).1
theorem back_bit (h:∀ i,i<cnt->b i<=1) (hc:cnt<=16777216) (hlt:∀ x∈bytesM (flushM (codN k b m cnt)),x<256) {i:Nat} (hi:i<cnt) :
  (getD (decN k (bytesM (flushM (codN k b m cnt))) m i) (k i)).2=b i:=by
 have hE:=(stf_flush (codN_stf k b m cnt h cnt (Nat.le_refl _) hc) (codN_wf k b m cnt h cnt (Nat.le_refl _) hc).1).stuffed
 have hF:=fut_run k b m cnt h hc (cnt-(i+1)) (by omega)
 rw [show cnt-(cnt-(i+1))=i+1 by omega] at hF
 exact (sync_put hE (codN_wf k b m cnt h i (by omega) (by omega)).1 (decN_wfD k m hlt i (by omega)).1 (back_run k b m cnt h hc hlt i (by omega)) (h i hi) hF).2.1
end
end Go.Ar
namespace Go.Bm
open Go Go.Den Go.Den.YtbknfejmdekhpaaGreat
open Go.Ar (idx)
section
variable (G R:Int->Int->Bool) (W m:Nat) (dx dy base:Int)
def kf (i:Nat):Nat:=idx (base+((ctxN G R dx dy ((i % W:Nat):Int) ((i / W:Nat):Int):Nat):Int)) m
def bf (i:Nat):Nat:=(G ((i % W:Nat):Int) ((i / W:Nat):Int)).toNat
def partG (i:Nat):Int->Int->Bool:=fun x y=>decide (0<=x/\x<W/\0<=y/\y.toNat*W+x.toNat<i) && G x y
variable (hG:∀ x y:Int,¬ (0<=x/\x<W/\0<=y)->G x y=false)
include hG
theorem partG_eq {i:Nat} {x y:Int} (h:0<=x->x<W->0<=y->y.toNat*W+x.toNat<i):partG G W i x y=G x y:=by
 unfold partG
 by_cases h1:0<=x/\x<W/\0<=y
 ·rw [decide_eq_true ⟨h1.1,h1.2.1,h1.2.2,h h1.1 h1.2.1 h1.2.2⟩,Bool.true_and]
 ·rw [hG _ _ h1,Bool.and_false]
theorem part_ctx {x y:Nat} (hx:x<W):ctxN (partG G W (y*W+x)) R dx dy x y=ctxN G R dx dy x y:=by
 have up:∀ a:Int,a<=x+1->partG G W (y*W+x) a ((y:Int) + -1)=G a ((y:Int) + -1):=fun a ha=>partG_eq G W hG fun h1 h2 h3=>by
  obtain ⟨yy,rfl⟩:∃ yy,y=yy+1:=⟨y-1,by omega⟩
  have e:(((yy+1:Nat):Int) + -1).toNat=yy:=by omega
  rw [e,Nat.add_mul,Nat.one_mul]
  omega
 have e1:=up ((x:Int)-1) (by omega)
 have e2:=up (x:Int) (by omega)
 have e3:=up ((x:Int)+1) (by omega)
 have e4:partG G W (y*W+x) ((x:Int)-1) ((y:Int)+0)=G ((x:Int)-1) ((y:Int)+0):=partG_eq G W hG fun h1 h2 h3=>by
  have e:((y:Int)+0).toNat=y:=by omega
  rw [e]
  omega
 unfold ctxN ownB
 rw [e1,e2,e3,e4]
theorem partG_next {x y:Nat} (hx:x<W):upd (partG G W (y*W+x)) (x:Int) (y:Int) (G (x:Int) (y:Int))=partG G W (y*W+x+1):=by
 have _:=hG
 funext a b
 unfold upd
 by_cases h1:a=x/\b=y
 ·obtain ⟨rfl,rfl⟩:=h1
  rw [if_pos ⟨rfl,rfl⟩]
  unfold partG
  rw [decide_eq_true ⟨by omega,by omega,by omega,by simp⟩,Bool.true_and]
 ·rw [if_neg h1]
  unfold partG
  congr 1
  rw [decide_eq_decide]
  constructor
  ·rintro ⟨h2,h3,h4,h5⟩; exact ⟨h2,h3,h4,by omega⟩
  ·rintro ⟨h2,h3,h4,h5⟩
   refine ⟨h2,h3,h4,?_⟩
   rcases Nat.lt_or_ge (b.toNat*W+a.toNat) (y*W+x) with h6 | h6
   ·exact h6
   ·exfalso
    have h7:b.toNat*W+a.toNat=y*W+x:=by omega
    have:=idx_inj (wd:=W) (c:=a.toNat) (c':=x) (y:=b.toNat) (y':=y) (by omega) hx h7
    exact h1 ⟨by omega,by omega⟩
end
end Go.Bm
namespace Go.Ar
open Go Go.Den Go.Den.YtbknfejmdekhpaaGreat
end Go.Ar
namespace Go.Bm
open Go Go.Den Go.Den.YtbknfejmdekhpaaGreat
theorem getP_out (ws:List Nat) (W X:Nat) (x y:Int) (h:¬ (0<=x/\x<W/\0<=y)):getP ws W X x y=false:=by
 unfold getP
 rw [decide_eq_false (by omega),Bool.false_and]
theorem getP_ext {W X:Nat} {a b:List Nat} (ha:a.length=X*wds W) (hb:b.length=X*wds W) (wa:W64 a) (wb:W64 b) (za:PadZ W X a) (zb:PadZ W X b) (h:getP a W X=getP b W X):a=b:=by
 refine pix_ext ha hb wa wb fun y hy x hx=>?_
 rcases Nat.lt_or_ge x W with h1 | h1
 ·have:=congrFun (congrFun h (x:Int)) (y:Int)
  unfold getP at this
  rw [decide_eq_true (by omega),Bool.true_and,Bool.true_and,Int.toNat_natCast,Int.toNat_natCast] at this
  exact this
 ·rw [za y hy x h1 hx,zb y hy x h1 hx]
theorem part_all (ws:List Nat) (W X:Nat):partG (getP ws W X) W (X*W)=getP ws W X:=by
 funext x y
 unfold partG
 by_cases h:0<=x/\0<=y/\x<W/\y<X
 ·have h2:y.toNat*W+x.toNat<X*W:=by
   have:(y.toNat+1)*W<=X*W:=Nat.mul_le_mul_right _ (by omega)
   rw [Nat.add_mul,Nat.one_mul] at this
   omega
  rw [decide_eq_true ⟨h.1,h.2.2.1,h.2.1,h2⟩,Bool.true_and]
 ·unfold getP
  rw [decide_eq_false h,Bool.false_and,Bool.and_false]
end Go.Bm
namespace Go.Bm
open Go Go.Den Go.Den.YtbknfejmdekhpaaGreat
abbrev Sp:=Int × Int × Int
def spanL:Nat->List Sp
 | 0=>[(-2,-2,2),(-1,-3,3),(0,-4,-1)]
 | 1=>[(-2,-1,2),(-1,-2,3),(0,-3,-1)]
 | 2=>[(-2,-1,1),(-1,-2,2),(0,-2,-1)]
 | _=>[(-1,-3,2),(0,-4,-1)]
def spanW (s:Sp):Nat:=(s.2.2-s.2.1+1).toNat
def spl (s:Sp) (k:Nat):List (Int × Int):=(List.range k).map fun (j:Nat)=>(s.2.1+(j:Int),s.1)
def plcs (l:List Sp):List (Int × Int):=l.flatMap fun s=>spl s (spanW s)
def pb (G:Int->Int->Bool) (x y:Int) (l:List (Int × Int)):List Bool:=l.map fun p=>G (x+p.1) (y+p.2)
def gctx (t:Nat) (G:Int->Int->Bool) (x y:Int):Nat:=bitsN 0 (pb G x y (plcs (spanL t)))
def gsize (t:Nat):Nat:=2 ^ (plcs (spanL t)).length
section
variable {hB:Heap} {K:VK} {Kp:PK}
end
end Go.Bm
namespace Go.Bm
open Go Go.Den Go.Den.YtbknfejmdekhpaaGreat
structure Wn where
 s:Sp
 b:Nat
theorem bits0_lt (l:List Bool):bitsN 0 l<2 ^ l.length:=by
 have:=bitsN_lt l 0 0 (by decide)
 rwa [Nat.zero_add] at this
theorem spl_len (s:Sp) (k:Nat):(spl s k).length=k:=by simp [spl]
theorem pb_len (G:Int->Int->Bool) (x y:Int) (l:List (Int × Int)):(pb G x y l).length=l.length:=by simp [pb]
def WinOk (G:Int->Int->Bool) (x y:Int) (S:List Sp) (i:Nat) (wl:List Wn):Prop:=wl.length=S.length/\∀ j s,S[j]? = some s->∃ b,wl[j]? = some ⟨s,b⟩/\b<2 ^ spanW s /\
 (j<i->b=bitsN 0 (pb G x y (spl s (spanW s))))/\(i<=j->b % 2 ^ (spanW s-1)=bitsN 0 (pb G x y (spl s (spanW s-1))))
theorem WinOk.step {G:Int->Int->Bool} {x y:Int} {S:List Sp} {i:Nat} {wl:List Wn} {s:Sp} (h:WinOk G x y S i wl) (hs:S[i]? = some s):WinOk G x y S (i+1) (wl.set i ⟨s,bitsN 0 (pb G x y (spl s (spanW s)))⟩):=by
 refine ⟨by rw [List.length_set]; exact h.1,fun j s' hj=>?_⟩
 by_cases hji:i=j
 ·subst hji
  obtain rfl:s=s':=Option.some.inj (hs.symm.trans hj)
  have hi:i<wl.length:=by rw [h.1]; exact (List.getElem?_eq_some_iff.1 hs).1
  refine ⟨_,List.getElem?_set_self hi,?_,fun _=>rfl,fun h=>by omega⟩
  have:=bits0_lt (pb G x y (spl s (spanW s)))
  rwa [pb_len,spl_len] at this
 ·obtain ⟨b,h1,h2,h3,h4⟩:=h.2 j s' hj
  exact ⟨b,by rw [List.getElem?_set_ne hji]; exact h1,h2,fun h5=>h3 (by omega),fun h5=>h4 (by omega)⟩
section
variable {σ:Type}
def rowG (t:Nat) (step:σ->Nat->Bool->(Bool × σ) ⊕ (Int × σ)) (y:Nat):Nat->(Int->Int->Bool) × σ->((Int->Int->Bool) × σ) ⊕ (Int × σ)
 | 0,g => .inl g
 | k+1,g=>match rowG t step y k g with
  | .inr e => .inr e
  | .inl (G,s)=>match step s (gctx t G (k:Int) (y:Int)) (G (k:Int) (y:Int)) with
   | .inl (bit,s') => .inl (upd G (k:Int) (y:Int) bit,s')
   | .inr e => .inr e
def sameB (G:Int->Int->Bool) (W y:Nat):Bool:=(List.range W).all fun x=>G (x:Int) (y:Int) == G (x:Int) ((y:Int)-1)
def copyRow (G:Int->Int->Bool) (y:Nat):Int->Int->Bool:=fun a b=>if b=(y:Int)/\y≠0 then G a ((y:Int)-1) else G a b
def runG (W t:Nat) (skip:Bool) (step:σ->Nat->Bool->(Bool × σ) ⊕ (Int × σ)):Nat->(Int->Int->Bool) × σ->((Int->Int->Bool) × σ) ⊕ (Int × σ)
 | 0,g => .inl g
 | y+1,g=>match runG W t skip step y g with
  | .inr e => .inr e
  | .inl (G,s)=>match skip with
   | false=>rowG t step y W (G,s)
   | true=>match step s (gsize t) (sameB G W y) with
    | .inr e => .inr e
    | .inl (true,s') => .inl (copyRow G y,s')
    | .inl (false,s')=>rowG t step y W (G,s')
end
end Go.Bm
namespace Go.Bm
open Go Go.Den Go.Den.YtbknfejmdekhpaaGreat
end Go.Bm
namespace Go.Bm
open Go Go.Den Go.Den.YtbknfejmdekhpaaGreat
end Go.Bm
namespace Go.Bm
open Go Go.Den Go.Den.YtbknfejmdekhpaaGreat
end Go.Bm
namespace Go.Bm
open Go Go.Den Go.Den.YtbknfejmdekhpaaGreat
open Go.Ar (Cod Dec codL decL BOk)
def codS (p q:Nat) (s:Cod) (M:List Ent):Prop:=∃ r rest,M=codL p q r s rest
def decS (p q:Nat) (e:Ent) (bp:Option Addr) (bc:Nat) (s:Dec) (M:List Ent):Prop:=BOk e bp s.b/\M=decL p q e bp bc s
theorem codS.w {p q:Nat}:∀ s M,codS p q s M->M.all Ent.w=true:=fun s M ⟨r,rest,h⟩=>by subst h; rfl
theorem decS.w {p q:Nat} {e:Ent} {bp:Option Addr} {bc:Nat}:∀ s M,decS p q e bp bc s M->M.all Ent.w=true:=fun s M ⟨h1,h⟩=>by subst h; simp [decL,Go.Ar.decE,h1.1]
end Go.Bm
namespace Go.Bm
open Go Go.Den Go.Den.YtbknfejmdekhpaaGreat
open Go.Ar (CodOk newC flushM bytesM)
section
variable {σ:Type} {step:σ->Nat->Bool->(Bool × σ) ⊕ (Int × σ)}
end
def GEncR (w b:Int) (ws:List Nat) (template:Int) (skip:Bool) (e:Int) (bs:List Nat):Prop :=
 ¬ (0<=template/\template<4)/\e=60/\bs=[] \/
 (0<=template/\template<4)/\¬ MayP w b ws/\e=62/\bs=[] \/
 (0<=template/\template<4)/\MayP w b ws/\e=0/\∃ G s' k,runG w.toNat template.toNat skip (stepP (gsize template.toNat+1) 0) b.toNat (getP ws w.toNat b.toNat,newC (gsize template.toNat+1)) = .inl (G,s')/\k<=b.toNat*(w.toNat+1)/\CodOk (gsize template.toNat+1) k s'/\bs=bytesM (flushM s')
section
variable {hB:Heap} {w b template:Int} {skip:Bool} {K:VK} {Kp:PK}
end
end Go.Bm
namespace Go.Ar
open Go Go.Den Go.Den.YtbknfejmdekhpaaGreat
section
variable {h:Heap} {A:RP} {e:Ent} {bp:Option Addr} {bc:Nat} {s:Dec} {F:List Nat} {h0:Heap}
end
end Go.Ar
namespace Go.Bm
open Go Go.Den Go.Den.YtbknfejmdekhpaaGreat
section
variable {hB:Heap} {w b template:Int} {skip:Bool} {K:VK} {Kp:PK}
end
end Go.Bm
namespace Go.Bm
open Go Go.Den Go.Den.YtbknfejmdekhpaaGreat
section
variable (G R:Int->Int->Bool) (W m:Nat) (dx dy base:Int) {k b:Nat->Nat} {n0 cnt:Nat}
end
end Go.Bm
namespace Go.Bm
open Go Go.Den Go.Den.YtbknfejmdekhpaaGreat
end Go.Bm
namespace Go.Bm
open Go Go.Den Go.Den.YtbknfejmdekhpaaGreat
end Go.Bm
namespace Go.Bm
open Go Go.Den Go.Den.YtbknfejmdekhpaaGreat
section
variable {hB:Heap} {w b template:Int} {skip:Bool} {K:VK} {Kp:PK}
end
end Go.Bm
namespace Go.Bm
open Go Go.Den Go.Den.YtbknfejmdekhpaaGreat
open Go.Ar (Cod Dec CodOk codN decN newC_ok bytesM flushM putM getD)
def kOf (L:List (Nat × Nat)) (i:Nat):Nat:=(L[i]?.getD (0,0)).1
def bOf (L:List (Nat × Nat)) (i:Nat):Nat:=(L[i]?.getD (0,0)).2
def cdL (m:Nat) (L:List (Nat × Nat)):Cod:=codN (kOf L) (bOf L) m L.length
theorem codN_cong {k b k' b':Nat->Nat} {m:Nat}:∀ {n:Nat},(∀ j,j<n->k j=k' j/\b j=b' j)->codN k b m n=codN k' b' m n
 | 0,_=>rfl
 | n+1,h=>by
  have:=codN_cong (m:=m) (n:=n) fun j hj=>h j (by omega)
  unfold codN
  rw [this,(h n (by omega)).1,(h n (by omega)).2]
theorem cdL_snoc (m:Nat) (L:List (Nat × Nat)) (d:Nat × Nat):cdL m (L++[d])=putM (cdL m L) d.1 d.2:=by
 have e:codN (kOf (L++[d])) (bOf (L++[d])) m L.length=cdL m L:=codN_cong fun j hj=>by
  unfold kOf bOf
  rw [List.getElem?_append_left hj]
  exact ⟨rfl,rfl⟩
 unfold cdL at e ⊢
 rw [List.length_append,List.length_singleton,codN,e]
 unfold kOf bOf
 rw [List.getElem?_append_right (Nat.le_refl _),Nat.sub_self]
 rfl
theorem cdL_ok {m:Nat} {L:List (Nat × Nat)} (h:L.length<=16777216):CodOk m L.length (cdL m L):=by
 have key:∀ i,i<=16777216->CodOk m i (codN (kOf L) (bOf L) m i):=by
  intro i
  induction i with
  | zero=>exact fun _=>newC_ok m
  | succ i ih=>exact fun hi=>Go.Ar.putM_ok (ih (by omega)) _ _ (by omega)
 exact key _ h
theorem bOf_le {L:List (Nat × Nat)} (h:∀ d∈L,d.2<=1):∀ i,i<L.length->bOf L i<=1:=fun i hi=>by
 unfold bOf
 rw [List.getElem?_eq_getElem hi]
 exact h _ (List.getElem_mem hi)
theorem kOf_at {L A B:List (Nat × Nat)} {d:Nat × Nat} (h:L=A++d::B):kOf L A.length=d.1/\bOf L A.length=d.2:=by
 subst h
 unfold kOf bOf
 rw [List.getElem?_append_right (Nat.le_refl _),Nat.sub_self]
 exact ⟨rfl,rfl⟩
structure Walk (L:List (Nat × Nat)) (D:Nat->Dec):Prop where
 step:∀ i,i<L.length->getD (D i) (kOf L i)=(D (i+1),bOf L i)
theorem Walk.at {L A B:List (Nat × Nat)} {D:Nat->Dec} {d:Nat × Nat} (h:Walk L D) (e:L=A++d::B):getD (D A.length) d.1=(D (A.length+1),d.2):=by
 obtain ⟨h1,h2⟩:=kOf_at e
 have:=h.step A.length (by rw [e]; simp)
 rw [h1,h2] at this
 exact this
theorem walk_of {m:Nat} {L:List (Nat × Nat)} (h1:∀ d∈L,d.2<=1) (hc:L.length<=16777216):Walk L (decN (kOf L) (bytesM (flushM (cdL m L))) m):=by
 refine ⟨fun i hi=>Prod.ext rfl ?_⟩
 have hlt:∀ x∈bytesM (flushM (cdL m L)),x<256:=Go.Ar.flushM_lt (cdL_ok hc).wf
 exact Go.Ar.back_bit (kOf L) (bOf L) m L.length (bOf_le h1) hc hlt hi
end Go.Bm
namespace Go.Bm
open Go Go.Den Go.Den.YtbknfejmdekhpaaGreat
open Go.Ar (Dec)
section
variable (G:Int->Int->Bool) (W m t:Nat) (skip:Bool) (base:Int)
variable (hG:∀ x y:Int,¬ (0<=x/\x<W/\0<=y)->G x y=false)
include hG
variable {L:List (Nat × Nat)} {D:Nat->Dec} (hW:Walk L D)
include hW
end
end Go.Bm
namespace Go.Bm
open Go Go.Den Go.Den.YtbknfejmdekhpaaGreat
theorem GEncR.bytes {w b template:Int} {skip:Bool} {ws:List Nat} {e:Int} {bs:List Nat} (h:GEncR w b ws template skip e bs):(∀ x∈bs,x<256)/\bs.length<140737488351300:=by
 rcases h with ⟨_,_,rfl⟩ | ⟨_,_,_,rfl⟩ | ⟨_,_,_,G,s',k,_,_,hok,rfl⟩
 ·exact ⟨(fun x hx=>by cases hx),by decide⟩
 ·exact ⟨(fun x hx=>by cases hx),by decide⟩
 ·refine ⟨Go.Ar.flushM_lt hok.wf,?_⟩
  have h1:=Go.Ar.flushM_len s'
  have h2:=hok.wf.len
  have h3:=hok.wf.n
  omega
end Go.Bm
namespace Go.Ar
open Go Go.Den Go.Den.YtbknfejmdekhpaaGreat
end Go.Ar
namespace Go.Ar
open Go Go.Den Go.Den.YtbknfejmdekhpaaGreat
end Go.Ar
namespace Go.Bm
open Go Go.Den Go.Den.YtbknfejmdekhpaaGreat
end Go.Bm
namespace Go.Bm
open Go Go.Den Go.Den.YtbknfejmdekhpaaGreat
theorem ptr_at {q:Option Addr} {a:Addr} {K:Addr->Prop} (h:q=some a) (H:K a):ptr q K:=by subst h; exact H
structure It7 where
 w:Int
 b:Int
 ws:List Nat
 tt:Int
 sk:Bool
def It7.W (t:It7):Nat:=t.w.toNat
def It7.X (t:It7):Nat:=t.b.toNat
def It7.t (t:It7):Nat:=t.tt.toNat
def It7.G (t:It7):Int->Int->Bool:=getP t.ws t.W t.X
def It7.area (t:It7):Nat:=t.X*t.W
end Go.Bm
namespace Go.Den.YtbknfejmdekhpaaGreat
open Go Go.Den
def bits_NewReader (C:CallP) (b:Option Addr) (bn:Nat) (bc:Nat) (h:Heap) (K:VK) (Kp:PK):Prop :=
appC h T_uint8 1 1 [.int .u8 0] none (0) (0) b (bn) fun q_1 q_1n q_1c h_2 =>
newC h_2 [.slice q_1 q_1n q_1c, .int .i64 0] T_bits_Reader fun r_3 h_4 =>
K (.pointer (some ⟨r_3,0,none⟩)) h_4
def bits_Reader_Left (C:CallP) (r:Option Addr) (h:Heap) (K:VK) (Kp:PK):Prop :=
ptr r fun a_1 =>
ptr r fun a_2 =>
ldS h (a_1.add 0) fun x_3 x_3n x_3c =>
bindI (IntKind.i64.wrap ((8:Int)*(x_3n:Int))) fun z_4 =>
ldI h (a_2.add 1) .i64 fun x_5 =>
bindI (IntKind.i64.wrap (z_4-x_5)) fun z_6 =>
K (.int .i64 z_6) h
def bits_NewWriter (C:CallP) (most:Int) (h:Heap) (K:VK) (Kp:PK):Prop :=
bcase (decide (most<(0:Int))) (
K (.tuple #[.pointer none, .int .i64 10]) h) <|
bcase (decide (most > (67108864:Int))) (
K (.tuple #[.pointer none, .int .i64 10]) h) <|
bindI (IntKind.i64.wrap ((8:Int)*most)) fun z_1 =>
newC h [.slice none 0 0, .int .i64 0, .int .i64 z_1] T_bits_Writer fun r_2 h_3 =>
K (.tuple #[.pointer (some ⟨r_2,0,none⟩), .int .i64 0]) h_3
def bits_Writer_Var (C:CallP) (w:Option Addr) (n:Int) (h:Heap) (K:VK) (Kp:PK):Prop :=
bindI (shrI .u64 n (7:Int)) fun z_1 =>
∃ J_2:Nat->List Value->Heap->Prop,(∃ n_4,J_2 n_4 [.int .i64 1, .int .u64 z_1] h)/\∀ (n_4:Nat) (h_5:Heap) (u_6:Nat->Value) (groups_7:Int) (x_8:Int),J_2 n_4 [.int .i64 groups_7, .int .u64 x_8] h_5->(
bcase (decide (x_8 > (0:Int))) (
bindI (IntKind.i64.wrap (groups_7+(1:Int))) fun z_9 =>
bindI (shrI .u64 x_8 (7:Int)) fun z_10 =>
∃ m_3,m_3<n_4/\J_2 m_3 [.int .i64 z_9, .int .u64 z_10] h_5) <|
ptr w fun a_11 =>
bindI (IntKind.i64.wrap ((8:Int)*groups_7)) fun z_12 =>
ptr w fun a_13 =>
ldI h_5 (a_11.add 1) .i64 fun x_14 =>
bindI (IntKind.i64.wrap (x_14+z_12)) fun z_15 =>
ldI h_5 (a_13.add 2) .i64 fun x_16 =>
bcase (decide (z_15 > x_16)) (
K (.int .i64 13) h_5) <|
∃ J_17:Nat->List Value->Heap->Prop,(∃ n_19,J_17 n_19 [.int .i64 0] h_5)/\∀ (n_19:Nat) (h_20:Heap) (u_21:Nat->Value) (x_22:Int),J_17 n_19 [.int .i64 x_22] h_20->(
bcase (decide (x_22<groups_7)) (
bindI (IntKind.i64.wrap ((7:Int)*x_22)) fun z_23 =>
needs (0<=z_23) <|
bindI (shrI .u64 n z_23) fun z_24 =>
bindI (IntKind.u8.wrap z_24) fun z_25 =>
bindI (bitI .and .u8 z_25 (127:Int)) fun z_26 =>
∃ K_27:List Value->Heap->Prop,(
bindI (IntKind.i64.wrap (groups_7-(1:Int))) fun z_30 =>
bcase (decide (x_22<z_30)) (
bindI (bitI .or .u8 z_26 (128:Int)) fun z_31 =>
K_27 [.int .u8 z_31] h_20) <|
K_27 [.int .u8 z_26] h_20)/\∀ (h_28:Heap) (u_29:Nat->Value) (g_32:Int),K_27 [.int .u8 g_32] h_28->(
ptr w fun a_33 =>
ptr w fun a_34 =>
ldS h_28 (a_33.add 0) fun x_35 x_35n x_35c =>
ldI h_28 (a_34.add 1) .i64 fun x_36 =>
C F_bits_lay_uint8 #[.slice x_35 x_35n x_35c, .int .i64 x_36, .int .u8 g_32, .int .i64 8] h_28 (fun v_37 h_38 =>
∃ (r_39:Option Addr) (r_39n:Nat) (r_39c:Nat),v_37 = .slice r_39 r_39n r_39c/\(
ptr w fun a_40 =>
stV h_38 (a_40.add 0) (.slice r_39 r_39n r_39c) fun h_41 =>
ptr w fun a_42 =>
ldI h_41 (a_42.add 1) .i64 fun x_43 =>
bindI (IntKind.i64.wrap (x_43+(8:Int))) fun z_44 =>
ptr w fun a_45 =>
stV h_41 (a_45.add 1) (.int .i64 z_44) fun h_46 =>
bindI (IntKind.i64.wrap (x_22+(1:Int))) fun z_47 =>
∃ m_18,m_18<n_19/\J_17 m_18 [.int .i64 z_47] h_46)) (Kp))) <|
K (.int .i64 0) h_20))
def bits_Writer_Put (C:CallP) (w:Option Addr) (n:Int) (width:Int) (h:Heap) (K:VK) (Kp:PK):Prop :=
bcase (decide (width<(0:Int))) (
K (.int .i64 11) h) <|
bcase (decide (width > (64:Int))) (
K (.int .i64 11) h) <|
∃ K_1:List Value->Heap->Prop,(
bcase (decide (width<(64:Int))) (
needs (0<=width) <|
bindI (shrI .u64 n width) fun z_4 =>
K_1 [.bool (z_4 != (0:Int))] h) <|
K_1 [.bool false] h)/\∀ (h_2:Heap) (u_3:Nat->Value) (x_5:Bool),K_1 [.bool x_5] h_2->(
bcase x_5 (
K (.int .i64 12) h_2) <|
ptr w fun a_6 =>
ptr w fun a_7 =>
ldI h_2 (a_6.add 1) .i64 fun x_8 =>
bindI (IntKind.i64.wrap (x_8+width)) fun z_9 =>
ldI h_2 (a_7.add 2) .i64 fun x_10 =>
bcase (decide (z_9 > x_10)) (
K (.int .i64 13) h_2) <|
ptr w fun a_11 =>
ptr w fun a_12 =>
ldS h_2 (a_11.add 0) fun x_13 x_13n x_13c =>
ldI h_2 (a_12.add 1) .i64 fun x_14 =>
C F_bits_lay_uint64 #[.slice x_13 x_13n x_13c, .int .i64 x_14, .int .u64 n, .int .i64 width] h_2 (fun v_15 h_16 =>
∃ (r_17:Option Addr) (r_17n:Nat) (r_17c:Nat),v_15 = .slice r_17 r_17n r_17c/\(
ptr w fun a_18 =>
stV h_16 (a_18.add 0) (.slice r_17 r_17n r_17c) fun h_19 =>
ptr w fun a_20 =>
ldI h_19 (a_20.add 1) .i64 fun x_21 =>
bindI (IntKind.i64.wrap (x_21+width)) fun z_22 =>
ptr w fun a_23 =>
stV h_19 (a_23.add 1) (.int .i64 z_22) fun h_24 =>
K (.int .i64 0) h_24)) (Kp))
def bits_Writer_Bytes (C:CallP) (w:Option Addr) (h:Heap) (K:VK) (Kp:PK):Prop :=
ptr w fun a_1 =>
ldS h (a_1.add 0) fun x_2 x_2n x_2c =>
appC h T_uint8 1 1 [.int .u8 0] none (0) (0) x_2 (x_2n) fun q_3 q_3n q_3c h_4 =>
K (.slice q_3 q_3n q_3c) h_4
def bits_Reader_Take (C:CallP) (r:Option Addr) (width:Int) (h:Heap) (K:VK) (Kp:PK):Prop :=
bcase (decide (width<(0:Int))) (
K (.tuple #[.int .u64 0, .int .i64 11]) h) <|
bcase (decide (width > (64:Int))) (
K (.tuple #[.int .u64 0, .int .i64 11]) h) <|
C F_bits_Reader_Left #[.pointer r] h (fun v_1 h_2 =>
∃ (r_3:Int),v_1 = .int .i64 r_3/\(
bcase (decide (width > r_3)) (
K (.tuple #[.int .u64 0, .int .i64 14]) h_2) <|
ptr r fun a_4 =>
ldI h_2 (a_4.add 1) .i64 fun x_5 =>
bindI (IntKind.i64.wrap (x_5+width)) fun z_6 =>
ptr r fun a_7 =>
stV h_2 (a_7.add 1) (.int .i64 z_6) fun h_8 =>
ptr r fun a_9 =>
ptr r fun a_10 =>
ldS h_8 (a_9.add 0) fun x_11 x_11n x_11c =>
ldI h_8 (a_10.add 1) .i64 fun x_12 =>
bindI (IntKind.i64.wrap (x_12-width)) fun z_13 =>
C F_bits_told_uint64 #[.slice x_11 x_11n x_11c, .int .i64 z_13, .int .i64 width] h_8 (fun v_14 h_15 =>
∃ (r_16:Int),v_14 = .int .u64 r_16/\(
K (.tuple #[.int .u64 r_16, .int .i64 0]) h_15)) (Kp))) (Kp)
def bits_lay_uint8 (C:CallP) (b:Option Addr) (bn:Nat) (bc:Nat) (atv:Int) (n:Int) (width:Int) (h:Heap) (K:VK) (Kp:PK):Prop :=
bindI (IntKind.i64.wrap (width-(1:Int))) fun z_1 =>
∃ J_2:Nat->List Value->Heap->Prop,(∃ n_4,J_2 n_4 [.slice b bn bc, .int .i64 atv, .int .i64 z_1] h)/\∀ (n_4:Nat) (h_5:Heap) (u_6:Nat->Value) (b_7:Option Addr) (b_7n:Nat) (b_7c:Nat) (at_8:Int) (i_9:Int),J_2 n_4 [.slice b_7 b_7n b_7c, .int .i64 at_8, .int .i64 i_9] h_5->(
bcase (decide (i_9≥(0:Int))) (
∃ K_10:List Value->Heap->Prop,(
bindI (at_8.tmod (8:Int)) fun z_13 =>
bcase (z_13 == (0:Int)) (
newC h_5 [.int .u8 0] T_uint8 fun r_14 h_15 =>
appC h_15 T_uint8 1 1 [.int .u8 0] b_7 (b_7n) (b_7c) (some ⟨r_14,0,none⟩) (1) fun q_16 q_16n q_16c h_17 =>
K_10 [.slice q_16 q_16n q_16c] h_17) <|
K_10 [.slice b_7 b_7n b_7c] h_5)/\∀ (h_11:Heap) (u_12:Nat->Value) (b_18:Option Addr) (b_18n:Nat) (b_18c:Nat),K_10 [.slice b_18 b_18n b_18c] h_11->(
bindI (IntKind.i64.wrap (at_8.tdiv (8:Int))) fun z_19 =>
needs (0<=z_19/\z_19<(b_18n:Int)) <|
ptr b_18 fun a_20 =>
needs (0<=i_9) <|
bindI (shrI .u8 n i_9) fun z_21 =>
bindI (bitI .and .u8 z_21 (1:Int)) fun z_22 =>
bindI (at_8.tmod (8:Int)) fun z_23 =>
bindI (IntKind.i64.wrap ((7:Int)-z_23)) fun z_24 =>
needs (0<=z_24) <|
bindI (shlI .u8 z_22 z_24) fun z_25 =>
ldI h_11 (a_20.add (z_19.toNat*1)) .u8 fun x_26 =>
bindI (bitI .or .u8 x_26 z_25) fun z_27 =>
needs (0<=z_19/\z_19<(b_18n:Int)) <|
ptr b_18 fun a_28 =>
stV h_11 (a_28.add (z_19.toNat*1)) (.int .u8 z_27) fun h_29 =>
bindI (IntKind.i64.wrap (at_8+(1:Int))) fun z_30 =>
bindI (IntKind.i64.wrap (i_9-(1:Int))) fun z_31 =>
∃ m_3,m_3<n_4/\J_2 m_3 [.slice b_18 b_18n b_18c, .int .i64 z_30, .int .i64 z_31] h_29)) <|
K (.slice b_7 b_7n b_7c) h_5)
def bits_lay_uint64 (C:CallP) (b:Option Addr) (bn:Nat) (bc:Nat) (atv:Int) (n:Int) (width:Int) (h:Heap) (K:VK) (Kp:PK):Prop :=
bindI (IntKind.i64.wrap (width-(1:Int))) fun z_1 =>
∃ J_2:Nat->List Value->Heap->Prop,(∃ n_4,J_2 n_4 [.slice b bn bc, .int .i64 atv, .int .i64 z_1] h)/\∀ (n_4:Nat) (h_5:Heap) (u_6:Nat->Value) (b_7:Option Addr) (b_7n:Nat) (b_7c:Nat) (at_8:Int) (i_9:Int),J_2 n_4 [.slice b_7 b_7n b_7c, .int .i64 at_8, .int .i64 i_9] h_5->(
bcase (decide (i_9≥(0:Int))) (
∃ K_10:List Value->Heap->Prop,(
bindI (at_8.tmod (8:Int)) fun z_13 =>
bcase (z_13 == (0:Int)) (
newC h_5 [.int .u8 0] T_uint8 fun r_14 h_15 =>
appC h_15 T_uint8 1 1 [.int .u8 0] b_7 (b_7n) (b_7c) (some ⟨r_14,0,none⟩) (1) fun q_16 q_16n q_16c h_17 =>
K_10 [.slice q_16 q_16n q_16c] h_17) <|
K_10 [.slice b_7 b_7n b_7c] h_5)/\∀ (h_11:Heap) (u_12:Nat->Value) (b_18:Option Addr) (b_18n:Nat) (b_18c:Nat),K_10 [.slice b_18 b_18n b_18c] h_11->(
bindI (IntKind.i64.wrap (at_8.tdiv (8:Int))) fun z_19 =>
needs (0<=z_19/\z_19<(b_18n:Int)) <|
ptr b_18 fun a_20 =>
needs (0<=i_9) <|
bindI (shrI .u64 n i_9) fun z_21 =>
bindI (bitI .and .u64 z_21 (1:Int)) fun z_22 =>
bindI (IntKind.u8.wrap z_22) fun z_23 =>
bindI (at_8.tmod (8:Int)) fun z_24 =>
bindI (IntKind.i64.wrap ((7:Int)-z_24)) fun z_25 =>
needs (0<=z_25) <|
bindI (shlI .u8 z_23 z_25) fun z_26 =>
ldI h_11 (a_20.add (z_19.toNat*1)) .u8 fun x_27 =>
bindI (bitI .or .u8 x_27 z_26) fun z_28 =>
needs (0<=z_19/\z_19<(b_18n:Int)) <|
ptr b_18 fun a_29 =>
stV h_11 (a_29.add (z_19.toNat*1)) (.int .u8 z_28) fun h_30 =>
bindI (IntKind.i64.wrap (at_8+(1:Int))) fun z_31 =>
bindI (IntKind.i64.wrap (i_9-(1:Int))) fun z_32 =>
∃ m_3,m_3<n_4/\J_2 m_3 [.slice b_18 b_18n b_18c, .int .i64 z_31, .int .i64 z_32] h_30)) <|
K (.slice b_7 b_7n b_7c) h_5)
def bits_Reader_Var (C:CallP) (D:CallDP) (r:Option Addr) (h:Heap) (K:VK) (Kp:PK):Prop :=
newC h [.pointer r] T_p_bits_Reader fun r_1 h_2 =>
newC h_2 [.int .u64 0] T_uint64 fun r_3 h_4 =>
newC h_4 [.int .i64 0] T_api_Errno fun r_5 h_6 =>
ldP h_6 (⟨r_1,0,none⟩:Addr) fun x_7 =>
ptr x_7 fun a_8 =>
ldI h_6 (a_8.add 1) .i64 fun x_9 =>
newC h_6 [.int .i64 0] T_int fun r_10 h_11 =>
stV h_11 (⟨r_10,0,none⟩:Addr) (.int .i64 x_9) fun h_12 =>
∃ J_13:Nat->List Value->Heap->Prop,(∃ n_15,J_13 n_15 [.int .i64 0] h_12)/\∀ (n_15:Nat) (h_16:Heap) (u_17:Nat->Value) (shift_18:Int),J_13 n_15 [.int .i64 shift_18] h_16->(
ldP h_16 (⟨r_1,0,none⟩:Addr) fun x_19 =>
C F_bits_Reader_group #[.pointer x_19] h_16 (fun v_20 h_21 =>
∃ (r_22:Int),∃ (r_23:Bool),v_20 = .tuple #[.int .u8 r_22, .bool r_23]/\(
∃ K_24:List Value->Heap->Prop,(
bcase (!r_23) (
stV h_21 (⟨r_3,0,none⟩:Addr) (.int .u64 0) fun h_27 =>
stV h_27 (⟨r_5,0,none⟩:Addr) (.int .i64 14) fun h_28 =>
leaveD D (fun h_29 =>
ldI h_29 (⟨r_3,0,none⟩:Addr) .u64 fun r_30 =>
ldI h_29 (⟨r_5,0,none⟩:Addr) .i64 fun r_31 =>
K (.tuple #[.int .u64 r_30, .int .i64 r_31]) h_29) Kp [{ target := .fn (.func F_bits_Reader_Var_c1) #[.pointer (some ⟨r_5,0,none⟩), .pointer (some ⟨r_10,0,none⟩), .pointer (some ⟨r_3,0,none⟩), .pointer (some ⟨r_1,0,none⟩)],args:=#[] }] .returning h_28) <|
bcase (shift_18 == (63:Int)) (
bcase (decide (r_22 > (1:Int))) (
bcase (decide (r_22 > (1:Int))) (
stV h_21 (⟨r_3,0,none⟩:Addr) (.int .u64 0) fun h_32 =>
stV h_32 (⟨r_5,0,none⟩:Addr) (.int .i64 16) fun h_33 =>
leaveD D (fun h_34 =>
ldI h_34 (⟨r_3,0,none⟩:Addr) .u64 fun r_35 =>
ldI h_34 (⟨r_5,0,none⟩:Addr) .i64 fun r_36 =>
K (.tuple #[.int .u64 r_35, .int .i64 r_36]) h_34) Kp [{ target := .fn (.func F_bits_Reader_Var_c1) #[.pointer (some ⟨r_5,0,none⟩), .pointer (some ⟨r_10,0,none⟩), .pointer (some ⟨r_3,0,none⟩), .pointer (some ⟨r_1,0,none⟩)],args:=#[] }] .returning h_33) <|
K_24 [] h_21) <|
bcase (decide (shift_18 > (0:Int))) (
bcase (r_22 == (0:Int)) (
stV h_21 (⟨r_3,0,none⟩:Addr) (.int .u64 0) fun h_37 =>
stV h_37 (⟨r_5,0,none⟩:Addr) (.int .i64 16) fun h_38 =>
leaveD D (fun h_39 =>
ldI h_39 (⟨r_3,0,none⟩:Addr) .u64 fun r_40 =>
ldI h_39 (⟨r_5,0,none⟩:Addr) .i64 fun r_41 =>
K (.tuple #[.int .u64 r_40, .int .i64 r_41]) h_39) Kp [{ target := .fn (.func F_bits_Reader_Var_c1) #[.pointer (some ⟨r_5,0,none⟩), .pointer (some ⟨r_10,0,none⟩), .pointer (some ⟨r_3,0,none⟩), .pointer (some ⟨r_1,0,none⟩)],args:=#[] }] .returning h_38) <|
K_24 [] h_21) <|
K_24 [] h_21) <|
bcase (decide (shift_18 > (0:Int))) (
bcase (r_22 == (0:Int)) (
stV h_21 (⟨r_3,0,none⟩:Addr) (.int .u64 0) fun h_42 =>
stV h_42 (⟨r_5,0,none⟩:Addr) (.int .i64 16) fun h_43 =>
leaveD D (fun h_44 =>
ldI h_44 (⟨r_3,0,none⟩:Addr) .u64 fun r_45 =>
ldI h_44 (⟨r_5,0,none⟩:Addr) .i64 fun r_46 =>
K (.tuple #[.int .u64 r_45, .int .i64 r_46]) h_44) Kp [{ target := .fn (.func F_bits_Reader_Var_c1) #[.pointer (some ⟨r_5,0,none⟩), .pointer (some ⟨r_10,0,none⟩), .pointer (some ⟨r_3,0,none⟩), .pointer (some ⟨r_1,0,none⟩)],args:=#[] }] .returning h_43) <|
K_24 [] h_21) <|
K_24 [] h_21)/\∀ (h_25:Heap) (u_26:Nat->Value) ,K_24 [] h_25->(
bindI (bitI .and .u8 r_22 (127:Int)) fun z_47 =>
bindI (IntKind.u64.wrap z_47) fun z_48 =>
needs (0<=shift_18) <|
bindI (shlI .u64 z_48 shift_18) fun z_49 =>
ldI h_25 (⟨r_3,0,none⟩:Addr) .u64 fun x_50 =>
bindI (bitI .or .u64 x_50 z_49) fun z_51 =>
stV h_25 (⟨r_3,0,none⟩:Addr) (.int .u64 z_51) fun h_52 =>
bcase (decide (r_22<(128:Int))) (
ldI h_52 (⟨r_3,0,none⟩:Addr) .u64 fun x_53 =>
stV h_52 (⟨r_3,0,none⟩:Addr) (.int .u64 x_53) fun h_54 =>
stV h_54 (⟨r_5,0,none⟩:Addr) (.int .i64 0) fun h_55 =>
leaveD D (fun h_56 =>
ldI h_56 (⟨r_3,0,none⟩:Addr) .u64 fun r_57 =>
ldI h_56 (⟨r_5,0,none⟩:Addr) .i64 fun r_58 =>
K (.tuple #[.int .u64 r_57, .int .i64 r_58]) h_56) Kp [{ target := .fn (.func F_bits_Reader_Var_c1) #[.pointer (some ⟨r_5,0,none⟩), .pointer (some ⟨r_10,0,none⟩), .pointer (some ⟨r_3,0,none⟩), .pointer (some ⟨r_1,0,none⟩)],args:=#[] }] .returning h_55) <|
bindI (IntKind.i64.wrap (shift_18+(7:Int))) fun z_59 =>
∃ m_14,m_14<n_15/\J_13 m_14 [.int .i64 z_59] h_52))) (fun c_63 h_64=>leaveD D (fun h_60 =>
ldI h_60 (⟨r_3,0,none⟩:Addr) .u64 fun r_61 =>
ldI h_60 (⟨r_5,0,none⟩:Addr) .i64 fun r_62 =>
K (.tuple #[.int .u64 r_61, .int .i64 r_62]) h_60) Kp [{ target := .fn (.func F_bits_Reader_Var_c1) #[.pointer (some ⟨r_5,0,none⟩), .pointer (some ⟨r_10,0,none⟩), .pointer (some ⟨r_3,0,none⟩), .pointer (some ⟨r_1,0,none⟩)],args:=#[] }] (.panicking c_63) h_64))
def bits_told_uint64 (C:CallP) (b:Option Addr) (bn:Nat) (bc:Nat) (atv:Int) (width:Int) (h:Heap) (K:VK) (Kp:PK):Prop :=
∃ J_1:Nat->List Value->Heap->Prop,(∃ n_3,J_1 n_3 [.int .u64 0, .int .i64 0] h)/\∀ (n_3:Nat) (h_4:Heap) (u_5:Nat->Value) (n_6:Int) (x_7:Int),J_1 n_3 [.int .u64 n_6, .int .i64 x_7] h_4->(
bcase (decide (x_7<width)) (
bindI (shlI .u64 n_6 (1:Int)) fun z_8 =>
bindI (IntKind.i64.wrap (atv+x_7)) fun z_9 =>
bindI (IntKind.i64.wrap (z_9.tdiv (8:Int))) fun z_10 =>
needs (0<=z_10/\z_10<(bn:Int)) <|
ptr b fun a_11 =>
ldI h_4 (a_11.add (z_10.toNat*1)) .u8 fun x_12 =>
bindI (IntKind.i64.wrap (atv+x_7)) fun z_13 =>
bindI (z_13.tmod (8:Int)) fun z_14 =>
bindI (IntKind.i64.wrap ((7:Int)-z_14)) fun z_15 =>
needs (0<=z_15) <|
bindI (shrI .u8 x_12 z_15) fun z_16 =>
bindI (bitI .and .u8 z_16 (1:Int)) fun z_17 =>
bindI (IntKind.u64.wrap z_17) fun z_18 =>
bindI (bitI .or .u64 z_8 z_18) fun z_19 =>
bindI (IntKind.i64.wrap (x_7+(1:Int))) fun z_20 =>
∃ m_2,m_2<n_3/\J_1 m_2 [.int .u64 z_19, .int .i64 z_20] h_4) <|
K (.int .u64 n_6) h_4)
def bits_Reader_Var_c1 (C:CallP) (cap0:Addr) (cap1:Addr) (cap2:Addr) (cap3:Addr) (h:Heap) (K:VK) (Kp:PK):Prop :=
ldI h cap0 .i64 fun x_1 =>
bcase (x_1 != (0:Int)) (
ldP h cap3 fun x_2 =>
ldI h cap1 .i64 fun x_3 =>
stV h cap2 (.int .u64 0) fun h_4 =>
ptr x_2 fun a_5 =>
stV h_4 (a_5.add 1) (.int .i64 x_3) fun h_6 =>
K (.tuple #[]) h_6) <|
K (.tuple #[]) h
def bits_Reader_group (C:CallP) (r:Option Addr) (h:Heap) (K:VK) (Kp:PK):Prop :=
C F_bits_Reader_Left #[.pointer r] h (fun v_1 h_2 =>
∃ (r_3:Int),v_1 = .int .i64 r_3/\(
bcase (decide (r_3<(8:Int))) (
K (.tuple #[.int .u8 0, .bool false]) h_2) <|
ptr r fun a_4 =>
ldI h_2 (a_4.add 1) .i64 fun x_5 =>
bindI (IntKind.i64.wrap (x_5+(8:Int))) fun z_6 =>
ptr r fun a_7 =>
stV h_2 (a_7.add 1) (.int .i64 z_6) fun h_8 =>
ptr r fun a_9 =>
ptr r fun a_10 =>
ldS h_8 (a_9.add 0) fun x_11 x_11n x_11c =>
ldI h_8 (a_10.add 1) .i64 fun x_12 =>
bindI (IntKind.i64.wrap (x_12-(8:Int))) fun z_13 =>
C F_bits_told_uint8 #[.slice x_11 x_11n x_11c, .int .i64 z_13, .int .i64 8] h_8 (fun v_14 h_15 =>
∃ (r_16:Int),v_14 = .int .u8 r_16/\(
K (.tuple #[.int .u8 r_16, .bool true]) h_15)) (Kp))) (Kp)
def bits_told_uint8 (C:CallP) (b:Option Addr) (bn:Nat) (bc:Nat) (atv:Int) (width:Int) (h:Heap) (K:VK) (Kp:PK):Prop :=
∃ J_1:Nat->List Value->Heap->Prop,(∃ n_3,J_1 n_3 [.int .u8 0, .int .i64 0] h)/\∀ (n_3:Nat) (h_4:Heap) (u_5:Nat->Value) (n_6:Int) (x_7:Int),J_1 n_3 [.int .u8 n_6, .int .i64 x_7] h_4->(
bcase (decide (x_7<width)) (
bindI (shlI .u8 n_6 (1:Int)) fun z_8 =>
bindI (IntKind.i64.wrap (atv+x_7)) fun z_9 =>
bindI (IntKind.i64.wrap (z_9.tdiv (8:Int))) fun z_10 =>
needs (0<=z_10/\z_10<(bn:Int)) <|
ptr b fun a_11 =>
ldI h_4 (a_11.add (z_10.toNat*1)) .u8 fun x_12 =>
bindI (IntKind.i64.wrap (atv+x_7)) fun z_13 =>
bindI (z_13.tmod (8:Int)) fun z_14 =>
bindI (IntKind.i64.wrap ((7:Int)-z_14)) fun z_15 =>
needs (0<=z_15) <|
bindI (shrI .u8 x_12 z_15) fun z_16 =>
bindI (bitI .and .u8 z_16 (1:Int)) fun z_17 =>
bindI (bitI .or .u8 z_8 z_17) fun z_18 =>
bindI (IntKind.i64.wrap (x_7+(1:Int))) fun z_19 =>
∃ m_2,m_2<n_3/\J_1 m_2 [.int .u8 z_18, .int .i64 z_19] h_4) <|
K (.int .u8 n_6) h_4)
end Go.Den.YtbknfejmdekhpaaGreat
namespace Go.Den.YtbknfejmdekhpaaGreat
open Go Go.Den
theorem call_bits_NewReader {b:Option Addr} {bn:Nat} {bc:Nat} {h:Heap} {K:VK} {Kp:PK} (H:bits_NewReader (CallsHP Go.Proofs.Tryz.prog) b bn bc h K Kp):CallsHP Go.Proofs.Tryz.prog F_bits_NewReader #[.slice b bn bc] h K Kp :=
 callsHP_ofE (Hints.mk (fun i=>none) (fun i=>none) (fun i=>none) []) (by kernel_rfl) Go.Proofs.Tryz.func78 (by kernel_rfl) (fun C=>bits_NewReader C b bn bc h K Kp) (fun C=>by kernel_rfl) H
theorem call_bits_Reader_Left {r:Option Addr} {h:Heap} {K:VK} {Kp:PK} (H:bits_Reader_Left (CallsHP Go.Proofs.Tryz.prog) r h K Kp):CallsHP Go.Proofs.Tryz.prog F_bits_Reader_Left #[.pointer r] h K Kp :=
 callsHP_ofE (Hints.mk (fun i=>bif Nat.beq i 1 then some ([], .take 0 <| .take 1 <| .take 2 <| .take 6 <| .take 7 <| .take 8 <| .take 3 <| .take 4 <| .take 5 <| .take 9 <| .take 10 <| .take 11 <| .done) else (none)) (fun i=>none) (fun i=>none) []) (by kernel_rfl) Go.Proofs.Tryz.func81 (by kernel_rfl) (fun C=>bits_Reader_Left C r h K Kp) (fun C=>by kernel_rfl) H
theorem call_bits_NewWriter {most:Int} {h:Heap} {K:VK} {Kp:PK} (H:bits_NewWriter (CallsHP Go.Proofs.Tryz.prog) most h K Kp):CallsHP Go.Proofs.Tryz.prog F_bits_NewWriter #[.int .i64 most] h K Kp :=
 callsHP_ofE (Hints.mk (fun i=>none) (fun i=>none) (fun i=>none) []) (by kernel_rfl) Go.Proofs.Tryz.func97 (by kernel_rfl) (fun C=>bits_NewWriter C most h K Kp) (fun C=>by kernel_rfl) H
theorem call_bits_Writer_Var {w:Option Addr} {n:Int} {h:Heap} {K:VK} {Kp:PK} (H:bits_Writer_Var (CallsHP Go.Proofs.Tryz.prog) w n h K Kp):CallsHP Go.Proofs.Tryz.prog F_bits_Writer_Var #[.pointer w, .int .u64 n] h K Kp :=
 callsHP_ofE (Hints.mk (fun i=>bif Nat.beq i 6 then some ([], .take 0 <| .take 1 <| .take 2 <| .take 4 <| .take 5 <| .take 7 <| .take 8 <| .take 9 <| .take 3 <| .take 6 <| .take 10 <| .take 11 <| .done) else (bif Nat.beq i 14 then some ([10,13], .take 0 <| .take 1 <| .take 2 <| .take 3 <| .take 5 <| .take 6 <| .take 7 <| .take 9 <| .take 4 <| .take 8 <| .bar 10 [13] <| .take 11 <| .take 12 <| .bar 13 [] <| .done) else (none))) (fun i=>bif Nat.beq i 3 then some ([(5, .int .i64),(6, .int .u64)],129120) else (bif Nat.beq i 9 then some ([(30, .int .i64)],73786976293764465024) else (none))) (fun i=>bif Nat.beq i 14 then some ([(8, .int .u8)],34634616275200) else (none)) []) (by kernel_rfl) Go.Proofs.Tryz.func98 (by kernel_rfl) (fun C=>bits_Writer_Var C w n h K Kp) (fun C=>by kernel_rfl) H
theorem call_bits_Writer_Put {w:Option Addr} {n:Int} {width:Int} {h:Heap} {K:VK} {Kp:PK} (H:bits_Writer_Put (CallsHP Go.Proofs.Tryz.prog) w n width h K Kp):CallsHP Go.Proofs.Tryz.prog F_bits_Writer_Put #[.pointer w, .int .u64 n, .int .i64 width] h K Kp :=
 callsHP_ofE (Hints.mk (fun i=>bif Nat.beq i 5 then some ([], .take 0 <| .take 1 <| .take 2 <| .take 4 <| .take 6 <| .take 7 <| .take 8 <| .take 3 <| .take 5 <| .take 9 <| .take 10 <| .take 11 <| .done) else (bif Nat.beq i 7 then some ([11,14], .take 0 <| .take 1 <| .take 2 <| .take 3 <| .take 5 <| .take 6 <| .take 7 <| .take 9 <| .take 10 <| .take 4 <| .take 8 <| .bar 11 [14] <| .take 12 <| .take 13 <| .bar 14 [] <| .done) else (none))) (fun i=>none) (fun i=>bif Nat.beq i 4 then some ([(14, .bool)],8372224) else (none)) []) (by kernel_rfl) Go.Proofs.Tryz.func99 (by kernel_rfl) (fun C=>bits_Writer_Put C w n width h K Kp) (fun C=>by kernel_rfl) H
theorem call_bits_Writer_Bytes {w:Option Addr} {h:Heap} {K:VK} {Kp:PK} (H:bits_Writer_Bytes (CallsHP Go.Proofs.Tryz.prog) w h K Kp):CallsHP Go.Proofs.Tryz.prog F_bits_Writer_Bytes #[.pointer w] h K Kp :=
 callsHP_ofE (Hints.mk (fun i=>none) (fun i=>none) (fun i=>none) []) (by kernel_rfl) Go.Proofs.Tryz.func100 (by kernel_rfl) (fun C=>bits_Writer_Bytes C w h K Kp) (fun C=>by kernel_rfl) H
theorem call_bits_Reader_Take {r:Option Addr} {width:Int} {h:Heap} {K:VK} {Kp:PK} (H:bits_Reader_Take (CallsHP Go.Proofs.Tryz.prog) r width h K Kp):CallsHP Go.Proofs.Tryz.prog F_bits_Reader_Take #[.pointer r, .int .i64 width] h K Kp :=
 callsHP_ofE (Hints.mk (fun i=>bif Nat.beq i 6 then some ([11], .take 0 <| .take 1 <| .take 2 <| .take 4 <| .take 5 <| .take 6 <| .take 8 <| .take 10 <| .take 3 <| .take 7 <| .take 9 <| .bar 11 [] <| .take 12 <| .take 13 <| .done) else (none)) (fun i=>none) (fun i=>none) []) (by kernel_rfl) Go.Proofs.Tryz.func121 (by kernel_rfl) (fun C=>bits_Reader_Take C r width h K Kp) (fun C=>by kernel_rfl) H
theorem call_bits_lay_uint8 {b:Option Addr} {bn:Nat} {bc:Nat} {atv:Int} {n:Int} {width:Int} {h:Heap} {K:VK} {Kp:PK} (H:bits_lay_uint8 (CallsHP Go.Proofs.Tryz.prog) b bn bc atv n width h K Kp):CallsHP Go.Proofs.Tryz.prog F_bits_lay_uint8 #[.slice b bn bc, .int .i64 atv, .int .u8 n, .int .i64 width] h K Kp :=
 callsHP_ofE (Hints.mk (fun i=>bif Nat.beq i 6 then some ([15], .take 0 <| .take 1 <| .take 2 <| .take 3 <| .take 5 <| .take 6 <| .take 7 <| .take 8 <| .take 9 <| .take 10 <| .take 11 <| .take 12 <| .take 4 <| .take 13 <| .take 14 <| .bar 15 [] <| .done) else (none)) (fun i=>bif Nat.beq i 2 then some ([(0, .slc),(1, .int .i64),(9, .int .i64)],549755810307) else (none)) (fun i=>bif Nat.beq i 6 then some ([(0, .slc)],4128769) else (none)) []) (by kernel_rfl) Go.Proofs.Tryz.func150 (by kernel_rfl) (fun C=>bits_lay_uint8 C b bn bc atv n width h K Kp) (fun C=>by kernel_rfl) H
theorem call_bits_lay_uint64 {b:Option Addr} {bn:Nat} {bc:Nat} {atv:Int} {n:Int} {width:Int} {h:Heap} {K:VK} {Kp:PK} (H:bits_lay_uint64 (CallsHP Go.Proofs.Tryz.prog) b bn bc atv n width h K Kp):CallsHP Go.Proofs.Tryz.prog F_bits_lay_uint64 #[.slice b bn bc, .int .i64 atv, .int .u64 n, .int .i64 width] h K Kp :=
 callsHP_ofE (Hints.mk (fun i=>bif Nat.beq i 6 then some ([16], .take 0 <| .take 1 <| .take 2 <| .take 3 <| .take 5 <| .take 6 <| .take 7 <| .take 8 <| .take 9 <| .take 10 <| .take 11 <| .take 12 <| .take 13 <| .take 4 <| .take 14 <| .take 15 <| .bar 16 [] <| .done) else (none)) (fun i=>bif Nat.beq i 2 then some ([(0, .slc),(1, .int .i64),(9, .int .i64)],1099511624195) else (none)) (fun i=>bif Nat.beq i 6 then some ([(0, .slc)],4128769) else (none)) []) (by kernel_rfl) Go.Proofs.Tryz.func151 (by kernel_rfl) (fun C=>bits_lay_uint64 C b bn bc atv n width h K Kp) (fun C=>by kernel_rfl) H
noncomputable def hints_bits_Reader_Var:Hints:=Hints.mk (fun i=>bif Nat.beq i 11 then some ([7], .take 1 <| .take 2 <| .take 3 <| .take 4 <| .take 5 <| .take 0 <| .take 6 <| .bar 7 [] <| .done) else (none))
 (fun i=>bif Nat.beq i 5 then some ([(5, .int .i64)],70368744169696) else (none))
 (fun i=>bif Nat.beq i 11 then some ([],68718428160) else (none)) []
theorem eq_bits_Reader_Var (C:CallP) (D:CallDP) (r:Option Addr) (h:Heap) (K:VK) (Kp:PK) :
  fnDD Go.Proofs.Tryz.prog C D hints_bits_Reader_Var Go.Proofs.Tryz.f165 [.pointer r] h K Kp=bits_Reader_Var C D r h K Kp:=by kernel_rfl
theorem call_bits_Reader_Var {r:Option Addr} {h:Heap} {K:VK} {Kp:PK} (H:bits_Reader_Var (CallsHP Go.Proofs.Tryz.prog) (DCalls Go.Proofs.Tryz.prog) r h K Kp):CallsHP Go.Proofs.Tryz.prog F_bits_Reader_Var #[.pointer r] h K Kp :=
 callsHP_ofD hints_bits_Reader_Var (by kernel_rfl) Go.Proofs.Tryz.func165 (by kernel_rfl) (by rw [eq_bits_Reader_Var]; exact H)
theorem call_bits_told_uint64 {b:Option Addr} {bn:Nat} {bc:Nat} {atv:Int} {width:Int} {h:Heap} {K:VK} {Kp:PK} (H:bits_told_uint64 (CallsHP Go.Proofs.Tryz.prog) b bn bc atv width h K Kp):CallsHP Go.Proofs.Tryz.prog F_bits_told_uint64 #[.slice b bn bc, .int .i64 atv, .int .i64 width] h K Kp :=
 callsHP_ofE (Hints.mk (fun i=>none) (fun i=>bif Nat.beq i 3 then some ([(7, .int .u64),(10, .int .i64)],4294966656) else (none)) (fun i=>none) []) (by kernel_rfl) Go.Proofs.Tryz.func166 (by kernel_rfl) (fun C=>bits_told_uint64 C b bn bc atv width h K Kp) (fun C=>by kernel_rfl) H
noncomputable def hints_bits_Reader_Var_c1:Hints:=Hints.mk (fun i=>none)
 (fun i=>none)
 (fun i=>none) []
theorem eq_bits_Reader_Var_c1 (C:CallP) (cap0:Addr) (cap1:Addr) (cap2:Addr) (cap3:Addr) (h:Heap) (K:VK) (Kp:PK) :
  fnD Go.Proofs.Tryz.prog C hints_bits_Reader_Var_c1 Go.Proofs.Tryz.f192 [.pointer (some cap0), .pointer (some cap1), .pointer (some cap2), .pointer (some cap3)] h K Kp=bits_Reader_Var_c1 C cap0 cap1 cap2 cap3 h K Kp:=by kernel_rfl
theorem call_bits_Reader_group {r:Option Addr} {h:Heap} {K:VK} {Kp:PK} (H:bits_Reader_group (CallsHP Go.Proofs.Tryz.prog) r h K Kp):CallsHP Go.Proofs.Tryz.prog F_bits_Reader_group #[.pointer r] h K Kp :=
 callsHP_ofE (Hints.mk (fun i=>bif Nat.beq i 4 then some ([9], .take 0 <| .take 1 <| .take 2 <| .take 4 <| .take 5 <| .take 6 <| .take 3 <| .take 7 <| .take 8 <| .bar 9 [] <| .take 10 <| .take 11 <| .done) else (none)) (fun i=>none) (fun i=>none) []) (by kernel_rfl) Go.Proofs.Tryz.func193 (by kernel_rfl) (fun C=>bits_Reader_group C r h K Kp) (fun C=>by kernel_rfl) H
theorem call_bits_told_uint8 {b:Option Addr} {bn:Nat} {bc:Nat} {atv:Int} {width:Int} {h:Heap} {K:VK} {Kp:PK} (H:bits_told_uint8 (CallsHP Go.Proofs.Tryz.prog) b bn bc atv width h K Kp):CallsHP Go.Proofs.Tryz.prog F_bits_told_uint8 #[.slice b bn bc, .int .i64 atv, .int .i64 width] h K Kp :=
 callsHP_ofE (Hints.mk (fun i=>none) (fun i=>bif Nat.beq i 3 then some ([(7, .int .u8),(10, .int .i64)],2147483008) else (none)) (fun i=>none) []) (by kernel_rfl) Go.Proofs.Tryz.func207 (by kernel_rfl) (fun C=>bits_told_uint8 C b bn bc atv width h K Kp) (fun C=>by kernel_rfl) H
end Go.Den.YtbknfejmdekhpaaGreat
namespace Go.Bm
open Go Go.Den Go.Den.YtbknfejmdekhpaaGreat
open Go.Ar (u8s u8s_length)
theorem take_snocG {α:Type} {l:List α} {i:Nat} {x:α} (h:l[i]? = some x):l.take (i+1)=l.take i++[x]:=by
 obtain ⟨hi,he⟩:=List.getElem?_eq_some_iff.1 h
 rw [List.take_succ_eq_append_getElem hi,he]
def grpF:Nat->Nat->List Nat
 | 0,n=>[n % 128]
 | f+1,n=>if n<128 then [n] else (n % 128+128)::grpF f (n / 128)
def grp (n:Nat):List Nat:=grpF 10 n
def preG (d n:Nat):List Nat:=(List.range d).map fun i=>n / 128 ^ i % 128+128
theorem grpF_eq:∀ (d f n:Nat),d<f->n / 128 ^ d<128->(∀ j,j<d->128<=n / 128 ^ j)->grpF f n=preG d n++[n / 128 ^ d]
 | 0,f+1,n,_,h,_=>by
  rw [Nat.pow_zero,Nat.div_one] at h ⊢
  show (if n<128 then [n] else _)=_
  rw [if_pos h]
  rfl
 | d+1,f+1,n,hf,h,hj=>by
  have h0:=hj 0 (by omega)
  rw [Nat.pow_zero,Nat.div_one] at h0
  have hd:∀ k,n / 128 / 128 ^ k=n / 128 ^ (k+1):=fun k=>by rw [Nat.div_div_eq_div_mul,Nat.pow_succ,Nat.mul_comm]
  have ih:=grpF_eq d f (n / 128) (by omega) (by rw [hd]; exact h) (fun j hjd=>by rw [hd]; exact hj (j+1) (by omega))
  show (if n<128 then [n] else (n % 128+128)::grpF f (n / 128))=_
  rw [if_neg (by omega),ih,hd]
  have e:preG (d+1) n=(n % 128+128)::preG d (n / 128):=by
   unfold preG
   rw [List.range_succ_eq_map,List.map_cons,List.map_map,Nat.pow_zero,Nat.div_one]
   congr 1
   refine List.map_congr_left fun i _=>?_
   show n / 128 ^ (i+1) % 128+128=_
   rw [hd]
  rw [e]
  rfl
theorem grpF_lt:∀ (f n:Nat),∀ x∈grpF f n,x<256
 | 0,n=>fun x hx=>by rw [List.mem_singleton.1 hx]; omega
 | f+1,n=>fun x hx=>by
  have hx:x∈(if n<128 then [n] else (n % 128+128)::grpF f (n / 128)):=hx
  split at hx
  ·rw [List.mem_singleton.1 hx]; omega
  ·rcases List.mem_cons.1 hx with rfl | hx
   ·omega
   ·exact grpF_lt f _ x hx
theorem grpF_len:∀ (f n:Nat),1<=(grpF f n).length/\(grpF f n).length<=f+1
 | 0,n=>⟨Nat.le_refl _,Nat.le_refl _⟩
 | f+1,n=>by
  show 1<=(if n<128 then [n] else (n % 128+128)::grpF f (n / 128)).length/\(if n<128 then [n] else (n % 128+128)::grpF f (n / 128)).length<=_
  have:=grpF_len f (n / 128)
  split
  ·exact ⟨Nat.le_refl _,by show 1<=_; omega⟩
  ·rw [List.length_cons]; omega
theorem grp_lt {n:Nat}:∀ x∈grp n,x<256:=grpF_lt 10 n
theorem grp_len (n:Nat):1<=(grp n).length/\(grp n).length<=11:=grpF_len 10 n
def bitsUp (x j:Nat):Nat:=x / 2 ^ (8-j)*2 ^ (8-j)
def upOk:Bool:=(List.range 256).all fun x=>(List.range 8).all fun j=>Nat.beq (bitsUp x j ||| (x / 2 ^ (7-j) % 2)*2 ^ (7-j)) (bitsUp x (j+1)) && Nat.blt (bitsUp x j) 256 && Nat.blt ((x / 2 ^ (7-j) % 2)*2 ^ (7-j)) 256
theorem upOk_t:upOk=true:=by kernel_rfl
theorem up_step {x j:Nat} (hx:x<256) (hj:j<8):bitsUp x j ||| (x / 2 ^ (7-j) % 2)*2 ^ (7-j)=bitsUp x (j+1)/\bitsUp x j<256/\(x / 2 ^ (7-j) % 2)*2 ^ (7-j)<256:=by
 have h:=List.all_eq_true.1 (List.all_eq_true.1 upOk_t x (List.mem_range.2 hx)) j (List.mem_range.2 hj)
 simp only [Bool.and_eq_true] at h
 exact ⟨Nat.eq_of_beq_eq_true h.1.1,Nat.le_of_ble_eq_true h.1.2,Nat.le_of_ble_eq_true h.2⟩
section
variable {h0 h:Heap} {F:List Nat} {A B D:List Ent}
theorem Slot.stV {t:TypeId} {n c i:Nat} {q:Option Addr} {xs:List Value} {v:Value} (hd:Slot t 1 D q n c xs) (H:Hp h0 F h (A++(D++B))) (hi:i<n) (hv:v.oneCell'=true) {K:Heap->Prop}
  (hk:∀ D' h',Slot t 1 D' q n c (xs.set i v)->Hp h0 F h' (A++(D'++B))->K h'):∃ b,q=some ⟨b,0,none⟩/\Go.Den.stV h ⟨b,i,none⟩ v K:=by
 obtain ⟨hl,⟨rfl,rfl,rfl,rfl⟩ | ⟨b,rest,rfl,rfl,hc⟩⟩:=hd
 ·omega
 ·refine ⟨b,rfl,?_⟩
  rw [Nat.mul_one] at hl
  have hlen:i<(xs++rest).length:=by rw [List.length_append]; omega
  have he:(xs++rest).set i v=xs.set i v++rest:=List.set_append_left _ _ (by omega)
  refine stV_hp (i:=i) H A.length (by rw [List.getElem?_append_right (Nat.le_refl _),Nat.sub_self]; rfl) hlen hv fun h' _ H'=>?_
  refine hk [⟨b,true,t,xs.set i v++rest⟩] h' ⟨by rw [List.length_set]; omega, .inr ⟨b,rest,rfl,rfl,by rw [List.length_append,List.length_set,<- List.length_append]; exact hc⟩⟩ (H'.as ?_)
  rw [List.set_append_right _ _ (Nat.le_refl _),Nat.sub_self,<- he]
  rfl
theorem u8s_snoc (l:List Nat) (x:Nat):u8s (l++[x])=u8s l++[.int .u8 (x:Nat)]:=by simp [u8s]
theorem u8s_last (l:List Nat) (x y:Nat):(u8s (l++[x])).set l.length (.int .u8 (y:Nat))=u8s (l++[y]):=by
 rw [u8s_snoc,u8s_snoc,List.set_append_right _ _ (by rw [u8s_length]; exact Nat.le_refl _),u8s_length,Nat.sub_self]
 rfl
end
section
variable {h0 h:Heap} {F:List Nat} {A B D:List Ent} {K:VK} {Kp:PK} {q:Option Addr} {c:Nat} {bs:List Nat} {x:Nat}
set_option maxHeartbeats 2000000 in
theorem lay8_ok (hsl:Slot T_uint8 1 D q bs.length c (u8s bs)) (H:Hp h0 F h (A++(D++B))) (hx:x<256) (hl:bs.length<=1000000000)
  (hk:∀ D' q' c' h',Slot T_uint8 1 D' q' (bs++[x]).length c' (u8s (bs++[x]))->Hp h0 F h' (A++(D'++B))->K (.slice q' (bs++[x]).length c') h') :
  CP F_bits_lay_uint8 #[.slice q bs.length c, .int .i64 ((8*bs.length:Nat):Int), .int .u8 (x:Nat), .int .i64 8] h K Kp:=by
 refine call_bits_lay_uint8 ?_
 unfold bits_lay_uint8
 refine bindI_of ((7:Int)) (by exact i64_in _ (by omega) (by omega)) ?_
 refine ⟨fun f vs h'=>∃ (j:Nat) (bb:List Nat) (D':List Ent) (q':Option Addr) (c':Nat),j+f=8/\bb=(if j=0 then bs else bs++[bitsUp x j])/\vs=[.slice q' bb.length c', .int .i64 ((8*bs.length+j:Nat):Int), .int .i64 (7-(j:Int))] /\
  Slot T_uint8 1 D' q' bb.length c' (u8s bb)/\Hp h0 F h' (A++(D'++B)),⟨8,0,bs,D,q,c,rfl,rfl,rfl,hsl,H⟩,?_⟩
 clear H hsl
 rintro f h u qa na ca ta ia ⟨j,bb,D,q,c,hjf,hbb,hxx,hsl,H⟩
 injection hxx with hx1 hxx
 injection hxx with hx2 hxx
 injection hxx with hx3 hxx
 injection hx1 with hx1 hx4 hx5
 injection hx2 with _ hx2
 injection hx3 with _ hx3
 subst qa na ca ta ia
 refine bcase_dec (fun h4=>?_) fun h4=>?_
 ·have hj:j<8:=by omega
  obtain ⟨u1,u2,u3⟩:=up_step hx hj
  refine ⟨fun vs h'=>∃ (D':List Ent) (q':Option Addr) (c':Nat),vs=[.slice q' (bs++[bitsUp x j]).length c']/\Slot T_uint8 1 D' q' (bs++[bitsUp x j]).length c' (u8s (bs++[bitsUp x j]))/\Hp h0 F h' (A++(D'++B)),?_,?_⟩
  ·refine bindI_of (((j:Nat):Int)) (by exact (tmod_nat (8*bs.length+j) 8).trans (by omega)) ?_
   refine bcase_eq (fun h5=>?_) fun h5=>?_
   ·have hj0:j=0:=by omega
    rw [if_pos hj0] at hbb
    subst hbb
    refine newC_hp H fun r h H=>?_
    have H:Hp h0 F h (A++(D++(B++[⟨r,true,T_uint8,[.int .u8 0]⟩]))):=H.as (by simp only [List.append_assoc])
    refine Slot.app (m:=1) (new:=[.int .u8 0]) hsl H rfl (Hp.rdO_mem (rest:=[]) (cs:=[.int .u8 0]) H (List.mem_append_right _ (List.mem_append_right _ (List.mem_append_right _ (List.mem_singleton.2 rfl)))) rfl) rfl (fun v hv=>by rw [List.mem_singleton.1 hv]; rfl) (by decide) (by omega) fun D' q' c' h' hsl' H'=>?_
    have e0:bitsUp x j=0:=by rw [hj0]; unfold bitsUp; rw [show 8-0=8 by rfl,Nat.div_eq_of_lt (by omega),Nat.zero_mul]
    rw [e0]
    refine ⟨D',q',c',?_,?_,?_⟩
    ·rw [List.length_append]; rfl
    ·rw [List.length_append,u8s_snoc]; exact hsl'
    ·have H2:Hp h0 F h' ((A++(D'++B))++[⟨r,true,T_uint8,[.int .u8 0]⟩]):=H'.as (by simp only [List.append_assoc])
     exact Hp.pre H2
   ·rw [if_neg (by omega)] at hbb
    subst hbb
    exact ⟨D,q,c,rfl,hsl,H⟩
  clear H hsl hbb bb
  rintro h u qa na ca ⟨D,q,c,hxx,hsl,H⟩
  injection hxx with hx1 hxx
  injection hx1 with hx1 hx4 hx5
  subst qa na ca
  have hlen:(bs++[bitsUp x j]).length=bs.length+1:=by rw [List.length_append]; rfl
  have hcell:(u8s (bs++[bitsUp x j]))[bs.length]? = some (.int .u8 (bitsUp x j:Nat)):=by
   rw [u8s_snoc,List.getElem?_append_right (by rw [u8s_length]; exact Nat.le_refl _),u8s_length,Nat.sub_self]
   rfl
  obtain ⟨b,hqb,hc⟩:=Slot.cell hsl H hcell
  subst hqb
  refine bindI_of (((bs.length:Nat):Int)) (by exact i64_at _ _ (by rw [show ((8*bs.length+j:Nat):Int).tdiv 8=(((8*bs.length+j) / 8:Nat):Int) from rfl]; omega) (by omega) (by omega)) ?_
  refine needs_of (by rw [hlen]; omega) (ptr_of (a:=⟨b,0,none⟩) ?_)
  rw [show (7-(j:Int))=((7-j:Nat):Int) by omega]
  refine needs_of (by omega) ?_
  refine bindI_of (((x / 2 ^ (7-j):Nat):Int)) (by exact shr_of (by show 7-j<=8; omega)) ?_
  have hxd:x / 2 ^ (7-j)<256:=Nat.lt_of_le_of_lt (Nat.div_le_self _ _) hx
  refine bindI_of (((x / 2 ^ (7-j) % 2:Nat):Int)) (by exact (and8 _ 1 hxd (by decide)).trans (by rw [Nat.and_one_is_mod])) ?_
  refine bindI_of (((j:Nat):Int)) (by exact (tmod_nat (8*bs.length+j) 8).trans (by omega)) ?_
  refine bindI_of (((7-j:Nat):Int)) (by exact i64_at _ _ (by omega) (by omega) (by omega)) ?_
  refine needs_of (by omega) ?_
  refine bindI_of ((((x / 2 ^ (7-j) % 2)*2 ^ (7-j):Nat):Int)) (by exact shl_of (by show 7-j<=8; omega) (wr8 _ (by omega) (by omega))) ?_
  rw [Int.toNat_natCast,Nat.mul_one]
  refine ldI_of (x:=((bitsUp x j:Nat):Int)) (by rw [add_mk,Nat.zero_add]; exact hc) ?_
  refine bindI_of (((bitsUp x (j+1):Nat):Int)) (by exact (or8 _ _ u2 u3).trans (by rw [u1])) ?_
  refine needs_of (by rw [hlen]; omega) (ptr_of (a:=⟨b,0,none⟩) ?_)
  rw [add_mk,Nat.zero_add]
  obtain ⟨b',hb',hst⟩:=Slot.stV (i:=bs.length) (v := .int .u8 ((bitsUp x (j+1):Nat):Int)) hsl H (by omega) rfl (K:=fun h_29=>bindI (IntKind.i64.wrap (((8*bs.length+j:Nat):Int)+1)) fun z_30=>bindI (IntKind.i64.wrap (((7-j:Nat):Int)-1)) fun z_31=>∃ m_3,m_3<f/\∃ (j:Nat) (bb:List Nat) (D':List Ent) (q':Option Addr) (c':Nat),j+m_3=8/\bb=(if j=0 then bs else bs++[bitsUp x j])/\[Value.slice (some ⟨b,0,none⟩) (bs++[bitsUp x j.pred]).length c,Value.int .i64 z_30,Value.int .i64 z_31]=[.slice q' bb.length c', .int .i64 ((8*bs.length+j:Nat):Int), .int .i64 (7-(j:Int))] /\
   Slot T_uint8 1 D' q' bb.length c' (u8s bb)/\Hp h0 F h_29 (A++(D'++B))) fun D' h' hsl' H'=>by
    refine bindI_of (((8*bs.length+(j+1):Nat):Int)) (by exact i64_at _ _ (by omega) (by omega) (by omega)) ?_
    refine bindI_of ((7-((j+1:Nat):Int))) (by exact i64_at _ _ (by omega) (by omega) (by omega)) ?_
    rw [u8s_last] at hsl'
    refine ⟨f-1,by omega,j+1,bs++[bitsUp x (j+1)],D',some ⟨b,0,none⟩,c,by omega,by rw [if_neg (by omega)],?_,?_,H'⟩
    ·rw [List.length_append,List.length_append]; rfl
    ·rw [List.length_append] at hsl' ⊢; exact hsl'
  injection hb' with hb'
  injection hb' with hb'
  subst hb'
  have e3:∀ k,(bs++[bitsUp x k]).length=bs.length+1:=fun k=>by rw [List.length_append]; rfl
  simp only [e3] at hst ⊢
  exact hst
 ·have hj:j=8:=by omega
  subst hj
  rw [if_neg (by decide)] at hbb
  have e8:bitsUp x 8=x:=by unfold bitsUp; simp
  rw [e8] at hbb
  subst hbb
  exact hk D q c h hsl H
end
end Go.Bm
namespace Go.Bm
open Go Go.Den Go.Den.YtbknfejmdekhpaaGreat
open Go.Ar (u8s u8s_length u8s_cells)
section
variable {h0 h:Heap} {F:List Nat} {A B D:List Ent} {K:VK} {Kp:PK} {q:Option Addr} {c:Nat} {bs:List Nat} {x:Nat}
set_option maxHeartbeats 2000000 in
theorem lay64_ok (hsl:Slot T_uint8 1 D q bs.length c (u8s bs)) (H:Hp h0 F h (A++(D++B))) (hx:x<256) (hl:bs.length<=1000000000)
  (hk:∀ D' q' c' h',Slot T_uint8 1 D' q' (bs++[x]).length c' (u8s (bs++[x]))->Hp h0 F h' (A++(D'++B))->K (.slice q' (bs++[x]).length c') h') :
  CP F_bits_lay_uint64 #[.slice q bs.length c, .int .i64 ((8*bs.length:Nat):Int), .int .u64 (x:Nat), .int .i64 8] h K Kp:=by
 refine call_bits_lay_uint64 ?_
 unfold bits_lay_uint64
 refine bindI_of ((7:Int)) (by exact i64_in _ (by omega) (by omega)) ?_
 refine ⟨fun f vs h'=>∃ (j:Nat) (bb:List Nat) (D':List Ent) (q':Option Addr) (c':Nat),j+f=8/\bb=(if j=0 then bs else bs++[bitsUp x j])/\vs=[.slice q' bb.length c', .int .i64 ((8*bs.length+j:Nat):Int), .int .i64 (7-(j:Int))] /\
  Slot T_uint8 1 D' q' bb.length c' (u8s bb)/\Hp h0 F h' (A++(D'++B)),⟨8,0,bs,D,q,c,rfl,rfl,rfl,hsl,H⟩,?_⟩
 clear H hsl
 rintro f h u qa na ca ta ia ⟨j,bb,D,q,c,hjf,hbb,hxx,hsl,H⟩
 injection hxx with hx1 hxx
 injection hxx with hx2 hxx
 injection hxx with hx3 hxx
 injection hx1 with hx1 hx4 hx5
 injection hx2 with _ hx2
 injection hx3 with _ hx3
 subst qa na ca ta ia
 refine bcase_dec (fun h4=>?_) fun h4=>?_
 ·have hj:j<8:=by omega
  obtain ⟨u1,u2,u3⟩:=up_step hx hj
  refine ⟨fun vs h'=>∃ (D':List Ent) (q':Option Addr) (c':Nat),vs=[.slice q' (bs++[bitsUp x j]).length c']/\Slot T_uint8 1 D' q' (bs++[bitsUp x j]).length c' (u8s (bs++[bitsUp x j]))/\Hp h0 F h' (A++(D'++B)),?_,?_⟩
  ·refine bindI_of (((j:Nat):Int)) (by exact (tmod_nat (8*bs.length+j) 8).trans (by omega)) ?_
   refine bcase_eq (fun h5=>?_) fun h5=>?_
   ·have hj0:j=0:=by omega
    rw [if_pos hj0] at hbb
    subst hbb
    refine newC_hp H fun r h H=>?_
    have H:Hp h0 F h (A++(D++(B++[⟨r,true,T_uint8,[.int .u8 0]⟩]))):=H.as (by simp only [List.append_assoc])
    refine Slot.app (m:=1) (new:=[.int .u8 0]) hsl H rfl (Hp.rdO_mem (rest:=[]) (cs:=[.int .u8 0]) H (List.mem_append_right _ (List.mem_append_right _ (List.mem_append_right _ (List.mem_singleton.2 rfl)))) rfl) rfl (fun v hv=>by rw [List.mem_singleton.1 hv]; rfl) (by decide) (by omega) fun D' q' c' h' hsl' H'=>?_
    have e0:bitsUp x j=0:=by rw [hj0]; unfold bitsUp; rw [show 8-0=8 by rfl,Nat.div_eq_of_lt (by omega),Nat.zero_mul]
    rw [e0]
    refine ⟨D',q',c',?_,?_,?_⟩
    ·rw [List.length_append]; rfl
    ·rw [List.length_append,u8s_snoc]; exact hsl'
    ·have H2:Hp h0 F h' ((A++(D'++B))++[⟨r,true,T_uint8,[.int .u8 0]⟩]):=H'.as (by simp only [List.append_assoc])
     exact Hp.pre H2
   ·rw [if_neg (by omega)] at hbb
    subst hbb
    exact ⟨D,q,c,rfl,hsl,H⟩
  clear H hsl hbb bb
  rintro h u qa na ca ⟨D,q,c,hxx,hsl,H⟩
  injection hxx with hx1 hxx
  injection hx1 with hx1 hx4 hx5
  subst qa na ca
  have hlen:(bs++[bitsUp x j]).length=bs.length+1:=by rw [List.length_append]; rfl
  have hcell:(u8s (bs++[bitsUp x j]))[bs.length]? = some (.int .u8 (bitsUp x j:Nat)):=by
   rw [u8s_snoc,List.getElem?_append_right (by rw [u8s_length]; exact Nat.le_refl _),u8s_length,Nat.sub_self]
   rfl
  obtain ⟨b,hqb,hc⟩:=Slot.cell hsl H hcell
  subst hqb
  refine bindI_of (((bs.length:Nat):Int)) (by exact i64_at _ _ (by rw [show ((8*bs.length+j:Nat):Int).tdiv 8=(((8*bs.length+j) / 8:Nat):Int) from rfl]; omega) (by omega) (by omega)) ?_
  refine needs_of (by rw [hlen]; omega) (ptr_of (a:=⟨b,0,none⟩) ?_)
  rw [show (7-(j:Int))=((7-j:Nat):Int) by omega]
  refine needs_of (by omega) ?_
  refine bindI_of (((x / 2 ^ (7-j):Nat):Int)) (by exact shr_of (by show 7-j<=64; omega)) ?_
  have hxd:x / 2 ^ (7-j)<256:=Nat.lt_of_le_of_lt (Nat.div_le_self _ _) hx
  refine bindI_of (((x / 2 ^ (7-j) % 2:Nat):Int)) (by exact (and64 _ 1 (by omega) (by decide)).trans (by rw [Nat.and_one_is_mod])) ?_
  refine bindI_of (((x / 2 ^ (7-j) % 2:Nat):Int)) (by exact wr8 _ (by omega) (by omega)) ?_
  refine bindI_of (((j:Nat):Int)) (by exact (tmod_nat (8*bs.length+j) 8).trans (by omega)) ?_
  refine bindI_of (((7-j:Nat):Int)) (by exact i64_at _ _ (by omega) (by omega) (by omega)) ?_
  refine needs_of (by omega) ?_
  refine bindI_of ((((x / 2 ^ (7-j) % 2)*2 ^ (7-j):Nat):Int)) (by exact shl_of (by show 7-j<=8; omega) (wr8 _ (by omega) (by omega))) ?_
  rw [Int.toNat_natCast,Nat.mul_one]
  refine ldI_of (x:=((bitsUp x j:Nat):Int)) (by rw [add_mk,Nat.zero_add]; exact hc) ?_
  refine bindI_of (((bitsUp x (j+1):Nat):Int)) (by exact (or8 _ _ u2 u3).trans (by rw [u1])) ?_
  refine needs_of (by rw [hlen]; omega) (ptr_of (a:=⟨b,0,none⟩) ?_)
  rw [add_mk,Nat.zero_add]
  obtain ⟨b',hb',hst⟩:=Slot.stV (i:=bs.length) (v := .int .u8 ((bitsUp x (j+1):Nat):Int)) hsl H (by omega) rfl (K:=fun h_29=>bindI (IntKind.i64.wrap (((8*bs.length+j:Nat):Int)+1)) fun z_30=>bindI (IntKind.i64.wrap (((7-j:Nat):Int)-1)) fun z_31=>∃ m_3,m_3<f/\∃ (j:Nat) (bb:List Nat) (D':List Ent) (q':Option Addr) (c':Nat),j+m_3=8/\bb=(if j=0 then bs else bs++[bitsUp x j])/\[Value.slice (some ⟨b,0,none⟩) (bs++[bitsUp x j.pred]).length c,Value.int .i64 z_30,Value.int .i64 z_31]=[.slice q' bb.length c', .int .i64 ((8*bs.length+j:Nat):Int), .int .i64 (7-(j:Int))] /\
   Slot T_uint8 1 D' q' bb.length c' (u8s bb)/\Hp h0 F h_29 (A++(D'++B))) fun D' h' hsl' H'=>by
    refine bindI_of (((8*bs.length+(j+1):Nat):Int)) (by exact i64_at _ _ (by omega) (by omega) (by omega)) ?_
    refine bindI_of ((7-((j+1:Nat):Int))) (by exact i64_at _ _ (by omega) (by omega) (by omega)) ?_
    rw [u8s_last] at hsl'
    refine ⟨f-1,by omega,j+1,bs++[bitsUp x (j+1)],D',some ⟨b,0,none⟩,c,by omega,by rw [if_neg (by omega)],?_,?_,H'⟩
    ·rw [List.length_append,List.length_append]; rfl
    ·rw [List.length_append] at hsl' ⊢; exact hsl'
  injection hb' with hb'
  injection hb' with hb'
  subst hb'
  have e3:∀ k,(bs++[bitsUp x k]).length=bs.length+1:=fun k=>by rw [List.length_append]; rfl
  simp only [e3] at hst ⊢
  exact hst
 ·have hj:j=8:=by omega
  subst hj
  rw [if_neg (by decide)] at hbb
  have e8:bitsUp x 8=x:=by unfold bitsUp; simp
  rw [e8] at hbb
  subst hbb
  exact hk D q c h hsl H
end
def wrE (w:Nat) (q:Option Addr) (c:Nat) (bs:List Nat):Ent:=⟨w,true,T_bits_Writer,[.slice q bs.length c, .int .i64 ((8*bs.length:Nat):Int), .int .i64 536870912]⟩
def WrL (w:Nat) (bs:List Nat) (L:List Ent):Prop:=∃ q c D,Slot T_uint8 1 D q bs.length c (u8s bs)/\L=wrE w q c bs::D
theorem WrL.w {w:Nat} {bs:List Nat} {L:List Ent} (h:WrL w bs L):L.all Ent.w=true:=by
 obtain ⟨q,c,D,hs,rfl⟩:=h
 rw [List.all_cons,hs.w]
 rfl
section
variable {h0 h:Heap} {F:List Nat} {L:List Ent} {K:VK} {Kp:PK} {w:Nat} {bs:List Nat} {x:Nat}
theorem newWriter_ok (hk:∀ w h',Hp h [] h' [wrE w none 0 []]->K (.tuple #[.pointer (some ⟨w,0,none⟩), .int .i64 0]) h'):CP F_bits_NewWriter #[.int .i64 67108864] h K Kp:=by
 refine call_bits_NewWriter ?_
 unfold bits_NewWriter
 refine bcase_dec (fun h1=>absurd h1 (by decide)) fun _=>?_
 refine bcase_dec (fun h1=>absurd h1 (by decide)) fun _=>?_
 refine bindI_of ((536870912:Int)) (by exact i64_at _ _ (by decide) (by decide) (by decide)) ?_
 exact newC_hp (Hp.nil h []) fun r h H=>hk r h H
set_option maxHeartbeats 2000000 in
theorem put8_ok (H:Hp h0 F h L) (hw:WrL w bs L) (hx:x<256) (hl:bs.length<=60000000) (hk:∀ L' h',WrL w (bs++[x]) L'->Hp h0 F h' L'->K (.int .i64 0) h') :
  CP F_bits_Writer_Put #[.pointer (some ⟨w,0,none⟩), .int .u64 (x:Nat), .int .i64 8] h K Kp:=by
 obtain ⟨q,c,D,hs,rfl⟩:=hw
 refine call_bits_Writer_Put ?_
 unfold bits_Writer_Put
 refine bcase_dec (fun h1=>absurd h1 (by decide)) fun _=>?_
 refine bcase_dec (fun h1=>absurd h1 (by decide)) fun _=>?_
 refine ⟨fun vs h'=>vs=[.bool false]/\h'=h,?_,?_⟩
 ·refine bcase_dec (fun _=>?_) fun h1=>absurd (by decide) h1
  refine needs_of (by decide) ?_
  refine bindI_of (((x / 2 ^ 8:Nat):Int)) (by exact shr_of (i:=8) (by decide)) ?_
  rw [Nat.div_eq_of_lt (by omega)]
  exact ⟨rfl,rfl⟩
 rintro h' u b ⟨hb,rfl⟩
 injection hb with hb _
 injection hb with hb
 subst hb
 refine bcase_false (by rfl) ?_
 refine ptr_of (a:=⟨w,0,none⟩) (ptr_of (a:=⟨w,0,none⟩) ?_)
 refine ldI_of (hpA H 0 rfl rfl) ?_
 refine bindI_of (((8*bs.length+8:Nat):Int)) (by exact i64_at _ _ (by omega) (by omega) (by omega)) ?_
 refine ldI_of (hpA H 0 rfl rfl) ?_
 refine bcase_dec (fun h1=>absurd h1 (by omega)) fun _=>?_
 refine ptr_of (a:=⟨w,0,none⟩) (ptr_of (a:=⟨w,0,none⟩) ?_)
 refine ldS_of (hpA H 0 rfl rfl) (ldI_of (hpA H 0 rfl rfl) ?_)
 have H1:Hp h0 F h' ([wrE w q c bs]++(D++[])):=H.as (by simp)
 refine lay64_ok hs H1 hx (by omega) fun D' q' c' h hs' H=>?_
 refine ⟨_,_,_,rfl,?_⟩
 refine ptr_of (a:=⟨w,0,none⟩) ?_
 refine stA H 0 rfl rfl rfl fun h H=>?_
 refine ptr_of (a:=⟨w,0,none⟩) ?_
 refine ldI_of (hpA H 0 rfl rfl) ?_
 refine bindI_of (((8*(bs++[x]).length:Nat):Int)) (by exact i64_at _ _ (by have:(bs++[x]).length=bs.length+1:=List.length_append; omega) (by omega) (by have:(bs++[x]).length=bs.length+1:=List.length_append; omega)) ?_
 refine ptr_of (a:=⟨w,0,none⟩) ?_
 refine stA H 0 rfl rfl rfl fun h H=>?_
 have H:Hp h0 F h (wrE w q' c' (bs++[x])::(D'++[])):=H
 rw [List.append_nil] at H
 exact hk _ h ⟨q',c',D',hs',rfl⟩ H
theorem pow7 (i:Nat):(2:Nat) ^ (7*i)=128 ^ i:=by rw [Nat.pow_mul]
theorem or128:((List.range 128).all fun y=>Nat.beq (y ||| 128) (y+128))=true:=by decide +kernel
set_option maxHeartbeats 4000000 in
theorem var_ok {n:Nat} (H:Hp h0 F h L) (hw:WrL w bs L) (hn:n<18446744073709551616) (hl:bs.length<=60000000) (hk:∀ L' h',WrL w (bs++grp n) L'->Hp h0 F h' L'->K (.int .i64 0) h') :
  CP F_bits_Writer_Var #[.pointer (some ⟨w,0,none⟩), .int .u64 (n:Nat)] h K Kp:=by
 refine call_bits_Writer_Var ?_
 unfold bits_Writer_Var
 have hd:∀ k,n / 128 ^ k / 128=n / 128 ^ (k+1):=fun k=>by rw [Nat.div_div_eq_div_mul,Nat.pow_succ]
 refine bindI_of (((n / 128 ^ 1:Nat):Int)) (by exact shr_of (i:=7) (by decide)) ?_
 refine ⟨fun m vs h'=>∃ k:Nat,1<=k/\m=n / 128 ^ k/\vs=[.int .i64 (k:Nat), .int .u64 ((n / 128 ^ k:Nat):Int)]/\(∀ j,j+1<k->128<=n / 128 ^ j)/\h'=h,⟨n / 128 ^ 1,1,Nat.le_refl _,rfl,rfl,fun j hj=>by omega,rfl⟩,?_⟩
 rintro m h' u xa xb ⟨k,hk1,hm,hxx,hge,rfl⟩
 injection hxx with hx1 hxx
 injection hxx with hx2 hxx
 injection hx1 with _ hx1
 injection hx2 with _ hx2
 subst xa xb
 have hk11:k<=11:=by
  refine Decidable.byContradiction fun hh=>?_
  have h1:=hge 10 (by omega)
  have h2:n / 128 ^ 10=0:=Nat.div_eq_of_lt (Nat.lt_trans hn (by decide))
  omega
 refine bcase_dec (fun h1=>?_) fun h1=>?_
 ·refine bindI_of (((k+1:Nat):Int)) (by exact i64_at _ _ (by omega) (by omega) (by omega)) ?_
  refine bindI_of (((n / 128 ^ (k+1):Nat):Int)) (by exact (shr_of (i:=7) (by decide)).trans (by rw [<- hd])) ?_
  have h1:0<n / 128 ^ k:=by omega
  refine ⟨n / 128 ^ (k+1),?_,k+1,by omega,rfl,rfl,fun j hj=>?_,rfl⟩
  ·rw [hm,<- hd]
   exact Nat.div_lt_self h1 (by decide)
  ·by_cases hjk:j+1<k
   ·exact hge j hjk
   ·have:j+1=k:=by omega
    rw [<- this,<- hd] at h1
    have:=(Nat.div_pos_iff.1 h1).2
    omega
 have hk10:n / 128 ^ k=0:=by omega
 have hlast:n / 128 ^ (k-1)<128:=by
  have e:=hd (k-1)
  rw [show k-1+1=k by omega,hk10] at e
  rcases Nat.div_eq_zero_iff.1 e with e | e
  ·cases e
  ·exact e
 have hk10':k<=10:=by
  refine Decidable.byContradiction fun hh=>?_
  have h1:=hge 9 (by omega)
  have h2:n / 128 ^ 9<128:=(Nat.div_lt_iff_lt_mul (by decide)).2 (Nat.lt_trans hn (by decide))
  omega
 have hgrp:=grpF_eq (k-1) 10 n (by omega) hlast (fun j hj=>hge j (by omega))
 have hgl:(grp n).length=k:=by
  unfold grp
  rw [hgrp,List.length_append,List.length_singleton]
  unfold preG
  rw [List.length_map,List.length_range]
  omega
 have hgi:∀ i,i<k->(grp n)[i]? = some (if i+1<k then n / 128 ^ i % 128+128 else n / 128 ^ i):=fun i hi=>by
  unfold grp
  rw [hgrp]
  have hpl:(preG (k-1) n).length=k-1:=by unfold preG; rw [List.length_map,List.length_range]
  by_cases h2:i+1<k
  ·rw [List.getElem?_append_left (by omega),if_pos h2]
   unfold preG
   rw [List.getElem?_map,List.getElem?_range (by omega)]
   rfl
  ·rw [List.getElem?_append_right (by omega),if_neg h2,hpl,show i-(k-1)=0 by omega,show k-1=i by omega]
   rfl
 obtain ⟨q,c,D,hs,rfl⟩:=hw
 refine ptr_of (a:=⟨w,0,none⟩) ?_
 refine bindI_of (((8*k:Nat):Int)) (by exact i64_at _ _ (by omega) (by omega) (by omega)) ?_
 refine ptr_of (a:=⟨w,0,none⟩) ?_
 refine ldI_of (hpA H 0 rfl rfl) ?_
 refine bindI_of (((8*bs.length+8*k:Nat):Int)) (by exact i64_at _ _ (by omega) (by omega) (by omega)) ?_
 refine ldI_of (hpA H 0 rfl rfl) ?_
 refine bcase_dec (fun h1=>absurd h1 (by omega)) fun _=>?_
 refine ⟨fun m vs h'=>∃ (i:Nat) (L':List Ent),i+m=k/\vs=[.int .i64 (i:Nat)]/\WrL w (bs++(grp n).take i) L'/\Hp h0 F h' L',⟨k,0,_,by omega,rfl,⟨q,c,D,by rw [List.take_zero,List.append_nil]; exact hs,by rw [List.take_zero,List.append_nil]⟩,H⟩,?_⟩
 clear H hs
 rintro m h u xa ⟨i,L',him,hxx,⟨q,c,D,hs,rfl⟩,H⟩
 injection hxx with hx1 hxx
 injection hx1 with _ hx1
 subst xa
 have htl:(bs++(grp n).take i).length<=bs.length+k:=by rw [List.length_append,List.length_take]; omega
 refine bcase_dec (fun h1=>?_) fun h1=>?_
 ·have hi:i<k:=by omega
  refine bindI_of (((7*i:Nat):Int)) (by exact i64_at _ _ (by omega) (by omega) (by omega)) ?_
  refine needs_of (by omega) ?_
  refine bindI_of (((n / 128 ^ i:Nat):Int)) (by exact (shr_of (by show 7*i<=64; omega)).trans (by rw [pow7])) ?_
  refine bindI_of (((n / 128 ^ i % 256:Nat):Int)) (by rw [IntKind.wrap_u8]; omega) ?_
  refine bindI_of (((n / 128 ^ i % 128:Nat):Int)) (by exact (and8 _ 127 (by omega) (by decide)).trans (by have:=Nat.and_two_pow_sub_one_eq_mod (n / 128 ^ i % 256) 7; rw [show (127:Nat)=2 ^ 7-1 from rfl,this]; omega)) ?_
  obtain ⟨y,hy⟩:∃ y,y=(if i+1<k then n / 128 ^ i % 128+128 else n / 128 ^ i):=⟨_,rfl⟩
  have hgy:=hgi i hi
  rw [<- hy] at hgy
  have hy256:y<256:=grp_lt y (List.mem_of_getElem? hgy)
  refine ⟨fun vs h2=>vs=[.int .u8 (y:Nat)]/\h2=h,?_,?_⟩
  ·refine bindI_of (((k-1:Nat):Int)) (by exact i64_at _ _ (by omega) (by omega) (by omega)) ?_
   refine bcase_dec (fun h2=>?_) fun h2=>?_
   ·rw [if_pos (by omega)] at hy
    refine bindI_of (((y:Nat):Int)) (by exact (or8 _ 128 (by omega) (by decide)).trans (by rw [hy,Nat.eq_of_beq_eq_true (List.all_eq_true.1 or128 (n / 128 ^ i % 128) (List.mem_range.2 (Nat.mod_lt _ (by decide))))])) ?_
    exact ⟨rfl,rfl⟩
   ·rw [if_neg (by omega)] at hy
    have:i=k-1:=by omega
    rw [this] at hy ⊢
    rw [Nat.mod_eq_of_lt hlast,<- hy]
    exact ⟨rfl,rfl⟩
  rintro h2 u xa ⟨hxx,rfl⟩
  injection hxx with hx1 hxx
  injection hx1 with _ hx1
  subst xa
  refine ptr_of (a:=⟨w,0,none⟩) (ptr_of (a:=⟨w,0,none⟩) ?_)
  refine ldS_of (hpA H 0 rfl rfl) (ldI_of (hpA H 0 rfl rfl) ?_)
  have H1:Hp h0 F h2 ([wrE w q c (bs++(grp n).take i)]++(D++[])):=H.as (by simp)
  refine lay8_ok hs H1 hy256 (by omega) fun D' q' c' h hs' H=>?_
  have hnx:bs++(grp n).take i++[y]=bs++(grp n).take (i+1):=by rw [List.append_assoc,<- take_snocG hgy]
  rw [hnx] at hs' ⊢
  have hln:(bs++(grp n).take (i+1)).length=(bs++(grp n).take i).length+1:=by rw [<- hnx,List.length_append]; rfl
  refine ⟨_,_,_,rfl,?_⟩
  refine ptr_of (a:=⟨w,0,none⟩) ?_
  refine stA H 0 rfl rfl rfl fun h H=>?_
  refine ptr_of (a:=⟨w,0,none⟩) ?_
  refine ldI_of (hpA H 0 rfl rfl) ?_
  refine bindI_of (((8*(bs++(grp n).take (i+1)).length:Nat):Int)) (by exact i64_at _ _ (by rw [hln] <;> omega) (by omega) (by rw [hln] <;> omega)) ?_
  refine ptr_of (a:=⟨w,0,none⟩) ?_
  refine stA H 0 rfl rfl rfl fun h H=>?_
  have H:Hp h0 F h (wrE w q' c' (bs++(grp n).take (i+1))::(D'++[])):=H
  rw [List.append_nil] at H
  refine bindI_of (((i+1:Nat):Int)) (by exact i64_at _ _ (by omega) (by omega) (by omega)) ?_
  exact ⟨m-1,by omega,i+1,_,by omega,rfl,⟨q',c',D',hs',rfl⟩,H⟩
 ·rw [List.take_of_length_le (by omega)] at hs H
  exact hk _ h ⟨q,c,D,hs,rfl⟩ H
theorem bytes_ok (H:Hp h0 F h L) (hw:WrL w bs L) (hl:bs.length<=100000000) (hk:∀ D qo co h',Slot T_uint8 1 D qo bs.length co (u8s bs)->Hp h0 F h' (L++D)->K (.slice qo bs.length co) h') :
  CP F_bits_Writer_Bytes #[.pointer (some ⟨w,0,none⟩)] h K Kp:=by
 obtain ⟨q,c,D,hs,rfl⟩:=hw
 refine call_bits_Writer_Bytes ?_
 unfold bits_Writer_Bytes
 refine ptr_of (a:=⟨w,0,none⟩) ?_
 refine ldS_of (hpA H 0 rfl rfl) ?_
 have hr:rdO h q (bs.length*1) (u8s bs):=Slot.rdO' hs H fun e he=>List.mem_cons_of_mem _ he
 rcases Nat.eq_zero_or_pos bs.length with h1 | h1
 ·have hb0:bs=[]:=List.length_eq_zero_iff.1 h1
  subst hb0
  refine ⟨u8s [],hr,?_⟩
  rw [if_pos (by simp)]
  exact hk [] none 0 h (Slot.nil _ _) (by rw [List.append_nil]; exact H)
 ·refine Slot.app (A:=wrE w q c bs::D) (B:=[]) (D:=[]) (n:=0) (m:=bs.length) (new:=u8s bs) (Slot.nil T_uint8 1) (by simpa using H) rfl hr (by rw [u8s_length,Nat.mul_one]) (u8s_cells bs) h1 (by omega) fun D' q' c' h' hs' H'=>?_
  rw [Nat.zero_add] at hs' ⊢
  exact hk D' q' c' h' (by simpa using hs') (by simpa using H')
end
end Go.Bm
namespace Go.Den
section
variable {P:Program}
theorem dcalls_of_plain {f:FuncId} {fn:Func} {args:List Value} {u:FrameMode} {h:Heap} {Kd:FrameMode->Heap->Prop} {Kdp:FrameMode->PK} (Hn:Hints) (hm:P.follows .mixedOrders=true)
  (hf:P.funcs[f]? = some fn) (hn:(fn.name == "runtime.NumGoroutine")=false) (H:fnD P (CallsHP P) Hn fn args h (fun _ h'=>Kd u h') fun c h'=>Kdp u c h'):DCalls P f args.toArray u h Kd Kdp:=by
 unfold fnD at H
 split at H
 ·rename_i c hb
  refine ⟨⟨fn,hf,hn,by rw [hb]; rfl⟩,fun w hw=>?_⟩
  subst hw
  have hact:(⟨args.toArray++Array.replicate (fn.ntmps-args.toArray.size) undef,[]⟩:Act)=⟨(args++List.replicate (fn.ntmps-args.length) undef).toArray,[]⟩:=by
   congr 1
   apply Array.toList_inj.1
   simp
  refine (callsD_of_wp (R:=fun e w'=>keeps w w'/\match e with
   | .returned _=>Kd u w'.heap
   | .panicked c=>Kdp u c w'.heap
   | .outgrown=>False) hf hb ?_).mono fun e u' w' he=>?_
  ·rw [hact]
   refine wp_mono (den_sound (callsHP_ok P) hm w c _ _ w (keeps.refl w) (fnQ_panic _ _ _ _) H) fun e a w' he=>?_
   cases e with
   | normal =>
    obtain ⟨h1,_,h3⟩:=he
    simp only [fnQ] at h3
    split at h3
    ·rename_i hd
     obtain ⟨v,hr,hk⟩:=results_run (K:=fun _ h'=>Kd u h') h3
     exact ⟨hd,v,hr,h1,hk⟩
    ·exact h3.elim
   | ret =>
    obtain ⟨h1,_,h3⟩:=he
    simp only [fnQ] at h3
    split at h3
    ·rename_i hd
     obtain ⟨v,hr,hk⟩:=results_run (K:=fun _ h'=>Kd u h') h3
     exact ⟨hd,v,hr,h1,hk⟩
    ·exact h3.elim
   | panic c =>
    obtain ⟨h1,h3⟩:=he
    simp only [fnQ] at h3
    split at h3
    ·rename_i hd
     exact ⟨hd,h1,h3⟩
    ·exact h3.elim
   | outgrown=>exact he.elim
   | exit id=>exact he.2.2.elim
   | goto l=>exact he.2.2.elim
  ·obtain ⟨rfl,h1,h2⟩:=he
   refine ⟨h1,?_⟩
   cases e with
   | returned v=>exact h2
   | panicked c=>exact h2
   | outgrown=>exact h2
 ·exact H.elim
end
end Go.Den
namespace Go.Bm
open Go Go.Den Go.Den.YtbknfejmdekhpaaGreat
open Go.Ar (u8s)
def varF (b:List Nat) (i:Nat):Nat->Nat->Nat->Int × Nat × Nat
 | 0,_,_=>(16,0,i)
 | f+1,j,n=>match b[i+j]? with
  | none=>(14,0,i)
  | some c=>if j=9/\1<c\/0<j/\c=0 then (16,0,i) else if c<128 then (0,n+c % 128*128 ^ j,i+j+1) else varF b i f (j+1) (n+c % 128*128 ^ j)
def varP (b:List Nat) (i:Nat):Int × Nat × Nat:=varF b i 10 0 0
def dnOk:Bool:=(List.range 256).all fun x=>(List.range 8).all fun j=>Nat.beq (x / 2 ^ (8-j)*2 ||| x / 2 ^ (7-j) % 2) (x / 2 ^ (8-(j+1))) && Nat.beq (x / 2 ^ (8-j)*2+x / 2 ^ (7-j) % 2) (x / 2 ^ (8-(j+1)))
theorem dnOk_t:dnOk=true:=by kernel_rfl
theorem dn_step {x j:Nat} (hx:x<256) (hj:j<8):(x / 2 ^ (8-j)*2 ||| x / 2 ^ (7-j) % 2)=x / 2 ^ (8-(j+1))/\x / 2 ^ (8-j)*2+x / 2 ^ (7-j) % 2=x / 2 ^ (8-(j+1))/\x / 2 ^ (8-j)*2<256:=by
 have h:=List.all_eq_true.1 (List.all_eq_true.1 dnOk_t x (List.mem_range.2 hx)) j (List.mem_range.2 hj)
 simp only [Bool.and_eq_true] at h
 have e:=Nat.eq_of_beq_eq_true h.2
 have h3:x / 2 ^ (8-(j+1))<256:=Nat.lt_of_le_of_lt (Nat.div_le_self _ _) hx
 exact ⟨Nat.eq_of_beq_eq_true h.1,e,by omega⟩
section
variable {h0 h:Heap} {F:List Nat} {K:VK} {Kp:PK} {q:Option Addr} {c i x:Nat} {b:List Nat}
theorem told8_ok (hr:rdO h q (b.length*1) (u8s b)) (hb:b[i]? = some x) (hx:x<256) (hl:b.length<=140737488351299) (hk:K (.int .u8 (x:Nat)) h) :
  CP F_bits_told_uint8 #[.slice q b.length c, .int .i64 ((8*i:Nat):Int), .int .i64 8] h K Kp:=by
 refine call_bits_told_uint8 ?_
 unfold bits_told_uint8
 have hil:=(List.getElem?_eq_some_iff.1 hb).1
 obtain ⟨a,rfl,hc⟩:=rdO_cell hr (i:=i) (v := .int .u8 (x:Nat)) (by unfold u8s; rw [List.getElem?_map,hb]; rfl)
 refine ⟨fun f vs h'=>∃ j:Nat,j+f=8/\vs=[.int .u8 ((x / 2 ^ (8-j):Nat):Int), .int .i64 (j:Nat)]/\h'=h,⟨8,0,rfl,by rw [Nat.sub_zero,Nat.div_eq_of_lt (show x<2 ^ 8 by omega)]; rfl,rfl⟩,?_⟩
 rintro f h' u xa xb ⟨j,hjf,hxx,rfl⟩
 injection hxx with hx1 hxx
 injection hxx with hx2 hxx
 injection hx1 with _ hx1
 injection hx2 with _ hx2
 subst xa xb
 refine bcase_dec (fun h1=>?_) fun h1=>?_
 ·have hj:j<8:=by omega
  obtain ⟨d1,d2,d3⟩:=dn_step hx hj
  have hb2:x / 2 ^ (7-j) % 2<256:=by omega
  have hxd:x / 2 ^ (7-j)<256:=Nat.lt_of_le_of_lt (Nat.div_le_self _ _) hx
  refine bindI_of (((x / 2 ^ (8-j)*2:Nat):Int)) (by exact shl_of (i:=1) (by decide) (by rw [Nat.pow_one]; exact wr8 _ (by omega) (by omega))) ?_
  refine bindI_of (((8*i+j:Nat):Int)) (by exact i64_at _ _ (by omega) (by omega) (by omega)) ?_
  refine bindI_of (((i:Nat):Int)) (by exact i64_at _ _ (by rw [show ((8*i+j:Nat):Int).tdiv 8=(((8*i+j) / 8:Nat):Int) from rfl]; omega) (by omega) (by omega)) ?_
  refine needs_of (by omega) (ptr_of (a:=a) ?_)
  rw [Int.toNat_natCast,Nat.mul_one]
  refine ldI_of hc ?_
  refine bindI_of (((8*i+j:Nat):Int)) (by exact i64_at _ _ (by omega) (by omega) (by omega)) ?_
  refine bindI_of (((j:Nat):Int)) (by exact (tmod_nat (8*i+j) 8).trans (by omega)) ?_
  refine bindI_of (((7-j:Nat):Int)) (by exact i64_at _ _ (by omega) (by omega) (by omega)) ?_
  refine needs_of (by omega) ?_
  refine bindI_of (((x / 2 ^ (7-j):Nat):Int)) (by exact shr_of (by show 7-j<=8; omega)) ?_
  refine bindI_of (((x / 2 ^ (7-j) % 2:Nat):Int)) (by exact (and8 _ 1 hxd (by decide)).trans (by rw [Nat.and_one_is_mod])) ?_
  refine bindI_of (((x / 2 ^ (8-(j+1)):Nat):Int)) (by exact (or8 _ _ d3 hb2).trans (by rw [d1])) ?_
  refine bindI_of (((j+1:Nat):Int)) (by exact i64_at _ _ (by omega) (by omega) (by omega)) ?_
  exact ⟨f-1,by omega,j+1,by omega,rfl,rfl⟩
 ·have hj:j=8:=by omega
  subst hj
  rw [Nat.sub_self,Nat.pow_zero,Nat.div_one]
  exact hk
theorem told64_ok (hr:rdO h q (b.length*1) (u8s b)) (hb:b[i]? = some x) (hx:x<256) (hl:b.length<=140737488351299) (hk:K (.int .u64 (x:Nat)) h) :
  CP F_bits_told_uint64 #[.slice q b.length c, .int .i64 ((8*i:Nat):Int), .int .i64 8] h K Kp:=by
 refine call_bits_told_uint64 ?_
 unfold bits_told_uint64
 have hil:=(List.getElem?_eq_some_iff.1 hb).1
 obtain ⟨a,rfl,hc⟩:=rdO_cell hr (i:=i) (v := .int .u8 (x:Nat)) (by unfold u8s; rw [List.getElem?_map,hb]; rfl)
 refine ⟨fun f vs h'=>∃ j:Nat,j+f=8/\vs=[.int .u64 ((x / 2 ^ (8-j):Nat):Int), .int .i64 (j:Nat)]/\h'=h,⟨8,0,rfl,by rw [Nat.sub_zero,Nat.div_eq_of_lt (show x<2 ^ 8 by omega)]; rfl,rfl⟩,?_⟩
 rintro f h' u xa xb ⟨j,hjf,hxx,rfl⟩
 injection hxx with hx1 hxx
 injection hxx with hx2 hxx
 injection hx1 with _ hx1
 injection hx2 with _ hx2
 subst xa xb
 refine bcase_dec (fun h1=>?_) fun h1=>?_
 ·have hj:j<8:=by omega
  obtain ⟨d1,d2,d3⟩:=dn_step hx hj
  have hb2:x / 2 ^ (7-j) % 2<256:=by omega
  have hxd:x / 2 ^ (7-j)<256:=Nat.lt_of_le_of_lt (Nat.div_le_self _ _) hx
  refine bindI_of (((x / 2 ^ (8-j)*2:Nat):Int)) (by exact shl_of (i:=1) (by decide) (by rw [Nat.pow_one]; exact u64_in _ (by omega) (by omega))) ?_
  refine bindI_of (((8*i+j:Nat):Int)) (by exact i64_at _ _ (by omega) (by omega) (by omega)) ?_
  refine bindI_of (((i:Nat):Int)) (by exact i64_at _ _ (by rw [show ((8*i+j:Nat):Int).tdiv 8=(((8*i+j) / 8:Nat):Int) from rfl]; omega) (by omega) (by omega)) ?_
  refine needs_of (by omega) (ptr_of (a:=a) ?_)
  rw [Int.toNat_natCast,Nat.mul_one]
  refine ldI_of hc ?_
  refine bindI_of (((8*i+j:Nat):Int)) (by exact i64_at _ _ (by omega) (by omega) (by omega)) ?_
  refine bindI_of (((j:Nat):Int)) (by exact (tmod_nat (8*i+j) 8).trans (by omega)) ?_
  refine bindI_of (((7-j:Nat):Int)) (by exact i64_at _ _ (by omega) (by omega) (by omega)) ?_
  refine needs_of (by omega) ?_
  refine bindI_of (((x / 2 ^ (7-j):Nat):Int)) (by exact shr_of (by show 7-j<=8; omega)) ?_
  refine bindI_of (((x / 2 ^ (7-j) % 2:Nat):Int)) (by exact (and8 _ 1 hxd (by decide)).trans (by rw [Nat.and_one_is_mod])) ?_
  refine bindI_of (((x / 2 ^ (7-j) % 2:Nat):Int)) (by exact u64_in _ (by omega) (by omega)) ?_
  refine bindI_of (((x / 2 ^ (8-(j+1)):Nat):Int)) (by exact (or64 _ _ (by omega) (by omega)).trans (by rw [d1])) ?_
  refine bindI_of (((j+1:Nat):Int)) (by exact i64_at _ _ (by omega) (by omega) (by omega)) ?_
  exact ⟨f-1,by omega,j+1,by omega,rfl,rfl⟩
 ·have hj:j=8:=by omega
  subst hj
  rw [Nat.sub_self,Nat.pow_zero,Nat.div_one]
  exact hk
def rdE (r:Nat) (q:Option Addr) (n c i:Nat):Ent:=⟨r,true,T_bits_Reader,[.slice q n c, .int .i64 ((8*i:Nat):Int)]⟩
structure RdB (b:List Nat):Prop where
 b8:∀ x∈b,x<256
 bl:b.length<=140737488351299
variable {r:Nat} {D L:List Ent}
theorem rleft_ok (H:Hp h0 F h (rdE r q b.length c i::D)) (hb:RdB b) (hi:i<=b.length) (hk:K (.int .i64 ((8*(b.length-i):Nat):Int)) h):CP F_bits_Reader_Left #[.pointer (some ⟨r,0,none⟩)] h K Kp:=by
 refine call_bits_Reader_Left ?_
 unfold bits_Reader_Left
 have hbl:=hb.bl
 refine ptr_of (a:=⟨r,0,none⟩) (ptr_of (a:=⟨r,0,none⟩) ?_)
 refine ldS_of (hpA H 0 rfl rfl) ?_
 refine bindI_of (((8*b.length:Nat):Int)) (by exact i64_at _ _ (by omega) (by omega) (by omega)) ?_
 refine ldI_of (hpA H 0 rfl rfl) ?_
 refine bindI_of (((8*(b.length-i):Nat):Int)) (by exact i64_at _ _ (by omega) (by omega) (by omega)) ?_
 exact hk
theorem rtake8_ok (H:Hp h0 F h (rdE r q b.length c i::D)) (hs:Slot T_uint8 1 D q b.length c (u8s b)) (hb:RdB b) (hi:i<=b.length)
  (hk0:b[i]? = none->K (.tuple #[.int .u64 0, .int .i64 14]) h) (hk1:∀ x h',b[i]? = some x->Hp h0 F h' (rdE r q b.length c (i+1)::D)->K (.tuple #[.int .u64 (x:Nat), .int .i64 0]) h') :
  CP F_bits_Reader_Take #[.pointer (some ⟨r,0,none⟩), .int .i64 8] h K Kp:=by
 refine call_bits_Reader_Take ?_
 unfold bits_Reader_Take
 have hbl:=hb.bl
 refine bcase_dec (fun h1=>absurd h1 (by decide)) fun _=>?_
 refine bcase_dec (fun h1=>absurd h1 (by decide)) fun _=>?_
 refine rleft_ok H hb hi ?_
 refine ⟨_,rfl,?_⟩
 refine bcase_dec (fun h1=>hk0 (List.getElem?_eq_none (by omega))) fun h1=>?_
 obtain ⟨x,hx⟩:∃ x,b[i]? = some x:=⟨_,List.getElem?_eq_getElem (by omega)⟩
 refine ptr_of (a:=⟨r,0,none⟩) ?_
 refine ldI_of (hpA H 0 rfl rfl) ?_
 refine bindI_of (((8*(i+1):Nat):Int)) (by exact i64_at _ _ (by omega) (by omega) (by omega)) ?_
 refine ptr_of (a:=⟨r,0,none⟩) ?_
 refine stA H 0 rfl rfl rfl fun h H=>?_
 have H:Hp h0 F h (rdE r q b.length c (i+1)::D):=H
 refine ptr_of (a:=⟨r,0,none⟩) (ptr_of (a:=⟨r,0,none⟩) ?_)
 refine ldS_of (hpA H 0 rfl rfl) (ldI_of (hpA H 0 rfl rfl) ?_)
 refine bindI_of (((8*i:Nat):Int)) (by exact i64_at _ _ (by omega) (by omega) (by omega)) ?_
 refine told64_ok (Slot.rdO' hs H fun e he=>List.mem_cons_of_mem _ he) hx (hb.b8 x (List.mem_of_getElem? hx)) hb.bl ?_
 refine ⟨_,rfl,?_⟩
 exact hk1 x h hx H
theorem rgroup_ok (H:Hp h0 F h (rdE r q b.length c i::D)) (hs:Slot T_uint8 1 D q b.length c (u8s b)) (hb:RdB b) (hi:i<=b.length)
  (hk0:b[i]? = none->K (.tuple #[.int .u8 0, .bool false]) h) (hk1:∀ x h',b[i]? = some x->Hp h0 F h' (rdE r q b.length c (i+1)::D)->K (.tuple #[.int .u8 (x:Nat), .bool true]) h') :
  CP F_bits_Reader_group #[.pointer (some ⟨r,0,none⟩)] h K Kp:=by
 refine call_bits_Reader_group ?_
 unfold bits_Reader_group
 have hbl:=hb.bl
 refine rleft_ok H hb hi ?_
 refine ⟨_,rfl,?_⟩
 refine bcase_dec (fun h1=>hk0 (List.getElem?_eq_none (by omega))) fun h1=>?_
 obtain ⟨x,hx⟩:∃ x,b[i]? = some x:=⟨_,List.getElem?_eq_getElem (by omega)⟩
 refine ptr_of (a:=⟨r,0,none⟩) ?_
 refine ldI_of (hpA H 0 rfl rfl) ?_
 refine bindI_of (((8*(i+1):Nat):Int)) (by exact i64_at _ _ (by omega) (by omega) (by omega)) ?_
 refine ptr_of (a:=⟨r,0,none⟩) ?_
 refine stA H 0 rfl rfl rfl fun h H=>?_
 have H:Hp h0 F h (rdE r q b.length c (i+1)::D):=H
 refine ptr_of (a:=⟨r,0,none⟩) (ptr_of (a:=⟨r,0,none⟩) ?_)
 refine ldS_of (hpA H 0 rfl rfl) (ldI_of (hpA H 0 rfl rfl) ?_)
 refine bindI_of (((8*i:Nat):Int)) (by exact i64_at _ _ (by omega) (by omega) (by omega)) ?_
 refine told8_ok (Slot.rdO' hs H fun e he=>List.mem_cons_of_mem _ he) hx (hb.b8 x (List.mem_of_getElem? hx)) hb.bl ?_
 refine ⟨_,rfl,?_⟩
 exact hk1 x h hx H
end
theorem deferVar {cap0 cap1 cap2 cap3:Addr} {u:FrameMode} {h:Heap} {Kd:FrameMode->Heap->Prop} {Kdp:FrameMode->PK} (H:bits_Reader_Var_c1 (CallsHP Go.Proofs.Tryz.prog) cap0 cap1 cap2 cap3 h (fun _ h'=>Kd u h') fun c h'=>Kdp u c h') :
  DCalls Go.Proofs.Tryz.prog F_bits_Reader_Var_c1 #[.pointer (some cap0), .pointer (some cap1), .pointer (some cap2), .pointer (some cap3)] u h Kd Kdp :=
 dcalls_of_plain hints_bits_Reader_Var_c1 (by kernel_rfl) Go.Proofs.Tryz.func192 (by kernel_rfl) (by rw [eq_bits_Reader_Var_c1]; exact H)
section
variable {h0 h:Heap} {F:List Nat} {K:VK} {Kp:PK} {q:Option Addr} {c i x:Nat} {b:List Nat} {r:Nat} {D:List Ent}
set_option maxHeartbeats 4000000 in
theorem rvar_ok (H:Hp h0 F h (rdE r q b.length c i::D)) (hs:Slot T_uint8 1 D q b.length c (u8s b)) (hb:RdB b) (hi:i<=b.length)
  (hk:∀ h',Hp h0 F h' (rdE r q b.length c (varP b i).2.2::D)->K (.tuple #[.int .u64 ((varP b i).2.1:Nat), .int .i64 (varP b i).1]) h') :
  CP F_bits_Reader_Var #[.pointer (some ⟨r,0,none⟩)] h K Kp:=by
 refine call_bits_Reader_Var ?_
 unfold bits_Reader_Var
 have hbl:=hb.bl
 refine newC_hp H fun r1 h H=>?_
 refine newC_hp H fun r3 h H=>?_
 refine newC_hp H fun r5 h H=>?_
 have H:Hp h0 F h ((rdE r q b.length c i::D)++[⟨r1,true,T_p_bits_Reader,[.pointer (some ⟨r,0,none⟩)]⟩,⟨r3,true,T_uint64,[.int .u64 0]⟩,⟨r5,true,T_api_Errno,[.int .i64 0]⟩]):=H.as (by simp only [List.append_assoc,List.cons_append,List.nil_append])
 have H:=H.rot
 refine ldP_of (H.cell 0 rfl rfl) (ptr_of (a:=⟨r,0,none⟩) ?_)
 refine ldI_of (hpA H 3 rfl rfl) ?_
 refine newC_hp H fun r10 h H=>?_
 have H:=H.rot
 refine st0 H 0 rfl rfl rfl fun h H=>?_
 have H:Hp h0 F h ([⟨r10,true,T_int,[.int .i64 ((8*i:Nat):Int)]⟩,⟨r1,true,T_p_bits_Reader,[.pointer (some ⟨r,0,none⟩)]⟩,⟨r3,true,T_uint64,[.int .u64 ((0:Nat):Int)]⟩,⟨r5,true,T_api_Errno,[.int .i64 0]⟩]++(rdE r q b.length c (i+0)::D)):=H
 have done:∀ {e:Int} {n p:Nat} {h:Heap},(e=0\/e≠0/\n=0/\p=i)->∀ {p' n':Nat},(e=0->p'=p/\n'=n)->(∀ h',Hp h0 F h' (rdE r q b.length c p::D)->K (.tuple #[.int .u64 (n:Nat), .int .i64 e]) h') ->
   Hp h0 F h ([⟨r10,true,T_int,[.int .i64 ((8*i:Nat):Int)]⟩,⟨r1,true,T_p_bits_Reader,[.pointer (some ⟨r,0,none⟩)]⟩,⟨r3,true,T_uint64,[.int .u64 (n':Nat)]⟩,⟨r5,true,T_api_Errno,[.int .i64 e]⟩]++(rdE r q b.length c p'::D)) ->
   leaveD (DCalls Go.Proofs.Tryz.prog) (fun h_29=>ldI h_29 (⟨r3,0,none⟩:Addr) .u64 fun r_30=>ldI h_29 (⟨r5,0,none⟩:Addr) .i64 fun r_31=>K (.tuple #[.int .u64 r_30, .int .i64 r_31]) h_29) Kp [{ target := .fn (.func F_bits_Reader_Var_c1) #[.pointer (some ⟨r5,0,none⟩), .pointer (some ⟨r10,0,none⟩), .pointer (some ⟨r3,0,none⟩), .pointer (some ⟨r1,0,none⟩)],args:=#[] }] .returning h:=by
  intro e n p h he p' n' hp hk H
  show DCalls Go.Proofs.Tryz.prog F_bits_Reader_Var_c1 #[.pointer (some ⟨r5,0,none⟩), .pointer (some ⟨r10,0,none⟩), .pointer (some ⟨r3,0,none⟩), .pointer (some ⟨r1,0,none⟩)] .returning h _ _
  refine deferVar ?_
  unfold bits_Reader_Var_c1
  refine ldI_of (H.cell 3 rfl rfl) ?_
  rcases he with he | ⟨he,hn,hpi⟩
  ·refine bcase_ne (fun h1=>absurd he h1) fun _=>?_
   obtain ⟨rfl,rfl⟩:=hp he
   show ldI h ⟨r3,0,none⟩ .u64 _
   refine ldI_of (H.cell 2 rfl rfl) (ldI_of (H.cell 3 rfl rfl) ?_)
   exact hk h (Hp.suf H)
  ·refine bcase_ne (fun _=>?_) fun h1=>absurd h1 he
   refine ldP_of (H.cell 1 rfl rfl) (ldI_of (H.cell 0 rfl rfl) ?_)
   refine st0 H 2 rfl rfl rfl fun h H=>?_
   refine ptr_of (a:=⟨r,0,none⟩) ?_
   refine stA H 4 rfl rfl rfl fun h H=>?_
   have H:Hp h0 F h ([⟨r10,true,T_int,[.int .i64 ((8*i:Nat):Int)]⟩,⟨r1,true,T_p_bits_Reader,[.pointer (some ⟨r,0,none⟩)]⟩,⟨r3,true,T_uint64,[.int .u64 0]⟩,⟨r5,true,T_api_Errno,[.int .i64 e]⟩]++(rdE r q b.length c i::D)):=H
   show ldI h ⟨r3,0,none⟩ .u64 _
   refine ldI_of (H.cell 2 rfl rfl) (ldI_of (H.cell 3 rfl rfl) ?_)
   rw [hn,hpi] at hk
   exact hk h (Hp.suf H)
 refine ⟨fun f vs h'=>∃ (j n:Nat),1<=f/\j+f=10/\n<128 ^ j/\varF b i f j n=varP b i/\i+j<=b.length/\vs=[.int .i64 ((7*j:Nat):Int)] /\
  Hp h0 F h' ([⟨r10,true,T_int,[.int .i64 ((8*i:Nat):Int)]⟩,⟨r1,true,T_p_bits_Reader,[.pointer (some ⟨r,0,none⟩)]⟩,⟨r3,true,T_uint64,[.int .u64 (n:Nat)]⟩,⟨r5,true,T_api_Errno,[.int .i64 0]⟩]++(rdE r q b.length c (i+j)::D)),⟨10,0,0,by omega,rfl,by decide,rfl,hi,rfl,H⟩,?_⟩
 clear H
 rintro f h u xa ⟨j,n,hf1,hjf,hn,hv,hij,hxx,H⟩
 obtain ⟨f,rfl⟩:∃ g,f=g+1:=⟨f-1,by omega⟩
 injection hxx with hx1 hxx
 injection hx1 with _ hx1
 subst xa
 refine ldP_of (H.cell 1 rfl rfl) ?_
 have hsw:∀ p,(rdE r q b.length c p::D).all Ent.w=true:=fun p=>by rw [List.all_cons,hs.w]; rfl
 refine rgroup_ok (Hp.giveS H) hs hb hij (fun hnone=>?_) fun y h hy H'=>?_
 ·refine ⟨_,_,rfl,?_⟩
  refine ⟨fun _ _=>False,?_,fun _ _ hh=>hh.elim⟩
  refine bcase_true (by rfl) ?_
  refine st0 H 2 rfl rfl rfl fun h H=>?_
  refine st0 H 3 rfl rfl rfl fun h H=>?_
  have hvp:varP b i=(14,0,i):=by
   rw [<- hv]
   unfold varF
   rw [hnone]
  rw [hvp] at hk
  exact done (e:=14) (n:=0) (p:=i) (n':=0) (p':=i+j) (.inr ⟨by decide,rfl,rfl⟩) (fun hh=>absurd hh (by decide)) hk H
 ·have H:=Hp.putS H (hsw _) H' (hsw _)
  clear H'
  have hy8:=hb.b8 y (List.mem_of_getElem? hy)
  have hyl:=(List.getElem?_eq_some_iff.1 hy).1
  refine ⟨_,_,rfl,?_⟩
  have err:(j=9/\1<y\/0<j/\y=0)->stV h (⟨r3,0,none⟩:Addr) (.int .u64 0) fun h_32=>stV h_32 (⟨r5,0,none⟩:Addr) (.int .i64 16) fun h_33 =>
    leaveD (DCalls Go.Proofs.Tryz.prog) (fun h_29=>ldI h_29 (⟨r3,0,none⟩:Addr) .u64 fun r_30=>ldI h_29 (⟨r5,0,none⟩:Addr) .i64 fun r_31=>K (.tuple #[.int .u64 r_30, .int .i64 r_31]) h_29) Kp [{ target := .fn (.func F_bits_Reader_Var_c1) #[.pointer (some ⟨r5,0,none⟩), .pointer (some ⟨r10,0,none⟩), .pointer (some ⟨r3,0,none⟩), .pointer (some ⟨r1,0,none⟩)],args:=#[] }] .returning h_33:=fun hc=>by
   refine st0 H 2 rfl rfl rfl fun h H=>?_
   refine st0 H 3 rfl rfl rfl fun h H=>?_
   have hvp:varP b i=(16,0,i):=by
    rw [<- hv]
    unfold varF
    rw [hy]
    dsimp only
    rw [if_pos hc]
   rw [hvp] at hk
   exact done (e:=16) (n:=0) (p:=i) (n':=0) (p':=i+j+1) (.inr ⟨by decide,rfl,rfl⟩) (fun hh=>absurd hh (by decide)) hk H
  refine ⟨fun _ h'=>h'=h/\¬ (j=9/\1<y\/0<j/\y=0),?_,?_⟩
  ·refine bcase_false (by rfl) ?_
   refine bcase_eq (fun h9=>?_) fun h9=>?_
   ·refine bcase_dec (fun h10=>?_) fun h10=>?_
    ·refine bcase_dec (fun _=>err (.inl ⟨by omega,by omega⟩)) fun h11=>absurd h10 h11
    ·refine bcase_dec (fun h11=>?_) fun h11=>⟨rfl,by omega⟩
     refine bcase_eq (fun h12=>err (.inr ⟨by omega,by omega⟩)) fun h12=>⟨rfl,by omega⟩
   ·refine bcase_dec (fun h11=>?_) fun h11=>⟨rfl,by omega⟩
    refine bcase_eq (fun h12=>err (.inr ⟨by omega,by omega⟩)) fun h12=>⟨rfl,by omega⟩
  rintro h' u ⟨rfl,hnc⟩
  have hz:y % 128*128 ^ j<18446744073709551616:=by
   by_cases hj:j=9
   ·have h1:y % 128<=1:=by omega
    have h2:y % 128*128 ^ j<=1*128 ^ j:=Nat.mul_le_mul_right _ h1
    rw [hj] at h2 ⊢
    have e9:(128:Nat) ^ 9=9223372036854775808:=by decide
    omega
   ·have h1:y % 128*128 ^ j<=127*128 ^ j:=Nat.mul_le_mul_right _ (by omega)
    have h2:128 ^ j<=128 ^ 8:=Nat.pow_le_pow_right (by decide) (by omega)
    have e8:(128:Nat) ^ 8=72057594037927936:=by decide
    omega
  have hm127:y % 128*128 ^ j<=127*128 ^ j:=Nat.mul_le_mul_right _ (by omega)
  have hp1:128 ^ (j+1)=128*128 ^ j:=by rw [Nat.pow_succ,Nat.mul_comm]
  refine bindI_of (((y % 128:Nat):Int)) (by exact (and8 _ 127 hy8 (by decide)).trans (by have:=Nat.and_two_pow_sub_one_eq_mod y 7; rw [show (127:Nat)=2 ^ 7-1 from rfl,this])) ?_
  refine bindI_of (((y % 128:Nat):Int)) (by exact u64_in _ (by omega) (by omega)) ?_
  refine needs_of (by omega) ?_
  refine bindI_of (((y % 128*128 ^ j:Nat):Int)) (by exact shl_of (by show 7*j<=64; omega) (by rw [pow7]; exact u64_in _ (by omega) (by omega))) ?_
  refine ldI_of (H.cell 2 rfl rfl) ?_
  have hn64:n<18446744073709551616:=by
   have h2:128 ^ j<=128 ^ 9:=Nat.pow_le_pow_right (by decide) (by omega)
   have e9:(128:Nat) ^ 9=9223372036854775808:=by decide
   omega
  have hor:n ||| y % 128*128 ^ j=n+y % 128*128 ^ j:=by
   have:=Nat.shiftLeft_add_eq_or_of_lt (b:=n) (i:=7*j) (by rw [pow7]; exact hn) (y % 128)
   rw [Nat.shiftLeft_eq,pow7] at this
   rw [Nat.or_comm,<- this,Nat.add_comm]
  refine bindI_of (((n+y % 128*128 ^ j:Nat):Int)) (by exact (or64 _ _ hn64 hz).trans (by rw [hor])) ?_
  refine st0 H 2 rfl rfl rfl fun h H=>?_
  refine bcase_dec (fun h13=>?_) fun h13=>?_
  ·refine ldI_of (H.cell 2 rfl rfl) ?_
   refine st0 H 2 rfl rfl rfl fun h H=>?_
   refine st0 H 3 rfl rfl rfl fun h H=>?_
   have hvp:varP b i=(0,n+y % 128*128 ^ j,i+j+1):=by
    rw [<- hv]
    unfold varF
    rw [hy]
    dsimp only
    rw [if_neg hnc,if_pos (by omega)]
   rw [hvp] at hk
   exact done (e:=0) (n:=n+y % 128*128 ^ j) (p:=i+j+1) (n':=n+y % 128*128 ^ j) (p':=i+j+1) (.inl rfl) (fun _=>⟨rfl,rfl⟩) hk H
  ·refine bindI_of (((7*(j+1):Nat):Int)) (by exact i64_at _ _ (by omega) (by omega) (by omega)) ?_
   refine ⟨f,by omega,j+1,n+y % 128*128 ^ j,by omega,by omega,by omega,?_,by omega,rfl,H⟩
   rw [<- hv]
   conv=>rhs; unfold varF
   rw [hy]
   dsimp only
   rw [if_neg hnc,if_neg (by omega)]
end
end Go.Bm
namespace Go.Bm
open Go Go.Den Go.Den.YtbknfejmdekhpaaGreat
open Go.Ar (u8s u8s_length)
section
variable {h0 h:Heap} {F:List Nat} {K:VK} {Kp:PK} {q:Option Addr} {c i r:Nat} {b:List Nat} {D:List Ent}
theorem newReader_ok (hr:rdO h q (b.length*1) (u8s b)) (hb:RdB b) (hk:∀ r q' c' D h',Slot T_uint8 1 D q' b.length c' (u8s b)->Hp h [] h' (rdE r q' b.length c' 0::D)->K (.pointer (some ⟨r,0,none⟩)) h'):CP F_bits_NewReader #[.slice q b.length c] h K Kp:=by
 refine call_bits_NewReader ?_
 unfold bits_NewReader
 have hbl:=hb.bl
 have fin:∀ D q' c' h',Slot T_uint8 1 D q' b.length c' (u8s b)->Hp h [] h' D->newC h' [.slice q' b.length c', .int .i64 0] T_bits_Reader fun r_3 h_4=>K (.pointer (some ⟨r_3,0,none⟩)) h_4:=fun D q' c' h' hs H=>by
  refine newC_hp H fun r h2 H=>?_
  have H:=H.rot
  exact hk r q' c' D h2 hs H
 rcases Nat.eq_zero_or_pos b.length with h1 | h1
 ·have hb0:b=[]:=List.length_eq_zero_iff.1 h1
  subst hb0
  refine ⟨u8s [],hr,?_⟩
  rw [if_pos (by simp)]
  exact fin [] none 0 h (Slot.nil _ _) (Hp.nil h [])
 ·have H:=Hp.nil h []
  refine appC_new H hr (u8s_length b) h1 (by omega) fun o rest h' he H'=>?_
  exact fin _ _ _ h' (Slot.one (by rw [u8s_length,Nat.mul_one]) (by rw [List.length_append,u8s_length,Nat.mul_one])) H'
end
section
variable {hB:Heap} {K:VK} {Kp:PK} {q:Option Addr} {c:Nat} {b:List Nat}
end
end Go.Bm
namespace Go.Bm
open Go Go.Den Go.Den.YtbknfejmdekhpaaGreat
open Go.Ar (u8s u8s_length)
theorem rdO_drop {h:Heap} {q:Option Addr} {c i:Nat} {b:List Nat} (hr:rdO h q (b.length*1) (u8s b)) (hi:i<=b.length) (hc:b.length<=c):rdO h (subA q c i 1) ((b.drop i).length*1) (u8s (b.drop i)):=by
 have hd:u8s (b.drop i)=(u8s b).drop i:=by simp [u8s,List.map_drop]
 cases q with
 | none =>
  have h0:u8s b=[]:=hr
  have e:subA none c i 1=none:=by unfold subA; split <;> rfl
  rw [e,hd,h0]
  exact List.drop_nil
 | some a =>
  unfold subA
  by_cases h1:c=i
  ·rw [if_pos h1]
   have:b.drop i=[]:=List.drop_eq_nil_of_le (by omega)
   rw [this]
   exact ⟨rfl,fun j v hj=>by simp [u8s] at hj⟩
  ·rw [if_neg h1]
   refine ⟨by rw [u8s_length,Nat.mul_one],fun j v hj=>?_⟩
   rw [hd,List.getElem?_drop] at hj
   have:=hr.2 _ v hj
   show hcell h ((a.add (i*1)).add j)=_
   rw [Nat.mul_one,Go.Ar.add_add']
   exact this
section
variable {hB:Heap} {K:VK} {Kp:PK} {q:Option Addr} {c:Nat} {b:List Nat}
end
end Go.Bm
namespace Go.Den.YtbknfejmdekhpaaGreat
open Go Go.Den
end Go.Den.YtbknfejmdekhpaaGreat
namespace Go.Den.YtbknfejmdekhpaaGreat
open Go Go.Den
end Go.Den.YtbknfejmdekhpaaGreat
namespace Go.Bm
open Go Go.Den Go.Den.YtbknfejmdekhpaaGreat
section
variable {hB h:Heap} {K:VK} {Kp:PK} {q:Option Addr} {c i ra rb:Nat} {b:List Nat} {M:List Ent} {e:Int}
end
end Go.Bm
namespace Go.Bm
open Go Go.Den Go.Den.YtbknfejmdekhpaaGreat
section
variable {hB:Heap} {K:VK} {Kp:PK} {q:Option Addr} {c:Nat} {b:List Nat}
end
end Go.Bm
namespace Go.Bm
open Go Go.Den Go.Den.YtbknfejmdekhpaaGreat
section
variable {hB:Heap} {K:VK} {Kp:PK} {q:Option Addr} {c:Nat} {b:List Nat}
end
end Go.Bm
namespace Go.Bm
open Go Go.Den Go.Den.YtbknfejmdekhpaaGreat
section
variable {h0 h:Heap} {F:List Nat} {A B D:List Ent}
theorem Slot.appN {t:TypeId} {sz by_ n c m:Nat} {q:Option Addr} {xs z:List Value} (hd:Slot t sz D q n c xs) (H:Hp h0 F h (A++(D++B))) (hz:z.length=sz) (hs0:1<=sz) {src:Option Addr} {new:List Value} (hr:Go.Den.rdO h src (m*sz) new) (hm:new.length=m*sz)
  (hnew:∀ v∈new,v.oneCell'=true) (hby:(n+m)*by_<=70368744177664)
  {K:Option Addr->Nat->Nat->Heap->Prop} (hk:∀ (D':List Ent) (q':Option Addr) (c':Nat) h',Slot t sz D' q' (n+m) c' (xs++new)->Hp h0 F h' (A++(D'++B))->K q' (n+m) c' h'):appC h t sz by_ z q n c src m K:=by
 rcases Nat.eq_zero_or_pos m with h1 | h1
 ·subst h1
  rw [Nat.zero_mul] at hr hm
  have hn0:new=[]:=List.length_eq_zero_iff.1 hm
  subst hn0
  have hnc:n<=c:=by
   obtain ⟨hl,⟨_,_,h2,_⟩ | ⟨b,rest,_,_,h2⟩⟩:=hd
   ·omega
   ·rw [List.length_append,hl] at h2
    exact Nat.le_of_mul_le_mul_right (Nat.le.intro h2) hs0
  refine ⟨[],by rw [Nat.zero_mul]; exact hr,?_⟩
  rw [if_pos (by omega)]
  have:=hk D q c h (by rw [List.append_nil,Nat.add_zero]; exact hd) H
  cases q with
  | none=>exact this
  | some a=>exact this
 ·exact Slot.app hd H hz hr hm hnew h1 hby hk
end
section
variable {hB:Heap} {q:Option Addr} {c:Nat} {l:List Int} {K:VK} {Kp:PK}
end
section
variable {hB:Heap} {w g d s:Int} {K:VK} {Kp:PK}
end
end Go.Bm
namespace Go.Bm
open Go Go.Den Go.Den.YtbknfejmdekhpaaGreat
section
variable {x y op t w b:Int} {sk:Bool} {ws:List Nat}
variable {hB:Heap} {q1:Option Addr} {c1:Nat} {K:VK} {Kp:PK}
end
end Go.Bm
namespace Go.Bm
open Go Go.Den Go.Den.YtbknfejmdekhpaaGreat
end Go.Bm
namespace Go.Bm
open Go Go.Den Go.Den.YtbknfejmdekhpaaGreat
end Go.Bm
namespace Go.Bm
open Go Go.Den Go.Den.YtbknfejmdekhpaaGreat
theorem drop_head {b:List Nat} {k x:Nat} {l:List Nat} (h:b.drop k=x::l):b[k]? = some x/\b.drop (k+1)=l:=by
 have h1:(b.drop k)[0]? = some x:=by rw [h]; rfl
 rw [List.getElem?_drop,Nat.add_zero] at h1
 refine ⟨h1,?_⟩
 have h2:(b.drop k).drop 1=l:=by rw [h]; rfl
 rw [List.drop_drop] at h2
 exact h2
theorem grpF_small {f m:Nat} (h:m<128):grpF f m=[m]:=by
 cases f with
 | zero=>show [m % 128]=[m]; rw [Nat.mod_eq_of_lt h]
 | succ f=>show (if m<128 then [m] else _)=_; rw [if_pos h]
theorem grpF_big {f m:Nat} (h:¬ m<128):grpF (f+1) m=(m % 128+128)::grpF f (m / 128):=by
 show (if m<128 then [m] else _)=_; rw [if_neg h]
theorem pow9 {m j:Nat} (h:m*128 ^ j<128 ^ 9) (hm:0<m):j<9:=by
 rcases Nat.lt_or_ge j 9 with h1 | h1
 ·exact h1
 ·have h2:128 ^ 9<=128 ^ j:=Nat.pow_le_pow_right (by decide) h1
  have h3:1*128 ^ j<=m*128 ^ j:=Nat.mul_le_mul_right _ hm
  omega
theorem pow_step {m j:Nat}:m % 128*128 ^ j+m / 128*128 ^ (j+1)=m*128 ^ j:=by
 have h:=Nat.div_add_mod m 128
 have e:128 ^ (j+1)=128*128 ^ j:=by rw [Nat.pow_succ,Nat.mul_comm]
 rw [e,<- Nat.mul_assoc,<- Nat.add_mul]
 congr 1
 omega
theorem varF_grp {b:List Nat} {i:Nat} {rest:List Nat}:∀ (f j m acc:Nat),f+j=10->b.drop (i+j)=grpF f m++rest->m*128 ^ j<128 ^ 9->(0<j->0<m)->varF b i f j acc=(0,acc+m*128 ^ j,i+j+(grpF f m).length)
 | 0,j,m,acc,hfj,_,hm,h0=>by
  have:=pow9 hm (h0 (by omega))
  omega
 | f+1,j,m,acc,hfj,hb,hm,h0=>by
  unfold varF
  by_cases h1:m<128
  ·rw [grpF_small h1] at hb ⊢
   obtain ⟨hx,_⟩:=drop_head hb
   rw [hx]
   dsimp only
   rw [if_neg (fun hh=>by
    rcases hh with ⟨h2,h3⟩ | ⟨h2,h3⟩
    ·have:=pow9 hm (by omega); omega
    ·have:=h0 h2; omega),if_pos h1,Nat.mod_eq_of_lt h1]
   rfl
  ·rw [grpF_big h1] at hb ⊢
   obtain ⟨hx,hd⟩:=drop_head hb
   have hj:=pow9 hm (by omega)
   rw [hx]
   dsimp only
   rw [if_neg (fun hh=>by omega),if_neg (by omega)]
   have hmod:(m % 128+128) % 128=m % 128:=by omega
   have hst:=@pow_step m j
   rw [hmod,varF_grp f (j+1) (m / 128) _ (by omega) (by rw [<- Nat.add_assoc]; exact hd) (by omega) (fun _=>by omega)]
   rw [List.length_cons]
   congr 2
   ·omega
   ·omega
theorem lt9 {n:Nat} (h:n<=1048576):n<128 ^ 9:=Nat.lt_of_le_of_lt h (by decide)
section
variable {w g d s:Nat} (hP:SizeP (w:Int) (g:Int)) (hd:d<=1) (hs:s<=1048576)
include hP hd hs
end
end Go.Bm
namespace Go.Bm
open Go Go.Den Go.Den.YtbknfejmdekhpaaGreat
section
variable {hB:Heap} {q:Option Addr} {c:Nat} {bs:List Nat} {K:VK} {Kp:PK}
end
end Go.Bm
