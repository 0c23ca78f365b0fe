/- The given statement TextMostSaid is proved of the given program; there are no further conditions. W8: put together by wip/tools/bundle.py: TyL ArLink2 TyMost. -/
import Derived.Test.YtbknfejmdekhpaaGreatW1
import Derived.Test.YtbknfejmdekhpaaGreatW2
import Derived.Test.YtbknfejmdekhpaaGreatW3
import Derived.Test.YtbknfejmdekhpaaGreatW4
import Derived.Test.YtbknfejmdekhpaaGreatW5
import Derived.Test.YtbknfejmdekhpaaGreatW6
import Derived.Test.YtbknfejmdekhpaaGreatW7
import Derived.Test.YtbknfejmdekhpaaGreatProg
import Derived.WalkKit
import Derived.ProofKit
import Derived.OpenShut
import Derived.Carry
import Derived.Deep.SlicePairs
import Derived.Lib.SmallJoins
import Derived.Test.YtbknfejmdekhpaaGreatRows
set_option linter.unusedVariables false
set_option linter.unusedSimpArgs false
set_option maxRecDepth 100000
namespace Go.Bm
open Go Go.Den Go.Den.YtbknfejmdekhpaaGreat
open Go.Ar (u8s)
theorem add_add14 (a:Addr) (m n:Nat):(a.add m).add n=a.add (m+n):=by
 unfold Addr.add
 by_cases h1:m=0
 ·subst h1; simp
 ·by_cases h2:n=0
  ·subst h2; simp
  ·rw [if_neg h1,if_neg h2,if_neg (by omega)]
   simp [Nat.add_assoc]
theorem viewO14 {h0 h:Heap} {F:List Nat} {L E:List Ent} {q:Option Addr} {n c:Nat} {O:List Own} (hE:Slot T_api_Bitmap 3 E q n c (csO O)) (H:Hp h0 F h L) (hs:∀ e∈E,e∈L) (hr:∀ o∈O,o.Ok/\∀ e∈o.D,e∈L):BmsV h q (O.map Own.b):=fun i b hi=>by
 rw [List.getElem?_map] at hi
 cases ho:O[i]? with
 | none=>rw [ho] at hi; cases hi
 | some o =>
  rw [ho] at hi
  injection hi with hi
  subst hi
  obtain ⟨hok,hD⟩:=hr o (List.mem_of_getElem? ho)
  have hrd:=Slot.rdO' hE H hs
  have cell:∀ j v,j<3->o.cs[j]? = some v->∃ a,q=some a/\hcell h ((a.add (i*3)).add j)=some v:=fun j v hj hv=>by
   obtain ⟨a,h1,h2⟩:=rdO_cell hrd (i:=i*3+j) ((csO_get O i j o ho hj).trans hv)
   exact ⟨a,h1,by rw [add_add14]; exact h2⟩
  obtain ⟨a,ha,k0⟩:=cell 0 _ (by decide) rfl
  obtain ⟨a1,ha1,k1⟩:=cell 1 _ (by decide) rfl
  obtain ⟨a2,ha2,k2⟩:=cell 2 _ (by decide) rfl
  obtain rfl:a=a1:=Option.some.inj (ha.symm.trans ha1)
  obtain rfl:a=a2:=Option.some.inj (ha.symm.trans ha2)
  exact ⟨a,o.q,o.c,ha,⟨k0,k1,k2,Slot.rdO' hok.s H hD,hok.w,hok.l⟩⟩
def mstT:Reg14:=⟨0,0,4,4,0,true,0,2⟩
def mstI (i:Nat):Ins:=⟨((i % 128:Nat):Int),((i / 128:Nat):Int),0,false,⟨0,0,[]⟩⟩
def mstL:Nat->List Ins
 | 0=>[]
 | i+1=>mstL i++[mstI i]
theorem mstL_len:∀ i,(mstL i).length=i
 | 0=>rfl
 | i+1=>by unfold mstL; rw [List.length_append,mstL_len i]; rfl
theorem mstL_mem:∀ {n:Nat} {i:Ins},i∈mstL n->∃ k,k<n/\i=mstI k
 | 0,i,h=>by cases h
 | n+1,i,h=>by
  unfold mstL at h
  rcases List.mem_append.1 h with h | h
  ·obtain ⟨k,hk,e⟩:=mstL_mem h
   exact ⟨k,by omega,e⟩
  ·exact ⟨n,by omega,List.mem_singleton.1 h⟩
theorem mstL_ar:∀ n,arI (mstL n)=0
 | 0=>rfl
 | n+1=>by unfold mstL; rw [arI_snoc,mstL_ar n]; rfl
theorem mst_reg:RegOk mstT:=⟨by unfold SizeP mstT; decide,by decide,by decide,by decide,by decide,by decide⟩
theorem ins_plain {rf:Bool} {sy:List Bmp} {x y s:Int} (h1:0<=s/\s<sy.length) (h2:-1048576<=x/\x<=1048576) (h3:-1048576<=y/\y<=1048576):InsOk rf sy ⟨x,y,s,false,⟨0,0,[]⟩⟩ :=
 ⟨h1,h2,h3,fun _=>⟨rfl,rfl,rfl⟩,fun hh=>by cases hh⟩
theorem ins_differ {sy:List Bmp} {x y s:Int} {b:Bmp} (h1:0<=s/\s<sy.length) (h2:-1048576<=x/\x<=1048576) (h3:-1048576<=y/\y<=1048576) (hb:b.may) (hw:b.w=(symOf sy s).w) (hh:b.h=(symOf sy s).h) (hn:b.ws≠(symOf sy s).ws):InsOk true sy ⟨x,y,s,true,b⟩ :=
 ⟨h1,h2,h3,(fun hh=>by cases hh),fun _=>⟨rfl,hb,hw,hh,hn⟩⟩
section
variable {hB:Heap} {K:VK} {Kp:PK}
theorem tEncN {t:Reg14} {q q2:Option Addr} {c c2 m n:Nat} {sy:List Bmp} {l:List Ins} (hm:l.length=m) (hn:sy.length=n) (hv:InsV hB q l) (hs:BmsV hB q2 sy) (hl:l.length<=1000000) (hsl:sy.length<=1000000000000)
  (hk:∀ D qo co h',Slot T_uint8 1 D qo (encT t sy l).length co (u8s (encT t sy l))->Hp hB [] h' D->K (.tuple #[.slice qo (encT t sy l).length co, .int .i64 (chkT t sy l)]) h') :
  CP F_text_Encode #[t.ag q m c, .slice q2 n c2] hB K Kp:=by
 subst hm hn
 exact tEnc_ok hv hs hl hsl hk
theorem tDecN {t:Reg14} {q q2:Option Addr} {c c2 n:Nat} {sy:List Bmp} {l:List Ins} (hn:sy.length=n) (hr:rdO hB q ((txtB t sy l).length*1) (u8s (txtB t sy l))) (hcap:(txtB t sy l).length<=c) (hs:BmsV hB q2 sy) (hf:TForm t sy l) (hsl:sy.length<=4096) (hl:l.length<=16384) (har:arI l<=1048576) (hW:∀ i∈l,W64 i.b.ws)
  (hk:∀ R q' c' h',ListI R q' c' (srtI t.st.toNat l)->Hp hB [] h' R->K (.tuple #[t.ag q' l.length c', .int .i64 0]) h') :
  CP F_text_Decode #[.slice q (txtB t sy l).length c, .slice q2 n c2] hB K Kp:=by
 subst hn
 exact tDec_ok hr hcap hs hf hsl hl har hW hk
set_option maxHeartbeats 16000000 in
theorem tMost_law (hk:∀ h',hext hB h'->K (.bool true) h'):CP F_burinlaw14_TextMost #[] hB K Kp:=by
 refine call_burinlaw14_TextMost ?_
 unfold burinlaw14_TextMost
 have hs11:SizeP ((1:Nat):Int) ((1:Nat):Int):=by unfold SizeP; omega
 have hsW:SizeP ((1024:Nat):Int) ((512:Nat):Int):=by unfold SizeP; omega
 refine white_ok' (W:=1) (X:=1) hs11 fun ws0 q1 h hl0 hw0 hp0 H=>?_
 refine ⟨_,_,_,_,_,rfl,?_⟩
 refine white_ok' (W:=1024) (X:=512) hsW fun ws2 q2 h' hl2 hw2 hp2 H'=>?_
 have H:=H.join H' rfl
 clear H'
 refine ⟨_,_,_,_,_,rfl,?_⟩
 have hwd:wds 1024=16:=rfl
 rw [hwd] at hl2
 have hl0':ws0.length=1:=hl0
 have hmay0:MayP ((1:Nat):Int) ((1:Nat):Int) ws0:=may_of_pix hs11 hl0 hw0 fun y _ x _ _=>hp0 x y
 have hmay2:MayP ((1024:Nat):Int) ((512:Nat):Int) ws2:=may_of_pix hsW (by rw [hwd]; exact hl2) hw2 fun y _ x _ _=>hp2 x y
 obtain ⟨o1,ho1⟩:∃ o1:Own,o1=⟨⟨1,1,ws0⟩,at0 q1,ws0.length,[⟨q1,true,T_uint64,u64s ws0++[]⟩]⟩:=⟨_,rfl⟩
 obtain ⟨o2,ho2⟩:∃ o2:Own,o2=⟨⟨1024,512,ws2⟩,at0 q2,ws2.length,[⟨q2,true,T_uint64,u64s ws2++[]⟩]⟩:=⟨_,rfl⟩
 have hcs1:o1.cs=[.int .i64 1, .int .i64 1, .slice (at0 q1) ws0.length ws0.length]:=by rw [ho1]; rfl
 have hcs2:o2.cs=[.int .i64 1024, .int .i64 512, .slice (at0 q2) ws2.length ws2.length]:=by rw [ho2]; rfl
 have hok1:o1.Ok:=by
  rw [ho1]
  exact ⟨Slot.one (by simp [u64s]) (by simp [u64s]),hw0,by show ws0.length<_; omega⟩
 have hok2:o2.Ok:=by
  rw [ho2]
  exact ⟨Slot.one (by simp [u64s]) (by simp [u64s]),hw2,by show ws2.length<_; omega⟩
 have hb1:o1.b=⟨1,1,ws0⟩:=by rw [ho1]
 have hb2:o2.b=⟨1024,512,ws2⟩:=by rw [ho2]
 have hD1:o1.D=[⟨q1,true,T_uint64,u64s ws0++[]⟩]:=by rw [ho1]
 have hD2:o2.D=[⟨q2,true,T_uint64,u64s ws2++[]⟩]:=by rw [ho2]
 have hm1:o1.b.may:=by rw [hb1]; exact hmay0
 have hm2:o2.b.may:=by rw [hb2]; exact hmay2
 obtain ⟨Q1,hQ1⟩:∃ Q1:Ent,Q1=⟨q1,true,T_uint64,u64s ws0++[]⟩:=⟨_,rfl⟩
 obtain ⟨Q2,hQ2⟩:∃ Q2:Ent,Q2=⟨q2,true,T_uint64,u64s ws2++[]⟩:=⟨_,rfl⟩
 have H:Hp hB [] h' [Q1,Q2]:=by rw [hQ1,hQ2]; exact H
 have hc12:csO [o1,o2]=[.int .i64 1, .int .i64 1, .slice (at0 q1) ws0.length ws0.length, .int .i64 1024, .int .i64 512, .slice (at0 q2) ws2.length ws2.length]:=by
  show o1.cs++(o2.cs++[])=_
  rw [hcs1,hcs2]
  rfl
 refine newC_hp H fun r11 h H=>?_
 refine newC_hp H fun r13 h H=>?_
 obtain ⟨R11,hR11⟩:∃ R11:Ent,R11=⟨r11,true,T_api_Bitmap,csO [o1,o2]++[]⟩:=⟨_,rfl⟩
 have H:Hp hB [] h [Q1,Q2,R11,⟨r13,true,T_api_Text,[.int .i64 0, .int .i64 0, .int .i64 0, .int .i64 0, .int .i64 0, .bool false, .int .i64 0, .int .i64 0, .slice none 0 0]⟩]:=by rw [hR11,hc12]; exact H
 refine stVsA H 3 rfl rfl rfl fun h H=>?_
 have H:Hp hB [] h ([Q1,Q2,R11,⟨r13,true,T_api_Text,mstT.cs none 0 0⟩]++[]):=H
 obtain ⟨sy,hsy⟩:∃ sy:List Bmp,sy=[o1.b,o2.b]:=⟨_,rfl⟩
 have hsl:sy.length=2:=by rw [hsy]; rfl
 have hsyM:MayL sy:=fun b hb=>by
  rw [hsy] at hb
  rcases List.mem_cons.1 hb with rfl | hb
  ·exact hm1
  ·rw [List.mem_singleton.1 hb]; exact hm2
 have s12:Slot T_api_Bitmap 3 [R11] (some ⟨r11,0,none⟩) 2 2 (csO [o1,o2]):=by
  rw [hR11]
  exact Slot.one (by rw [csO_len]; rfl) (by rw [List.append_nil,csO_len]; rfl)
 have vS:∀ {h:Heap} {J:List Ent},Hp hB [] h J->R11∈J->Q1∈J->Q2∈J->BmsV h (some ⟨r11,0,none⟩) sy:=fun {h J} H h1 h2 h3=>by
  rw [hsy]
  exact viewO14 (O:=[o1,o2]) s12 H (fun e he=>by rw [List.mem_singleton.1 he]; exact h1) fun o ho=>by
   rcases List.mem_cons.1 ho with rfl | ho
   ·exact ⟨hok1,fun e he=>by rw [hD1] at he; rw [List.mem_singleton.1 he,<- hQ1]; exact h2⟩
   ·rw [List.mem_singleton.1 ho]
    exact ⟨hok2,fun e he=>by rw [hD2] at he; rw [List.mem_singleton.1 he,<- hQ2]; exact h3⟩
 have hQ1w:Q1.w=true:=by rw [hQ1]
 have hQ2w:Q2.w=true:=by rw [hQ2]
 have hR11w:R11.w=true:=by rw [hR11]
 refine ⟨fun m vs h'=>∃ (i:Nat) (R:List Ent) (q:Option Addr) (c:Nat),i+m=16384/\vs=[.int .i64 (i:Nat)]/\ListI R q c (mstL i)/\Hp hB [] h' ([Q1,Q2,R11,⟨r13,true,T_api_Text,mstT.cs q i c⟩]++R),
  ⟨16384,0,[],none,0,rfl,rfl,ListI.nil,H⟩,?_⟩
 clear H
 rintro m h u xi ⟨i,R,q,c,him,hxx,hL,H⟩
 injection hxx with hx1 hxx
 injection hx1 with _ hx1
 subst xi
 have hil:=mstL_len i
 refine bcase_dec (fun h3=>?_) fun h3=>?_
 ·refine ldS_of (hpA H 3 rfl rfl) ?_
  refine bindI_of (((i % 128:Nat):Int)) (by exact tmod_nat i 128) ?_
  refine bindI_of (((i / 128:Nat):Int)) (by exact i64_at _ _ (tdiv_nat i 128) (by omega) (by omega)) ?_
  refine newC_hp H fun r25 h H=>?_
  have hoI:(⟨mstI i,none,0,[]⟩:OwI).Ok:=⟨Slot.nil _ _,(fun x hx=>by cases hx),by show 0<_; omega⟩
  have H:Hp hB [] h (([Q1,Q2,R11,⟨r13,true,T_api_Text,mstT.cs q i c⟩]++R)++((⟨mstI i,none,0,[]⟩:OwI).D++[⟨r25,true,T_api_Instance,(⟨mstI i,none,0,[]⟩:OwI).cs⟩])):=H
  refine ListI.app' hL (by omega) hoI H (by omega) fun R' q' c' h hL' H=>?_
  refine stA H 3 rfl rfl rfl fun h H=>?_
  refine bindI_of (((i+1:Nat):Int)) (by exact i64_at _ _ (by omega) (by omega) (by omega)) ?_
  exact ⟨m-1,by omega,i+1,R',q',c',by omega,rfl,hL',H⟩
 have hi4:i=16384:=by omega
 clear him h3
 obtain ⟨l,hl⟩:∃ l,l=mstL i:=⟨_,rfl⟩
 rw [<- hl] at hil hL
 have hlI:∀ x∈l,InsOk mstT.rf sy x:=fun x hx=>by
  rw [hl] at hx
  obtain ⟨k,hk,rfl⟩:=mstL_mem hx
  exact ins_plain (by omega) (by omega) (by omega)
 have hlA:arI l=0:=by rw [hl]; exact mstL_ar i
 have hf:TForm mstT sy l:=⟨hsyM,mst_reg,hlI⟩
 have chk1:chkT mstT sy l=0:=chkT_ok hf (by omega)
 have hlW:∀ x∈l,W64 x.b.ws:=fun x hx=>by
  rw [hl] at hx
  obtain ⟨k,hk,rfl⟩:=mstL_mem hx
  exact fun x hx=>by cases hx
 have hlS:∀ x∈l,x.b.ws.length<=1000000000000:=fun x hx=>by
  rw [hl] at hx
  obtain ⟨k,hk,rfl⟩:=mstL_mem hx
  exact Nat.zero_le _
 rw [<- hil] at H
 clear hil
 have hil:l.length=16384:=by rw [hl,mstL_len]; exact hi4
 repeat first | with_reducible refine ldI_of (by with_unfolding_all first | exact hpA H 3 rfl rfl | exact Hp.cell H 3 rfl rfl | exact hpB H 3 rfl rfl | exact hpC H 3 rfl rfl) ?_ | with_reducible refine ldS_of (by with_unfolding_all first | exact hpA H 3 rfl rfl | exact Hp.cell H 3 rfl rfl | exact hpB H 3 rfl rfl | exact hpC H 3 rfl rfl) ?_ | with_reducible refine ldP_of (by with_unfolding_all first | exact hpA H 3 rfl rfl | exact Hp.cell H 3 rfl rfl | exact hpB H 3 rfl rfl | exact hpC H 3 rfl rfl) ?_ | with_reducible refine ldB_of (by with_unfolding_all first | exact hpA H 3 rfl rfl | exact Hp.cell H 3 rfl rfl | exact hpB H 3 rfl rfl | exact hpC H 3 rfl rfl) ?_ | with_reducible refine ldT_of (by with_unfolding_all first | exact hpA H 3 rfl rfl | exact Hp.cell H 3 rfl rfl | exact hpB H 3 rfl rfl | exact hpC H 3 rfl rfl) ?_
 have vL:∀ {h:Heap} {J:List Ent},Hp hB [] h J->(∀ e∈R,e∈J)->InsV h q l:=fun H hs=>hL.view H hs
 refine tEncN (t:=mstT) (l:=l) (sy:=sy) rfl hsl (vL H fun e he=>by simp [he]) (vS H (by simp) (by simp) (by simp)) (by omega) (by omega) fun D1 qo co h' hs H'=>?_
 rw [encT_ok chk1] at hs
 rw [chk1,encT_ok chk1]
 have H:=H.join H' hs.w
 clear H'
 refine ⟨_,_,_,_,rfl,?_⟩
 refine tDecN (t:=mstT) hsl (Slot.rdO' hs H fun e he=>by simp [he]) (SlotN.cap hs) (vS H (by simp) (by simp) (by simp)) hf (by omega) (by omega) (by omega) hlW fun R2 q2' c2' h' hL2 H'=>?_
 have H:=H.join H' hL2.w
 clear H'
 refine ⟨_,_,_,_,_,_,_,_,_,_,_,_,rfl,?_⟩
 refine newC_hp H fun r56 h H=>?_
 have H:=H.rot
 refine stVsA H 0 rfl rfl rfl fun h H=>?_
 obtain ⟨R56,hR56⟩:∃ R56:Ent,R56=⟨r56,true,T_api_Text,mstT.cs q2' l.length c2'⟩:=⟨_,rfl⟩
 have H:Hp hB [] h ([R56,Q1,Q2,R11,⟨r13,true,T_api_Text,mstT.cs q l.length c⟩]++(R++(D1++R2))):=by rw [hR56]; exact H.as (by simp only [List.append_assoc,List.cons_append,List.nil_append,List.set])
 repeat first | with_reducible refine ldI_of (by with_unfolding_all first | exact hpA H 4 rfl rfl | exact Hp.cell H 4 rfl rfl | exact hpB H 4 rfl rfl | exact hpC H 4 rfl rfl) ?_ | with_reducible refine ldS_of (by with_unfolding_all first | exact hpA H 4 rfl rfl | exact Hp.cell H 4 rfl rfl | exact hpB H 4 rfl rfl | exact hpC H 4 rfl rfl) ?_ | with_reducible refine ldP_of (by with_unfolding_all first | exact hpA H 4 rfl rfl | exact Hp.cell H 4 rfl rfl | exact hpB H 4 rfl rfl | exact hpC H 4 rfl rfl) ?_ | with_reducible refine ldB_of (by with_unfolding_all first | exact hpA H 4 rfl rfl | exact Hp.cell H 4 rfl rfl | exact hpB H 4 rfl rfl | exact hpC H 4 rfl rfl) ?_ | with_reducible refine ldT_of (by with_unfolding_all first | exact hpA H 4 rfl rfl | exact Hp.cell H 4 rfl rfl | exact hpB H 4 rfl rfl | exact hpC H 4 rfl rfl) ?_
 refine cpText_ok (t:=mstT) (l:=l) (vL H fun e he=>by simp [he]) (by omega) hlS fun R3 q3' c3' h' hL3 H'=>?_
 have H:=H.join H' hL3.w
 clear H'
 refine ⟨_,_,_,_,_,_,_,_,_,_,_,rfl,?_⟩
 refine newC_hp H fun r79 h H=>?_
 have H:=H.rot
 refine stVsA H 0 rfl rfl rfl fun h H=>?_
 have H:Hp hB [] h ((⟨r79,true,T_api_Text,mstT.cs q3' l.length c3'⟩::([R56,Q1,Q2,R11,⟨r13,true,T_api_Text,mstT.cs q l.length c⟩]++(R++(D1++R2))))++R3):=H
 refine ldS_of (hpA H 0 rfl rfl) ?_
 refine newC_hp H fun r83 h H=>?_
 have hoZ:(⟨⟨0,0,0,false,⟨0,0,[]⟩⟩,none,0,[]⟩:OwI).Ok:=⟨Slot.nil _ _,(fun x hx=>by cases hx),by show 0<_; omega⟩
 have H:Hp hB [] h (((⟨r79,true,T_api_Text,mstT.cs q3' l.length c3'⟩::([R56,Q1,Q2,R11,⟨r13,true,T_api_Text,mstT.cs q l.length c⟩]++(R++(D1++R2))))++R3)++((⟨⟨0,0,0,false,⟨0,0,[]⟩⟩,none,0,[]⟩:OwI).D++[⟨r83,true,T_api_Instance,(⟨⟨0,0,0,false,⟨0,0,[]⟩⟩,none,0,[]⟩:OwI).cs⟩])):=H
 refine ListI.app' hL3 rfl hoZ H (by omega) fun R4 q4' c4' h hL4 H=>?_
 obtain ⟨l2,hl2⟩:∃ l2:List Ins,l2=l++[⟨0,0,0,false,⟨0,0,[]⟩⟩]:=⟨_,rfl⟩
 have hL4:ListI R4 q4' c4' l2:=by rw [hl2]; exact hL4
 have hn2:l2.length=l.length+1:=by rw [hl2,List.length_append]; rfl
 rw [<- hn2]
 have hf2:TForm mstT sy l2:=⟨hsyM,mst_reg,fun x hx=>by
  rw [hl2] at hx
  rcases List.mem_append.1 hx with hx | hx
  ·exact hlI x hx
  ·rw [List.mem_singleton.1 hx]
   exact ins_plain (by omega) (by omega) (by omega)⟩
 have chk2:chkT mstT sy l2=120:=chkT_big hf2 (.inr (.inl (by omega)))
 refine stA H 0 rfl rfl rfl fun h H=>?_
 have H:Hp hB [] h ((⟨r79,true,T_api_Text,mstT.cs q4' l2.length c4'⟩::([R56,Q1,Q2,R11,⟨r13,true,T_api_Text,mstT.cs q l.length c⟩]++(R++(D1++R2))))++R4):=H
 repeat first | with_reducible refine ldI_of (by with_unfolding_all first | exact hpA H 0 rfl rfl | exact Hp.cell H 0 rfl rfl | exact hpB H 0 rfl rfl | exact hpC H 0 rfl rfl) ?_ | with_reducible refine ldS_of (by with_unfolding_all first | exact hpA H 0 rfl rfl | exact Hp.cell H 0 rfl rfl | exact hpB H 0 rfl rfl | exact hpC H 0 rfl rfl) ?_ | with_reducible refine ldP_of (by with_unfolding_all first | exact hpA H 0 rfl rfl | exact Hp.cell H 0 rfl rfl | exact hpB H 0 rfl rfl | exact hpC H 0 rfl rfl) ?_ | with_reducible refine ldB_of (by with_unfolding_all first | exact hpA H 0 rfl rfl | exact Hp.cell H 0 rfl rfl | exact hpB H 0 rfl rfl | exact hpC H 0 rfl rfl) ?_ | with_reducible refine ldT_of (by with_unfolding_all first | exact hpA H 0 rfl rfl | exact Hp.cell H 0 rfl rfl | exact hpB H 0 rfl rfl | exact hpC H 0 rfl rfl) ?_
 refine tEncN (t:=mstT) (l:=l2) (sy:=sy) rfl hsl (hL4.view H fun e he=>by simp [he]) (vS H (by simp) (by simp) (by simp)) (by omega) (by omega) fun D5 qo5 co5 h' hs5 H'=>?_
 rw [chk2]
 have H:=H.ext H'.hext
 clear H' hs5
 refine ⟨_,_,_,_,rfl,?_⟩
 refine bcase_ne (fun hh=>absurd rfl hh) fun _=>?_
 refine bcase_ne (fun hh=>absurd rfl hh) fun _=>?_
 refine ldS_of (hpA H 1 (by rw [hR56]; rfl) rfl) ?_
 refine bcase_ne (fun hh=>absurd (by omega) hh) fun _=>?_
 refine bcase_ne (fun hh=>absurd rfl hh) fun _=>?_
 have H:Hp hB [] h' [Q1,Q2,R11,⟨r13,true,T_api_Text,mstT.cs q l.length c⟩]:=by
  have H:=Hp.pre H
  have H:Hp hB [] h' ([⟨r79,true,T_api_Text,mstT.cs q4' l2.length c4'⟩,R56]++([Q1,Q2,R11,⟨r13,true,T_api_Text,mstT.cs q l.length c⟩]++(R++(D1++R2)))):=H
  exact Hp.pre (Hp.suf H)
 clear vL hL hL2 hL3 hL4 hs hlI hf hlW hlS chk1 chk2 hf2
 refine white_ok' (W:=1024) (X:=512) hsW fun ws3 q3 h' hl3 hw3 hp3 H'=>?_
 have H:=H.join H' rfl
 clear H'
 refine ⟨_,_,_,_,_,rfl,?_⟩
 rw [hwd] at hl3
 refine newC_hp H fun r107 h H=>?_
 have H:Hp hB [] h [Q1,Q2,R11,⟨r13,true,T_api_Text,mstT.cs q l.length c⟩,⟨q3,true,T_uint64,u64s ws3++[]⟩,⟨r107,true,T_api_Bitmap,[.int .i64 0, .int .i64 0, .slice none 0 0]⟩]:=H
 refine stA H 5 rfl rfl rfl fun h H=>?_
 refine stA H 5 rfl rfl rfl fun h H=>?_
 refine stA H 5 rfl rfl rfl fun h H=>?_
 have H:Hp hB [] h [Q1,Q2,R11,⟨r13,true,T_api_Text,mstT.cs q l.length c⟩,⟨q3,true,T_uint64,u64s ws3++[]⟩,⟨r107,true,T_api_Bitmap,[.int .i64 1024, .int .i64 512, .slice (at0 q3) ws3.length ws3.length]⟩]:=H
 repeat first | with_reducible refine ldI_of (by with_unfolding_all first | exact hpA H 5 rfl rfl | exact Hp.cell H 5 rfl rfl | exact hpB H 5 rfl rfl | exact hpC H 5 rfl rfl) ?_ | with_reducible refine ldS_of (by with_unfolding_all first | exact hpA H 5 rfl rfl | exact Hp.cell H 5 rfl rfl | exact hpB H 5 rfl rfl | exact hpC H 5 rfl rfl) ?_ | with_reducible refine ldP_of (by with_unfolding_all first | exact hpA H 5 rfl rfl | exact Hp.cell H 5 rfl rfl | exact hpB H 5 rfl rfl | exact hpC H 5 rfl rfl) ?_ | with_reducible refine ldB_of (by with_unfolding_all first | exact hpA H 5 rfl rfl | exact Hp.cell H 5 rfl rfl | exact hpB H 5 rfl rfl | exact hpC H 5 rfl rfl) ?_ | with_reducible refine ldT_of (by with_unfolding_all first | exact hpA H 5 rfl rfl | exact Hp.cell H 5 rfl rfl | exact hpB H 5 rfl rfl | exact hpC H 5 rfl rfl) ?_
 refine put_ok (W:=1024) (X:=512) (a:=7) (b:=7) (bit:=true) H 4 rfl hw3 hsW (by rw [hwd]; exact hl3) (by omega) (by omega) fun ws4 h hl4 hw4 hp4 H=>?_
 rw [hwd] at hp4 hp3 hp2
 have hl4':ws4.length=512*16:=by omega
 have hmay4:MayP ((1024:Nat):Int) ((512:Nat):Int) ws4:=may_of_pix hsW (by rw [hwd]; exact hl4') hw4 fun y hy x h1 h2=>by
  rw [hwd] at h2 ⊢
  rw [hp4 y hy x h2,if_neg (by omega)]
  exact hp3 x y
 have hne4:ws4≠ws2:=fun hh=>by
  have h1:=hp4 7 (by omega) 7 (by omega)
  rw [if_pos ⟨rfl,rfl⟩,hh,hp2 7 7] at h1
  cases h1
 rw [<- hl4] at H
 have H:Hp hB [] h [Q1,Q2,R11,⟨r13,true,T_api_Text,mstT.cs q l.length c⟩,⟨q3,true,T_uint64,u64s ws4++[]⟩,⟨r107,true,T_api_Bitmap,[.int .i64 1024, .int .i64 512, .slice (at0 q3) ws4.length ws4.length]⟩]:=H
 repeat first | with_reducible refine ldI_of (by with_unfolding_all first | exact hpA H 5 rfl rfl | exact Hp.cell H 5 rfl rfl | exact hpB H 5 rfl rfl | exact hpC H 5 rfl rfl) ?_ | with_reducible refine ldS_of (by with_unfolding_all first | exact hpA H 5 rfl rfl | exact Hp.cell H 5 rfl rfl | exact hpB H 5 rfl rfl | exact hpC H 5 rfl rfl) ?_ | with_reducible refine ldP_of (by with_unfolding_all first | exact hpA H 5 rfl rfl | exact Hp.cell H 5 rfl rfl | exact hpB H 5 rfl rfl | exact hpC H 5 rfl rfl) ?_ | with_reducible refine ldB_of (by with_unfolding_all first | exact hpA H 5 rfl rfl | exact Hp.cell H 5 rfl rfl | exact hpB H 5 rfl rfl | exact hpC H 5 rfl rfl) ?_ | with_reducible refine ldT_of (by with_unfolding_all first | exact hpA H 5 rfl rfl | exact Hp.cell H 5 rfl rfl | exact hpB H 5 rfl rfl | exact hpC H 5 rfl rfl) ?_
 repeat first | with_reducible refine ldI_of (by with_unfolding_all first | exact hpA H 5 rfl rfl | exact Hp.cell H 5 rfl rfl | exact hpB H 5 rfl rfl | exact hpC H 5 rfl rfl) ?_ | with_reducible refine ldS_of (by with_unfolding_all first | exact hpA H 5 rfl rfl | exact Hp.cell H 5 rfl rfl | exact hpB H 5 rfl rfl | exact hpC H 5 rfl rfl) ?_ | with_reducible refine ldP_of (by with_unfolding_all first | exact hpA H 5 rfl rfl | exact Hp.cell H 5 rfl rfl | exact hpB H 5 rfl rfl | exact hpC H 5 rfl rfl) ?_ | with_reducible refine ldB_of (by with_unfolding_all first | exact hpA H 5 rfl rfl | exact Hp.cell H 5 rfl rfl | exact hpB H 5 rfl rfl | exact hpC H 5 rfl rfl) ?_ | with_reducible refine ldT_of (by with_unfolding_all first | exact hpA H 5 rfl rfl | exact Hp.cell H 5 rfl rfl | exact hpB H 5 rfl rfl | exact hpC H 5 rfl rfl) ?_
 have H:=Hp.pre (X:=[Q1,Q2,R11,⟨r13,true,T_api_Text,mstT.cs q l.length c⟩,⟨q3,true,T_uint64,u64s ws4++[]⟩]) (Y:=[⟨r107,true,T_api_Bitmap,[.int .i64 1024, .int .i64 512, .slice (at0 q3) ws4.length ws4.length]⟩]) H
 refine newC_hp H fun r123 h H=>?_
 obtain ⟨a1,ha1⟩:∃ a1:OwI,a1=⟨⟨-1000,0,1,true,⟨1024,512,ws4⟩⟩,at0 q3,ws4.length,[]⟩:=⟨_,rfl⟩
 obtain ⟨a2,ha2⟩:∃ a2:OwI,a2=⟨⟨0,0,1,true,⟨1024,512,ws4⟩⟩,at0 q3,ws4.length,[]⟩:=⟨_,rfl⟩
 have hca:csI [a1,a2]=[.int .i64 (-1000), .int .i64 0, .int .i64 1, .bool true, .int .i64 1024, .int .i64 512, .slice (at0 q3) ws4.length ws4.length, .int .i64 0, .int .i64 0, .int .i64 1, .bool true, .int .i64 1024, .int .i64 512, .slice (at0 q3) ws4.length ws4.length]:=by rw [ha1,ha2]; rfl
 obtain ⟨Q3,hQ3⟩:∃ Q3:Ent,Q3=⟨q3,true,T_uint64,u64s ws4++[]⟩:=⟨_,rfl⟩
 have H:Hp hB [] h [Q1,Q2,R11,⟨r13,true,T_api_Text,mstT.cs q l.length c⟩,Q3,⟨r123,true,T_api_Instance,csI [a1,a2]++[]⟩]:=by rw [hca,hQ3]; exact H
 refine stA H 3 rfl rfl rfl fun h H=>?_
 have H:Hp hB [] h [Q1,Q2,R11,⟨r13,true,T_api_Text,mstT.cs (some ⟨r123,0,none⟩) 2 2⟩,Q3,⟨r123,true,T_api_Instance,csI [a1,a2]++[]⟩]:=H
 have sA:Slot T_api_Instance 7 [⟨r123,true,T_api_Instance,csI [a1,a2]++[]⟩] (some ⟨r123,0,none⟩) 2 2 (csI [a1,a2]):=Slot.one (by rw [csI_len]; rfl) (by rw [List.append_nil,csI_len]; rfl)
 have vw4:∀ {h:Heap} {J:List Ent},Hp hB [] h J->Q3∈J->a1.Vw h/\a2.Vw h:=fun {h J} H hm=>by
  rw [hQ3] at hm
  have g:rdO h (at0 q3) (ws4.length*1) (u64s ws4):=Hp.rdO_mem (w:=true) (t:=T_uint64) H hm (by simp [u64s])
  rw [ha1,ha2]
  exact ⟨⟨g,hw4,by show ws4.length<_; omega⟩,⟨g,hw4,by show ws4.length<_; omega⟩⟩
 have vwA:InsV h (some ⟨r123,0,none⟩) [a1.i,a2.i]:=⟨[a1,a2],rfl,Slot.rdO' sA H fun e he=>by rw [List.mem_singleton.1 he]; simp,fun o ho=>by
  have hv:=vw4 H (by simp)
  rcases List.mem_cons.1 ho with rfl | ho
  ·exact hv.1
  ·rw [List.mem_singleton.1 ho]; exact hv.2⟩
 have hsy1:symOf sy 1=⟨1024,512,ws2⟩:=by rw [hsy,hb2]; rfl
 have hsy0:symOf sy 0=⟨1,1,ws0⟩:=by rw [hsy,hb1]; rfl
 have hia1:InsOk mstT.rf sy a1.i:=by
  rw [ha1]
  exact ins_differ (by omega) (by omega) (by omega) hmay4 (by rw [hsy1]) (by rw [hsy1]) (by rw [hsy1]; exact hne4)
 have hia2:InsOk mstT.rf sy a2.i:=by
  rw [ha2]
  exact ins_differ (by omega) (by omega) (by omega) hmay4 (by rw [hsy1]) (by rw [hsy1]) (by rw [hsy1]; exact hne4)
 have harA:arI [a1.i,a2.i]=1048576:=by rw [ha1,ha2]; simp [arI]
 have hnA:([a1.i,a2.i]:List Ins).length=2:=rfl
 have hmA:∀ {P:Ins->Prop},P a1.i->P a2.i->∀ x∈[a1.i,a2.i],P x:=fun h1 h2 x hx=>by
  rcases List.mem_cons.1 hx with rfl | hx
  ·exact h1
  ·rw [List.mem_singleton.1 hx]; exact h2
 have hfA:TForm mstT sy [a1.i,a2.i]:=⟨hsyM,mst_reg,hmA hia1 hia2⟩
 have chk3:chkT mstT sy [a1.i,a2.i]=0:=chkT_ok hfA (by omega)
 repeat first | with_reducible refine ldI_of (by with_unfolding_all first | exact hpA H 3 rfl rfl | exact Hp.cell H 3 rfl rfl | exact hpB H 3 rfl rfl | exact hpC H 3 rfl rfl) ?_ | with_reducible refine ldS_of (by with_unfolding_all first | exact hpA H 3 rfl rfl | exact Hp.cell H 3 rfl rfl | exact hpB H 3 rfl rfl | exact hpC H 3 rfl rfl) ?_ | with_reducible refine ldP_of (by with_unfolding_all first | exact hpA H 3 rfl rfl | exact Hp.cell H 3 rfl rfl | exact hpB H 3 rfl rfl | exact hpC H 3 rfl rfl) ?_ | with_reducible refine ldB_of (by with_unfolding_all first | exact hpA H 3 rfl rfl | exact Hp.cell H 3 rfl rfl | exact hpB H 3 rfl rfl | exact hpC H 3 rfl rfl) ?_ | with_reducible refine ldT_of (by with_unfolding_all first | exact hpA H 3 rfl rfl | exact Hp.cell H 3 rfl rfl | exact hpB H 3 rfl rfl | exact hpC H 3 rfl rfl) ?_
 refine tEncN (t:=mstT) (l:=[a1.i,a2.i]) (sy:=sy) hnA hsl vwA (vS H (by simp) (by simp) (by simp)) (by omega) (by omega) fun D6 qo6 co6 h' hs6 H'=>?_
 rw [encT_ok chk3] at hs6
 rw [chk3,encT_ok chk3]
 have H:=H.join H' hs6.w
 clear H'
 refine ⟨_,_,_,_,rfl,?_⟩
 refine tDecN (t:=mstT) hsl (Slot.rdO' hs6 H fun e he=>by simp [he]) (SlotN.cap hs6) (vS H (by simp) (by simp) (by simp)) hfA (by omega) (by omega) (by omega) (hmA (P:=fun x=>W64 x.b.ws) (by rw [ha1]; exact hw4) (by rw [ha2]; exact hw4)) fun R7 q7 c7 h' hL7 H'=>?_
 have H:=(Hp.pre H).ext H'.hext
 clear H'
 refine ⟨_,_,_,_,_,_,_,_,_,_,_,_,rfl,?_⟩
 refine ldS_of (hpA H 3 rfl rfl) ?_
 refine newC_hp H fun r152 h H=>?_
 refine newC_hp H fun r154 h H=>?_
 obtain ⟨a3,ha3⟩:∃ a3:OwI,a3=⟨⟨5,0,0,true,⟨1,1,[9223372036854775808]⟩⟩,some ⟨r152,0,none⟩,1,[⟨r152,true,T_uint64,[.int .u64 9223372036854775808]++[]⟩]⟩:=⟨_,rfl⟩
 obtain ⟨Q5,hQ5⟩:∃ Q5:Ent,Q5=⟨r152,true,T_uint64,u64s [9223372036854775808]++[]⟩:=⟨_,rfl⟩
 have hca3:a3.cs=[.int .i64 5, .int .i64 0, .int .i64 0, .bool true, .int .i64 1, .int .i64 1, .slice (some ⟨r152,0,none⟩) 1 1]:=by rw [ha3]; rfl
 have H:Hp hB [] h ([Q1,Q2,R11,⟨r13,true,T_api_Text,mstT.cs (some ⟨r123,0,none⟩) 2 2⟩,Q3]++([⟨r123,true,T_api_Instance,csI [a1,a2]++[]⟩]++[Q5,⟨r154,true,T_api_Instance,a3.cs++[]⟩])):=by rw [hQ5,hca3]; exact H
 refine Slot.app (m:=1) (new:=a3.cs) sA H rfl (Hp.rdO_mem (rest:=[]) (w:=true) (t:=T_api_Instance) (cs:=a3.cs) H (by simp) (by rw [hca3]; rfl)) (by rw [hca3]; rfl) (fun v hv=>csI_cells [a3] v (List.mem_flatMap.2 ⟨a3,List.mem_singleton.2 rfl,hv⟩)) (by decide) (by decide) fun D8 q8 c8 h s8 H=>?_
 have s8:Slot T_api_Instance 7 D8 q8 3 c8 (csI [a1,a2,a3]):=by
  have e:csI [a1,a2,a3]=csI [a1,a2]++a3.cs:=by
   rw [show [a1,a2,a3]=[a1,a2]++[a3] from rfl,csI_app]
   exact congrArg (csI [a1,a2]++·) (List.append_nil _)
  rw [e]
  exact s8
 refine stA H 3 rfl rfl rfl fun h H=>?_
 have H:Hp hB [] h ([Q1,Q2,R11,⟨r13,true,T_api_Text,mstT.cs q8 3 c8⟩,Q3]++(D8++[Q5,⟨r154,true,T_api_Instance,a3.cs++[]⟩])):=H
 have vwB:InsV h q8 [a1.i,a2.i,a3.i]:=⟨[a1,a2,a3],rfl,Slot.rdO' s8 H fun e he=>by simp [he],fun o ho=>by
  have hv:=vw4 H (by simp)
  rcases List.mem_cons.1 ho with rfl | ho
  ·exact hv.1
  rcases List.mem_cons.1 ho with rfl | ho
  ·exact hv.2
  ·rw [List.mem_singleton.1 ho,ha3]
   exact ⟨Hp.rdO_mem (rest:=[]) (w:=true) (t:=T_uint64) (cs:=u64s [9223372036854775808]) H (by rw [<- hQ5]; simp) rfl,(fun x hx=>by rw [List.mem_singleton.1 hx]; decide),by show 1<_; omega⟩⟩
 have hia3:InsOk mstT.rf sy a3.i:=by
  rw [ha3]
  refine ins_differ (by omega) (by omega) (by omega) ⟨by show SizeP 1 1; unfold SizeP; omega,by decide,fun y hy=>?_⟩ (by rw [hsy0]) (by rw [hsy0]) (by
   rw [hsy0]
   intro hh
   have h1:=hp0 0 0
   have hh:[9223372036854775808]=ws0:=hh
   rw [<- hh] at h1
   revert h1
   decide)
  have:y=0:=by simp at hy; omega
  subst this
  decide
 have hfB:TForm mstT sy [a1.i,a2.i,a3.i]:=⟨hsyM,mst_reg,fun x hx=>by
  rcases List.mem_cons.1 hx with rfl | hx
  ·exact hia1
  rcases List.mem_cons.1 hx with rfl | hx
  ·exact hia2
  ·rw [List.mem_singleton.1 hx]; exact hia3⟩
 have harB:arI [a1.i,a2.i,a3.i]=1048577:=by rw [ha1,ha2,ha3]; simp [arI]
 have hnB:([a1.i,a2.i,a3.i]:List Ins).length=3:=rfl
 have chk4:chkT mstT sy [a1.i,a2.i,a3.i]=120:=chkT_big hfB (.inr (.inr (by omega)))
 repeat first | with_reducible refine ldI_of (by with_unfolding_all first | exact hpA H 3 rfl rfl | exact Hp.cell H 3 rfl rfl | exact hpB H 3 rfl rfl | exact hpC H 3 rfl rfl) ?_ | with_reducible refine ldS_of (by with_unfolding_all first | exact hpA H 3 rfl rfl | exact Hp.cell H 3 rfl rfl | exact hpB H 3 rfl rfl | exact hpC H 3 rfl rfl) ?_ | with_reducible refine ldP_of (by with_unfolding_all first | exact hpA H 3 rfl rfl | exact Hp.cell H 3 rfl rfl | exact hpB H 3 rfl rfl | exact hpC H 3 rfl rfl) ?_ | with_reducible refine ldB_of (by with_unfolding_all first | exact hpA H 3 rfl rfl | exact Hp.cell H 3 rfl rfl | exact hpB H 3 rfl rfl | exact hpC H 3 rfl rfl) ?_ | with_reducible refine ldT_of (by with_unfolding_all first | exact hpA H 3 rfl rfl | exact Hp.cell H 3 rfl rfl | exact hpB H 3 rfl rfl | exact hpC H 3 rfl rfl) ?_
 refine tEncN (t:=mstT) (l:=[a1.i,a2.i,a3.i]) (sy:=sy) hnB hsl vwB (vS H (by simp) (by simp) (by simp)) (by omega) (by omega) fun D9 qo9 co9 h' hs9 H'=>?_
 rw [chk4]
 have H:=H.ext H'.hext
 clear H'
 refine ⟨_,_,_,_,rfl,?_⟩
 refine bcase_eq (fun _=>?_) fun hh=>absurd rfl hh
 refine bcase_eq (fun _=>?_) fun hh=>absurd rfl hh
 refine bcase_eq (fun _=>?_) fun hh=>absurd rfl hh
 exact wakes14_ok fun h' e=>⟨_,rfl,hk _ (H.hext.trans e)⟩
end
end Go.Bm
namespace Go.Proofs.YtbknfejmdekhpaaGreat
open Go.ChangeShapes Go.WideShapes Go.ChangeAt Go.RowKit
theorem own:ownKnob Tryz.prog.godebug=none:=by kernel_rfl
theorem below_of {W W':World} (hk:Go.Den.keeps W W') (h:Go.Den.hext W.heap W'.heap):Below W.heap.size W W' :=
 ⟨hk.1,hk.2.1,hk.2.2,h.1,fun k hlt=>h.2 k hlt⟩
theorem walk_of {f:FuncId} {args:Array Value} {W:World}
  (h:Calls Tryz.prog f args W fun e w'=>Go.Den.keeps W w'/\match e with
   | .returned v=>v = .bool true/\Go.Den.hext W.heap w'.heap
   | .panicked c=>False
   | .outgrown=>False):Calls Tryz.prog f args W fun e W'=>e = .returned (.bool true)/\Below W.heap.size W W':=by
 refine h.mono fun e W' he=>?_
 obtain ⟨hk,he⟩:=he
 cases e with
 | returned v=>exact ⟨by rw [he.1],below_of hk he.2⟩
 | panicked c=>exact he.elim
 | outgrown=>exact he.elim
end Go.Proofs.YtbknfejmdekhpaaGreat
namespace Go.Proofs.YtbknfejmdekhpaaGreat
open Go.ChangeShapes Go.WideShapes Go.ChangeAt Go.RowKit
theorem textMost_walk (W:World):Calls Tryz.prog 11 #[] W fun e W'=>e = .returned (.bool true)/\Below W.heap.size W W' :=
 walk_of ((Go.Bm.tMost_law (hB:=W.heap) (K:=fun v h'=>v = .bool true/\Go.Den.hext W.heap h') (Kp:=fun _ _=>False) fun h' e=>⟨rfl,e⟩).2 W rfl)
theorem textMost_lifted (os:Os) (started:os.Started) (H:Type) (enc:TypeId × Value->H) :
  ReturnsInHanded {} Tryz.checked os 11 .any (Rows.textMostSpec.pre6 enc Tryz.prog Tryz.f11 Rows.textMostRow.domain false) (Rows.textMostSpec.post enc Tryz.prog Tryz.f11 false true false false):=by
 refine returnsInHanded_of_change (C:=Tryz.checked) own started (by kernel_rfl) Tryz.func11
  (ChangeSpec.witness6 (enc:=enc) (C:=Tryz.checked) false ⟨#[],#[],[]⟩ 8 (by kernel_rfl) (by kernel_rfl) (by kernel_rfl) (by kernel_rfl)) ?_
 intro W base args ds gs before hval0 hW hcnd _
 have hval:∀ (j:Nat) t v,Tryz.f11.params[j]? = some t->args[j]? = some v->Value.okWide Tryz.prog W .any base t v:=hval0
 have hW':=hW
 obtain ⟨p,q,hA0,hV,rfl,hfz,hnd⟩:=hW
 have hA:DataW.TrodAll enc Tryz.prog W 0 (fun _=>true) true Tryz.f11.params.toList args.toList ds p:=hA0
 rw [Tryz.params11] at hA hval
 obtain ⟨rfl,rfl,rfl⟩:=trodAll_none hA
 obtain ⟨rfl,rfl⟩:=trodVars_none hV
 clear hA0 hval0
 simp only [List.append_nil] at hW'
 refine (textMost_walk W).mono fun e W' ⟨he,hb⟩=>?_
 subst he
 refine ⟨_,rfl,[],[],_,[],[],[],hW',?_,?_,?_,hb.frame _,fun h=>Bool.noConfusion h⟩
 ·exact trodAll_cons_mk (shut_bool Go.Proofs.Tryz.underlying4 _) trodAll_mk0
 ·rfl
 ·rfl
theorem textMost_over:Rows.textMostRow.holds Tryz.pinned (OpenSpec.ofChange Rows.textMostSpec) :=
 OpenClaim.holds_of_wide 11 Tryz.f11 rfl rfl rfl rfl rfl rfl rfl ⟨rfl,rfl,rfl,rfl,rfl⟩ rfl rfl rfl rfl rfl (by kernel_rfl) Tryz.func11 (by kernel_rfl)
  (of_decide_eq_true (by kernel_rfl)) (by unfold Func.isWrapper; first | (rw [if_pos (by decide +kernel)]; kernel_rfl) | (rw [if_neg (by decide +kernel)]; exact ⟨rfl,rfl⟩))
  (fun os started H enc _=>textMost_lifted os started H enc)
theorem textMost_proved:Rows.TextMostSaid:=textMost_over
#print axioms textMost_proved
end Go.Proofs.YtbknfejmdekhpaaGreat
