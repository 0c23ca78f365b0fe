/- W7: put together by wip/tools/bundle.py: DcE DcF DcG TxB TxC TxD TxE TxF Mcmp Bcmp Mtext Btext TxG TxH TxI. -/
import Derived.Test.YtbknfejmdekhpaaGreatW1
import Derived.Test.YtbknfejmdekhpaaGreatW2
import Derived.Test.YtbknfejmdekhpaaGreatW3
import Derived.Test.YtbknfejmdekhpaaGreatW4
import Derived.Test.YtbknfejmdekhpaaGreatW5
import Derived.Test.YtbknfejmdekhpaaGreatW6
import Derived.Test.YtbknfejmdekhpaaGreatProg
set_option linter.unusedVariables false
set_option linter.unusedSimpArgs false
set_option maxRecDepth 100000
namespace Go.Bm
open Go Go.Den Go.Den.YtbknfejmdekhpaaGreat
open Classical in
section
variable {hB:Heap} {q1 q2 q3:Option Addr} {c1 c2 c3:Nat} {t:Int} {new imp:List Bmp} {ex:List Bool} {K:VK} {Kp:PK}
end
section
variable {hB:Heap} {q1 q2 q3:Option Addr} {c1 c2 c3:Nat} {t:Int} {new imp:List Bmp} {ex:List Bool} {K:VK} {Kp:PK}
end
theorem Si {h:Heap} {t:TypeId} {sz by_ m:Nat} {z:List Value} {src:Option Addr} {new:List Value} (hz:z.length=sz) (hs0:1<=sz) (hr:rdO h src (m*sz) new) (hm:new.length=m*sz) (hnew:∀ v∈new,v.oneCell'=true) (hby:m*by_<=140737488355328)
  {K:Option Addr->Nat->Nat->Heap->Prop} (hk:∀ D q' c' h',Slot t sz D q' m c' new->Hp h [] h' D->K q' m c' h'):l4 h t sz by_ z none 0 0 src m K:=by
 rcases oO m with h1 | h1
 ·subst h1
  refine Slot.Ls (A:=[]) (B:=[]) (D:=[]) (n:=0) (m:=0) (new:=new) (Slot.nil t sz) (Hp.nil h []) hz hs0 hr hm hnew (by rw [fN,kK]; decide) fun D q' c' h' hs H=>?_
  rw [fN,gd] at hs
  rw [gd,fT] at H
  exact hk D q' c' h' hs H
 ·exact D6 (Hp.nil h []) hz hr hm h1 hby fun b' rest' c' h' hl hc _ H=>hk [⟨b',true,t,new++rest'⟩] (some ⟨b',0,none⟩) c' h' (Slot.one hm hl) H
structure Own where
 b:Bmp
 q:Option Addr
 c:Nat
 D:List Ent
structure Own.Ok (o:Own):Prop where
 s:Slot gj 1 o.D o.q o.b.ws.length o.c (il o.b.ws)
 w:W64 o.b.ws
 l:o.b.ws.length<140737488351300
def Own.cs (o:Own):List Value:=[.int .i64 o.b.w,.int .i64 o.b.h,.slice o.q o.b.ws.length o.c]
def csO (O:List Own):List Value:=O.flatMap Own.cs
def dsO (O:List Own):List Ent:=O.flatMap Own.D
theorem Pq (O:List Own) (o:Own):csO (O++[o])=csO O++o.cs:=by
 unfold csO
 rw [qC]
 simp
theorem Pj (O:List Own) (o:Own):dsO (O++[o])=dsO O++o.D:=by
 unfold dsO
 rw [qC]
 simp
theorem Mp:∀ (O:List Own) (i j:Nat) (o:Own),O[i]? = some o->j<3->(csO O)[i*3+j]? = o.cs[j]?
 | [],i,j,o,h,_=>by cases h
 | o'::O,0,j,o,h,hj=>by
  injection h with h
  subst h
  have:csO (o'::O)=o'.cs++csO O:=rfl
  rw [this,kK,fN,gk (by exact hj)]
 | o'::O,i+1,j,o,h,hj=>by
  have e:csO (o'::O)=o'.cs++csO O:=rfl
  have hl:o'.cs.length=3:=rfl
  rw [e,gM (by rw [hl]; omega),hl,show (i+1)*3+j-3=i*3+j by omega]
  exact Mp O i j o h hj
theorem QM {O:List Own} {o:Own} (h:o∈O):∀ e∈o.D,e∈dsO O:=fun e he=>List.mem_flatMap.2 ⟨o,h,he⟩
theorem SV {O:List Own} (h:∀ o∈O,o.Ok):(dsO O).all Ent.w=true:=List.all_eq_true.2 fun e he=>by
 obtain ⟨o,ho,he⟩:=List.mem_flatMap.1 he
 exact List.all_eq_true.1 (h o ho).s.w e he
def vR (R:List Ent) (q:Option Addr) (c:Nat) (l:List Bmp):Prop:=∃ O E,(∀ o∈O,o.Ok)/\O.map Own.b=l/\Slot fK 3 E q l.length c (csO O)/\R=dsO O++E
theorem vR.nil:vR [] none 0 []:=⟨[],[],(fun o ho=>by cases ho),rfl,Slot.nil _ _,rfl⟩
theorem vR.w {R:List Ent} {q:Option Addr} {c:Nat} {l:List Bmp} (h:vR R q c l):R.all Ent.w=true:=by
 obtain ⟨O,E,h1,h2,h3,rfl⟩:=h
 rw [pP,SV h1,h3.w]
 rfl
section
variable {h0 h:Heap} {F:List Nat} {L A R:List Ent} {q:Option Addr} {c:Nat} {l:List Bmp}
theorem vR.view (hl:vR R q c l) (H:Hp h0 F h L) (hs:∀ e∈R,e∈L):o7 h q l:=by
 obtain ⟨O,E,h1,rfl,h3,rfl⟩:=hl
 intro i b hi
 rw [gL] at hi
 cases ho:O[i]? with
 | none=>rw [ho] at hi; cases hi
 | some o =>
  rw [ho] at hi
  injection hi with hi
  subst hi
  have hom:=fS ho
  obtain ⟨hl,⟨_,_,h4,_⟩ | ⟨e,rest,rfl,rfl,h4⟩⟩:=h3
  ·have:=(List.getElem?_eq_some_iff.1 ho).1
   rw [iu] at h4
   omega
  ·have cell:∀ j v,j<3->o.cs[j]? = some v->ic h (((⟨e,0,none⟩:Addr).add (i*3)).add j)=some v:=fun j v hj hv=>by
    rw [gC,gC,fN]
    obtain ⟨k,hk⟩:=pE (hs _ (fX _ (List.mem_singleton.2 rfl)))
    refine H.cell k hk ?_
    have hv2:=(Mp O i j o ho hj).trans hv
    rw [gk (List.getElem?_eq_some_iff.1 hv2).1]
    exact hv2
   exact ⟨_,o.q,o.c,rfl,⟨cell 0 _ (by decide) rfl,cell 1 _ (by decide) rfl,cell 2 _ (by decide) rfl,Slot.vt (h1 o hom).s H fun x hx=>hs x (gV _ (QM hom x hx)),(h1 o hom).w,(h1 o hom).l⟩⟩
theorem vR.app (hl:vR R q c l) {o:Own} (ho:o.Ok) {r:Nat} (H:Hp h0 F h (A++R++(o.D++[⟨r,true,fK,o.cs⟩]))) (hn:l.length<=1000000) {K:Option Addr->Nat->Nat->Heap->Prop}
  (hk:∀ R' q' c' h',vR R' q' c' (l++[o.b])->Hp h0 F h' (A++R')->K q' (l.length+1) c' h'):l4 h fK 3 40 [.int .i64 0,.int .i64 0,.slice none 0 0] q l.length c (some ⟨r,0,none⟩) 1 K:=by
 obtain ⟨O,E,h1,h2,h3,rfl⟩:=hl
 have H:Hp h0 F h ((A++dsO O)++(E++(o.D++[⟨r,true,fK,o.cs⟩]))):=H.as (by simp only [fC])
 refine Slot.app (m:=1) (new:=o.cs) h3 H rfl (Hp.n9 (rest:=[]) (cs:=o.cs) H (by rw [fT]; exact fX _ (fX _ (fX _ (List.mem_singleton.2 rfl)))) rfl) rfl (fun v hv=>by
  unfold Own.cs at hv
  simp only [List.mem_cons,List.not_mem_nil,or_false] at hv
  rcases hv with rfl | rfl | rfl <;> rfl) (by decide) (by omega) fun E' q' c' h' hs H=>?_
 rw [<- Pq] at hs
 refine hk (dsO (O++[o])++E') q' c' h' ⟨O++[o],E',fun x hx=>?_,by rw [nS,h2]; rfl,by rw [fA]; exact hs,rfl⟩ ?_
 ·rcases List.mem_append.1 hx with hx | hx
  ·exact h1 x hx
  ·rw [List.mem_singleton.1 hx]; exact ho
 ·have H:Hp h0 F h' ((A++dsO O)++E'++o.D++[⟨r,true,fK,o.cs⟩]):=H.as (by simp only [fC])
  have H:=(Hp.pre H).swap
  rw [Pj]
  exact H.as (by simp only [fC])
end
section
variable {hB:Heap} {K:VK} {Kp:PK}
theorem Ps {q:Option Addr} {c:Nat} {b:Bmp} (hr:rdO hB q (b.ws.length*1) (il b.ws)) (hw:W64 b.ws) (hl:b.ws.length<=1000000000000) (hk:∀ (o:Own) h',o.Ok->o.b=b->Hp hB [] h' o.D->K (.agg #[.int .i64 b.w,.int .i64 b.h,.slice o.q b.ws.length o.c]) h') :
  CP mg #[.agg #[.int .i64 b.w,.int .i64 b.h,.slice q b.ws.length c]] hB K Kp:=by
 refine vx ?_
 unfold oC
 have H:=Hp.nil hB []
 refine fV H fun r4 h H=>?_
 refine fV H fun r6 h H=>?_
 have H:Hp hB [] h [⟨r4,true,fK,[.int .i64 b.w,.int .i64 b.h,.slice q b.ws.length c]⟩,⟨r6,true,fK,[.int .i64 0,.int .i64 0,.slice none 0 0]⟩]:=H
 refine fz (hpA H 0 rfl rfl) (fz (hpA H 0 rfl rfl) (fU (hpA H 0 rfl rfl) ?_))
 refine Si (sz:=1) (m:=b.ws.length) (new:=il b.ws) rfl (by decide) (H.rdO hr) (by rw [iO,gu]) (xH _) (by omega) fun D q' c' h' hs H'=>?_
 refine ⟨H'.gi,?_⟩
 replace H:=H.join H' hs.w
 clear H'
 repeat first | with_reducible refine stA H 1 (by with_unfolding_all exact rfl) (by with_unfolding_all exact rfl) (by with_unfolding_all exact rfl) fun h H=>?_ | with_reducible refine st0 H 1 (by with_unfolding_all exact rfl) (by with_unfolding_all exact rfl) (by with_unfolding_all exact rfl) fun h H=>?_ | with_reducible refine stB H 1 (by with_unfolding_all exact rfl) (by with_unfolding_all exact rfl) (by with_unfolding_all exact rfl) fun h H=>?_
 have H:Hp hB [] h ([⟨r4,true,fK,[.int .i64 b.w,.int .i64 b.h,.slice q b.ws.length c]⟩,⟨r6,true,fK,[.int .i64 b.w,.int .i64 b.h,.slice q' b.ws.length c']⟩]++D):=H
 refine fz (hpA H 1 rfl rfl) (fz (hpA H 1 rfl rfl) (fU (hpA H 1 rfl rfl) ?_))
 exact hk ⟨b,q',c',D⟩ h ⟨hs,hw,by show b.ws.length<_; omega⟩ rfl (Hp.suf H)
theorem Ns {q:Option Addr} {c:Nat} {b:Bmp} (hr:rdO hB q (b.ws.length*1) (il b.ws)) (hw:W64 b.ws) (hl:b.ws.length<=1000000000000) (hk:∀ (o:Own) h',o.Ok->o.b=b->Hp hB [] h' o.D->K (.slice o.q b.ws.length o.c) h') :
  CP jv #[.slice q b.ws.length c] hB K Kp:=by
 refine mZ ?_
 unfold lr
 cases q with
 | none =>
  have h0:il b.ws=[]:=hr
  have h1:b.ws.length=0:=by rw [<- iO,h0]; rfl
  refine gN (by rfl) ?_
  have hk:=hk ⟨b,none,0,[]⟩ hB ⟨by show Slot gj 1 [] none b.ws.length 0 (il b.ws); rw [h0,h1]; exact Slot.nil _ _,hw,by show b.ws.length<_; omega⟩ rfl (Hp.nil hB [])
  rw [h1] at hk
  exact hk
 | some a =>
  refine fZ (by rfl) ?_
  have H:=Hp.nil hB []
  refine fV H fun r1 h H=>?_
  have hs0:Slot gj 1 [⟨r1,true,gj,[]++[]⟩] (some ⟨r1,0,none⟩) 0 0 []:=Slot.one rfl rfl
  have H:Hp hB [] h ([]++([⟨r1,true,gj,[]++[]⟩]++[])):=H
  refine Slot.Ls (m:=b.ws.length) (new:=il b.ws) hs0 H rfl (by decide) (H.rdO hr) (by rw [iO,gu]) (xH _) (by omega) fun D q' c' h' hs H=>?_
  rw [fN,gd] at hs
  rw [fN]
  rw [gd,fT] at H
  exact hk ⟨b,q',c',D⟩ h' ⟨hs,hw,by show b.ws.length<_; omega⟩ rfl H
theorem QU {q:Option Addr} {c:Nat} {l:List Bmp} (hv:o7 hB q l) (hn:l.length<=1000000) (hw:∀ b∈l,b.ws.length<=1000000000000) (hk:∀ R q' c' h',vR R q' c' l->Hp hB [] h' R->K (.slice q' l.length c') h') :
  CP nf #[.slice q l.length c] hB K Kp:=by
 refine u5 ?_
 unfold n8
 refine ⟨fun m vs h'=>∃ (i:Nat) (R:List Ent) (q':Option Addr) (c':Nat),i+m=l.length/\vs=[.slice q' i c',.int .i64 (i:Nat)]/\vR R q' c' (l.take i)/\Hp hB [] h' R,⟨l.length,0,[],none,0,by omega,rfl,vR.nil,Hp.nil hB []⟩,?_⟩
 rintro m h u xq xn xc xi ⟨i,R,q',c',him,hxx,hL,H⟩
 injection hxx with hx1 hxx
 injection hxx with hx2 hxx
 injection hx1 with hx1 hx3 hx4
 injection hx2 with _ hx2
 subst xq xn xc xi
 refine fL (fun h1=>?_) fun h1=>?_
 ·obtain ⟨b,hb⟩:∃ b,l[i]? = some b:=⟨_,fP (by omega)⟩
  obtain ⟨a,q1,c1,rfl,hc⟩:=hv i b hb
  have hc:=hc.ext H.gi
  have hlt:(l.take i).length=i:=by rw [iC]; omega
  refine fH (by omega) (gv (a:=a) ?_)
  rw [fD]
  refine fz hc.c0 (fz hc.c1 (fU hc.c2 ?_))
  refine Ps hc.r1 hc.w1 (hw b (fS hb)) fun o h' ho hob H'=>?_
  subst hob
  replace H:=H.join H' ho.s.w
  clear H'
  refine ⟨_,_,_,_,_,rfl,?_⟩
  refine fV H fun r17 h H=>?_
  have H:Hp hB [] h (([]++R)++(o.D++[⟨r17,true,fK,o.cs⟩])):=H.as (by simp only [fC,gd]; rfl)
  have key:l4 h fK 3 40 [.int .i64 0,.int .i64 0,.slice none 0 0] q' (l.take i).length c' (some ⟨r17,0,none⟩) 1 fun q_19 q_19n q_19c h_20=>fG (IntKind.i64.wrap ((i:Nat)+(1:Int))) fun z_21=>∃ m_2,m_2<m/\∃ (i:Nat) (R:List Ent) (q':Option Addr) (c':Nat),i+m_2=l.length/\[Value.slice q_19 q_19n q_19c,.int .i64 z_21]=[Value.slice q' i c',.int .i64 (i:Nat)]/\vR R q' c' (l.take i)/\Hp hB [] h_20 R:=by
   refine hL.app ho H (by omega) fun R' q2 c2 h' hL' H=>?_
   refine fw (((i+1:Nat):Int)) (by exact fO _ _ (by omega) (by omega) (by omega)) ?_
   rw [<- kC hb] at hL'
   exact ⟨m-1,by omega,i+1,R',q2,c2,by omega,by rw [hlt],hL',H⟩
  rw [hlt] at key
  exact key
 ·obtain rfl:i=l.length:=by omega
  rw [gz (gg _)] at hL
  exact hk R q' c' h hL H
end
structure Ins where
 x:Int
 y:Int
 s:Int
 d:Bool
 b:Bmp
structure OwI where
 i:Ins
 q:Option Addr
 c:Nat
 D:List Ent
def OwI.cs (o:OwI):List Value:=[.int .i64 o.i.x,.int .i64 o.i.y,.int .i64 o.i.s,.bool o.i.d,.int .i64 o.i.b.w,.int .i64 o.i.b.h,.slice o.q o.i.b.ws.length o.c]
abbrev OwI.ag (o:OwI):Value := .agg #[.int .i64 o.i.x,.int .i64 o.i.y,.int .i64 o.i.s,.bool o.i.d,.int .i64 o.i.b.w,.int .i64 o.i.b.h,.slice o.q o.i.b.ws.length o.c]
def csI (O:List OwI):List Value:=O.flatMap OwI.cs
theorem tj (o:OwI) (O:List OwI):csI (o::O)=o.cs++csI O:=rfl
theorem m5 (O:List OwI):(csI O).length=O.length*7:=by
 induction O with
 | nil=>rfl
 | cons o O ih =>
  rw [tj,fA,ih,gp,gZ]
  have:o.cs.length=7:=rfl
  omega
theorem QS (A B:List OwI):csI (A++B)=csI A++csI B:=by
 unfold csI
 rw [qC]
theorem HL (O:List OwI):∀ v∈csI O,v.oneCell'=true:=fun v hv=>by
 unfold csI at hv
 obtain ⟨o,_,hv⟩:=List.mem_flatMap.1 hv
 unfold OwI.cs at hv
 simp only [List.mem_cons,List.not_mem_nil,or_false] at hv
 rcases hv with rfl | rfl | rfl | rfl | rfl | rfl | rfl <;> rfl
theorem E2:∀ (O:List OwI) (rest:List Value) (i j:Nat) (o:OwI),O[i]? = some o->j<7->(csI O++rest)[i*7+j]? = o.cs[j]?
 | [],_,i,j,o,h,_=>by cases h
 | o'::O,rest,0,j,o,h,hj=>by
  injection h with h
  subst h
  rw [tj,kK,fN,fC,gk (by exact hj)]
 | o'::O,rest,i+1,j,o,h,hj=>by
  have hl:o'.cs.length=7:=rfl
  rw [tj,fC,gM (by rw [hl]; omega),hl,show (i+1)*7+j-7=i*7+j by omega]
  exact E2 O rest i j o h hj
theorem qP (o':OwI) (L:List Value) (i j:Nat) (v:Value):(o'.cs++L).set ((i+1)*7+j) v=o'.cs++L.set (i*7+j) v:=by
 rw [show (i+1)*7+j=i*7+j+7 by omega]
 rfl
theorem Mq:∀ (O:List OwI) (rest:List Value) (i:Nat) (o:OwI),i<O.length ->
  (((((((csI O++rest).set (i*7+0) (.int .i64 o.i.x)).set (i*7+1) (.int .i64 o.i.y)).set (i*7+2) (.int .i64 o.i.s)).set (i*7+3) (.bool o.i.d)).set (i*7+4) (.int .i64 o.i.b.w)).set (i*7+5) (.int .i64 o.i.b.h)).set (i*7+6) (.slice o.q o.i.b.ws.length o.c)=csI (O.set i o)++rest
 | [],_,i,o,h=>by cases h
 | o'::O,rest,0,o,h=>by rfl
 | o'::O,rest,i+1,o,h=>by
  rw [tj,fC,qP,qP,qP,qP,qP,qP,qP,Mq O rest i o (Nat.lt_of_succ_lt_succ h)]
  rfl
section
variable {h0 h:Heap} {F:List Nat} {B:List Ent} {b:Nat} {O:List OwI} {rest:List Value}
theorem ld7 (H:Hp h0 F h (⟨b,true,fM,csI O++rest⟩::B)) {i:Nat} {o:OwI} (ho:O[i]? = some o) {K:Int->Int->Int->Bool->Int->Int->Option Addr->Nat->Nat->Prop}
  (hk:K o.i.x o.i.y o.i.s o.i.d o.i.b.w o.i.b.h o.q o.i.b.ws.length o.c) :
  ldI h (((⟨b,0,none⟩:Addr).add (((i:Nat):Int).toNat*7)).add 0) .i64 fun x1 =>
  ldI h (((⟨b,0,none⟩:Addr).add (((i:Nat):Int).toNat*7)).add 1) .i64 fun x2 =>
  ldI h (((⟨b,0,none⟩:Addr).add (((i:Nat):Int).toNat*7)).add 2) .i64 fun x3 =>
  ldB h (((⟨b,0,none⟩:Addr).add (((i:Nat):Int).toNat*7)).add 3) fun x4 =>
  ldI h (((⟨b,0,none⟩:Addr).add (((i:Nat):Int).toNat*7)).add 4) .i64 fun x5 =>
  ldI h (((⟨b,0,none⟩:Addr).add (((i:Nat):Int).toNat*7)).add 5) .i64 fun x6 =>
  ldS h (((⟨b,0,none⟩:Addr).add (((i:Nat):Int).toNat*7)).add 6) fun q n c=>K x1 x2 x3 x4 x5 x6 q n c:=by
 have cell:∀ j v,j<7->o.cs[j]? = some v->ic h (((⟨b,0,none⟩:Addr).add (((i:Nat):Int).toNat*7)).add j)=some v:=fun j v hj hv=>by
  rw [fD,gC,gC,fN]
  exact H.cell 0 rfl ((E2 O rest i j o ho hj).trans hv)
 exact fz (cell 0 _ (by decide) rfl) (fz (cell 1 _ (by decide) rfl) (fz (cell 2 _ (by decide) rfl) (gT (cell 3 _ (by decide) rfl) (fz (cell 4 _ (by decide) rfl) (fz (cell 5 _ (by decide) rfl) (fU (cell 6 _ (by decide) rfl) hk))))))
theorem st7 (H:Hp h0 F h (⟨b,true,fM,csI O++rest⟩::B)) {i:Nat} (o:OwI) (hi:i<O.length) {K:Heap->Prop}
  (hk:∀ h',Hp h0 F h' (⟨b,true,fM,csI (O.set i o)++rest⟩::B)->K h') :
  stV h (((⟨b,0,none⟩:Addr).add (((i:Nat):Int).toNat*7)).add 0) (.int .i64 o.i.x) fun h1 =>
  stV h1 (((⟨b,0,none⟩:Addr).add (((i:Nat):Int).toNat*7)).add 1) (.int .i64 o.i.y) fun h2 =>
  stV h2 (((⟨b,0,none⟩:Addr).add (((i:Nat):Int).toNat*7)).add 2) (.int .i64 o.i.s) fun h3 =>
  stV h3 (((⟨b,0,none⟩:Addr).add (((i:Nat):Int).toNat*7)).add 3) (.bool o.i.d) fun h4 =>
  stV h4 (((⟨b,0,none⟩:Addr).add (((i:Nat):Int).toNat*7)).add 4) (.int .i64 o.i.b.w) fun h5 =>
  stV h5 (((⟨b,0,none⟩:Addr).add (((i:Nat):Int).toNat*7)).add 5) (.int .i64 o.i.b.h) fun h6 =>
  stV h6 (((⟨b,0,none⟩:Addr).add (((i:Nat):Int).toNat*7)).add 6) (.slice o.q o.i.b.ws.length o.c) fun h7=>K h7:=by
 have hl:(csI O++rest).length=O.length*7+rest.length:=by rw [fA,m5]
 rw [fD]
 simp only [gC,fN]
 refine gq H 0 rfl (by rw [hl]; omega) rfl fun h _ H=>?_
 refine gq H 0 rfl (by rw [gB,hl]; omega) rfl fun h _ H=>?_
 refine gq H 0 rfl (by rw [gB,gB,hl]; omega) rfl fun h _ H=>?_
 refine gq H 0 rfl (by rw [gB,gB,gB,hl]; omega) rfl fun h _ H=>?_
 refine gq H 0 rfl (by rw [gB,gB,gB,gB,hl]; omega) rfl fun h _ H=>?_
 refine gq H 0 rfl (by rw [gB,gB,gB,gB,gB,hl]; omega) rfl fun h _ H=>?_
 refine gq H 0 rfl (by rw [gB,gB,gB,gB,gB,gB,hl]; omega) rfl fun h _ H=>?_
 refine hk h ?_
 rw [<- Mq O rest i o hi]
 exact H
end
theorem wh {α:Type} (P S:List α) (a b:α):(P++a::S).set P.length b=P++b::S:=by
 rw [jl _ _ (gg _),iH]
 rfl
theorem get_at {α:Type} (P S:List α) (a:α):(P++a::S)[P.length]? = some a:=by
 rw [gM (gg _),iH]
 rfl
section
variable {h0:Heap} {F:List Nat} {B:List Ent} {b:Nat} {rest:List Value} {cmp:Value} {K:VK} {Kp:PK}
abbrev lk (b:Nat) (O:List OwI) (rest:List Value):Ent:=⟨b,true,fM,csI O++rest⟩
theorem xK {h:Heap} {P X G Y S:List OwI} {n c:Nat} (hn:n=(P++X++G++Y++S).length) (hb:n<=1000000) (hXY:X.length=Y.length) {p1 p2 p3:Nat} (e1:p1=P.length) (e2:p2=P.length+X.length+G.length) (e3:p3=X.length) (H:Hp h0 F h (lk b (P++X++G++Y++S) rest::B))
  (hk:∀ h',Hp h0 F h' (lk b (P++Y++G++X++S) rest::B)->K (.tuple #[]) h') :
  CP iY #[.slice (some ⟨b,0,none⟩) n c,.int .i64 (p1:Nat),.int .i64 (p2:Nat),.int .i64 (p3:Nat),cmp] h K Kp:=by
 subst e1 e2 e3
 refine nN ?_
 unfold kE
 have hn':n=P.length+X.length+G.length+Y.length+S.length:=by rw [hn]; simp only [fA]
 refine ⟨fun m vs h'=>∃ X1 X2 Y1 Y2,X=X1++X2/\Y=Y1++Y2/\X1.length=Y1.length/\X2.length=m/\vs=[.int .i64 (X1.length:Nat)]/\Hp h0 F h' (lk b (P++(Y1++X2)++G++(X1++Y2)++S) rest::B),⟨X.length,[],X,[],Y,rfl,rfl,rfl,rfl,rfl,H⟩,?_⟩
 rintro m h u xi ⟨X1,X2,Y1,Y2,rfl,rfl,h1,h2,hxx,H⟩
 injection hxx with hx1 hxx
 injection hx1 with _ hx1
 subst xi
 simp only [fA] at hn' hXY ⊢
 refine fL (fun hlt=>?_) fun hlt=>?_
 ·obtain ⟨x,X3,rfl⟩:∃ x X3,X2=x::X3:=by
   cases X2 with
   | nil=>simp at hlt
   | cons x X3=>exact ⟨x,X3,rfl⟩
  obtain ⟨y,Y3,rfl⟩:∃ y Y3,Y2=y::Y3:=by
   cases Y2 with
   | nil=>simp only [gp,iZ] at hXY; omega
   | cons y Y3=>exact ⟨y,Y3,rfl⟩
  simp only [gp] at hn' hXY h2 ⊢
  have eA:P++(Y1++x::X3)++G++(X1++y::Y3)++S=(P++Y1)++x::(X3++G++X1++y::Y3++S):=by simp only [fC,gm]
  have eB:P++(Y1++x::X3)++G++(X1++y::Y3)++S=(P++Y1++x::X3++G++X1)++y::(Y3++S):=by simp only [fC,gm]
  have eC:(P++Y1)++y::(X3++G++X1++y::Y3++S)=(P++Y1++y::X3++G++X1)++y::(Y3++S):=by simp only [fC,gm]
  have eD:(P++Y1++y::X3++G++X1)++x::(Y3++S)=P++((Y1++[y])++X3)++G++((X1++[x])++Y3)++S:=by simp only [fC,gm,gd]
  have lA:(P++Y1).length=P.length+X1.length:=by rw [fA]; omega
  have lB:(P++Y1++x::X3++G++X1).length=P.length+(X1.length+(X3.length+1))+G.length+X1.length:=by simp only [fA,gp]; omega
  have lC:(P++Y1++y::X3++G++X1).length=P.length+(X1.length+(X3.length+1))+G.length+X1.length:=by simp only [fA,gp]; omega
  refine fw ((P.length+X1.length:Nat):Int) (by exact fO _ _ (by omega) (by omega) (by omega)) ?_
  refine fw ((P.length+(X1.length+(X3.length+1))+G.length+X1.length:Nat):Int) (by exact fO _ _ (by omega) (by omega) (by omega)) ?_
  refine fw ((P.length+(X1.length+(X3.length+1))+G.length+X1.length:Nat):Int) (by exact fO _ _ (by omega) (by omega) (by omega)) ?_
  refine fH (by omega) (gv (a:=⟨b,0,none⟩) ?_)
  refine fw ((P.length+X1.length:Nat):Int) (by exact fO _ _ (by omega) (by omega) (by omega)) ?_
  refine fH (by omega) (gv (a:=⟨b,0,none⟩) ?_)
  refine ld7 H (by rw [eB,<- lB]; exact get_at _ _ _) ?_
  refine ld7 H (by rw [eA,<- lA]; exact get_at _ _ _) ?_
  refine fH (by omega) (gv (a:=⟨b,0,none⟩) ?_)
  rw [eA] at H
  refine st7 H y (by rw [<- lA]; simp only [fA,gp]; omega) fun h H=>?_
  refine fH (by omega) (gv (a:=⟨b,0,none⟩) ?_)
  rw [<- lA,wh,eC] at H
  refine st7 H x (by rw [<- lC]; simp only [fA,gp]; omega) fun h H=>?_
  rw [<- lC,wh,eD] at H
  refine fw ((X1.length+1:Nat):Int) (by exact fO _ _ (by omega) (by omega) (by omega)) ?_
  exact ⟨m-1,by omega,X1++[x],X3,Y1++[y],Y3,by simp only [fC,gm,gd],by simp only [fC,gm,gd],by simp only [fA,h1,gp,iZ],by omega,by rw [fA]; rfl,H⟩
 ·obtain rfl:X2=[]:=gF (by omega)
  obtain rfl:Y2=[]:=gF (by simp only [iZ] at hXY; omega)
  refine hk h ?_
  simp only [fT] at H ⊢
  exact H
theorem MT {h:Heap} {P X Y S:List OwI} {n c:Nat} (hn:n=(P++X++Y++S).length) (hb:n<=1000000) (hX:0<X.length) (hY:0<Y.length) {p1 p2 p3:Nat} (e1:p1=P.length) (e2:p2=P.length+X.length) (e3:p3=P.length+X.length+Y.length) (H:Hp h0 F h (lk b (P++X++Y++S) rest::B))
  (hk:∀ h',Hp h0 F h' (lk b (P++Y++X++S) rest::B)->K (.tuple #[]) h') :
  CP kP #[.slice (some ⟨b,0,none⟩) n c,.int .i64 (p1:Nat),.int .i64 (p2:Nat),.int .i64 (p3:Nat),cmp] h K Kp:=by
 subst e1 e2 e3
 refine ox ?_
 unfold lg
 have hn':n=P.length+X.length+Y.length+S.length:=by rw [hn]; simp only [fA]
 refine fw ((X.length:Nat):Int) (by exact fO _ _ (by omega) (by omega) (by omega)) ?_
 refine fw ((Y.length:Nat):Int) (by exact fO _ _ (by omega) (by omega) (by omega)) ?_
 obtain ⟨mm,hmm⟩:∃ mm,mm=P.length+X.length:=⟨_,rfl⟩
 rw [<- hmm]
 obtain ⟨Z,hZ⟩:∃ Z,Z=P++Y++X++S:=⟨_,rfl⟩
 rw [<- hZ] at hk
 refine ⟨fun m vs h'=>∃ P' X' Y' S',P'.length+X'.length=mm/\0<X'.length/\0<Y'.length/\Z=P'++Y'++X'++S'/\n=(P'++X'++Y'++S').length/\X'.length+Y'.length=m/\vs=[.int .i64 (X'.length:Nat),.int .i64 (Y'.length:Nat)]/\Hp h0 F h' (lk b (P'++X'++Y'++S') rest::B),⟨_,P,X,Y,S,hmm.symm,hX,hY,hZ,hn,rfl,rfl,H⟩,?_⟩
 rintro m h u xi xj ⟨P',X',Y',S',h1,h2,h3,h4,h5,h6,hxx,H⟩
 injection hxx with hx1 hxx
 injection hxx with hx2 hxx
 injection hx1 with _ hx1
 injection hx2 with _ hx2
 subst xi xj
 have h5':n=P'.length+X'.length+Y'.length+S'.length:=by rw [h5]; simp only [fA]
 rcases pN X'.length Y'.length with hlt | heq | hgt
 ·refine gN (by simp; omega) (fZ (by simp; omega) ?_)
  refine fw ((P'.length:Nat):Int) (by exact fO _ _ (by omega) (by omega) (by omega)) ?_
  refine fw ((mm+Y'.length:Nat):Int) (by exact fO _ _ (by omega) (by omega) (by omega)) ?_
  obtain ⟨Ya,Yb,rfl,hyb⟩:∃ Ya Yb,Y'=Ya++Yb/\Yb.length=X'.length:=⟨Y'.take (Y'.length-X'.length),Y'.drop (Y'.length-X'.length),(iT _ _).symm,by rw [kA]; omega⟩
  rw [fA] at h3 h6 h5' hlt ⊢
  refine fw ((P'.length+X'.length+Ya.length:Nat):Int) (by exact fO _ _ (by omega) (by omega) (by omega)) ?_
  have H:Hp h0 F h (lk b (P'++X'++Ya++Yb++S') rest::B):=by simpa only [fC] using H
  refine xK (by simp only [fA]; omega) hb hyb.symm rfl rfl rfl H fun h H=>?_
  refine fw ((Ya.length:Nat):Int) (by exact fO _ _ (by omega) (by omega) (by omega)) ?_
  refine ⟨m-X'.length,by omega,P',Yb,Ya,X'++S',by omega,by omega,by omega,by rw [h4]; simp only [fC],by simp only [fA]; omega,by omega,by rw [hyb],?_⟩
  simpa only [fC] using H
 ·refine fZ (by simp; omega) ?_
  refine fw ((P'.length:Nat):Int) (by exact fO _ _ (by omega) (by omega) (by omega)) ?_
  have H:Hp h0 F h (lk b (P'++X'++[]++Y'++S') rest::B):=by simpa only [fT] using H
  exact xK (by rw [fT]; exact h5) hb heq rfl (by rw [iZ,gr,h1]) rfl H fun h H=>hk h (by rw [h4]; simpa only [fT] using H)
 ·refine gN (by simp; omega) (gN (by simp; omega) ?_)
  refine fw ((P'.length:Nat):Int) (by exact fO _ _ (by omega) (by omega) (by omega)) ?_
  obtain ⟨Xa,Xb,rfl,hxa⟩:∃ Xa Xb,X'=Xa++Xb/\Xa.length=Y'.length:=⟨X'.take Y'.length,X'.drop Y'.length,(iT _ _).symm,by rw [iC]; omega⟩
  rw [fA] at h1 h2 h6 h5' hgt ⊢
  have H:Hp h0 F h (lk b (P'++Xa++Xb++Y'++S') rest::B):=by simpa only [fC] using H
  refine xK (by simp only [fA]; omega) hb hxa rfl (by omega) hxa.symm H fun h H=>?_
  refine fw ((Xb.length:Nat):Int) (by exact fO _ _ (by omega) (by omega) (by omega)) ?_
  exact ⟨m-Y'.length,by omega,P'++Y',Xb,Xa,S',by rw [fA]; omega,by omega,by omega,by rw [h4]; simp only [fC],by simp only [fA]; omega,by omega,by rw [hxa],H⟩
end
def Kw (h0:Heap) (F:List Nat) (B:List Ent) (b:Nat) (rest:List Value) (key:OwI->Key) (cmp:Value) (Kp:PK):Prop :=
 ∀ h O,Hp h0 F h (lk b O rest::B)->∀ (o o':OwI) (K:VK),(∀ (r:Int) h',(r<0↔(key o).lt (key o'))->gi h h'->K (.int .i64 r) h')->oy (kW Go.Proofs.Tryz.prog) Kp cmp [o.ag,o'.ag] h K
theorem Ij {α:Type} {l:List α} (h:0<l.length):∃ a x,l=a++[x]:=by
 rcases List.eq_nil_or_concat l with h1 | ⟨a,x,h1⟩
 ·rw [h1] at h; simp at h
 ·exact ⟨a,x,by rw [h1,List.concat_eq_append]⟩
section
variable {h0:Heap} {F:List Nat} {B:List Ent} {b:Nat} {rest:List Value} {cmp:Value} {key:OwI->Key} {K:VK} {Kp:PK}
theorem FT {h:Heap} {P M S:List OwI} {n c:Nat} (hc:Kw h0 F B b rest key cmp Kp) (hn:n=(P++M++S).length) (hb:n<=1000000) {p1 p2:Nat} (e1:p1=P.length) (e2:p2=P.length+M.length) (H:Hp h0 F h (lk b (P++M++S) rest::B))
  (hk:∀ M' h',Sw key M M'->Srt key M'->Hp h0 F h' (lk b (P++M'++S) rest::B)->K (.tuple #[]) h') :
  CP je #[.slice (some ⟨b,0,none⟩) n c,.int .i64 (p1:Nat),.int .i64 (p2:Nat),cmp] h K Kp:=by
 subst e1 e2
 refine kX ?_
 unfold jn
 have hn':n=P.length+M.length+S.length:=by rw [hn]; simp only [fA]
 refine fw ((P.length+1:Nat):Int) (by exact fO _ _ (by omega) (by omega) (by omega)) ?_
 refine ⟨fun m vs h'=>∃ (A R:List OwI) (i:Nat),Sw key M (A++R)/\Srt key A/\A.length=min (i-P.length) M.length/\P.length<i/\i<=P.length+M.length+1/\i+m=P.length+M.length+1/\vs=[.int .i64 (i:Nat)]/\Hp h0 F h' (lk b (P++(A++R)++S) rest::B),
  ⟨M.length,M.take 1,M.drop 1,P.length+1,by rw [iT]; exact .refl _,?_,by rw [iC]; omega,by omega,by omega,by omega,rfl,by rw [iT]; exact H⟩,?_⟩
 ·cases M with
  | nil=>exact List.Pairwise.nil
  | cons x M=>exact GQ _ _
 rintro m h u xi ⟨A,R,i,hsw,hA,hl,hi,hi2,hm,hxx,H⟩
 injection hxx with hx1 hxx
 injection hx1 with _ hx1
 subst xi
 have hlen:=hsw.length
 rw [fA] at hlen
 refine fL (fun hlt=>?_) fun hlt=>?_
 ·obtain ⟨x,R',rfl⟩:∃ x R',R=x::R':=by
   cases R with
   | nil=>rw [iZ] at hlen; omega
   | cons x R'=>exact ⟨x,R',rfl⟩
  rw [gp] at hlen
  have hAl:A.length=i-P.length:=by omega
  refine ⟨fun m' vs h'=>∃ (A1 A2:List OwI),Sw key M ((A1++x::A2)++R')/\Srt key (A1++A2)/\(∀ y∈A2,(key x).lt (key y))/\A1.length+A2.length=A.length/\A1.length=m'/\vs=[.int .i64 ((P.length+A1.length:Nat):Int)]/\Hp h0 F h' (lk b (P++((A1++x::A2)++R')++S) rest::B),
   ⟨A.length,A,[],by simpa only [fC,gm,gd] using hsw,by rw [fT]; exact hA,(fun y hy=>by cases hy),by simp,rfl,by rw [show P.length+A.length=i by omega],by simpa only [fC,gm,gd] using H⟩,?_⟩
  clear hsw H hA
  rintro m' h u xj ⟨A1,A2,hsw,hA,hx,hAA,hm',hxx,H⟩
  injection hxx with hx1 hxx
  injection hx1 with _ hx1
  subst xj
  have next:Srt key (A1++x::A2)->∀ h',gi h h'->fG (IntKind.i64.wrap ((i:Int)+1)) fun z_70=>∃ m_3,m_3<m/\∃ (A R:List OwI) (i:Nat),Sw key M (A++R)/\Srt key A/\A.length=min (i-P.length) M.length/\P.length<i/\i<=P.length+M.length+1/\i+m_3=P.length+M.length+1/\[Value.int .i64 z_70]=[.int .i64 (i:Nat)]/\Hp h0 F h' (lk b (P++(A++R)++S) rest::B):=fun hs h' e=>by
   refine fw ((i+1:Nat):Int) (by exact fO _ _ (by omega) (by omega) (by omega)) ?_
   exact ⟨m-1,by omega,A1++x::A2,R',i+1,hsw,hs,by rw [fA,gp]; omega,by omega,by omega,by omega,rfl,H.ext e⟩
  have hxs:Srt key (x::A2):=List.pairwise_cons.2 ⟨fun y hy=>fun hh=>Key.lt_irrefl _ (Key.lt_trans hh (hx y hy)),hA.right⟩
  refine fL (fun h1=>?_) fun h1=>?_
  ·obtain ⟨A3,y,rfl⟩:=Ij (l:=A1) (by omega)
   rw [fA,gp,iZ] at hm' hAA ⊢
   have eA:P++((A3++[y])++x::A2++R')++S=(P++A3)++y::(x::A2++R'++S):=by simp only [fC,gm,gd]
   have eB:P++((A3++[y])++x::A2++R')++S=(P++A3++[y])++x::(A2++R'++S):=by simp only [fC,gm,gd]
   have eC:(P++A3++[y])++y::(A2++R'++S)=(P++A3)++y::(y::A2++R'++S):=by simp only [fC,gm,gd]
   have eD:(P++A3)++x::(y::A2++R'++S)=P++((A3++x::(y::A2))++R')++S:=by simp only [fC,gm,gd]
   have lA:(P++A3).length=P.length+A3.length:=by rw [fA]
   have lB:(P++A3++[y]).length=P.length+(A3.length+(0+1)):=by simp only [fA,gp,iZ]; omega
   refine fH (by omega) (gv (a:=⟨b,0,none⟩) ?_)
   refine fw ((P.length+A3.length:Nat):Int) (by exact fO _ _ (by omega) (by omega) (by omega)) ?_
   refine fH (by omega) (gv (a:=⟨b,0,none⟩) ?_)
   refine ld7 H (o:=x) (by rw [eB,<- lB]; exact get_at _ _ _) ?_
   refine ld7 H (o:=y) (by rw [eA,<- lA]; exact get_at _ _ _) ?_
   refine hc h _ H x y _ fun r h' hr e=>⟨_,rfl,?_⟩
   refine fL (fun hr0=>?_) fun hr0=>?_
   ·have hxy:=hr.1 hr0
    replace H:=H.ext e
    refine fw ((P.length+A3.length:Nat):Int) (by exact fO _ _ (by omega) (by omega) (by omega)) ?_
    refine fw ((P.length+A3.length:Nat):Int) (by exact fO _ _ (by omega) (by omega) (by omega)) ?_
    refine fH (by omega) (gv (a:=⟨b,0,none⟩) ?_)
    refine fH (by omega) (gv (a:=⟨b,0,none⟩) ?_)
    refine ld7 H (o:=y) (by rw [eA,<- lA]; exact get_at _ _ _) ?_
    refine ld7 H (o:=x) (by rw [eB,<- lB]; exact get_at _ _ _) ?_
    refine fH (by omega) (gv (a:=⟨b,0,none⟩) ?_)
    rw [eB] at H
    refine st7 H y (by rw [<- lB]; simp only [fA,gp]; omega) fun h H=>?_
    refine fH (by omega) (gv (a:=⟨b,0,none⟩) ?_)
    rw [<- lB,wh,eC] at H
    refine st7 H x (by rw [<- lA]; simp only [fA,gp]; omega) fun h H=>?_
    rw [<- lA,wh,eD] at H
    refine fw ((P.length+A3.length:Nat):Int) (by exact fO _ _ (by omega) (by omega) (by omega)) ?_
    refine ⟨m'-1,by omega,A3,y::A2,?_,by simpa only [fC,gm,gd] using hA,?_,by rw [gp]; omega,by omega,rfl,H⟩
    ·refine .trans hsw ?_
     have:=Sw.swap (key:=key) A3 (A2++R') y x (fun hh=>by rw [hh] at hxy; exact Key.lt_irrefl _ hxy)
     simpa only [fC,gm,gd] using this
    ·intro z hz
     rcases List.mem_cons.1 hz with rfl | hz
     ·exact hxy
     ·exact hx z hz
   ·have hxy:¬ (key x).lt (key y):=fun hh=>hr0 (hr.2 hh)
    refine next (Srt.append hA.left hxs fun a ha z hz=>?_) h' e
    have hay:¬ (key y).lt (key a):=by
     rcases List.mem_append.1 ha with h1 | h1
     ·exact hA.left.Ep a h1 y (List.mem_singleton.2 rfl)
     ·rw [List.mem_singleton.1 h1]; exact Key.lt_irrefl _
    rcases List.mem_cons.1 hz with rfl | hz
    ·exact Key.le_trans hay hxy
    ·exact hA.Ep a ha z hz
  ·obtain rfl:A1=[]:=gF (by omega)
   exact next hxs h (gi.refl _)
 ·obtain rfl:R=[]:=gF (by omega)
  rw [fT] at hsw H
  exact hk A h hsw hA H
end
theorem oI {p:Prop} [Decidable p] {X Y:Prop} (ht:¬ p->X) (hf:p->Y):fI (!decide p) X Y:=iM (fun h=>ht (of_decide_eq_false h)) fun h=>hf (of_decide_eq_true h)
theorem half {s:Nat} (hs:s<4611686018427387904) {x:Int} (hx:x=(s:Nat)) {K:Int->Prop} (hk:K ((s / 2:Nat):Int)) :
  fG (IntKind.i64.wrap x) fun z=>fG (IntKind.u64.wrap z) fun z1=>fG (l8 .u64 z1 (1:Int)) fun z2=>fG (IntKind.i64.wrap z2) fun z3=>K z3:=by
 refine fw ((s:Nat):Int) (by exact fO _ _ hx (by omega) (by omega)) ?_
 refine fw ((s:Nat):Int) (by exact u64_in _ (by omega) (by omega)) ?_
 refine fw ((s / 2:Nat):Int) (by exact lG (k := .u64) (x:=s) (i:=1) (by decide)) ?_
 exact fw ((s / 2:Nat):Int) (by exact fO _ _ rfl (by omega) (by omega)) hk
section
variable {α:Type} {key:α->Key}
theorem SS {P X S:List α} {k:Nat} (h:k<X.length):(P++X++S)[P.length+k]? = X[k]?:=by
 rw [fC,gM (by omega),qA,gk h]
theorem IK {P X S:List α} {k j:Nat} (h:k<X.length) (e:j=P.length+k):(P++X++S)[j]? = X[k]?:=by subst e; exact SS h
theorem Srt.ahead {l:List α} (h:Srt key l) {i:Nat} {x:α} (hx:i=0\/∃ y,l[i-1]? = some y/\(key y).lt (key x)):∀ y∈l.take i,(key y).lt (key x):=fun y hy=>by
 obtain ⟨k,hk⟩:=List.mem_iff_getElem?.1 hy
 have hki:k<i:=by
  have:=(List.getElem?_eq_some_iff.1 hk).1
  rw [iC] at this; omega
 rw [vU hki] at hk
 rcases hx with hx | ⟨z,hz,hzx⟩
 ·omega
 ·exact Key.Ri (h.at (by omega) hk hz) hzx
theorem Srt.Lw {l:List α} (h:Srt key l) {i:Nat} {x:α} (hx:i=0\/∃ y,l[i-1]? = some y/\¬ (key x).lt (key y)):∀ y∈l.take i,¬ (key x).lt (key y):=fun y hy=>by
 obtain ⟨k,hk⟩:=List.mem_iff_getElem?.1 hy
 have hki:k<i:=by
  have:=(List.getElem?_eq_some_iff.1 hk).1
  rw [iC] at this; omega
 rw [vU hki] at hk
 rcases hx with hx | ⟨z,hz,hzx⟩
 ·omega
 ·exact Key.le_trans (h.at (by omega) hk hz) hzx
theorem Srt.behind {l:List α} (h:Srt key l) {i:Nat} {x:α} (hx:i=l.length\/∃ y,l[i]? = some y/\¬ (key y).lt (key x)):∀ y∈l.drop i,¬ (key y).lt (key x):=fun y hy=>by
 obtain ⟨k,hk⟩:=List.mem_iff_getElem?.1 hy
 rw [kS] at hk
 have hki:=(List.getElem?_eq_some_iff.1 hk).1
 rcases hx with hx | ⟨z,hz,hzx⟩
 ·omega
 ·exact Key.le_trans hzx (h.at (by omega) hz hk)
theorem Srt.Q0 {l:List α} (h:Srt key l) {i:Nat} {x:α} (hx:i=l.length\/∃ y,l[i]? = some y/\(key x).lt (key y)):∀ y∈l.drop i,(key x).lt (key y):=fun y hy=>by
 obtain ⟨k,hk⟩:=List.mem_iff_getElem?.1 hy
 rw [kS] at hk
 have hki:=(List.getElem?_eq_some_iff.1 hk).1
 rcases hx with hx | ⟨z,hz,hzx⟩
 ·omega
 ·exact Key.Rg hzx (h.at (by omega) hz hk)
end
section
variable {h0:Heap} {F:List Nat} {B:List Ent} {b:Nat} {rest:List Value} {cmp:Value} {key:OwI->Key} {Kp:PK}
def IH7 (h0:Heap) (F:List Nat) (B:List Ent) (b:Nat) (rest:List Value) (cmp:Value) (key:OwI->Key) (Kp:PK) (n c N:Nat):Prop :=
 ∀ (P X Y S:List OwI) (h:Heap) (K:VK) (p1 p2 p3:Nat),X.length+Y.length<=N->0<X.length->0<Y.length->Srt key X->Srt key Y->n=(P++X++Y++S).length->p1=P.length->p2=P.length+X.length->p3=P.length+X.length+Y.length ->
  Hp h0 F h (lk b (P++X++Y++S) rest::B)->(∀ Z h',Sw key (X++Y) Z->Srt key Z->Hp h0 F h' (lk b (P++Z++S) rest::B)->K (.tuple #[]) h') ->
  CP iN #[.slice (some ⟨b,0,none⟩) n c,.int .i64 (p1:Nat),.int .i64 (p2:Nat),.int .i64 (p3:Nat),cmp] h K Kp
set_option maxHeartbeats 2000000 in
theorem Ea {n c:Nat} (hc:Kw h0 F B b rest key cmp Kp) (hb:n<=1000000):∀ N,IH7 h0 F B b rest cmp key Kp n c N:=by
 intro N
 induction N with
 | zero=>intro P X Y S h K p1 p2 p3 hN hX; omega
 | succ N ih =>
 intro P X Y S h K p1 p2 p3 hN hX hY sX sY hn e1 e2 e3 H hk
 have hn':n=P.length+X.length+Y.length+S.length:=by rw [hn]; simp only [fA]
 subst e1 e2 e3
 refine nZ ?_
 unfold kN
 refine fw ((X.length:Nat):Int) (by exact fO _ _ (by omega) (by omega) (by omega)) ?_
 refine iA (fun h1=>?_) fun h1=>?_
 ·clear ih
  obtain ⟨x,rfl⟩:∃ x,X=[x]:=by
   rcases X with _ | ⟨x,_ | ⟨x',X⟩⟩
   ·simp at hX
   ·exact ⟨x,rfl⟩
   ·simp at h1; omega
  rw [gJ] at *
  refine ⟨fun m vs h'=>∃ i j:Nat,i<=j/\j<=Y.length/\m=j-i/\(i=0\/∃ y,Y[i-1]? = some y/\(key y).lt (key x))/\(j=Y.length\/∃ y,Y[j]? = some y/\¬ (key y).lt (key x))/\vs=[.int .i64 ((P.length+1+i:Nat):Int),.int .i64 ((P.length+1+j:Nat):Int)]/\Hp h0 F h' (lk b (P++[x]++Y++S) rest::B),
   ⟨Y.length,0,Y.length,by omega,by omega,rfl, .inl rfl, .inl rfl,rfl,H⟩,?_⟩
  clear H
  rintro m h u xi xj ⟨i,j,hij,hj,hm,hi1,hj1,hxx,H⟩
  injection hxx with hx1 hxx
  injection hxx with hx2 hxx
  injection hx1 with _ hx1
  injection hx2 with _ hx2
  subst xi xj
  refine fL (fun hlt=>?_) fun hlt=>?_
  ·refine half (s:=P.length+1+i+(P.length+1+j)) (by omega) (by omega) ?_
   obtain ⟨k,hk1⟩:∃ k,(P.length+1+i+(P.length+1+j)) / 2=P.length+1+k:=⟨(P.length+1+i+(P.length+1+j)) / 2-(P.length+1),by omega⟩
   have hki:i<=k:=by omega
   have hkj:k<j:=by omega
   rw [hk1]
   obtain ⟨y,hy⟩:∃ y,Y[k]? = some y:=⟨_,fP (by omega)⟩
   refine fH (by omega) (gv (a:=⟨b,0,none⟩) ?_)
   refine fH (by omega) (gv (a:=⟨b,0,none⟩) ?_)
   refine ld7 H (o:=y) (by rw [<- hy]; exact IK (P:=P++[x]) (by omega) (by simp)) ?_
   refine ld7 H (o:=x) (by rw [fC,fC]; exact get_at _ _ _) ?_
   refine hc h _ H y x _ fun r h' hr e=>⟨_,rfl,?_⟩
   replace H:=H.ext e
   refine fL (fun hr0=>?_) fun hr0=>?_
   ·refine fw ((P.length+1+(k+1):Nat):Int) (by exact fO _ _ (by omega) (by omega) (by omega)) ?_
    exact ⟨j-(k+1),by omega,k+1,j,by omega,hj,rfl, .inr ⟨y,by rw [lF]; exact hy,hr.1 hr0⟩,hj1,rfl,H⟩
   ·exact ⟨k-i,by omega,i,k,hki,by omega,rfl,hi1, .inr ⟨y,hy,fun hh=>hr0 (hr.2 hh)⟩,rfl,H⟩
  ·obtain rfl:i=j:=by omega
   have a1:=sY.ahead hi1
   have a2:=sY.behind hj1
   obtain ⟨Y1,Y2,rfl,hl⟩:∃ Y1 Y2,Y=Y1++Y2/\Y1.length=i:=⟨Y.take i,Y.drop i,(iT _ _).symm,by rw [iC]; omega⟩
   rw [C7 hl] at a1
   rw [List.drop_left' hl] at a2
   clear hi1 hj1
   rw [fA] at *
   refine ⟨fun m vs h'=>∃ Ya Yb,Y1=Ya++Yb/\m=Yb.length/\vs=[.int .i64 ((P.length+Ya.length:Nat):Int)]/\Hp h0 F h' (lk b (P++(Ya++x::Yb)++(Y2++S)) rest::B),
    ⟨Y1.length,[],Y1,rfl,rfl,rfl,by simpa only [fC,gm,gd] using H⟩,?_⟩
   clear H
   rintro m h u xi ⟨Ya,Yb,rfl,hm,hxx,H⟩
   injection hxx with hx1 hxx
   injection hx1 with _ hx1
   subst xi
   rw [fA] at *
   refine fw ((P.length+i:Nat):Int) (by exact fO _ _ (by omega) (by omega) (by omega)) ?_
   refine fL (fun hlt=>?_) fun hlt=>?_
   ·obtain ⟨y,Yc,rfl⟩:∃ y Yc,Yb=y::Yc:=by
     cases Yb with
     | nil=>rw [iZ] at hl; omega
     | cons y Yc=>exact ⟨y,Yc,rfl⟩
    rw [gp] at *
    have eA:P++(Ya++x::y::Yc)++(Y2++S)=(P++Ya)++x::(y::Yc++(Y2++S)):=by simp only [fC,gm,gd]
    have eB:P++(Ya++x::y::Yc)++(Y2++S)=(P++Ya++[x])++y::(Yc++(Y2++S)):=by simp only [fC,gm,gd]
    have eC:(P++Ya)++y::(y::Yc++(Y2++S))=(P++Ya++[y])++y::(Yc++(Y2++S)):=by simp only [fC,gm,gd]
    have eD:(P++Ya++[y])++x::(Yc++(Y2++S))=P++((Ya++[y])++x::Yc)++(Y2++S):=by simp only [fC,gm,gd]
    have lA:(P++Ya).length=P.length+Ya.length:=by rw [fA]
    have lB:∀ z,(P++Ya++[z]).length=P.length+Ya.length+1:=fun z=>by simp only [fA,gp,iZ]
    refine fw ((P.length+Ya.length+1:Nat):Int) (by exact fO _ _ (by omega) (by omega) (by omega)) ?_
    refine fw ((P.length+Ya.length+1:Nat):Int) (by exact fO _ _ (by omega) (by omega) (by omega)) ?_
    refine fH (by omega) (gv (a:=⟨b,0,none⟩) ?_)
    refine fH (by omega) (gv (a:=⟨b,0,none⟩) ?_)
    refine ld7 H (o:=y) (by rw [eB,<- lB x]; exact get_at _ _ _) ?_
    refine ld7 H (o:=x) (by rw [eA,<- lA]; exact get_at _ _ _) ?_
    refine fH (by omega) (gv (a:=⟨b,0,none⟩) ?_)
    rw [eA] at H
    refine st7 H y (by rw [<- lA]; simp only [fA,gp]; omega) fun h H=>?_
    refine fH (by omega) (gv (a:=⟨b,0,none⟩) ?_)
    rw [<- lA,wh,eC] at H
    refine st7 H x (by rw [<- lB y]; simp only [fA,gp]; omega) fun h H=>?_
    rw [<- lB y,wh,eD] at H
    refine fw ((P.length+Ya.length+1:Nat):Int) (by exact fO _ _ (by omega) (by omega) (by omega)) ?_
    exact ⟨Yc.length,by omega,Ya++[y],Yc,by simp only [fC,gm,gd],rfl,by rw [fA]; rfl,H⟩
   ·obtain rfl:Yb=[]:=gF (by omega)
    rw [fT] at *
    refine hk (Ya++x::Y2) h ?_ ?_ (by simpa only [fC,gm,gd] using H)
    ·have:=(Sw.Qr (key:=key) (a:=x) (l:=Ya) fun y hy hh=>by have:=a1 y hy; rw [hh] at this; exact Key.lt_irrefl _ this).ctx [] Y2
     simpa only [fC,gm,gd] using this
    ·refine Srt.append sY.left (List.pairwise_cons.2 ⟨a2,sY.right⟩) fun y hy z hz=>?_
     rcases List.mem_cons.1 hz with rfl | hz
     ·exact fun hh=>Key.lt_irrefl _ (Key.lt_trans hh (a1 y hy))
     ·exact sY.Ep y hy z hz
 refine fw ((Y.length:Nat):Int) (by exact fO _ _ (by omega) (by omega) (by omega)) ?_
 refine iA (fun h2=>?_) fun h2=>?_
 ·clear ih
  obtain ⟨y,rfl⟩:∃ x,Y=[x]:=by
   rcases Y with _ | ⟨x,_ | ⟨x',X⟩⟩
   ·simp at hY
   ·exact ⟨x,rfl⟩
   ·simp at h2; omega
  rw [gJ] at *
  refine ⟨fun m vs h'=>∃ i j:Nat,i<=j/\j<=X.length/\m=j-i/\(i=0\/∃ x,X[i-1]? = some x/\¬ (key y).lt (key x))/\(j=X.length\/∃ x,X[j]? = some x/\(key y).lt (key x))/\vs=[.int .i64 ((P.length+i:Nat):Int),.int .i64 ((P.length+j:Nat):Int)]/\Hp h0 F h' (lk b (P++X++[y]++S) rest::B),
   ⟨X.length,0,X.length,by omega,by omega,rfl, .inl rfl, .inl rfl,rfl,H⟩,?_⟩
  clear H
  rintro m h u xi xj ⟨i,j,hij,hj,hm,hi1,hj1,hxx,H⟩
  injection hxx with hx1 hxx
  injection hxx with hx2 hxx
  injection hx1 with _ hx1
  injection hx2 with _ hx2
  subst xi xj
  refine fL (fun hlt=>?_) fun hlt=>?_
  ·refine half (s:=P.length+i+(P.length+j)) (by omega) (by omega) ?_
   obtain ⟨k,hk1⟩:∃ k,(P.length+i+(P.length+j)) / 2=P.length+k:=⟨(P.length+i+(P.length+j)) / 2-P.length,by omega⟩
   have hki:i<=k:=by omega
   have hkj:k<j:=by omega
   rw [hk1]
   obtain ⟨x,hx⟩:∃ y,X[k]? = some y:=⟨_,fP (by omega)⟩
   refine fH (by omega) (gv (a:=⟨b,0,none⟩) ?_)
   refine fH (by omega) (gv (a:=⟨b,0,none⟩) ?_)
   refine ld7 H (o:=y) (by rw [<- fA,fC]; exact get_at _ _ _) ?_
   refine ld7 H (o:=x) (by rw [<- hx,fC]; exact IK (by omega) rfl) ?_
   refine hc h _ H y x _ fun r h' hr e=>⟨_,rfl,?_⟩
   replace H:=H.ext e
   refine oI (fun hr0=>?_) fun hr0=>?_
   ·refine fw ((P.length+(k+1):Nat):Int) (by exact fO _ _ (by omega) (by omega) (by omega)) ?_
    exact ⟨j-(k+1),by omega,k+1,j,by omega,hj,rfl, .inr ⟨x,by rw [lF]; exact hx,fun hh=>hr0 (hr.2 hh)⟩,hj1,rfl,H⟩
   ·exact ⟨k-i,by omega,i,k,hki,by omega,rfl,hi1, .inr ⟨x,hx,hr.1 hr0⟩,rfl,H⟩
  ·obtain rfl:i=j:=by omega
   have a1:=sX.Lw hi1
   have a2:=sX.Q0 hj1
   obtain ⟨X1,X2,rfl,hl⟩:∃ X1 X2,X=X1++X2/\X1.length=i:=⟨X.take i,X.drop i,(iT _ _).symm,by rw [iC]; omega⟩
   rw [C7 hl] at a1
   rw [List.drop_left' hl] at a2
   clear hi1 hj1
   rw [fA] at *
   refine ⟨fun m vs h'=>∃ Xa Xb,X2=Xa++Xb/\m=Xa.length/\vs=[.int .i64 ((P.length+X1.length+Xa.length:Nat):Int)]/\Hp h0 F h' (lk b (P++(X1++(Xa++y::Xb))++S) rest::B),
    ⟨X2.length,X2,[],by rw [fT],rfl,by rw [tZ],by simpa only [fC,gm,gd] using H⟩,?_⟩
   clear H
   rintro m h u xi ⟨Xa,Xb,rfl,hm,hxx,H⟩
   injection hxx with hx1 hxx
   injection hx1 with _ hx1
   subst xi
   rw [fA] at *
   refine fL (fun hlt=>?_) fun hlt=>?_
   ·obtain ⟨Xc,x,rfl⟩:=Ij (l:=Xa) (by omega)
    rw [fA,gJ] at *
    have eA:P++(X1++(Xc++[x]++y::Xb))++S=(P++X1++Xc)++x::(y::Xb++S):=by simp only [fC,gm,gd]
    have eB:P++(X1++(Xc++[x]++y::Xb))++S=(P++X1++Xc++[x])++y::(Xb++S):=by simp only [fC,gm,gd]
    have eC:(P++X1++Xc++[x])++x::(Xb++S)=(P++X1++Xc)++x::(x::Xb++S):=by simp only [fC,gm,gd]
    have eD:(P++X1++Xc)++y::(x::Xb++S)=P++(X1++(Xc++y::x::Xb))++S:=by simp only [fC,gm,gd]
    have lA:(P++X1++Xc).length=P.length+X1.length+Xc.length:=by simp only [fA]
    have lB:(P++X1++Xc++[x]).length=P.length+X1.length+(Xc.length+1):=by simp only [fA,gp,iZ]; omega
    refine fw ((P.length+X1.length+Xc.length:Nat):Int) (by exact fO _ _ (by omega) (by omega) (by omega)) ?_
    refine fw ((P.length+X1.length+Xc.length:Nat):Int) (by exact fO _ _ (by omega) (by omega) (by omega)) ?_
    refine fH (by omega) (gv (a:=⟨b,0,none⟩) ?_)
    refine fH (by omega) (gv (a:=⟨b,0,none⟩) ?_)
    refine ld7 H (o:=x) (by rw [eA,<- lA]; exact get_at _ _ _) ?_
    refine ld7 H (o:=y) (by rw [eB,<- lB]; exact get_at _ _ _) ?_
    refine fH (by omega) (gv (a:=⟨b,0,none⟩) ?_)
    rw [eB] at H
    refine st7 H x (by rw [<- lB]; simp only [fA,gp]; omega) fun h H=>?_
    refine fH (by omega) (gv (a:=⟨b,0,none⟩) ?_)
    rw [<- lB,wh,eC] at H
    refine st7 H y (by rw [<- lA]; simp only [fA,gp]; omega) fun h H=>?_
    rw [<- lA,wh,eD] at H
    refine fw ((P.length+X1.length+Xc.length:Nat):Int) (by exact fO _ _ (by omega) (by omega) (by omega)) ?_
    exact ⟨Xc.length,by omega,Xc,x::Xb,by simp only [fC,gm,gd],rfl,rfl,H⟩
   ·obtain rfl:Xa=[]:=gF (by omega)
    rw [gd] at *
    refine hk (X1++y::Xb) h ?_ ?_ (by simpa only [fC,gm,gd] using H)
    ·have:=(Sw.Qr (key:=key) (a:=y) (l:=Xb) fun z hz hh=>by have:=a2 z hz; rw [hh] at this; exact Key.lt_irrefl _ this).symm.ctx X1 []
     simpa only [fC,gm,gd,fT] using this
    ·refine Srt.append sX.left (List.pairwise_cons.2 ⟨fun z hz hh=>Key.lt_irrefl _ (Key.lt_trans hh (a2 z hz)),sX.right⟩) fun z hz w hw=>?_
     rcases List.mem_cons.1 hw with rfl | hw
     ·exact a1 z hz
     ·exact sX.Ep z hz w hw
 obtain ⟨mid,hmid⟩:∃ mid,(P.length+(P.length+X.length+Y.length)) / 2=mid:=⟨_,rfl⟩
 refine half (s:=P.length+(P.length+X.length+Y.length)) (by omega) (by omega) ?_
 rw [hmid]
 refine fw ((mid+(P.length+X.length):Nat):Int) (by exact fO _ _ (by omega) (by omega) (by omega)) ?_
 have hX2:X.length≠1:=fun hh=>h1 (by omega)
 have hY2:Y.length≠1:=fun hh=>h2 (by omega)
 refine ⟨fun vs h'=>∃ s0 r0:Nat,vs=[.int .i64 (s0:Nat),.int .i64 (r0:Nat)]/\h'=h/\(P.length+X.length > mid/\s0+(P.length+X.length+Y.length)=mid+(P.length+X.length)/\r0=mid\/P.length+X.length<=mid/\s0=P.length/\r0=P.length+X.length),?_,?_⟩
 ·refine fL (fun h3=>?_) fun h3=>?_
  ·refine fw ((mid+(P.length+X.length)-(P.length+X.length+Y.length):Nat):Int) (by exact fO _ _ (by omega) (by omega) (by omega)) ?_
   exact ⟨_,_,rfl,rfl, .inl ⟨by omega,by omega,rfl⟩⟩
  ·exact ⟨_,_,rfl,rfl, .inr ⟨by omega,rfl,rfl⟩⟩
 rintro h' u xs xr ⟨s0,r0,hxx,rfl,hsr⟩
 injection hxx with hx1 hxx
 injection hxx with hx2 hxx
 injection hx1 with _ hx1
 injection hx2 with _ hx2
 subst xs xr
 clear hxx
 refine fw ((mid+(P.length+X.length)-1:Nat):Int) (by exact fO _ _ (by omega) (by omega) (by omega)) ?_
 have gX:∀ k,P.length<=k->k<P.length+X.length->(P++X++Y++S)[k]? = X[k-P.length]?:=fun k k1 k2=>by
  rw [fC]
  exact IK (by omega) (by omega)
 have gY:∀ k,P.length+X.length<=k->k<P.length+X.length+Y.length->(P++X++Y++S)[k]? = Y[k-(P.length+X.length)]?:=fun k k1 k2=>IK (P:=P++X) (by omega) (by rw [fA]; omega)
 refine ⟨fun m vs h'=>∃ s r:Nat,s0<=s/\s<=r/\r<=r0/\m=r-s/\(s=s0\/∃ x y,X[s-1-P.length]? = some x/\Y[mid-s]? = some y/\¬ (key y).lt (key x))/\(r=r0\/∃ x y,X[r-P.length]? = some x/\Y[mid-1-r]? = some y/\(key y).lt (key x))/\vs=[.int .i64 (s:Nat),.int .i64 (r:Nat)]/\Hp h0 F h' (lk b (P++X++Y++S) rest::B),
  ⟨r0-s0,s0,r0,by omega,by omega,by omega,rfl, .inl rfl, .inl rfl,rfl,H⟩,?_⟩
 clear H
 rintro m h u xs xr ⟨s,r,hs0,hsr1,hr0,hm,hS,hR,hxx,H⟩
 injection hxx with hx1 hxx
 injection hxx with hx2 hxx
 injection hx1 with _ hx1
 injection hx2 with _ hx2
 subst xs xr
 refine fL (fun hlt=>?_) fun hlt=>?_
 ·obtain ⟨q,hq⟩:∃ q,(s+r) / 2=q:=⟨_,rfl⟩
  refine half (s:=s+r) (by omega) (by omega) ?_
  rw [hq]
  refine fw ((mid+(P.length+X.length)-1-q:Nat):Int) (by exact fO _ _ (by omega) (by omega) (by omega)) ?_
  obtain ⟨x,hx⟩:∃ x,X[q-P.length]? = some x:=⟨_,fP (by omega)⟩
  obtain ⟨y,hy⟩:∃ y,Y[mid-1-q]? = some y:=⟨_,fP (by omega)⟩
  refine fH (by omega) (gv (a:=⟨b,0,none⟩) ?_)
  refine fH (by omega) (gv (a:=⟨b,0,none⟩) ?_)
  refine ld7 H (o:=y) (by rw [gY _ (by omega) (by omega),<- hy]; congr 1; omega) ?_
  refine ld7 H (o:=x) (by rw [gX _ (by omega) (by omega),<- hx]) ?_
  refine hc h _ H y x _ fun rr h' hr e=>⟨_,rfl,?_⟩
  replace H:=H.ext e
  refine oI (fun hrr=>?_) fun hrr=>?_
  ·refine fw ((q+1:Nat):Int) (by exact fO _ _ (by omega) (by omega) (by omega)) ?_
   exact ⟨r-(q+1),by omega,q+1,r,by omega,by omega,hr0,rfl, .inr ⟨x,y,by rw [lF]; exact hx,by rw [<- hy]; congr 1; omega,fun hh=>hrr (hr.2 hh)⟩,hR,rfl,H⟩
  ·exact ⟨q-s,by omega,s,q,hs0,by omega,by omega,rfl,hS, .inr ⟨x,y,hx,hy,hr.1 hrr⟩,rfl,H⟩
 ·obtain rfl:s=r:=by omega
  clear hlt hm hsr1 gX gY hxx
  obtain ⟨e,he⟩:∃ e,mid+(P.length+X.length)-s=e:=⟨_,rfl⟩
  refine fw ((e:Nat):Int) (by exact fO _ _ (by omega) (by omega) (by omega)) ?_
  have hXd:X=X.take (s-P.length)++X.drop (s-P.length):=(iT _ _).symm
  have hYd:Y=Y.take (e-(P.length+X.length))++Y.drop (e-(P.length+X.length)):=(iT _ _).symm
  have lX1:(X.take (s-P.length)).length=s-P.length:=by rw [iC]; omega
  have lX2:(X.drop (s-P.length)).length=X.length-(s-P.length):=kA
  have lY1:(Y.take (e-(P.length+X.length))).length=e-(P.length+X.length):=by rw [iC]; omega
  have lY2:(Y.drop (e-(P.length+X.length))).length=Y.length-(e-(P.length+X.length)):=kA
  have f1:∀ x∈X.drop (s-P.length),∀ y∈Y.take (e-(P.length+X.length)),(key y).lt (key x):=fun x hx y hy=>by
   have k1:0<(X.drop (s-P.length)).length:=yG hx
   have k2:0<(Y.take (e-(P.length+X.length))).length:=yG hy
   rcases hR with hR | ⟨x',y',hx',hy',hxy⟩
   ·omega
   ·have hx2:=sX.behind (x:=x') (.inr ⟨x',hx',Key.lt_irrefl _⟩) x hx
    have hy2:=sY.Lw (i:=e-(P.length+X.length)) (x:=y') (.inr ⟨y',by rw [<- hy']; congr 1; omega,Key.lt_irrefl _⟩) y hy
    exact Key.Rg (Key.Ri hy2 hxy) hx2
  have f2:∀ x∈X.take (s-P.length),∀ y∈Y.drop (e-(P.length+X.length)),¬ (key y).lt (key x):=fun x hx y hy=>by
   have k1:0<(X.take (s-P.length)).length:=yG hx
   have k2:0<(Y.drop (e-(P.length+X.length))).length:=yG hy
   rcases hS with hS | ⟨x',y',hx',hy',hxy⟩
   ·omega
   ·have hx2:=sX.Lw (i:=s-P.length) (x:=x') (.inr ⟨x',by rw [<- hx']; congr 1; omega,Key.lt_irrefl _⟩) x hx
    have hy2:=sY.behind (i:=e-(P.length+X.length)) (x:=y') (.inr ⟨y',by rw [<- hy']; congr 1; omega,Key.lt_irrefl _⟩) y hy
    exact Key.le_trans (Key.le_trans hx2 hxy) hy2
  clear hS hR
  generalize X.take (s-P.length)=X1 at *
  generalize X.drop (s-P.length)=X2 at *
  generalize Y.take (e-(P.length+X.length))=Y1 at *
  generalize Y.drop (e-(P.length+X.length))=Y2 at *
  have hs1:P.length<=s:=by omega
  have hs2:s<=P.length+X.length:=by omega
  have he1:P.length+X.length<=e:=by omega
  have he2:e<=P.length+X.length+Y.length:=by omega
  have hXl:X.length=X1.length+X2.length:=by omega
  have hYl:Y.length=Y1.length+Y2.length:=by omega
  rw [hXd] at sX H hk
  rw [hYd] at sY H hk
  have sw0:Sw key ((X1++X2)++(Y1++Y2)) (X1++Y1++(X2++Y2)):=by
   have:=(Sw.blocks (key:=key) (l:=X2) (m:=Y1) fun x hx y hy hh=>by have:=f1 x hx y hy; rw [hh] at this; exact Key.lt_irrefl _ this).ctx X1 Y2
   simpa only [fC] using this
  refine ⟨fun _ h'=>Hp h0 F h' (lk b (P++X1++Y1++(X2++Y2++S)) rest::B),?_,?_⟩
  ·have skip:X2=[]\/Y1=[]->Hp h0 F h (lk b (P++X1++Y1++(X2++Y2++S)) rest::B):=fun hh=>by
    rcases hh with rfl | rfl
    ·simpa only [fC,fT,gd] using H
    ·simpa only [fC,fT,gd] using H
   refine fL (fun h3=>?_) fun h3=>?_
   ·refine fL (fun h4=>?_) fun h4=>?_
    ·have H:Hp h0 F h (lk b ((P++X1)++X2++Y1++(Y2++S)) rest::B):=by simpa only [fC] using H
     refine MT (by simp only [fA]; omega) hb (by omega) (by omega) (by rw [fA]; omega) (by rw [fA]; omega) (by rw [fA]; omega) H fun h H=>?_
     simpa only [fC] using H
    ·exact skip (.inr (gF (by omega)))
   ·exact skip (.inl (gF (by omega)))
  clear H
  intro h u H
  refine ⟨fun _ h'=>∃ L,Sw key (X1++Y1) L/\Srt key L/\Hp h0 F h' (lk b (P++L++(X2++Y2++S)) rest::B),?_,?_⟩
  ·have skip:X1=[]\/Y1=[]->∃ L,Sw key (X1++Y1) L/\Srt key L/\Hp h0 F h (lk b (P++L++(X2++Y2++S)) rest::B):=fun hh=>by
    rcases hh with rfl | rfl
    ·exact ⟨Y1, .refl _,sY.left,by simpa only [fC,fT,gd] using H⟩
    ·exact ⟨X1,by rw [fT]; exact .refl _,sX.left,by simpa only [fC,fT,gd] using H⟩
   refine fL (fun h3=>?_) fun h3=>?_
   ·refine fL (fun h4=>?_) fun h4=>?_
    ·refine ih P X1 Y1 (X2++Y2++S) h _ P.length s mid (by omega) (by omega) (by omega) sX.left sY.left (by simp only [fA]; omega) rfl (by omega) (by omega) H fun L h' hsw hsL H=>⟨L,hsw,hsL,H⟩
    ·exact skip (.inr (gF (by omega)))
   ·exact skip (.inl (gF (by omega)))
  clear H
  rintro h u ⟨L,swL,sL,H⟩
  have lL:=swL.length
  rw [fA] at lL
  have fin:∀ R h',Sw key (X2++Y2) R->Srt key R->Hp h0 F h' (lk b (P++L++(R++S)) rest::B)->K (.tuple #[]) h':=fun R h' swR sR H=>by
   refine hk (L++R) h' ?_ ?_ (by simpa only [fC] using H)
   ·have t1:=swL.ctx [] (X2++Y2)
    have t2:=swR.ctx L []
    simp only [gd,fT] at t1 t2
    exact .trans sw0 (.trans t1 t2)
   ·refine Srt.append sL sR fun x hx y hy=>?_
    have hx:=(swL.mem x).1 hx
    have hy:=(swR.mem y).1 hy
    rcases List.mem_append.1 hx with hx | hx
    ·rcases List.mem_append.1 hy with hy | hy
     ·exact sX.Ep x hx y hy
     ·exact f2 x hx y hy
    ·rcases List.mem_append.1 hy with hy | hy
     ·exact fun hh=>Key.lt_irrefl _ (Key.lt_trans hh (f1 y hy x hx))
     ·exact sY.Ep x hx y hy
  have skip:X2=[]\/Y2=[]->K (.tuple #[]) h:=fun hh=>by
   rcases hh with rfl | rfl
   ·exact fin Y2 h (.refl _) sY.right (by simpa only [fC,fT,gd] using H)
   ·exact fin X2 h (by rw [fT]; exact .refl _) sX.right (by simpa only [fC,fT,gd] using H)
  refine fL (fun h3=>?_) fun h3=>?_
  ·refine fL (fun h4=>?_) fun h4=>?_
   ·have H:Hp h0 F h (lk b ((P++L)++X2++Y2++S) rest::B):=by simpa only [fC] using H
    exact ih (P++L) X2 Y2 S h _ mid e _ (by omega) (by omega) (by omega) sX.right sY.right (by simp only [fA]; omega) (by rw [fA]; omega) (by rw [fA]; omega) (by rw [fA]; omega) H fun R h' hsw hsR H=>fin R h' hsw hsR (by simpa only [fC] using H)
   ·exact skip (.inr (gF (by omega)))
  ·exact skip (.inl (gF (by omega)))
end
theorem JI {α:Type} {k:Nat}:∀ {L:List (List α)},(∀ l∈L,l.length=k)->L.flatten.length=L.length*k
 | [],_=>by simp
 | l::L,h=>by
  rw [List.flatten_cons,fA,JI fun x hx=>h x (gK _ hx),h l (jc ..),gp,vT,Nat.add_comm]
section
variable {h0:Heap} {F:List Nat} {B:List Ent} {b:Nat} {rest:List Value} {cmp:Value} {key:OwI->Key} {K:VK} {Kp:PK}
def Gy (key:OwI->Key) (k:Nat) (L:List (List OwI)):Prop:=∀ l∈L,l.length=k/\Srt key l
theorem Gy.len {k:Nat} {L:List (List OwI)} (h:Gy key k L):L.flatten.length=L.length*k:=JI fun l hl=>(h l hl).1
theorem Gy.snoc {k:Nat} {L:List (List OwI)} (h:Gy key k L) {l:List OwI} (hl:l.length=k) (hs:Srt key l):Gy key k (L++[l]):=fun x hx=>by
 rcases List.mem_append.1 hx with hx | hx
 ·exact h x hx
 ·rw [List.mem_singleton.1 hx]; exact ⟨hl,hs⟩
set_option maxHeartbeats 1000000 in
theorem MJ {h:Heap} {O:List OwI} {n c:Nat} (hc:Kw h0 F B b rest key cmp Kp) (hn:n=O.length) (hb:n<=1000000) (H:Hp h0 F h (lk b O rest::B))
  (hk:∀ Z h',Sw key O Z->Srt key Z->Hp h0 F h' (lk b Z rest::B)->K (.tuple #[]) h') :
  CP kO #[.slice (some ⟨b,0,none⟩) n c,.int .i64 (n:Nat),cmp] h K Kp:=by
 refine lV ?_
 unfold j0
 refine ⟨fun m vs h'=>∃ (L:List (List OwI)) (R:List OwI) (a:Nat),Gy key 20 L/\a=L.flatten.length/\Sw key O (L.flatten++R)/\m=R.length/\vs=[.int .i64 (a:Nat),.int .i64 ((a+20:Nat):Int)]/\Hp h0 F h' (lk b (L.flatten++R) rest::B),
  ⟨O.length,[],O,0,(fun l hl=>by cases hl),rfl, .refl _,rfl,rfl,H⟩,?_⟩
 clear H
 rintro m h u xa xb ⟨L,R,a,hL,ha,hsw,hm,hxx,H⟩
 injection hxx with hx1 hxx
 injection hxx with hx2 hxx
 injection hx1 with _ hx1
 injection hx2 with _ hx2
 subst xa xb
 have hlen:=hsw.length
 rw [fA,<- ha,<- hn] at hlen
 refine fL (fun h1=>?_) fun h1=>?_
 ·have hR:R=R.take 20++R.drop 20:=(iT _ _).symm
  have hl20:(R.take 20).length=20:=by rw [iC]; omega
  have hl2:(R.drop 20).length=R.length-20:=kA
  generalize R.take 20=M at *
  generalize R.drop 20=S at *
  subst hR
  rw [<- fC] at H hsw
  refine FT hc (by simp only [fA] at hlen ⊢; omega) hb ha (by omega) H fun M' h' hw hs H=>?_
  have hwl:=hw.length
  refine fw ((a+20+20:Nat):Int) (by exact fO _ _ (by omega) (by omega) (by omega)) ?_
  rw [fA] at hlen hm hl2
  refine ⟨S.length,by omega,L++[M'],S,a+20,hL.snoc (by omega) hs,by rw [qB,fA,lI]; omega,?_,rfl,rfl,by rw [qB,lI]; exact H⟩
  rw [qB,lI]
  exact .trans hsw (hw.ctx L.flatten S)
 have H:Hp h0 F h (lk b (L.flatten++R++[]) rest::B):=by rw [fT]; exact H
 refine FT hc (by simp only [fA,iZ] at hlen ⊢; omega) hb ha (by omega) H fun R' h' hw hs H=>?_
 rw [fT] at H
 have hwl:=hw.length
 have hsw:Sw key O (L.flatten++R') := .trans hsw (by have:=hw.ctx L.flatten []; simpa only [fT] using this)
 clear hw
 refine ⟨fun m vs h'=>∃ (L:List (List OwI)) (R:List OwI) (bs:Nat),0<bs/\bs<=2*n+20/\Gy key bs L/\Srt key R/\R.length<bs/\Sw key O (L.flatten++R)/\m=n-bs/\vs=[.int .i64 (bs:Nat)]/\Hp h0 F h' (lk b (L.flatten++R) rest::B),
  ⟨n-20,L,R',20,by decide,by omega,hL,hs,by omega,hsw,rfl,rfl,H⟩,?_⟩
 clear H hsw hs hL hwl hlen h1 ha hm
 rintro m h u xa ⟨L,R,bs,hbs,hbs2,hL,hs,hlR,hsw,hm,hxx,H⟩
 injection hxx with hx1 hxx
 injection hx1 with _ hx1
 subst xa
 have hlen:=hsw.length
 rw [fA,hL.len,<- hn] at hlen
 refine fL (fun h1=>?_) fun h1=>?_
 ·refine fw ((2*bs:Nat):Int) (by exact fO _ _ (by omega) (by omega) (by omega)) ?_
  refine ⟨fun m vs h'=>∃ (C L:List (List OwI)) (a:Nat),Gy key (2*bs) C/\Gy key bs L/\a=C.flatten.length/\Sw key O (C.flatten++(L.flatten++R))/\m=L.length/\vs=[.int .i64 (a:Nat),.int .i64 ((a+2*bs:Nat):Int)]/\Hp h0 F h' (lk b (C.flatten++(L.flatten++R)) rest::B),
   ⟨L.length,[],L,0,(fun l hl=>by cases hl),hL,rfl,hsw,rfl,by rw [fN]; rfl,H⟩,?_⟩
  clear hlen H hsw hL
  rintro m' h u xa xb ⟨C,L,a,hC,hL,ha,hsw,hm',hxx,H⟩
  injection hxx with hx1 hxx
  injection hxx with hx2 hxx
  injection hx1 with _ hx1
  injection hx2 with _ hx2
  subst xa xb
  have hlen:=hsw.length
  rw [fA,fA,hL.len,<- ha,<- hn] at hlen
  have next:∀ (C:List (List OwI)) (R:List OwI) h',Gy key (2*bs) C->Srt key R->R.length<2*bs->Sw key O (C.flatten++R)->Hp h0 F h' (lk b (C.flatten++R) rest::B)->fG (IntKind.i64.wrap ((bs:Int)*2)) fun z=>∃ m_14,m_14<m/\∃ (L:List (List OwI)) (R:List OwI) (bs:Nat),0<bs/\bs<=2*n+20/\Gy key bs L/\Srt key R/\R.length<bs/\Sw key O (L.flatten++R)/\m_14=n-bs/\[Value.int .i64 z]=[.int .i64 (bs:Nat)]/\Hp h0 F h' (lk b (L.flatten++R) rest::B):=fun C R h' k1 k2 k3 k4 k5=>by
   refine fw ((2*bs:Nat):Int) (by exact fO _ _ (by omega) (by omega) (by omega)) ?_
   exact ⟨n-2*bs,by omega,C,R,2*bs,by omega,by omega,k1,k2,k3,k4,rfl,rfl,k5⟩
  refine fL (fun h2=>?_) fun h2=>?_
  ·refine fw ((a+bs:Nat):Int) (by exact fO _ _ (by omega) (by omega) (by omega)) ?_
   obtain ⟨l1,l2,L2,rfl⟩:∃ l1 l2 L2,L=l1::l2::L2:=by
    rcases L with _ | ⟨l1,_ | ⟨l2,L2⟩⟩
    ·rw [iZ,kK] at hlen; omega
    ·rw [gJ,kn] at hlen; omega
    ·exact ⟨l1,l2,L2,rfl⟩
   obtain ⟨k1,s1⟩:=hL l1 (jc ..)
   obtain ⟨k2,s2⟩:=hL l2 (gK _ (jc ..))
   have eq:C.flatten++((l1::l2::L2).flatten++R)=C.flatten++l1++l2++(L2.flatten++R):=by simp only [List.flatten_cons,fC]
   rw [eq] at H hsw
   have hlen2:=hsw.length
   rw [<- hn] at hlen2
   refine Ea hc hb (l1.length+l2.length) C.flatten l1 l2 (L2.flatten++R) h _ a (a+bs) (a+2*bs) (gg _) (by omega) (by omega) s1 s2 hlen2.symm ha (by omega) (by omega) H fun Z h' hw hs H=>?_
   have hwl:=hw.length
   rw [fA] at hwl
   refine fw ((2*bs:Nat):Int) (by exact fO _ _ (by omega) (by omega) (by omega)) ?_
   refine fw ((a+2*bs+2*bs:Nat):Int) (by exact fO _ _ (by omega) (by omega) (by omega)) ?_
   refine ⟨L2.length,by rw [hm',gp,gp]; omega,C++[Z],L2,a+2*bs,hC.snoc (by omega) hs,fun l hl=>hL l (gK _ (gK _ hl)),by rw [qB,fA,lI]; omega,?_,rfl,rfl,by rw [qB,lI]; exact H⟩
   rw [qB,lI]
   refine .trans hsw ?_
   have:=hw.ctx C.flatten (L2.flatten++R)
   simpa only [fC] using this
  ·refine fw ((a+bs:Nat):Int) (by exact fO _ _ (by omega) (by omega) (by omega)) ?_
   rcases L with _ | ⟨l1,_ | ⟨l2,L2⟩⟩
   ·rw [iZ,kK] at hlen
    exact fL (fun h3=>by omega) fun h3=>next C R h hC hs (by omega) hsw H
   ·rw [gJ,kn] at hlen
    obtain ⟨k1,s1⟩:=hL l1 (jc ..)
    have eq:C.flatten++([l1].flatten++R)=C.flatten++l1++R++[]:=by simp only [lI,fC,fT]
    rw [eq] at H hsw
    refine fL (fun h3=>?_) fun h3=>?_
    ·have hlen2:=hsw.length
     rw [<- hn] at hlen2
     refine Ea hc hb (l1.length+R.length) C.flatten l1 R [] h _ a (a+bs) n (gg _) (by omega) (by omega) s1 hs hlen2.symm ha (by omega) (by omega) H fun Z h' hw hs H=>?_
     have hwl:=hw.length
     rw [fA] at hwl
     rw [fT] at H hsw
     refine next C Z h' hC hs (by omega) (.trans hsw ?_) H
     have:=hw.ctx C.flatten []
     simpa only [fC,fT] using this
    ·obtain rfl:R=[]:=gF (by omega)
     rw [fT,fT] at H hsw
     exact next C l1 h hC s1 (by omega) hsw H
   ·rw [gp,gp,vT,vT] at hlen
    omega
 ·rcases L with _ | ⟨l1,_ | ⟨l2,L2⟩⟩
  ·exact hk R h hsw hs H
  ·rw [gJ,kn] at hlen
   obtain ⟨k1,s1⟩:=hL l1 (jc ..)
   obtain rfl:R=[]:=gF (by omega)
   rw [fT,lI] at H hsw
   exact hk l1 h hsw s1 H
  ·rw [gp,gp,vT,vT] at hlen
   omega
theorem GB {h:Heap} {O:List OwI} {n c:Nat} (hc:Kw h0 F B b rest key cmp Kp) (hn:n=O.length) (hb:n<=1000000) (H:Hp h0 F h (lk b O rest::B))
  (hk:∀ Z h',Sw key O Z->Srt key Z->Hp h0 F h' (lk b Z rest::B)->K (.tuple #[]) h') :
  CP iQ #[.slice (some ⟨b,0,none⟩) n c,cmp] h K Kp:=by
 refine j4 ?_
 unfold iV
 exact MJ hc hn hb H hk
end
end Go.Bm
namespace Go.Den.YtbknfejmdekhpaaGreat
open Go Go.Den
def BQ (C:gl) (vals:Option Addr) (valsn valsc:Nat) (h:Heap) (K:VK) (Kp:PK):Prop :=
∃ d:Nat->List Value->Heap->Prop,(∃ c,d c [.int .i64 0] h)/\∀ (c:Nat) (b:Heap) (j:Nat->Value) (a:Int),d c [.int .i64 a] b->(
fI (decide (a<(valsn:Int))) (
fW (0<=a/\a<(valsn:Int))<|
ptr vals fun g=>
ldI b (g.add (a.toNat*1)) .i64 fun e=>
fI (e != (0:Int)) (
K (.int .i64 e) b)<|
fG (IntKind.i64.wrap (a+(1:Int))) fun i=>
∃ f,f<c/\d f [.int .i64 i] b)<|
K (.int .i64 0) b)
def tB (C:gl) (x y:Int) (h:Heap) (K:VK) (Kp:PK):Prop :=
C pU #[.int .i64 x] h (fun d e=>
∃ (c:Bool),d = .bool c/\(
C pU #[.int .i64 y] e (fun f a=>
∃ (b:Bool),f = .bool b/\(
fI c (
fI b (
K (.int .i64 0) a)<|
K (.int .i64 (-1)) a)<|
fI b (
K (.int .i64 1) a)<|
fI (decide (x<y)) (
K (.int .i64 (-1)) a)<|
fI (decide (x > y)) (
K (.int .i64 1) a)<|
K (.int .i64 0) a)) (Kp))) (Kp)
def wy (C:gl) (x:Int) (h:Heap) (K:VK) (Kp:PK):Prop :=
K (.bool (x != x)) h
theorem EJ {vals:Option Addr} {valsn valsc:Nat} {h:Heap} {K:VK} {Kp:PK} (H:BQ QP vals valsn valsc h K Kp):QP yz #[.slice vals valsn valsc] h K Kp :=
 fJ (Hints.mk (fun i=>none) (fun i=>bif Nat.beq i 3 then some ([(8,.int .i64)],130852) else (none)) (fun i=>none) []) (by kernel_rfl) Go.Proofs.Tryz.func68 (by kernel_rfl) (fun C=>BQ C vals valsn valsc h K Kp) (fun C=>by kernel_rfl) H
theorem zK {x y:Int} {h:Heap} {K:VK} {Kp:PK} (H:tB QP x y h K Kp):QP mQ #[.int .i64 x,.int .i64 y] h K Kp :=
 fJ (Hints.mk (fun i=>none) (fun i=>none) (fun i=>none) []) (by kernel_rfl) Go.Proofs.Tryz.func69 (by kernel_rfl) (fun C=>tB C x y h K Kp) (fun C=>by kernel_rfl) H
theorem B0 {x:Int} {h:Heap} {K:VK} {Kp:PK} (H:wy QP x h K Kp):QP pU #[.int .i64 x] h K Kp :=
 fJ (Hints.mk (fun i=>none) (fun i=>none) (fun i=>none) []) (by kernel_rfl) Go.Proofs.Tryz.func117 (by kernel_rfl) (fun C=>wy C x h K Kp) (fun C=>by kernel_rfl) H
def zm (C:gl) (U V W X Y:Int) (Z:Bool) (aa ab:Int) (ac:Option Addr) (y z:Nat) (symbols:Option Addr) (symbolsn symbolsc:Nat) (h:Heap) (K:VK) (Kp:PK):Prop :=
gE h [.int .i64 U,.int .i64 V,.int .i64 W,.int .i64 X,.int .i64 Y,.bool Z,.int .i64 aa,.int .i64 ab,.slice ac y z] fR fun b A=>
gE A [.slice symbols symbolsn symbolsc] iF fun g B=>
gE B [.slice none 0 0] k7 fun c a=>
ldI a (.add ⟨b,0,none⟩ 0) .i64 fun D=>
ldI a (.add ⟨b,0,none⟩ 1) .i64 fun E=>
ldI a (.add ⟨b,0,none⟩ 2) .i64 fun F=>
ldI a (.add ⟨b,0,none⟩ 3) .i64 fun G=>
ldI a (.add ⟨b,0,none⟩ 4) .i64 fun H=>
ldB a (.add ⟨b,0,none⟩ 5) fun I=>
ldI a (.add ⟨b,0,none⟩ 6) .i64 fun J=>
ldI a (.add ⟨b,0,none⟩ 7) .i64 fun L=>
ldS a (.add ⟨b,0,none⟩ 8) fun M m n=>
ldS a (⟨g,0,none⟩:Addr) fun N o p=>
C rq #[.agg #[.int .i64 D,.int .i64 E,.int .i64 F,.int .i64 G,.int .i64 H,.bool I,.int .i64 J,.int .i64 L,.slice M m n],.slice N o p] a (fun O i=>
∃ (d:Int),O = .int .i64 d/\(
fI (d != (0:Int)) (
stV i (⟨c,0,none⟩:Addr) (.slice none 0 0) fun j=>
ldS j (⟨c,0,none⟩:Addr) fun P q r=>
K (.tuple #[.slice P q r,.int .i64 d]) j)<|
C sZ #[.func (.func xC) #[] #[.pointer (some ⟨b,0,none⟩),.pointer (some ⟨g,0,none⟩),.pointer (some ⟨c,0,none⟩)]] i (fun Q e=>
∃ (f:Int),Q = .int .i64 f/\(
fI (f != (0:Int)) (
stV e (⟨c,0,none⟩:Addr) (.slice none 0 0) fun k=>
ldS k (⟨c,0,none⟩:Addr) fun R s t=>
K (.tuple #[.slice R s t,.int .i64 f]) k)<|
ldS e (⟨c,0,none⟩:Addr) fun S u v=>
stV e (⟨c,0,none⟩:Addr) (.slice S u v) fun l=>
ldS l (⟨c,0,none⟩:Addr) fun T w x=>
K (.tuple #[.slice T w x,.int .i64 0]) l)) (Kp))) (Kp)
def Df (C:gl) (bS bT bU bV bW:Int) (bX:Bool) (bY bZ:Int) (b0:Option Addr) (aP aQ:Nat) (symbols:Option Addr) (symbolsn symbolsc:Nat) (h:Heap) (K:VK) (Kp:PK):Prop :=
gE h [.int .i64 bS,.int .i64 bT,.int .i64 bU,.int .i64 bV,.int .i64 bW,.bool bX,.int .i64 bY,.int .i64 bZ,.slice b0 aP aQ] fR fun a aR=>
gE aR [.int .i64 0,.int .i64 0,.slice none 0 0] fK fun b f=>
ldI f (.add ⟨a,0,none⟩ 0) .i64 fun aS=>
ldI f (.add ⟨a,0,none⟩ 1) .i64 fun aT=>
ldI f (.add ⟨a,0,none⟩ 2) .i64 fun aU=>
ldI f (.add ⟨a,0,none⟩ 3) .i64 fun aV=>
ldI f (.add ⟨a,0,none⟩ 4) .i64 fun aW=>
ldB f (.add ⟨a,0,none⟩ 5) fun aX=>
ldI f (.add ⟨a,0,none⟩ 6) .i64 fun aY=>
ldI f (.add ⟨a,0,none⟩ 7) .i64 fun aZ=>
ldS f (.add ⟨a,0,none⟩ 8) fun a0 W X=>
C rq #[.agg #[.int .i64 aS,.int .i64 aT,.int .i64 aU,.int .i64 aV,.int .i64 aW,.bool aX,.int .i64 aY,.int .i64 aZ,.slice a0 W X],.slice symbols symbolsn symbolsc] f (fun a1 r=>
∃ (B:Int),a1 = .int .i64 B/\(
fI (B != (0:Int)) (
stV r (.add ⟨b,0,none⟩ 0) (.int .i64 0) fun a2=>
stV a2 (.add ⟨b,0,none⟩ 1) (.int .i64 0) fun a3=>
stV a3 (.add ⟨b,0,none⟩ 2) (.slice none 0 0) fun s=>
ldI s (.add ⟨b,0,none⟩ 0) .i64 fun a4=>
ldI s (.add ⟨b,0,none⟩ 1) .i64 fun a5=>
ldS s (.add ⟨b,0,none⟩ 2) fun a6 Y Z=>
K (.tuple #[.agg #[.int .i64 a4,.int .i64 a5,.slice a6 Y Z],.int .i64 B]) s)<|
ldI r (.add ⟨a,0,none⟩ 2) .i64 fun a7=>
ldI r (.add ⟨a,0,none⟩ 3) .i64 fun a8=>
C rF #[.int .i64 a7,.int .i64 a8] r (fun a9 o=>
∃ (t:Option Addr),∃ (D:Int),a9 = .tuple #[.pointer t,.int .i64 D]/\(
fI (D != (0:Int)) (
stV o (.add ⟨b,0,none⟩ 0) (.int .i64 0) fun ba=>
stV ba (.add ⟨b,0,none⟩ 1) (.int .i64 0) fun bb=>
stV bb (.add ⟨b,0,none⟩ 2) (.slice none 0 0) fun u=>
ldI u (.add ⟨b,0,none⟩ 0) .i64 fun bc=>
ldI u (.add ⟨b,0,none⟩ 1) .i64 fun bd=>
ldS u (.add ⟨b,0,none⟩ 2) fun be aa ab=>
K (.tuple #[.agg #[.int .i64 bc,.int .i64 bd,.slice be aa ab],.int .i64 D]) u)<|
ldI o (.add ⟨a,0,none⟩ 2) .i64 fun bf=>
ldI o (.add ⟨a,0,none⟩ 3) .i64 fun bg=>
ldI o (.add ⟨a,0,none⟩ 6) .i64 fun bh=>
C rH #[.pointer t,.int .i64 0,.int .i64 0,.int .i64 bf,.int .i64 bg,.int .i64 bh] o (fun bi g=>
∃ (bj:Int),bi = .int .i64 bj/\(
ldI g (.add ⟨a,0,none⟩ 0) .i64 fun bk=>
ldI g (.add ⟨a,0,none⟩ 1) .i64 fun bl=>
ldI g (.add ⟨a,0,none⟩ 2) .i64 fun bm=>
ldI g (.add ⟨a,0,none⟩ 3) .i64 fun bn=>
ldI g (.add ⟨a,0,none⟩ 4) .i64 fun bo=>
ldB g (.add ⟨a,0,none⟩ 5) fun bp=>
ldI g (.add ⟨a,0,none⟩ 6) .i64 fun bq=>
ldI g (.add ⟨a,0,none⟩ 7) .i64 fun br=>
ldS g (.add ⟨a,0,none⟩ 8) fun bs ac ad=>
C ml #[.agg #[.int .i64 bk,.int .i64 bl,.int .i64 bm,.int .i64 bn,.int .i64 bo,.bool bp,.int .i64 bq,.int .i64 br,.slice bs ac ad]] g (fun bt bu=>
∃ (M:Option Addr) (v ae:Nat),bt = .slice M v ae/\(
∃ E:Nat->List Value->Heap->Prop,(∃ w,E w [.int .i64 0] bu)/\∀ (w:Nat) (i:Heap) (b1:Nat->Value) (d:Int),E w [.int .i64 d] i->(
fI (decide (d<(v:Int))) (
fW (0<=d/\d<(v:Int))<|
ptr M fun k=>
ldI i ((k.add (d.toNat*7)).add 0) .i64 fun bv=>
ldI i ((k.add (d.toNat*7)).add 1) .i64 fun bw=>
ldI i ((k.add (d.toNat*7)).add 2) .i64 fun bx=>
ldB i ((k.add (d.toNat*7)).add 3) fun bz=>
ldI i ((k.add (d.toNat*7)).add 4) .i64 fun bA=>
ldI i ((k.add (d.toNat*7)).add 5) .i64 fun bB=>
ldS i ((k.add (d.toNat*7)).add 6) fun bC af ag=>
gE i [.int .i64 0,.int .i64 0,.int .i64 0,.bool false,.int .i64 0,.int .i64 0,.slice none 0 0] fM fun c bD=>
stV bD (.add ⟨c,0,none⟩ 0) (.int .i64 bv) fun bE=>
stV bE (.add ⟨c,0,none⟩ 1) (.int .i64 bw) fun bF=>
stV bF (.add ⟨c,0,none⟩ 2) (.int .i64 bx) fun bG=>
stV bG (.add ⟨c,0,none⟩ 3) (.bool bz) fun bH=>
stV bH (.add ⟨c,0,none⟩ 4) (.int .i64 bA) fun bI=>
stV bI (.add ⟨c,0,none⟩ 5) (.int .i64 bB) fun bJ=>
stV bJ (.add ⟨c,0,none⟩ 6) (.slice bC af ag) fun x=>
ldI x (((⟨c,0,none⟩:Addr).add 4).add 0) .i64 fun bK=>
ldI x (((⟨c,0,none⟩:Addr).add 4).add 1) .i64 fun bL=>
ldS x (((⟨c,0,none⟩:Addr).add 4).add 2) fun bM ah ai=>
gE x [.int .i64 0,.int .i64 0,.slice none 0 0] fK fun e bN=>
stV bN (.add ⟨e,0,none⟩ 0) (.int .i64 bK) fun bO=>
stV bO (.add ⟨e,0,none⟩ 1) (.int .i64 bL) fun bP=>
stV bP (.add ⟨e,0,none⟩ 2) (.slice bM ah ai) fun l=>
∃ F:List Value->Heap->Prop,(
ldB l (.add ⟨c,0,none⟩ 3) fun bQ=>
fI (!bQ) (
ldI l (.add ⟨c,0,none⟩ 2) .i64 fun p=>
fW (0<=p/\p<(symbolsn:Int))<|
ptr symbols fun G=>
ldI l ((G.add (p.toNat*3)).add 0) .i64 fun bR=>
ldI l ((G.add (p.toNat*3)).add 1) .i64 fun aj=>
ldS l ((G.add (p.toNat*3)).add 2) fun ak N O=>
stV l (.add ⟨e,0,none⟩ 0) (.int .i64 bR) fun al=>
stV al (.add ⟨e,0,none⟩ 1) (.int .i64 aj) fun am=>
stV am (.add ⟨e,0,none⟩ 2) (.slice ak N O) fun an=>
F [] an)<|
F [] l)/\∀ (q:Heap) (b2:Nat->Value) ,F [] q->(
ldI q (.add ⟨e,0,none⟩ 0) .i64 fun ao=>
ldI q (.add ⟨e,0,none⟩ 1) .i64 fun ap=>
ldS q (.add ⟨e,0,none⟩ 2) fun aq P Q=>
C nW #[.agg #[.int .i64 ao,.int .i64 ap,.slice aq P Q]] q (fun ar j=>
∃ (H:Option Addr),∃ (y:Int),ar = .tuple #[.pointer H,.int .i64 y]/\(
fI (y != (0:Int)) (
stV j (.add ⟨b,0,none⟩ 0) (.int .i64 0) fun au=>
stV au (.add ⟨b,0,none⟩ 1) (.int .i64 0) fun av=>
stV av (.add ⟨b,0,none⟩ 2) (.slice none 0 0) fun m=>
ldI m (.add ⟨b,0,none⟩ 0) .i64 fun aw=>
ldI m (.add ⟨b,0,none⟩ 1) .i64 fun ax=>
ldS m (.add ⟨b,0,none⟩ 2) fun ay R S=>
K (.tuple #[.agg #[.int .i64 aw,.int .i64 ax,.slice ay R S],.int .i64 y]) m)<|
ldI j (.add ⟨e,0,none⟩ 0) .i64 fun az=>
ldI j (.add ⟨e,0,none⟩ 1) .i64 fun aA=>
ldI j (.add ⟨c,0,none⟩ 0) .i64 fun aB=>
ldI j (.add ⟨c,0,none⟩ 1) .i64 fun aC=>
ldI j (.add ⟨a,0,none⟩ 4) .i64 fun aD=>
C rI #[.pointer t,.pointer H,.int .i64 0,.int .i64 0,.int .i64 az,.int .i64 aA,.int .i64 aB,.int .i64 aC,.int .i64 aD] j (fun aE aF=>
∃ (aG:Int),aE = .int .i64 aG/\(
fG (IntKind.i64.wrap (d+(1:Int))) fun aH=>
∃ T,T<w/\E T [.int .i64 aH] aF)) (Kp))) (Kp)))<|
C nK #[.pointer t] i (fun aI aJ=>
∃ (I J:Int) (L:Option Addr) (z A:Nat),aI = .agg #[.int .i64 I,.int .i64 J,.slice L z A]/\(
stV aJ (.add ⟨b,0,none⟩ 0) (.int .i64 I) fun aK=>
stV aK (.add ⟨b,0,none⟩ 1) (.int .i64 J) fun aL=>
stV aL (.add ⟨b,0,none⟩ 2) (.slice L z A) fun n=>
ldI n (.add ⟨b,0,none⟩ 0) .i64 fun aM=>
ldI n (.add ⟨b,0,none⟩ 1) .i64 fun aN=>
ldS n (.add ⟨b,0,none⟩ 2) fun aO U V=>
K (.tuple #[.agg #[.int .i64 aM,.int .i64 aN,.slice aO U V],.int .i64 0]) n)) (Kp)))) (Kp))) (Kp))) (Kp))) (Kp)
def zl (C:gl) (R S T U V:Int) (W:Bool) (X Y:Int) (Z:Option Addr) (w x:Nat) (h:Heap) (K:VK) (Kp:PK):Prop :=
gE h [.int .i64 R,.int .i64 S,.int .i64 T,.int .i64 U,.int .i64 V,.bool W,.int .i64 X,.int .i64 Y,.slice Z w x] fR fun o p=>
ldI p (.add ⟨o,0,none⟩ 7) .i64 fun y=>
gE p [.int .i64 0] gQ fun c z=>
stV z (⟨c,0,none⟩:Addr) (.int .i64 y) fun d=>
∃ f:List Value->Heap->Prop,(
ldI d (⟨c,0,none⟩:Addr) .i64 fun A=>
fI (decide (A<(0:Int))) (
stV d (⟨c,0,none⟩:Addr) (.int .i64 0) fun B=>
f [] B)<|
ldI d (⟨c,0,none⟩:Addr) .i64 fun D=>
fI (decide (D > (3:Int))) (
stV d (⟨c,0,none⟩:Addr) (.int .i64 0) fun E=>
f [] E)<|
f [] d)/\∀ (k:Heap) (aa:Nat->Value) ,f [] k->(
ldS k (.add ⟨o,0,none⟩ 8) fun F s t=>
C j2 #[.slice F s t] k (fun G H=>
∃ (e:Option Addr) (b g:Nat),G = .slice e b g/\(
∃ l:Nat->List Value->Heap->Prop,(∃ i,l i [.int .i64 0] H)/\∀ (i:Nat) (j:Heap) (ab:Nat->Value) (a:Int),l i [.int .i64 a] j->(
fI (decide (a<(b:Int))) (
fW (0<=a/\a<(b:Int))<|
ptr e fun I=>
ldS j (((I.add (a.toNat*7)).add 4).add 2) fun J u v=>
C jv #[.slice J u v] j (fun L M=>
∃ (q:Option Addr) (m n:Nat),L = .slice q m n/\(
fW (0<=a/\a<(b:Int))<|
ptr e fun N=>
stV M (((N.add (a.toNat*7)).add 4).add 2) (.slice q m n) fun O=>
fG (IntKind.i64.wrap (a+(1:Int))) fun P=>
∃ r,r<i/\l r [.int .i64 P] O)) (Kp))<|
C iQ #[.slice e b g,.func (.func oZ) #[] #[.pointer (some ⟨c,0,none⟩)]] j (fun ac Q=>
K (.slice e b g) Q) (Kp)))) (Kp))
def zn (C:gl) (f:Option Addr) (fn fc:Nat) (symbols:Option Addr) (symbolsn symbolsc:Nat) (h:Heap) (K:VK) (Kp:PK):Prop :=
gE h [.slice f fn fc] k7 fun ax ay=>
gE ay [.slice symbols symbolsn symbolsc] iF fun x az=>
gE az [.int .i64 0,.int .i64 0,.int .i64 0,.int .i64 0,.int .i64 0,.bool false,.int .i64 0,.int .i64 0,.slice none 0 0] fR fun a y=>
ldS y (⟨x,0,none⟩:Addr) fun aA z A=>
gE y [.pointer none,.int .i64 0,.int .i64 0,.int .i64 0,.int .i64 0,.int .i64 0,.bool false,.int .i64 0,.int .i64 0,.slice none 0 0,.slice aA z A,.int .i64 0,.int .i64 0] mX fun aB aC=>
gE aC [.pointer none] jV fun j B=>
stV B (⟨j,0,none⟩:Addr) (.pointer (some ⟨aB,0,none⟩)) fun D=>
C sZ #[.func (.func xD) #[] #[.pointer (some ⟨x,0,none⟩),.pointer (some ⟨ax,0,none⟩),.pointer (some ⟨j,0,none⟩)]] D (fun E b=>
∃ (k:Int),E = .int .i64 k/\(
fI (k != (0:Int)) (
qH b (⟨a,0,none⟩:Addr) 0 [.int .i64 0,.int .i64 0,.int .i64 0,.int .i64 0,.int .i64 0,.bool false,.int .i64 0,.int .i64 0,.slice none 0 0] fun d=>
ldI d (.add ⟨a,0,none⟩ 0) .i64 fun F=>
ldI d (.add ⟨a,0,none⟩ 1) .i64 fun G=>
ldI d (.add ⟨a,0,none⟩ 2) .i64 fun H=>
ldI d (.add ⟨a,0,none⟩ 3) .i64 fun I=>
ldI d (.add ⟨a,0,none⟩ 4) .i64 fun J=>
ldB d (.add ⟨a,0,none⟩ 5) fun L=>
ldI d (.add ⟨a,0,none⟩ 6) .i64 fun M=>
ldI d (.add ⟨a,0,none⟩ 7) .i64 fun N=>
ldS d (.add ⟨a,0,none⟩ 8) fun O p q=>
K (.tuple #[.agg #[.int .i64 F,.int .i64 G,.int .i64 H,.int .i64 I,.int .i64 J,.bool L,.int .i64 M,.int .i64 N,.slice O p q],.int .i64 k]) d)<|
ldP b (⟨j,0,none⟩:Addr) fun P=>
ldP b (⟨j,0,none⟩:Addr) fun Q=>
ptr Q fun g=>
ldI b ((g.add 1).add 0) .i64 fun R=>
ldI b ((g.add 1).add 1) .i64 fun S=>
ldI b ((g.add 1).add 2) .i64 fun T=>
ldI b ((g.add 1).add 3) .i64 fun U=>
ldI b ((g.add 1).add 4) .i64 fun V=>
ldB b ((g.add 1).add 5) fun W=>
ldI b ((g.add 1).add 6) .i64 fun X=>
ldI b ((g.add 1).add 7) .i64 fun Y=>
ldS b ((g.add 1).add 8) fun Z r s=>
C ml #[.agg #[.int .i64 R,.int .i64 S,.int .i64 T,.int .i64 U,.int .i64 V,.bool W,.int .i64 X,.int .i64 Y,.slice Z r s]] b (fun aa n=>
∃ (o:Option Addr) (l m:Nat),aa = .slice o l m/\(
gi b n/\(
ptr P fun ab=>
stV n ((ab.add 1).add 8) (.slice o l m) fun c=>
ldP c (⟨j,0,none⟩:Addr) fun ac=>
ptr ac fun i=>
ldI c ((i.add 1).add 0) .i64 fun ad=>
ldI c ((i.add 1).add 1) .i64 fun ae=>
ldI c ((i.add 1).add 2) .i64 fun af=>
ldI c ((i.add 1).add 3) .i64 fun ag=>
ldI c ((i.add 1).add 4) .i64 fun ah=>
ldB c ((i.add 1).add 5) fun ai=>
ldI c ((i.add 1).add 6) .i64 fun aj=>
ldI c ((i.add 1).add 7) .i64 fun ak=>
ldS c ((i.add 1).add 8) fun al t u=>
qH c (⟨a,0,none⟩:Addr) 0 [.int .i64 ad,.int .i64 ae,.int .i64 af,.int .i64 ag,.int .i64 ah,.bool ai,.int .i64 aj,.int .i64 ak,.slice al t u] fun e=>
ldI e (.add ⟨a,0,none⟩ 0) .i64 fun am=>
ldI e (.add ⟨a,0,none⟩ 1) .i64 fun an=>
ldI e (.add ⟨a,0,none⟩ 2) .i64 fun ao=>
ldI e (.add ⟨a,0,none⟩ 3) .i64 fun ap=>
ldI e (.add ⟨a,0,none⟩ 4) .i64 fun aq=>
ldB e (.add ⟨a,0,none⟩ 5) fun ar=>
ldI e (.add ⟨a,0,none⟩ 6) .i64 fun au=>
ldI e (.add ⟨a,0,none⟩ 7) .i64 fun av=>
ldS e (.add ⟨a,0,none⟩ 8) fun aw v w=>
K (.tuple #[.agg #[.int .i64 am,.int .i64 an,.int .i64 ao,.int .i64 ap,.int .i64 aq,.bool ar,.int .i64 au,.int .i64 av,.slice aw v w],.int .i64 0]) e))) (Kp))) (Kp)
def xJ (C:gl) (ad ae af ag ah:Int) (ai:Bool) (aj ak:Int) (al:Option Addr) (u v:Nat) (symbols:Option Addr) (symbolsn symbolsc:Nat) (h:Heap) (K:VK) (Kp:PK):Prop :=
gE h [.int .i64 ad,.int .i64 ae,.int .i64 af,.int .i64 ag,.int .i64 ah,.bool ai,.int .i64 aj,.int .i64 ak,.slice al u v] fR fun c d=>
ldI d (.add ⟨c,0,none⟩ 0) .i64 fun w=>
ldI d (.add ⟨c,0,none⟩ 1) .i64 fun x=>
ldI d (.add ⟨c,0,none⟩ 2) .i64 fun y=>
ldI d (.add ⟨c,0,none⟩ 3) .i64 fun z=>
ldI d (.add ⟨c,0,none⟩ 4) .i64 fun A=>
ldB d (.add ⟨c,0,none⟩ 5) fun B=>
ldI d (.add ⟨c,0,none⟩ 6) .i64 fun D=>
ldI d (.add ⟨c,0,none⟩ 7) .i64 fun E=>
ldS d (.add ⟨c,0,none⟩ 8) fun F p q=>
C Cg #[.agg #[.int .i64 w,.int .i64 x,.int .i64 y,.int .i64 z,.int .i64 A,.bool B,.int .i64 D,.int .i64 E,.slice F p q],.slice symbols symbolsn symbolsc] d (fun G j=>
∃ (n:Bool),G = .bool n/\(
fI (!n) (
K (.int .i64 140) j)<|
ldS j (.add ⟨c,0,none⟩ 8) fun H m am=>
∃ k:Nat->List Value->Heap->Prop,(∃ i,k i [.int .i64 0,.int .i64 0] j)/\∀ (i:Nat) (a:Heap) (ao:Nat->Value) (g b:Int),k i [.int .i64 g,.int .i64 b] a->(
fI (decide (b<(m:Int))) (
fW (0<=b/\b<(m:Int))<|
ptr H fun f=>
ldI a ((f.add (b.toNat*7)).add 0) .i64 fun I=>
ldI a ((f.add (b.toNat*7)).add 1) .i64 fun J=>
ldI a ((f.add (b.toNat*7)).add 2) .i64 fun L=>
ldB a ((f.add (b.toNat*7)).add 3) fun M=>
ldI a ((f.add (b.toNat*7)).add 4) .i64 fun N=>
ldI a ((f.add (b.toNat*7)).add 5) .i64 fun O=>
ldS a ((f.add (b.toNat*7)).add 6) fun P r s=>
gE a [.int .i64 0,.int .i64 0,.int .i64 0,.bool false,.int .i64 0,.int .i64 0,.slice none 0 0] fM fun e Q=>
stV Q (.add ⟨e,0,none⟩ 0) (.int .i64 I) fun R=>
stV R (.add ⟨e,0,none⟩ 1) (.int .i64 J) fun S=>
stV S (.add ⟨e,0,none⟩ 2) (.int .i64 L) fun T=>
stV T (.add ⟨e,0,none⟩ 3) (.bool M) fun U=>
stV U (.add ⟨e,0,none⟩ 4) (.int .i64 N) fun V=>
stV V (.add ⟨e,0,none⟩ 5) (.int .i64 O) fun W=>
stV W (.add ⟨e,0,none⟩ 6) (.slice P r s) fun l=>
ldI l (((⟨e,0,none⟩:Addr).add 4).add 0) .i64 fun X=>
ldI l (((⟨e,0,none⟩:Addr).add 4).add 1) .i64 fun Y=>
fG (IntKind.i64.wrap (X*Y)) fun Z=>
fG (IntKind.i64.wrap (g+Z)) fun aa=>
fG (JD aa (1048577:Int)) fun ab=>
fG (IntKind.i64.wrap (b+(1:Int))) fun ac=>
∃ o,o<i/\k o [.int .i64 ab,.int .i64 ac] l)<|
fI (decide ((symbolsn:Int) > (4096:Int))) (
K (.int .i64 120) a)<|
ldS a (.add ⟨c,0,none⟩ 8) fun ap t an=>
fI (decide ((t:Int) > (16384:Int))) (
K (.int .i64 120) a)<|
fI (decide (g > (1048576:Int))) (
K (.int .i64 120) a)<|
K (.int .i64 0) a))) (Kp)
def zk (C:gl) (D:wS) (run:Value) (h:Heap) (K:VK) (Kp:PK):Prop :=
gE h [.int .i64 0] gR fun a f=>
oy C (fun d e=>j5 D (fun b=>
ldI b (⟨a,0,none⟩:Addr) .i64 fun g=>
K (.int .i64 g) b) Kp [{ target := .fn (.func lQ) #[.pointer (some ⟨a,0,none⟩)],args:=#[] }] (.panicking d) e) run [] f fun l i=>
stV i (⟨a,0,none⟩:Addr) (.int .i64 0) fun j=>
j5 D (fun c=>
ldI c (⟨a,0,none⟩:Addr) .i64 fun k=>
K (.int .i64 k) c) Kp [{ target := .fn (.func lQ) #[.pointer (some ⟨a,0,none⟩)],args:=#[] }] .returning j
def uM (C:gl) (cap0 cap1 cap2:Addr) (h:Heap) (K:VK) (Kp:PK):Prop :=
C Am #[.int .i64 14337] h (fun W X=>
∃ (f:Option Addr),∃ (t:Int),W = .tuple #[.pointer f,.int .i64 t]/\(
C jh #[.int .i64 t] X (fun ad b=>
ldI b (cap0.add 0) .i64 fun Y=>
ldI b (cap0.add 1) .i64 fun Z=>
ldI b (cap0.add 2) .i64 fun aa=>
ldI b (cap0.add 3) .i64 fun u=>
ldI b (cap0.add 4) .i64 fun v=>
ldB b (cap0.add 5) fun w=>
ldI b (cap0.add 6) .i64 fun x=>
ldI b (cap0.add 7) .i64 fun y=>
ldS b (cap0.add 8) fun z k l=>
ldS b cap1 fun A m n=>
gE b [.pointer f,.int .i64 Y,.int .i64 Z,.int .i64 aa,.int .i64 u,.int .i64 v,.bool w,.int .i64 x,.int .i64 y,.slice z k l,.slice A m n] C4 fun B D=>
C sG #[.pointer (some ⟨B,0,none⟩)] D (fun ab E=>
C pD #[.pointer f] E (fun F G=>
∃ (g:Option Addr) (c o:Nat),∃ (i:Int),F = .tuple #[.slice g c o,.int .i64 i]/\(
C jh #[.int .i64 i] G (fun ac a=>
ldI a (cap0.add 0) .i64 fun H=>
ldI a (cap0.add 1) .i64 fun I=>
ldI a (cap0.add 2) .i64 fun J=>
ldI a (cap0.add 3) .i64 fun L=>
ldI a (cap0.add 4) .i64 fun M=>
ldB a (cap0.add 5) fun N=>
ldI a (cap0.add 6) .i64 fun O=>
ldI a (cap0.add 7) .i64 fun P=>
ldS a (cap0.add 8) fun Q p q=>
C Al #[.agg #[.int .i64 H,.int .i64 I,.int .i64 J,.int .i64 L,.int .i64 M,.bool N,.int .i64 O,.int .i64 P,.slice Q p q]] a (fun R S=>
∃ (j:Option Addr) (d e:Nat),R = .slice j d e/\(
l4 S gA 1 1 [.int .u8 0] j (d) (e) g (c) fun T r s U=>
stV U cap2 (.slice T r s) fun V=>
K (.tuple #[]) V)) (Kp)) (Kp))) (Kp)) (Kp)) (Kp))) (Kp)
def Dd (C:gl) (err:Int) (h:Heap) (K:VK) (Kp:PK):Prop :=
fI (err != (0:Int)) (
Kp [{ v := .iface mO (.agg #[.int .i64 err]),recovered:=false }] h)<|
K (.tuple #[]) h
def uK (C:gl) (c:Option Addr) (h:Heap) (K:VK) (Kp:PK):Prop :=
ptr c fun k=>
ldI h ((k.add 1).add 0) .i64 fun ay=>
ldI h ((k.add 1).add 1) .i64 fun az=>
ldI h ((k.add 1).add 2) .i64 fun aA=>
ldI h ((k.add 1).add 3) .i64 fun aB=>
ldI h ((k.add 1).add 4) .i64 fun aC=>
ldB h ((k.add 1).add 5) fun aD=>
ldI h ((k.add 1).add 6) .i64 fun aE=>
ldI h ((k.add 1).add 7) .i64 fun aF=>
ldS h ((k.add 1).add 8) fun J E F=>
C ml #[.agg #[.int .i64 ay,.int .i64 az,.int .i64 aA,.int .i64 aB,.int .i64 aC,.bool aD,.int .i64 aE,.int .i64 aF,.slice J E F]] h (fun L M=>
∃ (i:Option Addr) (a G:Nat),L = .slice i a G/\(
∃ q:Nat->List Value->Heap->Prop,(∃ l,q l [.int .i64 0,.int .i64 0,.int .i64 0] M)/\∀ (l:Nat) (m:Heap) (aG:Nat->Value) (n o b:Int),q l [.int .i64 n,.int .i64 o,.int .i64 b] m->(
fI (decide (b<(a:Int))) (
fW (0<=b/\b<(a:Int))<|
ptr i fun N=>
ptr c fun O=>
ldI m ((N.add (b.toNat*7)).add 1) .i64 fun P=>
ldI m ((O.add 1).add 7) .i64 fun v=>
fW (0<=v)<|
fG (l8 .i64 P v) fun r=>
fG (IntKind.i64.wrap (r-n)) fun Q=>
C mo #[.pointer c,.int .i64 0,.int .i64 Q] m (fun aH w=>
fW (0<=b/\b<(a:Int))<|
ptr i fun R=>
ldI w ((R.add (b.toNat*7)).add 0) .i64 fun S=>
fG (IntKind.i64.wrap (S-o)) fun T=>
C mo #[.pointer c,.int .i64 512,.int .i64 T] w (fun aI x=>
fW (0<=b/\b<(a:Int))<|
ptr i fun U=>
ldI x ((U.add (b.toNat*7)).add 0) .i64 fun y=>
∃ t:Nat->List Value->Heap->Prop,(∃ s,t s [.int .i64 b] x)/\∀ (s:Nat) (f:Heap) (aJ:Nat->Value) (d:Int),t s [.int .i64 d] f->(
fW (0<=d/\d<(a:Int))<|
ptr i fun j=>
ldI f ((j.add (d.toNat*7)).add 0) .i64 fun V=>
ldI f ((j.add (d.toNat*7)).add 1) .i64 fun W=>
ldI f ((j.add (d.toNat*7)).add 2) .i64 fun X=>
ldB f ((j.add (d.toNat*7)).add 3) fun Y=>
ldI f ((j.add (d.toNat*7)).add 4) .i64 fun Z=>
ldI f ((j.add (d.toNat*7)).add 5) .i64 fun aa=>
ldS f ((j.add (d.toNat*7)).add 6) fun ab H I=>
C sF #[.pointer c,.agg #[.int .i64 V,.int .i64 W,.int .i64 X,.bool Y,.int .i64 Z,.int .i64 aa,.slice ab H I]] f (fun aK g=>
fG (IntKind.i64.wrap (d+(1:Int))) fun e=>
fI (e == (a:Int)) (
ptr c fun ac=>
ldP g (ac.add 0) fun ad=>
C nt #[.pointer ad,.int .i64 1024,.agg #[.int .i64 0,.bool true]] g (fun ae af=>
∃ (z:Int),ae = .int .i64 z/\(
C jh #[.int .i64 z] af (fun aL ag=>
∃ p,p<l/\q p [.int .i64 r,.int .i64 y,.int .i64 e] ag) (Kp))) (Kp))<|
fW (0<=e/\e<(a:Int))<|
ptr i fun ah=>
ptr c fun ai=>
ldI g ((ah.add (e.toNat*7)).add 1) .i64 fun aj=>
ldI g ((ai.add 1).add 7) .i64 fun A=>
fW (0<=A)<|
fG (l8 .i64 aj A) fun ak=>
fI (ak != r) (
ptr c fun al=>
ldP g (al.add 0) fun am=>
C nt #[.pointer am,.int .i64 1024,.agg #[.int .i64 0,.bool true]] g (fun an ao=>
∃ (B:Int),an = .int .i64 B/\(
C jh #[.int .i64 B] ao (fun aM ap=>
∃ p,p<l/\q p [.int .i64 r,.int .i64 y,.int .i64 e] ap) (Kp))) (Kp))<|
fW (0<=e/\e<(a:Int))<|
ptr i fun aq=>
fG (IntKind.i64.wrap (e-(1:Int))) fun u=>
fW (0<=u/\u<(a:Int))<|
ptr i fun ar=>
ldI g ((aq.add (e.toNat*7)).add 0) .i64 fun au=>
ldI g ((ar.add (u.toNat*7)).add 0) .i64 fun av=>
fG (IntKind.i64.wrap (au-av)) fun aw=>
C mo #[.pointer c,.int .i64 1024,.int .i64 aw] g (fun aN ax=>
∃ D,D<s/\t D [.int .i64 e] ax) (Kp)) (Kp))) (Kp)) (Kp))<|
K (.tuple #[]) m))) (Kp)
def De (C:gl) (ag ah ai aj ak:Int) (al:Bool) (am an:Int) (ao:Option Addr) (w x:Nat) (h:Heap) (K:VK) (Kp:PK):Prop :=
gE h [.int .i64 ag,.int .i64 ah,.int .i64 ai,.int .i64 aj,.int .i64 ak,.bool al,.int .i64 am,.int .i64 an,.slice ao w x] fR fun a y=>
C sM #[.int .i64 67108864] y (fun z A=>
∃ (d:Option Addr),∃ (m:Int),z = .tuple #[.pointer d,.int .i64 m]/\(
C jh #[.int .i64 m] A (fun aq e=>
ldI e (.add ⟨a,0,none⟩ 0) .i64 fun B=>
ldI e (.add ⟨a,0,none⟩ 1) .i64 fun D=>
ldI e (.add ⟨a,0,none⟩ 2) .i64 fun E=>
ldI e (.add ⟨a,0,none⟩ 3) .i64 fun F=>
gE e [.int .i64 B,.int .i64 D,.int .i64 E,.int .i64 F] gQ fun G H=>
∃ i:Nat->List Value->Heap->Prop,(∃ f,i f [.int .i64 0] H)/\∀ (f:Nat) (b:Heap) (ar:Nat->Value) (c:Int),i f [.int .i64 c] b->(
fI (decide (c<((4:Nat):Int))) (
fW (0<=c/\c<((4:Nat):Int))<|
ldI b ((⟨G,0,none⟩:Addr).add (c.toNat*1)) .i64 fun I=>
fG (IntKind.u64.wrap I) fun J=>
C mT #[.pointer d,.int .u64 J] b (fun L M=>
∃ (n:Int),L = .int .i64 n/\(
C jh #[.int .i64 n] M (fun au N=>
fG (IntKind.i64.wrap (c+(1:Int))) fun O=>
∃ o,o<f/\i o [.int .i64 O] N) (Kp))) (Kp))<|
ldI b (.add ⟨a,0,none⟩ 4) .i64 fun P=>
ldI b (.add ⟨a,0,none⟩ 6) .i64 fun Q=>
fG (IntKind.i64.wrap ((16:Int)*Q)) fun R=>
fG (IntKind.i64.wrap (P+R)) fun S=>
ldI b (.add ⟨a,0,none⟩ 7) .i64 fun T=>
fG (IntKind.i64.wrap ((32:Int)*T)) fun U=>
fG (IntKind.i64.wrap (S+U)) fun p=>
∃ j:List Value->Heap->Prop,(
ldB b (.add ⟨a,0,none⟩ 5) fun V=>
fI V (
fG (IntKind.i64.wrap (p+(8:Int))) fun W=>
j [.int .i64 W] b)<|
j [.int .i64 p] b)/\∀ (q:Heap) (av:Nat->Value) (g:Int),j [.int .i64 g] q->(
fG (IntKind.u64.wrap g) fun X=>
C rC #[.pointer d,.int .u64 X,.int .i64 8] q (fun Y Z=>
∃ (r:Int),Y = .int .i64 r/\(
C jh #[.int .i64 r] Z (fun aw s=>
ldS s (.add ⟨a,0,none⟩ 8) fun ax v ap=>
fG (IntKind.u64.wrap (v:Int)) fun aa=>
C mT #[.pointer d,.int .u64 aa] s (fun ab ac=>
∃ (t:Int),ab = .int .i64 t/\(
C jh #[.int .i64 t] ac (fun ay ad=>
C pA #[.pointer d] ad (fun ae af=>
∃ (u:Option Addr) (k l:Nat),ae = .slice u k l/\(
K (.slice u k l) af)) (Kp)) (Kp))) (Kp)) (Kp))) (Kp)))) (Kp))) (Kp)
def uL (C:gl) (O P Q:Int) (R:Bool) (S T:Int) (U:Option Addr) (o p:Nat) (V W q:Int) (r:Bool) (s t:Int) (u:Option Addr) (m n:Nat) (cap0:Addr) (h:Heap) (K:VK) (Kp:PK):Prop :=
gE h [.int .i64 O,.int .i64 P,.int .i64 Q,.bool R,.int .i64 S,.int .i64 T,.slice U o p] fM fun b v=>
gE v [.int .i64 V,.int .i64 W,.int .i64 q,.bool r,.int .i64 s,.int .i64 t,.slice u m n] fM fun c a=>
ldI a (.add ⟨b,0,none⟩ 1) .i64 fun w=>
ldI a cap0 .i64 fun e=>
fW (0<=e)<|
fG (l8 .i64 w e) fun x=>
ldI a (.add ⟨c,0,none⟩ 1) .i64 fun y=>
ldI a cap0 .i64 fun f=>
fW (0<=f)<|
fG (l8 .i64 y f) fun z=>
ldI a (.add ⟨b,0,none⟩ 0) .i64 fun A=>
ldI a (.add ⟨c,0,none⟩ 0) .i64 fun B=>
ldI a (.add ⟨b,0,none⟩ 1) .i64 fun D=>
ldI a (.add ⟨c,0,none⟩ 1) .i64 fun E=>
C mQ #[.int .i64 x,.int .i64 z] a (fun F d=>
∃ (g:Int),F = .int .i64 g/\(
gi a d/\(
C mQ #[.int .i64 A,.int .i64 B] d (fun G i=>
∃ (j:Int),G = .int .i64 j/\(
gi d i/\(
C mQ #[.int .i64 D,.int .i64 E] i (fun H I=>
∃ (k:Int),H = .int .i64 k/\(
gE I [.int .i64 g,.int .i64 j,.int .i64 k] gQ fun J L=>
C yz #[.slice (some ⟨J,0,none⟩) 3 3] L (fun M N=>
∃ (l:Int),M = .int .i64 l/\(
K (.int .i64 l) N)) (Kp))) (Kp)))) (Kp)))) (Kp)
def uN (C:gl) (cap0 cap1 cap2:Addr) (h:Heap) (K:VK) (Kp:PK):Prop :=
ldS h cap0 fun af L M=>
C jd #[.slice af L M,.func (.func pt) #[] #[]] h (fun ag ah=>
∃ (H:Bool),ag = .bool H/\(
C ij #[.bool H] ah (fun ap I=>
ldS I cap0 fun aq N ak=>
C oL #[.bool (decide ((N:Int) > (4096:Int)))] I (fun ar J=>
ldS J cap1 fun O D E=>
C sN #[.slice O D E] J (fun P a=>
∃ (f:Option Addr),P = .pointer f/\(
∃ e:Nat->Prop,(
ldP a cap2 fun Q=>
e (cap2:Addr).block/\(
ldP a cap2 fun R=>
e (cap2:Addr).block/\(
ldS a cap0 fun al F ai=>
e (cap0:Addr).block/\(
C wO #[.pointer f,.int .i64 (F:Int)] a (fun S m=>
∃ (n o p q r:Int) (s:Bool) (t u:Int) (v:Option Addr) (i j:Nat),∃ (w:Int),S = .tuple #[.agg #[.int .i64 n,.int .i64 o,.int .i64 p,.int .i64 q,.int .i64 r,.bool s,.int .i64 t,.int .i64 u,.slice v i j],.int .i64 w]/\(
lZ e a m/\(
ptr Q fun T=>
qH m (T.add 1) 0 [.int .i64 n,.int .i64 o,.int .i64 p,.int .i64 q,.int .i64 r,.bool s,.int .i64 t,.int .i64 u,.slice v i j] fun U=>
ptr R fun V=>
stV U (V.add 11) (.int .i64 w) fun b=>
∃ c:Nat->Prop,(
ldP b cap2 fun W=>
c (cap2:Addr).block/\(
ldS b cap1 fun X k l=>
c (cap1:Addr).block/\(
ldS b cap1 fun am G aj=>
c (cap1:Addr).block/\(
C mE #[.pointer f] b (fun Y g=>
∃ (x:Int),Y = .int .i64 x/\(
lZ c b g/\(
fG (IntKind.i64.wrap (x.tdiv (8:Int))) fun Z=>
fG (IntKind.i64.wrap ((G:Int)-Z)) fun d=>
fW (0<=d/\d<=((k:Nat):Int))<|
C qi #[.slice (we X (l) (d.toNat) 1) (k-d.toNat) (l-d.toNat),.int .i64 14337] g (fun aa y=>
∃ (z:Option Addr),∃ (A:Int),aa = .tuple #[.pointer z,.int .i64 A]/\(
lZ c g y/\(
ptr W fun ab=>
stV y (ab.add 0) (.pointer z) fun ac=>
C jh #[.int .i64 A] ac (fun an B=>
ldP B cap2 fun ad=>
C rp #[.pointer ad] B (fun ao ae=>
K (.tuple #[]) ae) (Kp)) (Kp)))) (Kp)))) (Kp)))))))) (Kp))))))) (Kp)) (Kp)) (Kp))) (Kp)
def Bu (C:gl) (bad:Bool) (h:Heap) (K:VK) (Kp:PK):Prop :=
fI bad (
Kp [{ v := .iface mO (.agg #[.int .i64 140]),recovered:=false }] h)<|
K (.tuple #[]) h
def qG (C:gl) (j k:Int) (l:Option Addr) (d e:Nat) (h:Heap) (K:VK) (Kp:PK):Prop :=
gE h [.int .i64 j,.int .i64 k,.slice l d e] fK fun b a=>
ldI a (.add ⟨b,0,none⟩ 0) .i64 fun m=>
ldI a (.add ⟨b,0,none⟩ 1) .i64 fun n=>
ldS a (.add ⟨b,0,none⟩ 2) fun o f g=>
C lX #[.agg #[.int .i64 m,.int .i64 n,.slice o f g]] a (fun p i=>
∃ (c:Bool),p = .bool c/\(
K (.bool (!c)) i)) (Kp)
def Fg (C:gl) (bad:Bool) (h:Heap) (K:VK) (Kp:PK):Prop :=
fI bad (
Kp [{ v := .iface mO (.agg #[.int .i64 120]),recovered:=false }] h)<|
K (.tuple #[]) h
def zh (C:gl) (inv:Option Addr) (symbols:Int) (h:Heap) (K:VK) (Kp:PK):Prop :=
gE h [.int .i64 0,.int .i64 0,.int .i64 0,.int .i64 0,.int .i64 0,.bool false,.int .i64 0,.int .i64 0,.slice none 0 0] fR fun a aA=>
C l5 #[.pointer inv] aA (fun aB aC=>
∃ (o:Int),aB = .int .u64 o/\(
C ij #[.bool (decide (o > (1048576:Int)))] aC (fun aV aD=>
C l5 #[.pointer inv] aD (fun aE aF=>
∃ (k:Int),aE = .int .u64 k/\(
C ij #[.bool (decide (k > (1048576:Int)))] aF (fun aG y=>
C l5 #[.pointer inv] y (fun z A=>
∃ (e:Int),z = .int .u64 e/\(
C ij #[.bool (e == (0:Int))] A (fun aH B=>
C l5 #[.pointer inv] B (fun D E=>
∃ (f:Int),D = .int .u64 f/\(
C ij #[.bool (f == (0:Int))] E (fun aI l=>
∃ g:List Value->Heap->Prop,(
fI (decide (e > (1048576:Int))) (
C oL #[.bool true] l (fun aJ F=>
g [] F) (Kp))<|
fI (decide (f > (1048576:Int))) (
C oL #[.bool true] l (fun aK G=>
g [] G) (Kp))<|
fG (IntKind.u64.wrap (e*f)) fun H=>
C oL #[.bool (decide (H > (1048576:Int)))] l (fun aL I=>
g [] I) (Kp))/\∀ (p:Heap) (aM:Nat->Value) ,g [] p->(
C qh #[.pointer inv,.int .i64 8] p (fun J m=>
∃ (d:Int),∃ (q:Int),J = .tuple #[.int .u64 d,.int .i64 q]/\(
∃ i:List Value->Heap->Prop,(
fI (q != (0:Int)) (
C ij #[.bool true] m (fun aN L=>
i [] L) (Kp))<|
fG (jo .and .u64 d (7:Int)) fun M=>
fI (decide (M > (4:Int))) (
C ij #[.bool true] m (fun aO N=>
i [] N) (Kp))<|
C ij #[.bool (decide (d > (127:Int)))] m (fun aP O=>
i [] O) (Kp))/\∀ (r:Heap) (aQ:Nat->Value) ,i [] r->(
C l5 #[.pointer inv] r (fun P s=>
∃ (j:Int),P = .int .u64 j/\(
∃ n:List Value->Heap->Prop,(
fI (decide (j > (0:Int))) (
C ij #[.bool (symbols == (0:Int))] s (fun aR Q=>
n [] Q) (Kp))<|
C ij #[.bool false] s (fun aS R=>
n [] R) (Kp))/\∀ (t:Heap) (aT:Nat->Value) ,n [] t->(
C oL #[.bool (decide (j > (16384:Int)))] t (fun aU S=>
fG (IntKind.i64.wrap o) fun T=>
fG (IntKind.i64.wrap k) fun U=>
fG (IntKind.i64.wrap e) fun V=>
fG (IntKind.i64.wrap f) fun W=>
fG (jo .and .u64 d (7:Int)) fun X=>
fG (IntKind.i64.wrap X) fun Y=>
fG (jo .and .u64 d (8:Int)) fun Z=>
fG (l8 .u64 d (4:Int)) fun aa=>
fG (jo .and .u64 aa (1:Int)) fun ab=>
fG (IntKind.i64.wrap ab) fun ac=>
fG (l8 .u64 d (5:Int)) fun ad=>
fG (IntKind.i64.wrap ad) fun ae=>
qH S (⟨a,0,none⟩:Addr) 0 [.int .i64 T,.int .i64 U,.int .i64 V,.int .i64 W,.int .i64 Y,.bool (Z != (0:Int)),.int .i64 ac,.int .i64 ae,.slice none 0 0] fun b=>
ldI b (.add ⟨a,0,none⟩ 0) .i64 fun af=>
ldI b (.add ⟨a,0,none⟩ 1) .i64 fun ag=>
ldI b (.add ⟨a,0,none⟩ 2) .i64 fun ah=>
ldI b (.add ⟨a,0,none⟩ 3) .i64 fun ai=>
ldI b (.add ⟨a,0,none⟩ 4) .i64 fun aj=>
ldB b (.add ⟨a,0,none⟩ 5) fun ak=>
ldI b (.add ⟨a,0,none⟩ 6) .i64 fun al=>
ldI b (.add ⟨a,0,none⟩ 7) .i64 fun am=>
ldS b (.add ⟨a,0,none⟩ 8) fun an u v=>
fG (IntKind.i64.wrap j) fun ao=>
qH b (⟨a,0,none⟩:Addr) 0 [.int .i64 af,.int .i64 ag,.int .i64 ah,.int .i64 ai,.int .i64 aj,.bool ak,.int .i64 al,.int .i64 am,.slice an u v] fun c=>
ldI c (.add ⟨a,0,none⟩ 0) .i64 fun ap=>
ldI c (.add ⟨a,0,none⟩ 1) .i64 fun aq=>
ldI c (.add ⟨a,0,none⟩ 2) .i64 fun ar=>
ldI c (.add ⟨a,0,none⟩ 3) .i64 fun au=>
ldI c (.add ⟨a,0,none⟩ 4) .i64 fun av=>
ldB c (.add ⟨a,0,none⟩ 5) fun aw=>
ldI c (.add ⟨a,0,none⟩ 6) .i64 fun ax=>
ldI c (.add ⟨a,0,none⟩ 7) .i64 fun ay=>
ldS c (.add ⟨a,0,none⟩ 8) fun az w x=>
K (.tuple #[.agg #[.int .i64 ap,.int .i64 aq,.int .i64 ar,.int .i64 au,.int .i64 av,.bool aw,.int .i64 ax,.int .i64 ay,.slice az w x],.int .i64 ao]) c) (Kp)))) (Kp)))) (Kp))) (Kp))) (Kp)) (Kp))) (Kp)) (Kp))) (Kp)) (Kp))) (Kp)
def tw (C:gl) (r:Option Addr) (h:Heap) (K:VK) (Kp:PK):Prop :=
∃ q:Nat->List Value->Heap->Prop,(∃ o,q o [.int .i64 0,.int .i64 0,.bool false] h)/\∀ (o:Nat) (p:Heap) (ax:Nat->Value) (g i:Int) (j:Bool),q o [.int .i64 g,.int .i64 i,.bool j] p->(
ptr r fun al=>
ldI p (al.add 11) .i64 fun H=>
fI (decide (H > (0:Int))) (
C kh #[.pointer r,.int .i64 0] p (fun I J=>
∃ (s:Int) (t:Bool),I = .agg #[.int .i64 s,.bool t]/\(
gE J [.int .i64 0,.bool false] iz fun a L=>
stV L (.add ⟨a,0,none⟩ 0) (.int .i64 s) fun M=>
stV M (.add ⟨a,0,none⟩ 1) (.bool t) fun d=>
∃ k:List Value->Heap->Prop,(
ldB d (.add ⟨a,0,none⟩ 1) fun N=>
fI N (
C ij #[.bool true] d (fun am O=>
k [] O) (Kp))<|
fI j (
ldI d (.add ⟨a,0,none⟩ 0) .i64 fun P=>
C ij #[.bool (decide (P<(1:Int)))] d (fun an Q=>
k [] Q) (Kp))<|
C ij #[.bool false] d (fun ao R=>
k [] R) (Kp))/\∀ (n:Heap) (ap:Nat->Value) ,k [] n->(
ldI n (.add ⟨a,0,none⟩ 0) .i64 fun S=>
fG (IntKind.i64.wrap (g+S)) fun u=>
C kh #[.pointer r,.int .i64 512] n (fun T U=>
∃ (v:Int) (w:Bool),T = .agg #[.int .i64 v,.bool w]/\(
stV U (.add ⟨a,0,none⟩ 0) (.int .i64 v) fun V=>
stV V (.add ⟨a,0,none⟩ 1) (.bool w) fun x=>
ldB x (.add ⟨a,0,none⟩ 1) fun W=>
C ij #[.bool W] x (fun aq y=>
ldI y (.add ⟨a,0,none⟩ 0) .i64 fun X=>
fG (IntKind.i64.wrap (i+X)) fun z=>
∃ l:Nat->List Value->Heap->Prop,(∃ e,l e [.int .i64 z] y)/\∀ (e:Nat) (A:Heap) (ar:Nat->Value) (m:Int),l e [.int .i64 m] A->(
C rl #[.pointer r,.int .i64 u,.int .i64 m] A (fun au Y=>
C kh #[.pointer r,.int .i64 1024] Y (fun Z aa=>
∃ (B:Int) (D:Bool),Z = .agg #[.int .i64 B,.bool D]/\(
gE aa [.int .i64 0,.bool false] iz fun b ab=>
stV ab (.add ⟨b,0,none⟩ 0) (.int .i64 B) fun ac=>
stV ac (.add ⟨b,0,none⟩ 1) (.bool D) fun c=>
ldB c (.add ⟨b,0,none⟩ 1) fun ad=>
fI ad (
∃ G,G<o/\q G [.int .i64 u,.int .i64 z,.bool true] c)<|
ptr r fun ae=>
ldI c (ae.add 11) .i64 fun af=>
fI (af == (0:Int)) (
C ij #[.bool true] c (fun av E=>
ldI E (.add ⟨b,0,none⟩ 0) .i64 fun ag=>
fG (IntKind.i64.wrap (m+ag)) fun ah=>
∃ f,f<e/\l f [.int .i64 ah] E) (Kp))<|
ldI c (.add ⟨b,0,none⟩ 0) .i64 fun ai=>
C ij #[.bool (decide (ai<(0:Int)))] c (fun aw F=>
ldI F (.add ⟨b,0,none⟩ 0) .i64 fun aj=>
fG (IntKind.i64.wrap (m+aj)) fun ak=>
∃ f,f<e/\l f [.int .i64 ak] F) (Kp))) (Kp)) (Kp))) (Kp))) (Kp)))) (Kp))<|
K (.tuple #[]) p)
def Ff (C:gl) (X Y Z aa ab:Int) (ac:Bool) (ad ae:Int) (af:Option Addr) (u v:Nat) (symbols:Option Addr) (symbolsn symbolsc:Nat) (h:Heap) (K:VK) (Kp:PK):Prop :=
gE h [.int .i64 X,.int .i64 Y,.int .i64 Z,.int .i64 aa,.int .i64 ab,.bool ac,.int .i64 ad,.int .i64 ae,.slice af u v] fR fun b w=>
gE w [.slice symbols symbolsn symbolsc] iF fun d g=>
ldS g (⟨d,0,none⟩:Addr) fun x o p=>
C jd #[.slice x o p,.func (.func wP) #[] #[]] g (fun y c=>
∃ (i:Bool),y = .bool i/\(
fI i (
K (.bool false) c)<|
ldI c (.add ⟨b,0,none⟩ 2) .i64 fun z=>
ldI c (.add ⟨b,0,none⟩ 3) .i64 fun A=>
C rF #[.int .i64 z,.int .i64 A] c (fun B e=>
∃ (D:Option Addr),∃ (j:Int),B = .tuple #[.pointer D,.int .i64 j]/\(
fI (j != (0:Int)) (
K (.bool false) e)<|
ldI e (.add ⟨b,0,none⟩ 0) .i64 fun E=>
C mj #[.int .i64 E,.int .i64 0] e (fun F f=>
∃ (k:Bool),F = .bool k/\(
fI (!k) (
K (.bool false) f)<|
ldI f (.add ⟨b,0,none⟩ 1) .i64 fun G=>
C mj #[.int .i64 G,.int .i64 0] f (fun H a=>
∃ (l:Bool),H = .bool l/\(
fI (!l) (
K (.bool false) a)<|
ldI a (.add ⟨b,0,none⟩ 4) .i64 fun I=>
fI (decide (I<(0:Int))) (
K (.bool false) a)<|
ldI a (.add ⟨b,0,none⟩ 4) .i64 fun J=>
fI (decide (J > (4:Int))) (
K (.bool false) a)<|
ldI a (.add ⟨b,0,none⟩ 6) .i64 fun L=>
fI (L != (0:Int)) (
ldI a (.add ⟨b,0,none⟩ 6) .i64 fun M=>
fI (M != (1:Int)) (
K (.bool false) a)<|
ldI a (.add ⟨b,0,none⟩ 7) .i64 fun N=>
fI (decide (N<(0:Int))) (
K (.bool false) a)<|
ldI a (.add ⟨b,0,none⟩ 7) .i64 fun O=>
fI (decide (O > (3:Int))) (
K (.bool false) a)<|
ldS a (.add ⟨b,0,none⟩ 8) fun P q r=>
C iB #[.slice P q r,.func (.func pJ) #[] #[.pointer (some ⟨b,0,none⟩),.pointer (some ⟨d,0,none⟩)]] a (fun Q R=>
∃ (m:Bool),Q = .bool m/\(
K (.bool (!m)) R)) (Kp))<|
ldI a (.add ⟨b,0,none⟩ 7) .i64 fun S=>
fI (decide (S<(0:Int))) (
K (.bool false) a)<|
ldI a (.add ⟨b,0,none⟩ 7) .i64 fun T=>
fI (decide (T > (3:Int))) (
K (.bool false) a)<|
ldS a (.add ⟨b,0,none⟩ 8) fun U s t=>
C iB #[.slice U s t,.func (.func pJ) #[] #[.pointer (some ⟨b,0,none⟩),.pointer (some ⟨d,0,none⟩)]] a (fun V W=>
∃ (n:Bool),V = .bool n/\(
K (.bool (!n)) W)) (Kp))) (Kp))) (Kp))) (Kp))) (Kp)
def qF (C:gl) (cap0:Addr) (u:FrameMode) (h:Heap) (Kd:FrameMode->Heap->Prop) (Kdp:FrameMode->PK):Prop :=
Jq u (fun l=>
Kd l h) (fun a b c=>
fI (Nat.beq a mO) (
∃ (d:Int),b = .agg #[.int .i64 d]/\(
gE h [.int .i64 0] mO fun e m=>
stV m (.add ⟨e,0,none⟩ 0) (.int .i64 d) fun f=>
ldI f (.add ⟨e,0,none⟩ 0) .i64 fun n=>
stV f cap0 (.int .i64 n) fun g=>
Kd c g))<|
gE h [.int .i64 0] mO fun i j=>
stV j (.add ⟨i,0,none⟩ 0) (.int .i64 0) fun k=>
Kdp c [{ v := .iface a (b),recovered:=false }] k)
def uI (C:gl) (c:Option Addr) (base n:Int) (h:Heap) (K:VK) (Kp:PK):Prop :=
ptr c fun b=>
ldP h (b.add 0) fun d=>
C nt #[.pointer d,.int .i64 base,.agg #[.int .i64 n,.bool false]] h (fun e f=>
∃ (a:Int),e = .int .i64 a/\(
C jh #[.int .i64 a] f (fun i g=>
K (.tuple #[]) g) (Kp))) (Kp)
def uJ (C:gl) (c:Option Addr) (au av aw:Int) (ax:Bool) (ay az:Int) (aA:Option Addr) (y z:Nat) (h:Heap) (K:VK) (Kp:PK):Prop :=
gE h [.int .i64 au,.int .i64 av,.int .i64 aw,.bool ax,.int .i64 ay,.int .i64 az,.slice aA y z] fM fun e f=>
∃ i:List Value->Heap->Prop,(
ptr c fun A=>
ldI f ((A.add 1).add 7) .i64 fun B=>
fI (decide (B > (0:Int))) (
ptr c fun D=>
ptr c fun E=>
ldI f (.add ⟨e,0,none⟩ 1) .i64 fun F=>
ldI f (.add ⟨e,0,none⟩ 1) .i64 fun G=>
ldI f ((D.add 1).add 7) .i64 fun k=>
fW (0<=k)<|
fG (l8 .i64 G k) fun H=>
ldI f ((E.add 1).add 7) .i64 fun l=>
fW (0<=l)<|
fG (lT .i64 H l) fun I=>
fG (IntKind.i64.wrap (F-I)) fun J=>
C mo #[.pointer c,.int .i64 1536,.int .i64 J] f (fun aD L=>
i [] L) (Kp))<|
i [] f)/\∀ (d:Heap) (aE:Nat->Value) ,i [] d->(
ptr c fun M=>
ptr c fun N=>
ldP d (M.add 0) fun O=>
ldS d (N.add 10) fun aF s aB=>
ldI d (.add ⟨e,0,none⟩ 2) .i64 fun P=>
C uw #[.int .i64 (s:Int)] d (fun Q m=>
∃ (n:Int),Q = .int .i64 n/\(
gi d m/\(
C sV #[.pointer O,.int .i64 2048,.int .i64 n,.int .i64 P] m (fun R S=>
∃ (o:Int),R = .int .i64 o/\(
C jh #[.int .i64 o] S (fun aG b=>
ptr c fun T=>
ldB b ((T.add 1).add 5) fun U=>
fI (!U) (
K (.tuple #[]) b)<|
ldB b (.add ⟨e,0,none⟩ 3) fun V=>
fI (!V) (
ptr c fun W=>
ldP b (W.add 0) fun X=>
C kJ #[.pointer X,.int .i64 6144,.int .i64 0] b (fun Y Z=>
∃ (p:Int),Y = .int .i64 p/\(
C jh #[.int .i64 p] Z (fun aH aa=>
K (.tuple #[]) aa) (Kp))) (Kp))<|
ptr c fun ab=>
ldP b (ab.add 0) fun ac=>
C kJ #[.pointer ac,.int .i64 6144,.int .i64 1] b (fun ad ae=>
∃ (q:Int),ad = .int .i64 q/\(
C jh #[.int .i64 q] ae (fun aI a=>
ptr c fun af=>
ptr c fun ag=>
ldP a (af.add 0) fun ah=>
ldI a (((⟨e,0,none⟩:Addr).add 4).add 0) .i64 fun ai=>
ldI a (((⟨e,0,none⟩:Addr).add 4).add 1) .i64 fun aj=>
ldS a (((⟨e,0,none⟩:Addr).add 4).add 2) fun ak t u=>
ldS a (ag.add 10) fun al v aC=>
ldI a (.add ⟨e,0,none⟩ 2) .i64 fun g=>
fW (0<=g/\g<(v:Int))<|
ptr al fun j=>
ldI a ((j.add (g.toNat*3)).add 0) .i64 fun am=>
ldI a ((j.add (g.toNat*3)).add 1) .i64 fun an=>
ldS a ((j.add (g.toNat*3)).add 2) fun ao w x=>
C uy #[.pointer ah,.int .i64 6145,.agg #[.int .i64 ai,.int .i64 aj,.slice ak t u],.agg #[.int .i64 am,.int .i64 an,.slice ao w x],.int .i64 0,.int .i64 0] a (fun ap aq=>
∃ (r:Int),ap = .int .i64 r/\(
C jh #[.int .i64 r] aq (fun aJ ar=>
K (.tuple #[]) ar) (Kp))) (Kp)) (Kp))) (Kp)) (Kp))) (Kp)))) (Kp))
def vZ (C:gl) (inv:Option Addr) (h:Heap) (K:VK) (Kp:PK):Prop :=
C rD #[.pointer inv] h (fun c d=>
∃ (a:Int),∃ (b:Int),c = .tuple #[.int .u64 a,.int .i64 b]/\(
C ij #[.bool (b != (0:Int))] d (fun f e=>
K (.int .u64 a) e) (Kp))) (Kp)
def pY (C:gl) (r:Option Addr) (base:Int) (h:Heap) (K:VK) (Kp:PK):Prop :=
gE h [.int .i64 0,.bool false] iz fun d f=>
ptr r fun t=>
ldP f (t.add 0) fun u=>
C Ak #[.pointer u,.int .i64 base] f (fun v w=>
∃ (g:Int) (i:Bool),∃ (e:Int),v = .tuple #[.agg #[.int .i64 g,.bool i],.int .i64 e]/\(
gE w [.int .i64 0,.bool false] iz fun a j=>
stV j (.add ⟨a,0,none⟩ 0) (.int .i64 g) fun k=>
stV k (.add ⟨a,0,none⟩ 1) (.bool i) fun l=>
C ij #[.bool (e == (50:Int))] l (fun x m=>
C jh #[.int .i64 e] m (fun y b=>
ldI b (.add ⟨a,0,none⟩ 0) .i64 fun n=>
ldB b (.add ⟨a,0,none⟩ 1) fun o=>
stV b (.add ⟨d,0,none⟩ 0) (.int .i64 n) fun p=>
stV p (.add ⟨d,0,none⟩ 1) (.bool o) fun c=>
ldI c (.add ⟨d,0,none⟩ 0) .i64 fun q=>
ldB c (.add ⟨d,0,none⟩ 1) fun s=>
K (.agg #[.int .i64 q,.bool s]) c) (Kp)) (Kp))) (Kp)
def tv (C:gl) (r:Option Addr) (strip x:Int) (h:Heap) (K:VK) (Kp:PK):Prop :=
C mj #[.int .i64 x,.int .i64 (-1048576)] h (fun cb cc=>
∃ (bh:Bool),cb = .bool bh/\(
C ij #[.bool (!bh)] cc (fun cx bi=>
ptr r fun cd=>
ldI bi ((cd.add 1).add 7) .i64 fun bj=>
fW (0<=bj)<|
fG (lT .i64 strip bj) fun ce=>
gE bi [.int .i64 0,.int .i64 0,.int .i64 0,.bool false,.int .i64 0,.int .i64 0,.slice none 0 0] fM fun a bk=>
stV bk (.add ⟨a,0,none⟩ 0) (.int .i64 x) fun bl=>
stV bl (.add ⟨a,0,none⟩ 1) (.int .i64 ce) fun bm=>
stV bm (.add ⟨a,0,none⟩ 2) (.int .i64 0) fun bn=>
stV bn (.add ⟨a,0,none⟩ 3) (.bool false) fun bo=>
stV bo (.add ⟨a,0,none⟩ 4) (.int .i64 0) fun bp=>
stV bp (.add ⟨a,0,none⟩ 5) (.int .i64 0) fun bq=>
stV bq (.add ⟨a,0,none⟩ 6) (.slice none 0 0) fun s=>
∃ k:List Value->Heap->Prop,(
ptr r fun br=>
ldI s ((br.add 1).add 7) .i64 fun bs=>
fI (decide (bs > (0:Int))) (
C kh #[.pointer r,.int .i64 1536] s (fun bt bu=>
∃ (J:Int) (L:Bool),bt = .agg #[.int .i64 J,.bool L]/\(
gE bu [.int .i64 0,.bool false] iz fun f bv=>
stV bv (.add ⟨f,0,none⟩ 0) (.int .i64 J) fun bw=>
stV bw (.add ⟨f,0,none⟩ 1) (.bool L) fun i=>
ldB i (.add ⟨f,0,none⟩ 1) fun bx=>
fI bx (
C ij #[.bool true] i (fun cl t=>
ldI t (.add ⟨a,0,none⟩ 1) .i64 fun bz=>
ldI t (.add ⟨f,0,none⟩ 0) .i64 fun bA=>
fG (IntKind.i64.wrap (bz+bA)) fun bB=>
stV t (.add ⟨a,0,none⟩ 1) (.int .i64 bB) fun bC=>
k [] bC) (Kp))<|
ldI i (.add ⟨f,0,none⟩ 0) .i64 fun bD=>
fI (decide (bD<(0:Int))) (
C ij #[.bool true] i (fun cm u=>
ldI u (.add ⟨a,0,none⟩ 1) .i64 fun bE=>
ldI u (.add ⟨f,0,none⟩ 0) .i64 fun bF=>
fG (IntKind.i64.wrap (bE+bF)) fun bG=>
stV u (.add ⟨a,0,none⟩ 1) (.int .i64 bG) fun bH=>
k [] bH) (Kp))<|
ptr r fun bI=>
ldI i (.add ⟨f,0,none⟩ 0) .i64 fun bJ=>
ldI i ((bI.add 1).add 7) .i64 fun M=>
fW (0<=M)<|
fG (lT .i64 (1:Int) M) fun bK=>
C ij #[.bool (decide (bJ≥bK))] i (fun cn v=>
ldI v (.add ⟨a,0,none⟩ 1) .i64 fun bL=>
ldI v (.add ⟨f,0,none⟩ 0) .i64 fun bM=>
fG (IntKind.i64.wrap (bL+bM)) fun bN=>
stV v (.add ⟨a,0,none⟩ 1) (.int .i64 bN) fun bO=>
k [] bO) (Kp))) (Kp))<|
k [] s)/\∀ (w:Heap) (co:Nat->Value) ,k [] w->(
ldI w (.add ⟨a,0,none⟩ 1) .i64 fun bP=>
C mj #[.int .i64 bP,.int .i64 (-1048576)] w (fun bQ bR=>
∃ (N:Bool),bQ = .bool N/\(
C ij #[.bool (!N)] bR (fun cp m=>
ptr r fun bS=>
ptr r fun bT=>
ldP m (bS.add 0) fun bU=>
ldS m (bT.add 10) fun cq ai cf=>
C uw #[.int .i64 (ai:Int)] m (fun bV O=>
∃ (P:Int),bV = .int .i64 P/\(
gi m O/\(
C sW #[.pointer bU,.int .i64 2048,.int .i64 P] O (fun bW bX=>
∃ (Q:Int),∃ (R:Int),bW = .tuple #[.int .i64 Q,.int .i64 R]/\(
stV bX (.add ⟨a,0,none⟩ 2) (.int .i64 Q) fun bY=>
C jh #[.int .i64 R] bY (fun cr y=>
ptr r fun bZ=>
ldI y (.add ⟨a,0,none⟩ 2) .i64 fun b0=>
ldS y (bZ.add 10) fun cs aj cg=>
C ij #[.bool (decide (b0≥(aj:Int)))] y (fun ct n=>
∃ z:List Value->Heap->Prop,(
ptr r fun b1=>
ldB n ((b1.add 1).add 5) fun b2=>
fI b2 (
ptr r fun b3=>
ldP n (b3.add 0) fun b4=>
C kG #[.pointer b4,.int .i64 6144] n (fun b5 b6=>
∃ (S:Int),∃ (T:Int),b5 = .tuple #[.int .i64 S,.int .i64 T]/\(
C jh #[.int .i64 T] b6 (fun cu b7=>
stV b7 (.add ⟨a,0,none⟩ 3) (.bool (S == (1:Int))) fun b8=>
z [] b8) (Kp))) (Kp))<|
z [] n)/\∀ (j:Heap) (cv:Nat->Value) ,z [] j->(
∃ A:List Value->Heap->Prop,(
ptr r fun b9=>
ldS j (b9.add 10) fun ca ak ch=>
ldI j (.add ⟨a,0,none⟩ 2) .i64 fun l=>
fW (0<=l/\l<(ak:Int))<|
ptr ca fun o=>
ldI j ((o.add (l.toNat*3)).add 0) .i64 fun al=>
ldI j ((o.add (l.toNat*3)).add 1) .i64 fun am=>
ldS j ((o.add (l.toNat*3)).add 2) fun an U V=>
gE j [.int .i64 0,.int .i64 0,.slice none 0 0] fK fun b ao=>
stV ao (.add ⟨b,0,none⟩ 0) (.int .i64 al) fun ap=>
stV ap (.add ⟨b,0,none⟩ 1) (.int .i64 am) fun aq=>
stV aq (.add ⟨b,0,none⟩ 2) (.slice an U V) fun g=>
ldB g (.add ⟨a,0,none⟩ 3) fun ar=>
fI ar (
ptr r fun au=>
ldI g (au.add 12) .i64 fun av=>
ldI g (.add ⟨b,0,none⟩ 0) .i64 fun aw=>
ldI g (.add ⟨b,0,none⟩ 1) .i64 fun ax=>
fG (IntKind.i64.wrap (aw*ax)) fun ay=>
fG (IntKind.i64.wrap (av+ay)) fun az=>
ptr r fun aA=>
stV g (aA.add 12) (.int .i64 az) fun B=>
ptr r fun aB=>
ldI B (aB.add 12) .i64 fun aC=>
C oL #[.bool (decide (aC > (1048576:Int)))] B (fun ci d=>
ptr r fun aD=>
ldP d (aD.add 0) fun aE=>
ldI d (.add ⟨b,0,none⟩ 0) .i64 fun aF=>
ldI d (.add ⟨b,0,none⟩ 1) .i64 fun aG=>
ldI d (.add ⟨b,0,none⟩ 0) .i64 fun aH=>
ldI d (.add ⟨b,0,none⟩ 1) .i64 fun aI=>
ldS d (.add ⟨b,0,none⟩ 2) fun aJ W X=>
C uz #[.pointer aE,.int .i64 6145,.int .i64 aF,.int .i64 aG,.agg #[.int .i64 aH,.int .i64 aI,.slice aJ W X],.int .i64 0,.int .i64 0] d (fun aK aL=>
∃ (D E:Int) (F:Option Addr) (p q:Nat),∃ (G:Int),aK = .tuple #[.agg #[.int .i64 D,.int .i64 E,.slice F p q],.int .i64 G]/\(
stV aL (((⟨a,0,none⟩:Addr).add 4).add 0) (.int .i64 D) fun aM=>
stV aM (((⟨a,0,none⟩:Addr).add 4).add 1) (.int .i64 E) fun aN=>
stV aN (((⟨a,0,none⟩:Addr).add 4).add 2) (.slice F p q) fun aO=>
C jh #[.int .i64 G] aO (fun cj e=>
ldI e (((⟨a,0,none⟩:Addr).add 4).add 0) .i64 fun aP=>
ldI e (((⟨a,0,none⟩:Addr).add 4).add 1) .i64 fun aQ=>
ldS e (((⟨a,0,none⟩:Addr).add 4).add 2) fun aR Y Z=>
ldI e (.add ⟨b,0,none⟩ 0) .i64 fun aS=>
ldI e (.add ⟨b,0,none⟩ 1) .i64 fun aT=>
ldS e (.add ⟨b,0,none⟩ 2) fun aU aa ab=>
C rJ #[.agg #[.int .i64 aP,.int .i64 aQ,.slice aR Y Z],.agg #[.int .i64 aS,.int .i64 aT,.slice aU aa ab]] e (fun aV aW=>
∃ (H:Bool),aV = .bool H/\(
C ij #[.bool H] aW (fun ck aX=>
A [] aX) (Kp))) (Kp)) (Kp))) (Kp)) (Kp))<|
A [] g)/\∀ (c:Heap) (cw:Nat->Value) ,A [] c->(
ptr r fun aY=>
ldS c ((aY.add 1).add 8) fun aZ ac ad=>
ldI c (.add ⟨a,0,none⟩ 0) .i64 fun a0=>
ldI c (.add ⟨a,0,none⟩ 1) .i64 fun a1=>
ldI c (.add ⟨a,0,none⟩ 2) .i64 fun a2=>
ldB c (.add ⟨a,0,none⟩ 3) fun a3=>
ldI c (.add ⟨a,0,none⟩ 4) .i64 fun a4=>
ldI c (.add ⟨a,0,none⟩ 5) .i64 fun a5=>
ldS c (.add ⟨a,0,none⟩ 6) fun a6 ae af=>
gE c [.int .i64 a0,.int .i64 a1,.int .i64 a2,.bool a3,.int .i64 a4,.int .i64 a5,.slice a6 ae af] fM fun a7 a8=>
l4 a8 fM 7 72 [.int .i64 0,.int .i64 0,.int .i64 0,.bool false,.int .i64 0,.int .i64 0,.slice none 0 0] aZ (ac) (ad) (some ⟨a7,0,none⟩) (1) fun a9 ag ah ba=>
ptr r fun bb=>
stV ba ((bb.add 1).add 8) (.slice a9 ag ah) fun I=>
ptr r fun bc=>
ldI I (bc.add 11) .i64 fun bd=>
fG (IntKind.i64.wrap (bd-(1:Int))) fun be=>
ptr r fun bf=>
stV I (bf.add 11) (.int .i64 be) fun bg=>
K (.tuple #[]) bg))) (Kp)) (Kp))) (Kp)))) (Kp)) (Kp))) (Kp))) (Kp))) (Kp)
def zj (C:gl) (j k:Int) (l:Option Addr) (d e:Nat) (h:Heap) (K:VK) (Kp:PK):Prop :=
gE h [.int .i64 j,.int .i64 k,.slice l d e] fK fun b a=>
ldI a (.add ⟨b,0,none⟩ 0) .i64 fun m=>
ldI a (.add ⟨b,0,none⟩ 1) .i64 fun n=>
ldS a (.add ⟨b,0,none⟩ 2) fun o f g=>
C lX #[.agg #[.int .i64 m,.int .i64 n,.slice o f g]] a (fun p i=>
∃ (c:Bool),p = .bool c/\(
K (.bool (!c)) i)) (Kp)
def zg (C:gl) (n low:Int) (h:Heap) (K:VK) (Kp:PK):Prop :=
fI (decide (n≥low)) (
K (.bool (decide (n<=(1048576:Int)))) h)<|
K (.bool false) h
def zi (C:gl) (G H I:Int) (J:Bool) (L M:Int) (N:Option Addr) (k l:Nat) (cap0 cap1:Addr) (h:Heap) (K:VK) (Kp:PK):Prop :=
gE h [.int .i64 G,.int .i64 H,.int .i64 I,.bool J,.int .i64 L,.int .i64 M,.slice N k l] fM fun b a=>
ldI a (cap0.add 0) .i64 fun m=>
ldI a (cap0.add 1) .i64 fun n=>
ldI a (cap0.add 2) .i64 fun o=>
ldI a (cap0.add 3) .i64 fun p=>
ldI a (cap0.add 4) .i64 fun q=>
ldB a (cap0.add 5) fun r=>
ldI a (cap0.add 6) .i64 fun s=>
ldI a (cap0.add 7) .i64 fun t=>
ldS a (cap0.add 8) fun u d e=>
ldS a cap1 fun v f g=>
ldI a (.add ⟨b,0,none⟩ 0) .i64 fun w=>
ldI a (.add ⟨b,0,none⟩ 1) .i64 fun x=>
ldI a (.add ⟨b,0,none⟩ 2) .i64 fun y=>
ldB a (.add ⟨b,0,none⟩ 3) fun z=>
ldI a (.add ⟨b,0,none⟩ 4) .i64 fun A=>
ldI a (.add ⟨b,0,none⟩ 5) .i64 fun B=>
ldS a (.add ⟨b,0,none⟩ 6) fun D i j=>
C tV #[.agg #[.int .i64 m,.int .i64 n,.int .i64 o,.int .i64 p,.int .i64 q,.bool r,.int .i64 s,.int .i64 t,.slice u d e],.slice v f g,.agg #[.int .i64 w,.int .i64 x,.int .i64 y,.bool z,.int .i64 A,.int .i64 B,.slice D i j]] a (fun E F=>
∃ (c:Bool),E = .bool c/\(
K (.bool (!c)) F)) (Kp)
def wc (C:gl) (au av aw ax ay:Int) (az:Bool) (aA aB:Int) (aC:Option Addr) (z A:Nat) (symbols:Option Addr) (symbolsn symbolsc:Nat) (B D E:Int) (F:Bool) (G H:Int) (I:Option Addr) (o p:Nat) (h:Heap) (K:VK) (Kp:PK):Prop :=
gE h [.int .i64 au,.int .i64 av,.int .i64 aw,.int .i64 ax,.int .i64 ay,.bool az,.int .i64 aA,.int .i64 aB,.slice aC z A] fR fun J L=>
gE L [.int .i64 B,.int .i64 D,.int .i64 E,.bool F,.int .i64 G,.int .i64 H,.slice I o p] fM fun a e=>
ldI e (.add ⟨a,0,none⟩ 2) .i64 fun M=>
fI (decide (M<(0:Int))) (
K (.bool false) e)<|
ldI e (.add ⟨a,0,none⟩ 2) .i64 fun N=>
fI (decide (N≥(symbolsn:Int))) (
K (.bool false) e)<|
ldI e (.add ⟨a,0,none⟩ 0) .i64 fun O=>
C mj #[.int .i64 O,.int .i64 (-1048576)] e (fun P i=>
∃ (k:Bool),P = .bool k/\(
fI (!k) (
K (.bool false) i)<|
ldI i (.add ⟨a,0,none⟩ 1) .i64 fun Q=>
C mj #[.int .i64 Q,.int .i64 (-1048576)] i (fun R c=>
∃ (l:Bool),R = .bool l/\(
fI (!l) (
K (.bool false) c)<|
ldB c (.add ⟨a,0,none⟩ 3) fun S=>
fI (!S) (
ldI c (((⟨a,0,none⟩:Addr).add 4).add 0) .i64 fun T=>
fI (T == (0:Int)) (
ldI c (((⟨a,0,none⟩:Addr).add 4).add 1) .i64 fun U=>
fI (U == (0:Int)) (
ldS c (((⟨a,0,none⟩:Addr).add 4).add 2) fun aE q aD=>
K (.bool ((q:Int) == (0:Int))) c)<|
K (.bool false) c)<|
K (.bool false) c)<|
ldI c (.add ⟨a,0,none⟩ 2) .i64 fun g=>
fW (0<=g/\g<(symbolsn:Int))<|
ptr symbols fun j=>
ldI c ((j.add (g.toNat*3)).add 0) .i64 fun V=>
ldI c ((j.add (g.toNat*3)).add 1) .i64 fun W=>
ldS c ((j.add (g.toNat*3)).add 2) fun X r s=>
gE c [.int .i64 0,.int .i64 0,.slice none 0 0] fK fun d Y=>
stV Y (.add ⟨d,0,none⟩ 0) (.int .i64 V) fun Z=>
stV Z (.add ⟨d,0,none⟩ 1) (.int .i64 W) fun aa=>
stV aa (.add ⟨d,0,none⟩ 2) (.slice X r s) fun f=>
ldB f (.add ⟨J,0,none⟩ 5) fun ab=>
fI ab (
ldI f (((⟨a,0,none⟩:Addr).add 4).add 0) .i64 fun ac=>
ldI f (((⟨a,0,none⟩:Addr).add 4).add 1) .i64 fun ad=>
ldS f (((⟨a,0,none⟩:Addr).add 4).add 2) fun ae t u=>
C lX #[.agg #[.int .i64 ac,.int .i64 ad,.slice ae t u]] f (fun af b=>
∃ (m:Bool),af = .bool m/\(
fI m (
ldI b (((⟨a,0,none⟩:Addr).add 4).add 0) .i64 fun ag=>
ldI b (.add ⟨d,0,none⟩ 0) .i64 fun ah=>
fI (ag == ah) (
ldI b (((⟨a,0,none⟩:Addr).add 4).add 1) .i64 fun ai=>
ldI b (.add ⟨d,0,none⟩ 1) .i64 fun aj=>
fI (ai == aj) (
ldI b (((⟨a,0,none⟩:Addr).add 4).add 0) .i64 fun ak=>
ldI b (((⟨a,0,none⟩:Addr).add 4).add 1) .i64 fun al=>
ldS b (((⟨a,0,none⟩:Addr).add 4).add 2) fun am v w=>
ldI b (.add ⟨d,0,none⟩ 0) .i64 fun an=>
ldI b (.add ⟨d,0,none⟩ 1) .i64 fun ao=>
ldS b (.add ⟨d,0,none⟩ 2) fun ap x y=>
C rJ #[.agg #[.int .i64 ak,.int .i64 al,.slice am v w],.agg #[.int .i64 an,.int .i64 ao,.slice ap x y]] b (fun aq ar=>
∃ (n:Bool),aq = .bool n/\(
K (.bool (!n)) ar)) (Kp))<|
K (.bool false) b)<|
K (.bool false) b)<|
K (.bool false) b)) (Kp))<|
K (.bool false) f)) (Kp))) (Kp)
def Bv (C:gl) (symbols:Int) (h:Heap) (K:VK) (Kp:PK):Prop :=
∃ c:Nat->List Value->Heap->Prop,(∃ b,c b [.int .i64 0] h)/\∀ (b:Nat) (d:Heap) (i:Nat->Value) (a:Int),c b [.int .i64 a] d->(
fW (0<=a)<|
fG (lT .i64 (1:Int) a) fun f=>
fI (decide (f<symbols)) (
fG (IntKind.i64.wrap (a+(1:Int))) fun g=>
∃ e,e<b/\c e [.int .i64 g] d)<|
K (.int .i64 a) d)
theorem DS {c d e f g:Int} {j:Bool} {k l:Int} {m:Option Addr} {a b:Nat} {symbols:Option Addr} {symbolsn symbolsc:Nat} {h:Heap} {K:VK} {Kp:PK} (H:zm QP c d e f g j k l m a b symbols symbolsn symbolsc h K Kp):QP s3 #[.agg #[.int .i64 c,.int .i64 d,.int .i64 e,.int .i64 f,.int .i64 g,.bool j,.int .i64 k,.int .i64 l,.slice m a b],.slice symbols symbolsn symbolsc] h K Kp :=
 fJ (Hints.mk (fun i=>none) (fun i=>none) (fun i=>none) []) (by kernel_rfl) Go.Proofs.Tryz.func15 (by kernel_rfl) (fun C=>zm C c d e f g j k l m a b symbols symbolsn symbolsc h K Kp) (fun C=>by kernel_rfl) H
theorem Gk {c d e f g:Int} {j:Bool} {k l:Int} {m:Option Addr} {a b:Nat} {symbols:Option Addr} {symbolsn symbolsc:Nat} {h:Heap} {K:VK} {Kp:PK} (H:Df QP c d e f g j k l m a b symbols symbolsn symbolsc h K Kp):QP tp #[.agg #[.int .i64 c,.int .i64 d,.int .i64 e,.int .i64 f,.int .i64 g,.bool j,.int .i64 k,.int .i64 l,.slice m a b],.slice symbols symbolsn symbolsc] h K Kp :=
 fJ (Hints.mk (fun i=>none) (fun i=>bif Nat.beq i 9 then some ([(44,.int .i64)],2417851639211666163383328) else (none)) (fun i=>bif Nat.beq i 14 then some ([],287104476244869120) else (none)) []) (by kernel_rfl) Go.Proofs.Tryz.func17 (by kernel_rfl) (fun C=>Df C c d e f g j k l m a b symbols symbolsn symbolsc h K Kp) (fun C=>by kernel_rfl) H
theorem DR {c d e f g:Int} {j:Bool} {k l:Int} {m:Option Addr} {a b:Nat} {h:Heap} {K:VK} {Kp:PK} (H:zl QP c d e f g j k l m a b h K Kp):QP ml #[.agg #[.int .i64 c,.int .i64 d,.int .i64 e,.int .i64 f,.int .i64 g,.bool j,.int .i64 k,.int .i64 l,.slice m a b]] h K Kp :=
 fJ (Hints.mk (fun i=>none) (fun i=>bif Nat.beq i 6 then some ([(19,.int .i64)],34359214112) else (none)) (fun i=>bif Nat.beq i 4 then some ([],16128) else (none)) []) (by kernel_rfl) Go.Proofs.Tryz.func19 (by kernel_rfl) (fun C=>zl C c d e f g j k l m a b h K Kp) (fun C=>by kernel_rfl) H
theorem DT {f:Option Addr} {fn fc:Nat} {symbols:Option Addr} {symbolsn symbolsc:Nat} {h:Heap} {K:VK} {Kp:PK} (H:zn QP f fn fc symbols symbolsn symbolsc h K Kp):QP wQ #[.slice f fn fc,.slice symbols symbolsn symbolsc] h K Kp :=
 fJ (Hints.mk (fun i=>bif Nat.beq i 5 then some ([9],.take 0 <| .take 1 <| .take 2 <| .take 3 <| .take 4 <| .go 5 <| .take 6 <| .take 7 <| .take 8 <| .bar 9 [] <| .done) else (none)) (fun i=>none) (fun i=>none) []) (by kernel_rfl) Go.Proofs.Tryz.func30 (by kernel_rfl) (fun C=>zn C f fn fc symbols symbolsn symbolsc h K Kp) (fun C=>by kernel_rfl) H
theorem CQ {c d e f g:Int} {j:Bool} {k l:Int} {m:Option Addr} {a b:Nat} {symbols:Option Addr} {symbolsn symbolsc:Nat} {h:Heap} {K:VK} {Kp:PK} (H:xJ QP c d e f g j k l m a b symbols symbolsn symbolsc h K Kp):QP rq #[.agg #[.int .i64 c,.int .i64 d,.int .i64 e,.int .i64 f,.int .i64 g,.bool j,.int .i64 k,.int .i64 l,.slice m a b],.slice symbols symbolsn symbolsc] h K Kp :=
 fJ (Hints.mk (fun i=>none) (fun i=>bif Nat.beq i 5 then some ([(5,.int .i64),(15,.int .i64)],1073709216) else (none)) (fun i=>none) []) (by kernel_rfl) Go.Proofs.Tryz.func43 (by kernel_rfl) (fun C=>xJ C c d e f g j k l m a b symbols symbolsn symbolsc h K Kp) (fun C=>by kernel_rfl) H
noncomputable def vK:Hints:=Hints.mk (fun i=>none)
 (fun i=>none)
 (fun i=>none) []
theorem F3 (C:gl) (D:wS) (run:Value) (h:Heap) (K:VK) (Kp:PK) :
  Pc Go.Proofs.Tryz.prog C D vK Go.Proofs.Tryz.f44 [run] h K Kp=zk C D run h K Kp:=by kernel_rfl
theorem DQ {run:Value} {h:Heap} {K:VK} {Kp:PK} (H:zk QP (kQ Go.Proofs.Tryz.prog) run h K Kp):QP sZ #[run] h K Kp :=
 zH vK (by kernel_rfl) Go.Proofs.Tryz.func44 (by kernel_rfl) (by rw [F3]; exact H)
theorem AR {cap0 cap1 cap2:Addr} {h:Heap} {K:VK} {Kp:PK} (H:uM QP cap0 cap1 cap2 h K Kp):QP xC #[.pointer (some cap0),.pointer (some cap1),.pointer (some cap2)] h K Kp :=
 fJ (Hints.mk (fun i=>none) (fun i=>none) (fun i=>none) []) (by kernel_rfl) Go.Proofs.Tryz.func45 (by kernel_rfl) (fun C=>uM C cap0 cap1 cap2 h K Kp) (fun C=>by kernel_rfl) H
theorem Gi {err:Int} {h:Heap} {K:VK} {Kp:PK} (H:Dd QP err h K Kp):QP jh #[.int .i64 err] h K Kp :=
 fJ (Hints.mk (fun i=>none) (fun i=>none) (fun i=>none) []) (by kernel_rfl) Go.Proofs.Tryz.func47 (by kernel_rfl) (fun C=>Dd C err h K Kp) (fun C=>by kernel_rfl) H
theorem AP {c:Option Addr} {h:Heap} {K:VK} {Kp:PK} (H:uK QP c h K Kp):QP sG #[.pointer c] h K Kp :=
 fJ (Hints.mk (fun i=>bif Nat.beq i 4 then some ([],.take 0 <| .take 1 <| .take 2 <| .take 3 <| .take 5 <| .take 6 <| .take 7 <| .take 8 <| .take 4 <| .take 9 <| .take 10 <| .take 11 <| .done) else (bif Nat.beq i 7 then some ([],.take 0 <| .take 1 <| .take 2 <| .take 3 <| .take 4 <| .take 6 <| .take 5 <| .take 7 <| .done) else (bif Nat.beq i 10 then some ([],.take 0 <| .take 1 <| .take 2 <| .take 3 <| .take 4 <| .take 5 <| .take 6 <| .take 7 <| .take 8 <| .take 10 <| .take 11 <| .take 12 <| .take 13 <| .take 16 <| .take 9 <| .take 14 <| .take 15 <| .take 17 <| .take 18 <| .done) else (bif Nat.beq i 12 then some ([13],.take 0 <| .take 1 <| .take 2 <| .take 3 <| .take 4 <| .take 6 <| .take 7 <| .take 8 <| .take 9 <| .take 10 <| .take 5 <| .take 11 <| .take 12 <| .bar 13 [] <| .done) else (none))))) (fun i=>bif Nat.beq i 3 then some ([(3,.int .i64),(4,.int .i64),(5,.int .i64)],39614081257132168796771971192) else (bif Nat.beq i 8 then some ([(5,.int .i64)],39614081257132028059283619872) else (none))) (fun i=>none) []) (by kernel_rfl) Go.Proofs.Tryz.func48 (by kernel_rfl) (fun C=>uK C c h K Kp) (fun C=>by kernel_rfl) H
theorem Gj {c d e f g:Int} {j:Bool} {k l:Int} {m:Option Addr} {a b:Nat} {h:Heap} {K:VK} {Kp:PK} (H:De QP c d e f g j k l m a b h K Kp):QP Al #[.agg #[.int .i64 c,.int .i64 d,.int .i64 e,.int .i64 f,.int .i64 g,.bool j,.int .i64 k,.int .i64 l,.slice m a b]] h K Kp :=
 fJ (Hints.mk (fun i=>none) (fun i=>bif Nat.beq i 4 then some ([(24,.int .i64)],17163092032) else (none)) (fun i=>bif Nat.beq i 11 then some ([(7,.int .i64)],263882790666368) else (none)) []) (by kernel_rfl) Go.Proofs.Tryz.func50 (by kernel_rfl) (fun C=>De C c d e f g j k l m a b h K Kp) (fun C=>by kernel_rfl) H
theorem AQ {l m n:Int} {o:Bool} {p q:Int} {r:Option Addr} {c d:Nat} {s t e:Int} {f:Bool} {g j:Int} {k:Option Addr} {a b:Nat} {cap0:Addr} {h:Heap} {K:VK} {Kp:PK} (H:uL QP l m n o p q r c d s t e f g j k a b cap0 h K Kp):QP oZ #[.agg #[.int .i64 l,.int .i64 m,.int .i64 n,.bool o,.int .i64 p,.int .i64 q,.slice r c d],.agg #[.int .i64 s,.int .i64 t,.int .i64 e,.bool f,.int .i64 g,.int .i64 j,.slice k a b],.pointer (some cap0)] h K Kp :=
 fJ (Hints.mk (fun i=>bif Nat.beq i 1 then some ([18,19,20],.take 0 <| .take 4 <| .take 9 <| .take 11 <| .take 14 <| .take 16 <| .take 1 <| .take 2 <| .take 3 <| .take 5 <| .take 6 <| .take 7 <| .take 10 <| .take 12 <| .take 15 <| .take 17 <| .go 8 <| .go 13 <| .bar 18 [19,20] <| .bar 19 [20] <| .bar 20 [] <| .take 21 <| .done) else (none)) (fun i=>none) (fun i=>none) []) (by kernel_rfl) Go.Proofs.Tryz.func67 (by kernel_rfl) (fun C=>uL C l m n o p q r c d s t e f g j k a b cap0 h K Kp) (fun C=>by kernel_rfl) H
theorem AS {cap0 cap1 cap2:Addr} {h:Heap} {K:VK} {Kp:PK} (H:uN QP cap0 cap1 cap2 h K Kp):QP xD #[.pointer (some cap0),.pointer (some cap1),.pointer (some cap2)] h K Kp :=
 fJ (Hints.mk (fun i=>bif Nat.beq i 3 then some ([11,14],.keep <| .take 2 <| .take 0 <| .take 1 <| .take 3 <| .take 4 <| .go 5 <| .take 6 <| .take 7 <| .take 8 <| .take 9 <| .take 10 <| .bar 11 [14] <| .take 12 <| .take 13 <| .bar 14 [] <| .done) else (bif Nat.beq i 5 then some ([15],.keep <| .take 4 <| .take 0 <| .take 1 <| .take 2 <| .take 3 <| .go 5 <| .take 6 <| .take 7 <| .take 8 <| .go 9 <| .take 10 <| .take 11 <| .take 12 <| .take 13 <| .take 14 <| .bar 15 [] <| .take 16 <| .done) else (none))) (fun i=>none) (fun i=>none) []) (by kernel_rfl) Go.Proofs.Tryz.func72 (by kernel_rfl) (fun C=>uN C cap0 cap1 cap2 h K Kp) (fun C=>by kernel_rfl) H
theorem EE {bad:Bool} {h:Heap} {K:VK} {Kp:PK} (H:Bu QP bad h K Kp):QP ij #[.bool bad] h K Kp :=
 fJ (Hints.mk (fun i=>none) (fun i=>none) (fun i=>none) []) (by kernel_rfl) Go.Proofs.Tryz.func73 (by kernel_rfl) (fun C=>Bu C bad h K Kp) (fun C=>by kernel_rfl) H
theorem xZ {c d:Int} {e:Option Addr} {a b:Nat} {h:Heap} {K:VK} {Kp:PK} (H:qG QP c d e a b h K Kp):QP pt #[.agg #[.int .i64 c,.int .i64 d,.slice e a b]] h K Kp :=
 fJ (Hints.mk (fun i=>none) (fun i=>none) (fun i=>none) []) (by kernel_rfl) Go.Proofs.Tryz.func75 (by kernel_rfl) (fun C=>qG C c d e a b h K Kp) (fun C=>by kernel_rfl) H
theorem GM {bad:Bool} {h:Heap} {K:VK} {Kp:PK} (H:Fg QP bad h K Kp):QP oL #[.bool bad] h K Kp :=
 fJ (Hints.mk (fun i=>none) (fun i=>none) (fun i=>none) []) (by kernel_rfl) Go.Proofs.Tryz.func77 (by kernel_rfl) (fun C=>Fg C bad h K Kp) (fun C=>by kernel_rfl) H
theorem DN {inv:Option Addr} {symbols:Int} {h:Heap} {K:VK} {Kp:PK} (H:zh QP inv symbols h K Kp):QP wO #[.pointer inv,.int .i64 symbols] h K Kp :=
 fJ (Hints.mk (fun i=>none) (fun i=>none) (fun i=>bif Nat.beq i 10 then some ([],70360154243072) else (bif Nat.beq i 12 then some ([],9221120237041090560) else (bif Nat.beq i 14 then some ([],4685472994722226110464) else (none)))) []) (by kernel_rfl) Go.Proofs.Tryz.func79 (by kernel_rfl) (fun C=>zh C inv symbols h K Kp) (fun C=>by kernel_rfl) H
theorem zJ {r:Option Addr} {h:Heap} {K:VK} {Kp:PK} (H:tw QP r h K Kp):QP rp #[.pointer r] h K Kp :=
 fJ (Hints.mk (fun i=>none) (fun i=>bif Nat.beq i 2 then some ([(2,.int .i64),(3,.int .i64),(4,.bool)],9223372036854775804) else (bif Nat.beq i 11 then some ([(6,.int .i64)],9223370937343148224) else (none))) (fun i=>bif Nat.beq i 6 then some ([],67076096) else (none)) []) (by kernel_rfl) Go.Proofs.Tryz.func82 (by kernel_rfl) (fun C=>tw C r h K Kp) (fun C=>by kernel_rfl) H
theorem GL {c d e f g:Int} {j:Bool} {k l:Int} {m:Option Addr} {a b:Nat} {symbols:Option Addr} {symbolsn symbolsc:Nat} {h:Heap} {K:VK} {Kp:PK} (H:Ff QP c d e f g j k l m a b symbols symbolsn symbolsc h K Kp):QP Cg #[.agg #[.int .i64 c,.int .i64 d,.int .i64 e,.int .i64 f,.int .i64 g,.bool j,.int .i64 k,.int .i64 l,.slice m a b],.slice symbols symbolsn symbolsc] h K Kp :=
 fJ (Hints.mk (fun i=>none) (fun i=>none) (fun i=>none) []) (by kernel_rfl) Go.Proofs.Tryz.func90 (by kernel_rfl) (fun C=>Ff C c d e f g j k l m a b symbols symbolsn symbolsc h K Kp) (fun C=>by kernel_rfl) H
noncomputable def te:Hints:=Hints.mk (fun i=>none)
 (fun i=>none)
 (fun i=>none) []
theorem CJ (C:gl) (cap0:Addr) (u:FrameMode) (h:Heap) (Kd:FrameMode->Heap->Prop) (Kdp:FrameMode->PK) :
  QR Go.Proofs.Tryz.prog C te Go.Proofs.Tryz.f91 [.pointer (some cap0)] u h Kd Kdp=qF C cap0 u h Kd Kdp:=by kernel_rfl
theorem ti {cap0:Addr} {u:FrameMode} {h:Heap} {Kd:FrameMode->Heap->Prop} {Kdp:FrameMode->PK} (H:qF (kW Go.Proofs.Tryz.prog) cap0 u h Kd Kdp):kQ Go.Proofs.Tryz.prog lQ #[.pointer (some cap0)] u h Kd Kdp :=
 HK te (by kernel_rfl) Go.Proofs.Tryz.func91 (by kernel_rfl) (by rw [CJ]; exact H)
theorem AN {c:Option Addr} {base n:Int} {h:Heap} {K:VK} {Kp:PK} (H:uI QP c base n h K Kp):QP mo #[.pointer c,.int .i64 base,.int .i64 n] h K Kp :=
 fJ (Hints.mk (fun i=>none) (fun i=>none) (fun i=>none) []) (by kernel_rfl) Go.Proofs.Tryz.func93 (by kernel_rfl) (fun C=>uI C c base n h K Kp) (fun C=>by kernel_rfl) H
theorem AO {c:Option Addr} {d e f:Int} {g:Bool} {j k:Int} {l:Option Addr} {a b:Nat} {h:Heap} {K:VK} {Kp:PK} (H:uJ QP c d e f g j k l a b h K Kp):QP sF #[.pointer c,.agg #[.int .i64 d,.int .i64 e,.int .i64 f,.bool g,.int .i64 j,.int .i64 k,.slice l a b]] h K Kp :=
 fJ (Hints.mk (fun i=>bif Nat.beq i 2 then some ([18],.take 0 <| .take 1 <| .take 3 <| .take 5 <| .take 6 <| .take 7 <| .take 8 <| .take 11 <| .take 12 <| .take 13 <| .take 14 <| .take 2 <| .take 4 <| .take 9 <| .take 10 <| .take 15 <| .take 16 <| .take 17 <| .bar 18 [] <| .done) else (bif Nat.beq i 3 then some ([12,13],.take 0 <| .take 1 <| .take 2 <| .take 4 <| .take 5 <| .take 6 <| .take 10 <| .take 3 <| .take 7 <| .take 8 <| .take 11 <| .go 9 <| .bar 12 [13] <| .bar 13 [] <| .done) else (bif Nat.beq i 8 then some ([14,15],.take 0 <| .take 1 <| .take 2 <| .take 4 <| .take 6 <| .take 7 <| .take 8 <| .take 10 <| .take 3 <| .take 5 <| .take 9 <| .take 11 <| .take 12 <| .take 13 <| .bar 14 [15] <| .bar 15 [] <| .done) else (none)))) (fun i=>none) (fun i=>bif Nat.beq i 3 then some ([],536870896) else (none)) []) (by kernel_rfl) Go.Proofs.Tryz.func94 (by kernel_rfl) (fun C=>uJ C c d e f g j k l a b h K Kp) (fun C=>by kernel_rfl) H
theorem BS {inv:Option Addr} {h:Heap} {K:VK} {Kp:PK} (H:vZ QP inv h K Kp):QP l5 #[.pointer inv] h K Kp :=
 fJ (Hints.mk (fun i=>none) (fun i=>none) (fun i=>none) []) (by kernel_rfl) Go.Proofs.Tryz.func120 (by kernel_rfl) (fun C=>vZ C inv h K Kp) (fun C=>by kernel_rfl) H
theorem xd {r:Option Addr} {base:Int} {h:Heap} {K:VK} {Kp:PK} (H:pY QP r base h K Kp):QP kh #[.pointer r,.int .i64 base] h K Kp :=
 fJ (Hints.mk (fun i=>none) (fun i=>none) (fun i=>none) []) (by kernel_rfl) Go.Proofs.Tryz.func124 (by kernel_rfl) (fun C=>pY C r base h K Kp) (fun C=>by kernel_rfl) H
theorem zI {r:Option Addr} {strip x:Int} {h:Heap} {K:VK} {Kp:PK} (H:tv QP r strip x h K Kp):QP rl #[.pointer r,.int .i64 strip,.int .i64 x] h K Kp :=
 fJ (Hints.mk (fun i=>bif Nat.beq i 4 then some ([18],.take 0 <| .take 1 <| .take 2 <| .take 3 <| .take 4 <| .take 5 <| .take 6 <| .take 7 <| .take 8 <| .take 10 <| .take 11 <| .take 12 <| .take 13 <| .take 9 <| .take 14 <| .take 15 <| .take 16 <| .take 17 <| .bar 18 [] <| .done) else (bif Nat.beq i 8 then some ([10,15],.take 0 <| .take 1 <| .take 2 <| .take 4 <| .take 5 <| .take 6 <| .take 3 <| .take 7 <| .take 8 <| .go 9 <| .bar 10 [15] <| .take 11 <| .take 12 <| .take 13 <| .take 14 <| .bar 15 [] <| .take 16 <| .done) else (bif Nat.beq i 10 then some ([8],.take 0 <| .take 2 <| .take 3 <| .take 4 <| .take 1 <| .take 5 <| .take 6 <| .take 7 <| .bar 8 [] <| .done) else (bif Nat.beq i 15 then some ([9],.take 0 <| .take 1 <| .take 2 <| .take 4 <| .take 3 <| .take 5 <| .take 6 <| .take 7 <| .go 8 <| .bar 9 [] <| .done) else (bif Nat.beq i 17 then some ([12],.take 0 <| .take 1 <| .take 2 <| .take 4 <| .take 6 <| .take 3 <| .take 5 <| .take 7 <| .take 8 <| .take 9 <| .take 10 <| .take 11 <| .bar 12 [] <| .done) else (bif Nat.beq i 19 then some ([9,14],.take 0 <| .take 1 <| .take 2 <| .take 4 <| .take 6 <| .take 3 <| .take 5 <| .take 7 <| .take 8 <| .bar 9 [14] <| .take 10 <| .take 11 <| .take 12 <| .take 13 <| .bar 14 [] <| .take 15 <| .done) else (bif Nat.beq i 22 then some ([8,12],.take 0 <| .take 1 <| .take 2 <| .take 3 <| .take 4 <| .take 5 <| .take 6 <| .go 7 <| .bar 8 [12] <| .take 9 <| .take 10 <| .take 11 <| .bar 12 [] <| .done) else (none)))))))) (fun i=>none) (fun i=>bif Nat.beq i 6 then some ([],288230376118157440) else (bif Nat.beq i 15 then some ([],162258657859193720701440560727552) else (bif Nat.beq i 22 then some ([],91343852333181270128453472831404297150485498112) else (none)))) []) (by kernel_rfl) Go.Proofs.Tryz.func125 (by kernel_rfl) (fun C=>tv C r strip x h K Kp) (fun C=>by kernel_rfl) H
theorem DP {c d:Int} {e:Option Addr} {a b:Nat} {h:Heap} {K:VK} {Kp:PK} (H:zj QP c d e a b h K Kp):QP wP #[.agg #[.int .i64 c,.int .i64 d,.slice e a b]] h K Kp :=
 fJ (Hints.mk (fun i=>none) (fun i=>none) (fun i=>none) []) (by kernel_rfl) Go.Proofs.Tryz.func135 (by kernel_rfl) (fun C=>zj C c d e a b h K Kp) (fun C=>by kernel_rfl) H
theorem DM {n low:Int} {h:Heap} {K:VK} {Kp:PK} (H:zg QP n low h K Kp):QP mj #[.int .i64 n,.int .i64 low] h K Kp :=
 fJ (Hints.mk (fun i=>none) (fun i=>none) (fun i=>none) []) (by kernel_rfl) Go.Proofs.Tryz.func136 (by kernel_rfl) (fun C=>zg C n low h K Kp) (fun C=>by kernel_rfl) H
theorem DO {c d e:Int} {f:Bool} {g j:Int} {k:Option Addr} {a b:Nat} {cap0 cap1:Addr} {h:Heap} {K:VK} {Kp:PK} (H:zi QP c d e f g j k a b cap0 cap1 h K Kp):QP pJ #[.agg #[.int .i64 c,.int .i64 d,.int .i64 e,.bool f,.int .i64 g,.int .i64 j,.slice k a b],.pointer (some cap0),.pointer (some cap1)] h K Kp :=
 fJ (Hints.mk (fun i=>none) (fun i=>none) (fun i=>none) []) (by kernel_rfl) Go.Proofs.Tryz.func138 (by kernel_rfl) (fun C=>zi C c d e f g j k a b cap0 cap1 h K Kp) (fun C=>by kernel_rfl) H
theorem BU {n o p q r:Int} {s:Bool} {t u:Int} {v:Option Addr} {c d:Nat} {symbols:Option Addr} {symbolsn symbolsc:Nat} {e f g:Int} {j:Bool} {k l:Int} {m:Option Addr} {a b:Nat} {h:Heap} {K:VK} {Kp:PK} (H:wc QP n o p q r s t u v c d symbols symbolsn symbolsc e f g j k l m a b h K Kp):QP tV #[.agg #[.int .i64 n,.int .i64 o,.int .i64 p,.int .i64 q,.int .i64 r,.bool s,.int .i64 t,.int .i64 u,.slice v c d],.slice symbols symbolsn symbolsc,.agg #[.int .i64 e,.int .i64 f,.int .i64 g,.bool j,.int .i64 k,.int .i64 l,.slice m a b]] h K Kp :=
 fJ (Hints.mk (fun i=>none) (fun i=>none) (fun i=>none) []) (by kernel_rfl) Go.Proofs.Tryz.func139 (by kernel_rfl) (fun C=>wc C n o p q r s t u v c d symbols symbolsn symbolsc e f g j k l m a b h K Kp) (fun C=>by kernel_rfl) H
theorem EF {symbols:Int} {h:Heap} {K:VK} {Kp:PK} (H:Bv QP symbols h K Kp):QP uw #[.int .i64 symbols] h K Kp :=
 fJ (Hints.mk (fun i=>none) (fun i=>bif Nat.beq i 2 then some ([(3,.int .i64)],1016) else (none)) (fun i=>none) []) (by kernel_rfl) Go.Proofs.Tryz.func142 (by kernel_rfl) (fun C=>Bv C symbols h K Kp) (fun C=>by kernel_rfl) H
end Go.Den.YtbknfejmdekhpaaGreat
namespace Go.Bm
open Go Go.Den Go.Den.YtbknfejmdekhpaaGreat
def flo (y:Int) (st:Nat):Int:=y.fdiv (2 ^ st)
def Dw (st:Nat) (t:Ins):Key:=⟨flo t.y st,t.x,t.y⟩
abbrev ui (st:Nat) (o:OwI):Key:=Dw st o.i
theorem Aw {y:Int} {st:Nat} (h:st<=64):l8 .i64 y (st:Nat)=flo y st:=by
 unfold l8 flo
 rw [fD,Nat.min_eq_left (by exact h)]
section
variable {hB:Heap} {K:VK} {Kp:PK}
theorem JP {x:Int} (hk:K (.bool false) hB):CP pU #[.int .i64 x] hB K Kp:=by
 refine B0 ?_
 unfold wy
 rw [show (x != x)=false by simp]
 exact hk
def PV (x y r:Int):Prop:=(r<0↔x<y)/\(r=0↔x=y)
theorem BP {x y:Int} (hk:∀ r,PV x y r->K (.int .i64 r) hB):CP mQ #[.int .i64 x,.int .i64 y] hB K Kp:=by
 refine zK ?_
 unfold tB
 refine JP ⟨_,rfl,JP ⟨_,rfl,fZ rfl (fZ rfl ?_)⟩⟩
 refine fL (fun h1=>hk _ ⟨by omega,by omega⟩) fun h1=>?_
 exact fL (fun h2=>hk _ ⟨by omega,by omega⟩) fun h2=>hk _ ⟨by omega,by omega⟩
theorem SH {b:Nat} {r1 r2 r3:Int} (c0:ic hB ⟨b,0,none⟩=some (.int .i64 r1)) (c1:ic hB ⟨b,1,none⟩=some (.int .i64 r2)) (c2:ic hB ⟨b,2,none⟩=some (.int .i64 r3))
  (hk:K (.int .i64 (if r1≠0 then r1 else if r2≠0 then r2 else r3)) hB):CP yz #[.slice (some ⟨b,0,none⟩) 3 3] hB K Kp:=by
 refine EJ ?_
 unfold BQ
 refine ⟨fun m vs h'=>∃ i:Nat,i+m=3/\h'=hB/\vs=[.int .i64 (i:Nat)]/\(0<i->r1=0)/\(1<i->r2=0)/\(2<i->r3=0),⟨3,0,rfl,rfl,rfl,by omega,by omega,by omega⟩,?_⟩
 rintro m h u xi ⟨i,hm,rfl,hxx,g1,g2,g3⟩
 injection hxx with hx1 hxx
 injection hx1 with _ hx1
 subst xi
 refine fL (fun h1=>?_) fun h1=>?_
 ·refine fH (by omega) (gv (a:=⟨b,0,none⟩) ?_)
  have step:∀ r:Int,ic h ⟨b,i,none⟩=some (.int .i64 r)->(r≠0->(if r1≠0 then r1 else if r2≠0 then r2 else r3)=r)->(r=0->(0<i+1->r1=0)/\(1<i+1->r2=0)/\(2<i+1->r3=0))->ldI h ((⟨b,0,none⟩:Addr).add (((i:Nat):Int).toNat*1)) .i64 fun x_8=>fI (x_8 != (0:Int)) (K (.int .i64 x_8) h)<|fG (IntKind.i64.wrap ((i:Nat)+(1:Int))) fun z_9=>∃ m_2,m_2<m/\∃ i:Nat,i+m_2=3/\h=h/\[Value.int .i64 z_9]=[.int .i64 (i:Nat)]/\(0<i->r1=0)/\(1<i->r2=0)/\(2<i->r3=0):=fun r hc e1 e2=>by
   rw [fD,gu,gC,fN]
   refine fz hc (jg (fun h2=>?_) fun h2=>?_)
   ·rw [<- e1 h2]; exact hk
   ·refine fw ((i+1:Nat):Int) (by exact fO _ _ (by omega) (by omega) (by omega)) ?_
    exact ⟨m-1,by omega,i+1,by omega,rfl,rfl,e2 h2⟩
  rcases (by omega:i=0\/i=1\/i=2) with rfl | rfl | rfl
  ·exact step r1 c0 (fun h=>by rw [if_pos h]) fun h=>⟨fun _=>h,by omega,by omega⟩
  ·exact step r2 c1 (fun h=>by rw [if_neg (by simp [g1 (by omega)]),if_pos h]) fun h=>⟨fun _=>g1 (by omega),fun _=>h,by omega⟩
  ·exact step r3 c2 (fun h=>by rw [if_neg (by simp [g1 (by omega)]),if_neg (by simp [g2 (by omega)])]) fun h=>⟨fun _=>g1 (by omega),fun _=>g2 (by omega),fun _=>h⟩
 ·have e:i=3:=by omega
  rw [if_neg (by simp [g1 (by omega)]),if_neg (by simp [g2 (by omega)]),g3 (by omega)] at hk
  exact hk
theorem QD {a b:Key} {r1 r2 r3:Int} (h1:PV a.s b.s r1) (h2:PV a.x b.x r2) (h3:PV a.y b.y r3):(if r1≠0 then r1 else if r2≠0 then r2 else r3)<0↔a.lt b:=by
 unfold PV at *
 unfold Key.lt
 split
 ·omega
 ·split <;> omega
end
section
variable {h0:Heap} {F:List Nat} {B:List Ent} {b:Nat} {rest:List Value} {Kp:PK}
theorem Sf {cap0:Addr} {st:Nat} (hst:st<=3) (hcap:∀ h O,Hp h0 F h (lk b O rest::B)->ic h cap0=some (.int .i64 (st:Nat))) :
  Kw h0 F B b rest (ui st) (.func (.func oZ) #[] #[.pointer (some cap0)]) Kp:=by
 intro h O H o o' K hk
 have hc:=hcap h O H
 show CP oZ #[o.ag,o'.ag,.pointer (some cap0)] h K Kp
 refine AQ ?_
 unfold uL
 clear H
 have H:=Hp.nil h []
 refine fV H fun r1 h H=>?_
 refine fV H fun r2 h H=>?_
 have H:Hp _ [] h [⟨r1,true,fM,o.cs⟩,⟨r2,true,fM,o'.cs⟩]:=H
 have hc':=H.gi.cell hc
 refine fz (hpA H 0 rfl rfl) (fz hc' (fH (by omega) ?_))
 refine fw _ (Aw (by omega)) ?_
 refine fz (hpA H 1 rfl rfl) (fz hc' (fH (by omega) ?_))
 refine fw _ (Aw (by omega)) ?_
 refine fz (hpA H 0 rfl rfl) (fz (hpA H 1 rfl rfl) (fz (hpA H 0 rfl rfl) (fz (hpA H 1 rfl rfl) ?_)))
 refine BP fun r1 g1=>⟨_,rfl,gi.refl _,?_⟩
 refine BP fun r2 g2=>⟨_,rfl,gi.refl _,?_⟩
 refine BP fun r3 g3=>⟨_,rfl,?_⟩
 refine fV H fun r4 h H=>?_
 have H:Hp _ [] h [⟨_,true,fM,o.cs⟩,⟨_,true,fM,o'.cs⟩,⟨r4,true,gQ,[.int .i64 r1,.int .i64 r2,.int .i64 r3]⟩]:=H
 refine SH (H.cell 2 rfl rfl) (H.cell 2 rfl rfl) (H.cell 2 rfl rfl) ⟨_,rfl,?_⟩
 exact hk _ h (QD (a:=ui st o) (b:=ui st o') g1 g2 g3) H.gi
end
instance (a b:Key):Decidable (Key.lt a b):=by unfold Key.lt; infer_instance
section
variable {α β:Type}
def Ng (key:α->Key) (x:α):List α->List α
 | []=>[x]
 | y::l=>if (key y).lt (key x) then y::Ng key x l else x::y::l
def NZ (key:α->Key):List α->List α
 | []=>[]
 | x::l=>Ng key x (NZ key l)
variable {key:α->Key}
theorem IH (x:α):∀ l,Sw key (x::l) (Ng key x l)
 | [] => .refl _
 | y::l=>by
  unfold Ng
  split
  ·rename_i h
   have h1:=Sw.swap (key:=key) [] l x y (fun hh=>by rw [hh] at h; exact Key.lt_irrefl _ h)
   have h2:=(IH x l).ctx [y] []
   simp only [gd,fT,gm] at h1 h2
   exact .trans h1 h2
  ·exact .refl _
theorem JS (x:α):∀ {l},Srt key l->Srt key (Ng key x l)
 | [],_=>GQ _ _
 | y::l,h=>by
  have h0:=List.pairwise_cons.1 h
  unfold Ng
  split
  ·rename_i h1
   refine List.pairwise_cons.2 ⟨fun z hz=>?_,JS x h0.2⟩
   rcases List.mem_cons.1 (((IH (key:=key) x l).mem z).1 hz) with rfl | hz
   ·exact fun hh=>Key.lt_irrefl _ (Key.lt_trans hh h1)
   ·exact h0.1 z hz
  ·rename_i h1
   refine List.pairwise_cons.2 ⟨fun z hz=>?_,h⟩
   rcases List.mem_cons.1 hz with rfl | hz
   ·exact h1
   ·exact Key.le_trans h1 (h0.1 z hz)
theorem Cs:∀ l:List α,Sw key l (NZ key l)/\Srt key (NZ key l)
 | []=>⟨.refl _,List.Pairwise.nil⟩
 | x::l=>by
  obtain ⟨h1,h2⟩:=Cs l
  have:=h1.ctx [x] []
  simp only [gd,fT,gm] at this
  exact ⟨.trans this (IH x _),JS x h2⟩
theorem Fp {l r:List α} (h1:Sw key l r) (h2:Srt key r):r=NZ key l:=Sw.one h1 (Cs l).1 h2 (Cs l).2
theorem Sw.map {f:β->α} {l r:List β} (h:Sw (fun b=>key (f b)) l r):Sw key (l.map f) (r.map f):=by
 induction h with
 | refl=>exact .refl _
 | swap A B a b h =>
  rw [nS,nS]
  exact .swap _ _ _ _ h
 | trans _ _ h1 h2=>exact .trans h1 h2
theorem Srt.map {f:β->α} {l:List β} (h:Srt (fun b=>key (f b)) l):Srt key (l.map f):=List.pairwise_map.2 h
theorem Sw.perm {l r:List α} (h:Sw key l r):l.Perm r:=by
 induction h with
 | refl=>exact .refl _
 | swap A B a b h=>exact tu A (List.Perm.swap b a B)
 | trans _ _ h1 h2=>exact h1.trans h2
end
def rX (st:Nat) (l:List Ins):List Ins:=NZ (Dw st) l
structure OwI.Vw (h:Heap) (o:OwI):Prop where
 r:rdO h o.q (o.i.b.ws.length*1) (il o.i.b.ws)
 w:W64 o.i.b.ws
 l:o.i.b.ws.length<140737488351300
structure OwI.Ok (o:OwI):Prop where
 s:Slot gj 1 o.D o.q o.i.b.ws.length o.c (il o.i.b.ws)
 w:W64 o.i.b.ws
 l:o.i.b.ws.length<140737488351300
theorem OwI.Vw.ext {h h':Heap} {o:OwI} (H:o.Vw h) (e:gi h h'):o.Vw h':=⟨oa e H.r,H.w,H.l⟩
def rj (h:Heap) (q:Option Addr) (l:List Ins):Prop:=∃ O:List OwI,O.map OwI.i=l/\rdO h q (l.length*7) (csI O)/\∀ o∈O,o.Vw h
theorem rj.ext {h h':Heap} {q:Option Addr} {l:List Ins} (H:rj h q l) (e:gi h h'):rj h' q l:=by
 obtain ⟨O,h1,h2,h3⟩:=H
 exact ⟨O,h1,oa e h2,fun o ho=>(h3 o ho).ext e⟩
def dsI (O:List OwI):List Ent:=O.flatMap OwI.D
theorem SW {O:List OwI} (h:∀ o∈O,o.Ok):(dsI O).all Ent.w=true:=List.all_eq_true.2 fun e he=>by
 obtain ⟨o,ho,he⟩:=List.mem_flatMap.1 he
 exact List.all_eq_true.1 (h o ho).s.w e he
theorem CL {O:List OwI} {o:OwI} (h:o∈O):∀ e∈o.D,e∈dsI O:=fun e he=>List.mem_flatMap.2 ⟨o,h,he⟩
def ma (R:List Ent) (q:Option Addr) (c:Nat) (l:List Ins):Prop:=∃ O E,(∀ o∈O,o.Ok)/\O.map OwI.i=l/\Slot fM 7 E q l.length c (csI O)/\R=dsI O++E
theorem ma.w {R:List Ent} {q:Option Addr} {c:Nat} {l:List Ins} (h:ma R q c l):R.all Ent.w=true:=by
 obtain ⟨O,E,h1,h2,h3,rfl⟩:=h
 rw [pP,SW h1,h3.w]
 rfl
theorem ma.view {h0 h:Heap} {F:List Nat} {L R:List Ent} {q:Option Addr} {c:Nat} {l:List Ins} (hl:ma R q c l) (H:Hp h0 F h L) (hs:∀ e∈R,e∈L):rj h q l:=by
 obtain ⟨O,E,h1,h2,h3,rfl⟩:=hl
 exact ⟨O,h2,Slot.vt h3 H fun e he=>hs e (fX _ he),fun o ho=>⟨Slot.vt (h1 o ho).s H fun e he=>hs e (gV _ (CL ho e he)),(h1 o ho).w,(h1 o ho).l⟩⟩
theorem ma.nil:ma [] none 0 []:=⟨[],[],(fun o ho=>by cases ho),rfl,Slot.nil _ _,rfl⟩
theorem Kf:∀ (O:List OwI) (rest:List Value) (i:Nat) (o:OwI) (q:Option Addr) (c:Nat) (D:List Ent),O[i]? = some o->(csI O++rest).set (i*7+6) (.slice q o.i.b.ws.length c)=csI (O.set i ⟨o.i,q,c,D⟩)++rest
 | [],_,i,o,q,c,D,h=>by cases h
 | o'::O,rest,0,o,q,c,D,h=>by
  injection h with h
  subst h
  rfl
 | o'::O,rest,i+1,o,q,c,D,h=>by
  rw [tj,fC,qP,Kf O rest i o q c D h]
  rfl
section
variable {hB:Heap} {K:VK} {Kp:PK}
theorem Nt {q:Option Addr} {c:Nat} {O:List OwI} (hr:rdO hB q (O.length*7) (csI O)) (hl:O.length<=1000000) (hk:∀ E q' c' h',Slot fM 7 E q' O.length c' (csI O)->Hp hB [] h' E->K (.slice q' O.length c') h') :
  CP j2 #[.slice q O.length c] hB K Kp:=by
 refine nk ?_
 unfold ke
 cases q with
 | none =>
  have h0:csI O=[]:=hr
  have h1:O.length=0:=by
   have:=m5 O
   rw [h0] at this
   simp only [iZ] at this
   omega
  refine gN (by rfl) ?_
  have hk:=hk [] none 0 hB (by rw [h0,h1]; exact Slot.nil _ _) (Hp.nil hB [])
  rw [h1] at hk
  exact hk
 | some a =>
  refine fZ (by rfl) ?_
  have H:=Hp.nil hB []
  refine fV H fun r1 h H=>?_
  have hs0:Slot fM 7 [⟨r1,true,fM,[]++[]⟩] (some ⟨r1,0,none⟩) 0 0 []:=Slot.one rfl rfl
  have H:Hp hB [] h ([]++([⟨r1,true,fM,[]++[]⟩]++[])):=H
  refine Slot.Ls (m:=O.length) (new:=csI O) hs0 H rfl (by decide) (H.rdO hr) (m5 O) (HL O) (by omega) fun D q' c' h' hs H=>?_
  rw [fN,gd] at hs
  rw [fN]
  rw [gd,fT] at H
  exact hk D q' c' h' hs H
theorem KD {q:Option Addr} {c:Nat} {cmp:Value} (hk:K (.tuple #[]) hB):CP iQ #[.slice q 0 c,cmp] hB K Kp:=by
 refine j4 ?_
 unfold iV
 refine lV ?_
 unfold j0
 refine ⟨fun m vs h'=>vs=[.int .i64 0,.int .i64 20]/\h'=hB,⟨0,rfl,rfl⟩,?_⟩
 rintro m h u xa xb ⟨hxx,rfl⟩
 injection hxx with hx1 hxx
 injection hxx with hx2 hxx
 injection hx1 with _ hx1
 injection hx2 with _ hx2
 subst xa xb
 refine fZ rfl ?_
 refine kX ?_
 unfold jn
 refine fw 1 rfl ?_
 refine ⟨fun m vs h'=>vs=[.int .i64 1]/\h'=h,⟨0,rfl,rfl⟩,?_⟩
 rintro m h' u xi ⟨hxx,rfl⟩
 injection hxx with hx1 hxx
 injection hx1 with _ hx1
 subst xi
 refine fZ rfl ?_
 refine ⟨fun m vs h''=>vs=[.int .i64 20]/\h''=h',⟨0,rfl,rfl⟩,?_⟩
 rintro m h u xi ⟨hxx,rfl⟩
 injection hxx with hx1 hxx
 injection hx1 with _ hx1
 subst xi
 exact fZ rfl hk
end
def pZ (s:Int):Nat:=if s<0 then 0 else if s > 3 then 0 else s.toNat
theorem LN (s:Int):pZ s<=3:=by
 unfold pZ
 split
 ·omega
 ·split <;> omega
structure Reg14 where
 x:Int
 y:Int
 w:Int
 h:Int
 op:Int
 rf:Bool
 df:Int
 st:Int
abbrev Reg14.cs (t:Reg14) (q:Option Addr) (n c:Nat):List Value:=[.int .i64 t.x,.int .i64 t.y,.int .i64 t.w,.int .i64 t.h,.int .i64 t.op,.bool t.rf,.int .i64 t.df,.int .i64 t.st,.slice q n c]
abbrev Reg14.ag (t:Reg14) (q:Option Addr) (n c:Nat):Value := .agg #[.int .i64 t.x,.int .i64 t.y,.int .i64 t.w,.int .i64 t.h,.int .i64 t.op,.bool t.rf,.int .i64 t.df,.int .i64 t.st,.slice q n c]
section
variable {hB:Heap} {K:VK} {Kp:PK}
set_option maxHeartbeats 1000000 in
theorem xM {t:Reg14} {q:Option Addr} {c:Nat} {l:List Ins} (hv:rj hB q l) (hl:l.length<=1000000) (hw:∀ t∈l,t.b.ws.length<=1000000000000) (hk:∀ R q' c' h',ma R q' c' (rX (pZ t.st) l)->Hp hB [] h' R->K (.slice q' l.length c') h') :
  CP ml #[t.ag q l.length c] hB K Kp:=by
 refine DR ?_
 unfold zl
 have H:=Hp.nil hB []
 refine fV H fun r10 h H=>?_
 have H:Hp hB [] h [⟨r10,true,fR,t.cs q l.length c⟩]:=H
 refine fz (hpA H 0 rfl rfl) ?_
 refine fV H fun r13 h H=>?_
 have H:Hp hB [] h [⟨r10,true,fR,t.cs q l.length c⟩,⟨r13,true,gQ,[.int .i64 0]⟩]:=H
 repeat first | with_reducible refine stA H 1 (by with_unfolding_all exact rfl) (by with_unfolding_all exact rfl) (by with_unfolding_all exact rfl) fun h H=>?_ | with_reducible refine st0 H 1 (by with_unfolding_all exact rfl) (by with_unfolding_all exact rfl) (by with_unfolding_all exact rfl) fun h H=>?_ | with_reducible refine stB H 1 (by with_unfolding_all exact rfl) (by with_unfolding_all exact rfl) (by with_unfolding_all exact rfl) fun h H=>?_
 have H:Hp hB [] h [⟨r10,true,fR,t.cs q l.length c⟩,⟨r13,true,gQ,[.int .i64 t.st]⟩]:=H
 refine ⟨fun _ h'=>Hp hB [] h' [⟨r10,true,fR,t.cs q l.length c⟩,⟨r13,true,gQ,[.int .i64 (pZ t.st:Nat)]⟩],?_,?_⟩
 ·refine fz (H.cell 1 rfl rfl) (fL (fun h1=>?_) fun h1=>?_)
  ·repeat first | with_reducible refine stA H 1 (by with_unfolding_all exact rfl) (by with_unfolding_all exact rfl) (by with_unfolding_all exact rfl) fun h H=>?_ | with_reducible refine st0 H 1 (by with_unfolding_all exact rfl) (by with_unfolding_all exact rfl) (by with_unfolding_all exact rfl) fun h H=>?_ | with_reducible refine stB H 1 (by with_unfolding_all exact rfl) (by with_unfolding_all exact rfl) (by with_unfolding_all exact rfl) fun h H=>?_
   have e:pZ t.st=0:=if_pos h1
   rw [e]
   exact H
  ·refine fz (H.cell 1 rfl rfl) (fL (fun h2=>?_) fun h2=>?_)
   ·repeat first | with_reducible refine stA H 1 (by with_unfolding_all exact rfl) (by with_unfolding_all exact rfl) (by with_unfolding_all exact rfl) fun h H=>?_ | with_reducible refine st0 H 1 (by with_unfolding_all exact rfl) (by with_unfolding_all exact rfl) (by with_unfolding_all exact rfl) fun h H=>?_ | with_reducible refine stB H 1 (by with_unfolding_all exact rfl) (by with_unfolding_all exact rfl) (by with_unfolding_all exact rfl) fun h H=>?_
    have e:pZ t.st=0:=(if_neg h1).trans (if_pos h2)
    rw [e]
    exact H
   ·have e:pZ t.st=t.st.toNat:=(if_neg h1).trans (if_neg h2)
    have e2:((pZ t.st:Nat):Int)=t.st:=by omega
    rw [e2]
    exact H
 clear H
 intro h u H
 refine fU (hpA H 0 rfl rfl) ?_
 obtain ⟨O,rfl,hr,hvw⟩:=hv
 rw [iu] at hr hl hk H ⊢
 refine Nt (H.rdO hr) hl fun E q' c' h' hsl H'=>?_
 refine ⟨_,_,_,rfl,?_⟩
 replace H:=H.join H' hsl.w
 clear H'
 obtain ⟨hsl1,⟨rfl,rfl,hn0,rfl⟩ | ⟨b,rest,rfl,rfl,hc⟩⟩:=hsl
 ·obtain rfl:=gF hn0
  refine ⟨fun m vs h'=>vs=[.int .i64 0]/\Hp hB [] h' [],⟨0,rfl,Hp.suf (X:=[⟨r10,true,fR,t.cs q 0 c⟩,⟨r13,true,gQ,[.int .i64 (pZ t.st:Nat)]⟩]) H⟩,?_⟩
  rintro m h u xi ⟨hxx,H⟩
  injection hxx with hx1 hxx
  injection hx1 with _ hx1
  subst xi
  refine fZ rfl ?_
  refine KD ?_
  exact hk [] none 0 h ma.nil H
 ·have H:Hp hB [] h' ([⟨r10,true,fR,t.cs q O.length c⟩,⟨r13,true,gQ,[.int .i64 (pZ t.st:Nat)]⟩]++[lk b O rest]):=H
  have H:=Hp.rot (X:=[⟨r10,true,fR,t.cs q O.length c⟩,⟨r13,true,gQ,[.int .i64 (pZ t.st:Nat)]⟩]) (Y:=[lk b O rest]) H
  have H:Hp hB [] h' (lk b O rest::([⟨r10,true,fR,t.cs q O.length c⟩,⟨r13,true,gQ,[.int .i64 (pZ t.st:Nat)]⟩]++dsI (O.take 0))):=H
  obtain ⟨n,hn⟩:∃ n,n=O.length:=⟨_,rfl⟩
  rw [<- hn]
  refine ⟨fun m vs h'=>∃ (i:Nat) (P:List OwI),i+m=n/\P.map OwI.i=O.map OwI.i/\P.length=n/\(∀ o∈P.take i,o.Ok)/\(∀ o∈P.drop i,o.Vw hB)/\vs=[.int .i64 (i:Nat)]/\Hp hB [] h' (lk b P rest::([⟨r10,true,fR,t.cs q O.length c⟩,⟨r13,true,gQ,[.int .i64 (pZ t.st:Nat)]⟩]++dsI (P.take i))),
   ⟨n,0,O,by omega,rfl,hn.symm,(fun o ho=>by rw [nu] at ho; cases ho),hvw,rfl,H⟩,?_⟩
  clear H
  rintro m h u xi ⟨i,P,him,hP,hPl,hok,hvP,hxx,H⟩
  injection hxx with hx1 hxx
  injection hx1 with _ hx1
  subst xi
  refine fL (fun h1=>?_) fun h1=>?_
  ·obtain ⟨o,ho⟩:∃ o,P[i]? = some o:=⟨_,fP (by omega)⟩
   have hov:=hvP o (by
    refine List.mem_iff_getElem?.2 ⟨0,?_⟩
    rw [kS]
    exact ho)
   refine fH (by omega) (gv (a:=⟨b,0,none⟩) ?_)
   rw [fD]
   simp only [gC,fN]
   have ic:ic h ⟨b,i*7+4+2,none⟩=some (.slice o.q o.i.b.ws.length o.c):=H.cell 0 rfl (E2 P rest i 6 o ho (by decide))
   refine fU ic ?_
   have hov':=hov.ext H.gi
   refine Ns (b:=o.i.b) hov'.r hov'.w (hw _ (by rw [<- hP]; exact List.mem_map.2 ⟨o,fS ho,rfl⟩)) fun o1 h' h1ok h1b H'=>?_
   refine ⟨_,_,_,rfl,?_⟩
   replace H:=H.join H' h1ok.s.w
   clear H'
   refine fH (by omega) (gv (a:=⟨b,0,none⟩) ?_)
   simp only [gC,fN]
   have hlen:(csI P++rest).length=P.length*7+rest.length:=by rw [fA,m5]
   refine gq H 0 rfl (by rw [hlen]; omega) rfl fun h _ H=>?_
   refine fw ((i+1:Nat):Int) (by exact fO _ _ (by omega) (by omega) (by omega)) ?_
   have zA:(csI P++rest).set (i*7+6) (.slice o1.q o.i.b.ws.length o1.c)=csI (P.set i ⟨o.i,o1.q,o1.c,o1.D⟩)++rest:=Kf P rest i o o1.q o1.c o1.D ho
   have htk:(P.set i ⟨o.i,o1.q,o1.c,o1.D⟩).take (i+1)=P.take i++[⟨o.i,o1.q,o1.c,o1.D⟩]:=by
    rw [kC (x:=⟨o.i,o1.q,o1.c,o1.D⟩) (by rw [iD (by omega)]),List.take_set_of_le (gg _)]
   have hok1:(⟨o.i,o1.q,o1.c,o1.D⟩:OwI).Ok:=by
    have g1:=h1ok.s
    rw [h1b] at g1
    exact ⟨g1,hov.w,hov.l⟩
   refine ⟨m-1,by omega,i+1,P.set i ⟨o.i,o1.q,o1.c,o1.D⟩,by omega,?_,by rw [gB]; exact hPl,?_,?_,rfl,?_⟩
   ·rw [Ex,<- hP]
    refine pO fun k=>?_
    rcases pN k i with hk | hk | hk
    ·rw [j3 (by omega)]
    ·subst hk
     rw [iD (by rw [iu]; omega),gL,ho]
     rfl
    ·rw [j3 (by omega)]
   ·intro x hx
    rw [htk] at hx
    rcases List.mem_append.1 hx with hx | hx
    ·exact hok x hx
    ·rw [List.mem_singleton.1 hx]; exact hok1
   ·intro x hx
    refine hvP x ?_
    rw [List.drop_set_of_lt (by omega)] at hx
    obtain ⟨k,hk⟩:=List.mem_iff_getElem?.1 hx
    rw [kS] at hk
    refine List.mem_iff_getElem?.2 ⟨k+1,?_⟩
    rw [kS,<- hk]
    congr 1
    omega
   ·rw [htk]
    have e:dsI (P.take i++[⟨o.i,o1.q,o1.c,o1.D⟩])=dsI (P.take i)++o1.D:=by
     unfold dsI
     rw [qC]
     simp
    rw [e,show lk b (P.set i ⟨o.i,o1.q,o1.c,o1.D⟩) rest=⟨b,true,fM,(csI P++rest).set (i*7+6) (.slice o1.q o.i.b.ws.length o1.c)⟩ from congrArg (Ent.mk b true fM) zA.symm]
    exact H
  ·obtain rfl:i=n:=by omega
   rw [gz (by omega)] at hok H
   refine GB (key:=ui (pZ t.st)) (Sf (LN _) fun h O H=>H.cell 2 rfl rfl) hPl.symm (by omega) H fun Z h' hsw hs H=>?_
   have hZ:Z.map OwI.i=rX (pZ t.st) (O.map OwI.i):=by
    rw [<- hP]
    exact Fp (Sw.map (key:=Dw (pZ t.st)) (f:=OwI.i) hsw) (Srt.map (key:=Dw (pZ t.st)) (f:=OwI.i) hs)
   have hZl:=hsw.length
   have hokZ:∀ o∈Z,o.Ok:=fun o ho=>hok o ((hsw.mem o).1 ho)
   have hrl:(csI Z++rest).length=c'*7:=by
    rw [<- hc,fA,fA,m5,m5,hZl,hPl,hn]
   have hsl:Slot fM 7 [lk b Z rest] (some ⟨b,0,none⟩) (rX (pZ t.st) (O.map OwI.i)).length c' (csI Z):=Slot.one (by rw [m5,<- hZ,iu]) hrl
   rw [hn]
   refine hk (dsI Z++[lk b Z rest]) _ _ _ ⟨Z,_,hokZ,hZ,hsl,rfl⟩ ?_
   have H:=Hp.suf (X:=[⟨r10,true,fR,t.cs q O.length c⟩,⟨r13,true,gQ,[.int .i64 (pZ t.st:Nat)]⟩]) (Y:=dsI P++[lk b Z rest]) (H.perm (by
    exact jB (l₁:=[lk b Z rest]) (l₂:=⟨r10,true,fR,t.cs q O.length c⟩::⟨r13,true,gQ,[.int .i64 (pZ t.st:Nat)]⟩::dsI P)))
   exact H.perm (rO _ (List.Perm.flatMap_right _ hsw.perm))
end
end Go.Bm
