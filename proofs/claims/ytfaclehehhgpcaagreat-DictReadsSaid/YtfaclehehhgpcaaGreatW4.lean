/- W4: put together by wip/tools/bundle.py: RfG RfH RfI RfJ RfK BkA BkB BkC BkD RfL BkE RfM Au Mcontext Bcontext Mgeneric Bgeneric Mburinref6 Bburinref6 GnA GnB GnC GnS GnD GnE. -/
import Derived.Test.YtfaclehehhgpcaaGreatW1
import Derived.Test.YtfaclehehhgpcaaGreatW2
import Derived.Test.YtfaclehehhgpcaaGreatW3
import Derived.Test.YtfaclehehhgpcaaGreatProg
set_option linter.unusedVariables false
set_option linter.unusedSimpArgs false
set_option maxRecDepth 100000
namespace Go.Bm
open Go Go.Den Go.Den.YtfaclehehhgpcaaGreat
theorem upd_self (G:Int->Int->Bool) (a b:Int):upd G a b (G a b)=G:=by
 funext x y
 unfold upd
 by_cases h:x=a/\y=b
 ·rw [if_pos h,h.1,h.2]
 ·rw [if_neg h]
end Go.Bm
namespace Go.Bm
open Go Go.Den Go.Den.YtfaclehehhgpcaaGreat
section
variable {hB:Heap} {w b w2 b2:Int} {q1 q2:Option Addr} {c1 c2:Nat} {ws ws2:List Nat} {dx dy:Int} {K:VK} {Kp:PK}
end
end Go.Bm
namespace Go.Bm
open Go Go.Den Go.Den.YtfaclehehhgpcaaGreat
open Go.Ar (Dec decL idx BOk)
def stepG (m:Nat) (base:Int) (s:Dec) (n:Nat) (_:Bool):(Bool × Dec) ⊕ (Int × Dec) := .inl (decide ((Go.Ar.getD s (idx (base+(n:Int)) m)).2=1),(Go.Ar.getD s (idx (base+(n:Int)) m)).1)
def SG (p q rc rb:Nat) (base:Int) (e:Ent) (bp:Option Addr) (bc:Nat) (s:Dec) (M:List Ent):Prop:=BOk e bp s.b/\M=decL p q e bp bc s++[⟨rc,true,T_p_arith_Decoder,[.pointer (at0 p)]⟩,⟨rb,true,T_int,[.int .i64 base]⟩]
theorem SG.w {p q rc rb:Nat} {base:Int} {e:Ent} {bp:Option Addr} {bc:Nat} {s:Dec} {M:List Ent} (h:SG p q rc rb base e bp bc s M):M.all Ent.w=true:=by
 obtain ⟨h1,rfl⟩:=h
 simp [decL,Go.Ar.decE,h1.1]
end Go.Bm
namespace Go.Bm
open Go Go.Den Go.Den.YtfaclehehhgpcaaGreat
theorem getP_zero (n W X:Nat):getP (List.replicate n 0) W X=fun _ _=>false:=by
 funext x y
 unfold getP
 rw [pix_zero,Bool.and_false]
end Go.Bm
namespace Go.Bm
open Go Go.Den Go.Den.YtfaclehehhgpcaaGreat
end Go.Bm
namespace Go.Ar
def valR:List Nat->Nat
 | []=>0
 | x::r=>valR r*(if r.head? = some 255 then 128 else 256)+x
def valL (l:List Nat):Nat:=valR l.reverse
theorem valL_snoc (l:List Nat) (x:Nat):valL (l++[x])=valL l*(if l.getLast? = some 255 then 128 else 256)+x:=by
 unfold valL
 rw [List.reverse_append,List.reverse_singleton,List.singleton_append,valR,List.head?_reverse]
section
variable (E:List Nat)
def fE (k:Nat):Nat:=E.getD k 255
def lenE (k:Nat):Nat:=if k<E.length/\fE E (k-1)=255 then 7 else 8
def XE:Nat->Nat
 | 0=>fE E 0
 | k+1=>XE k*2 ^ lenE E (k+1)+fE E (k+1)
def BE:Nat->Nat
 | 0=>0
 | k+1=>BE k+lenE E (k+1)
end
theorem lenE_le (E:List Nat) (k:Nat):lenE E k<=8/\7<=lenE E k:=by unfold lenE; split <;> omega
theorem BE_mono (E:List Nat) {j k:Nat} (h:j<=k):BE E j<=BE E k:=by
 induction k with
 | zero=>have:j=0:=by omega
         subst this; exact Nat.le_refl _
 | succ k ih =>
  rcases Nat.lt_or_ge k j with h1 | h1
  ·have:j=k+1:=by omega
   subst this; exact Nat.le_refl _
  ·exact Nat.le_trans (ih h1) (Nat.le_add_right _ _)
theorem XE_mono (E:List Nat) {j k:Nat} (h:j<=k):XE E j*2 ^ BE E k<=XE E k*2 ^ BE E j:=by
 induction k with
 | zero=>have:j=0:=by omega
         subst this; exact Nat.le_refl _
 | succ k ih =>
  rcases Nat.lt_or_ge k j with h1 | h1
  ·have:j=k+1:=by omega
   subst this; exact Nat.le_refl _
  ·have h2:=ih h1
   show XE E j*2 ^ (BE E k+lenE E (k+1))<=(XE E k*2 ^ lenE E (k+1)+fE E (k+1))*2 ^ BE E j
   rw [Nat.pow_add,<- Nat.mul_assoc,Nat.add_mul]
   have h3:=Nat.mul_le_mul_right (2 ^ lenE E (k+1)) h2
   have e:XE E k*2 ^ BE E j*2 ^ lenE E (k+1)=XE E k*2 ^ lenE E (k+1)*2 ^ BE E j:=Nat.mul_right_comm _ _ _
   omega
theorem XE_end (E:List Nat) {m:Nat} (hm:m+1=E.length):∀ d,XE E (m+d)+1=(XE E m+1)*2 ^ (8*d)/\BE E (m+d)=BE E m+8*d
 | 0=>by simp
 | d+1=>by
  obtain ⟨h1,h2⟩:=XE_end E hm d
  have hl:lenE E (m+d+1)=8:=by unfold lenE; rw [if_neg (by omega)]
  have hf:fE E (m+d+1)=255:=by unfold fE; rw [List.getD_eq_getElem?_getD,List.getElem?_eq_none (by omega)]; rfl
  constructor
  ·show XE E (m+d)*2 ^ lenE E (m+d+1)+fE E (m+d+1)+1=_
   rw [hl,hf,show 8*(d+1)=8*d+8 by omega,Nat.pow_add,<- Nat.mul_assoc,<- h1]
   omega
  ·show BE E (m+d)+lenE E (m+d+1)=_
   rw [hl,h2]; omega
theorem valL_XE (E:List Nat):∀ (p:List Nat) (x:Nat),p.length<E.length->(∀ j v,p[j]? = some v->fE E j=v)->valL (p++[x])+fE E p.length=XE E p.length+x:=by
 intro p
 have key:∀ (n:Nat) (p:List Nat) (x:Nat),p.length=n->p.length<E.length->(∀ j v,p[j]? = some v->fE E j=v)->valL (p++[x])+fE E p.length=XE E p.length+x:=by
  intro n
  induction n with
  | zero =>
   intro p x hn hl hp
   have:p=[]:=List.length_eq_zero_iff.1 hn
   subst this
   rw [valL_snoc]
   show valL []*_+x+fE E 0=fE E 0+x
   simp [valL,valR]; omega
  | succ n ih =>
   intro p x hn hl hp
   obtain ⟨q,y,rfl⟩:∃ q y,p=q++[y]:=by
    rcases List.eq_nil_or_concat p with rfl | ⟨q,y,rfl⟩
    ·simp at hn
    ·exact ⟨q,y,by simp⟩
   have hq:q.length=n:=by simp at hn; exact hn
   have hy:fE E q.length=y:=hp q.length y (by simp)
   have h1:=ih q y hq (by omega) (fun j v hv=>hp j v (by rw [List.getElem?_append_left (List.getElem?_eq_some_iff.1 hv).1]; exact hv))
   have h2:valL (q++[y])=XE E q.length:=by omega
   rw [valL_snoc,h2,hn]
   have hlen:(if (q++[y]).getLast? = some 255 then 128 else 256)=2 ^ lenE E (n+1):=by
    unfold lenE
    rw [List.getLast?_concat,Nat.add_sub_cancel,<- hq,hy]
    by_cases h3:y=255
    ·rw [if_pos (by rw [h3]),if_pos ⟨by rw [hn] at hl; omega,h3⟩]
    ·rw [if_neg (by simpa using h3),if_neg (by simp [h3])]
   rw [hlen,<- hq]
   show _=XE E q.length*2 ^ lenE E (q.length+1)+fE E (q.length+1)+x
   omega
 exact fun x=>key p.length p x rfl
def lowC (s:Cod):Nat:=valL (s.bs++[s.l])*2 ^ (27-s.t)+s.c
structure Fut (E:List Nat) (s:Cod) (A:Nat):Prop where
 len:s.bs.length<E.length
 pre:∀ j v,s.bs[j]? = some v->fE E j=v
 last:fE E s.bs.length=s.l\/fE E s.bs.length=s.l+1/\s.l≠255
 lo:∀ k,s.bs.length<k->lowC s*2 ^ BE E k<(XE E k+1)*2 ^ (BE E s.bs.length+(27-s.t))
 hi:∀ k,XE E k*2 ^ (BE E s.bs.length+(27-s.t))<(lowC s+A)*2 ^ BE E k
theorem Fut.part {E:List Nat} {s:Cod} {A a' c' n':Nat} {st':List Nat} {d':Bool} (h:Fut E { s with a:=a',c:=c',n:=n',st:=st',done:=d' } A) {A0:Nat} (h1:s.c<=c') (h2:c'+A<=s.c+A0):Fut E s A0:=by
 have hl:lowC { s with a:=a',c:=c',n:=n',st:=st',done:=d' }=lowC s+(c'-s.c):=by
  show valL (s.bs++[s.l])*2 ^ (27-s.t)+c'=valL (s.bs++[s.l])*2 ^ (27-s.t)+s.c+(c'-s.c)
  omega
 refine ⟨h.len,h.pre,h.last,fun k hk=>?_,fun k=>?_⟩
 ·have:=h.lo k hk
  rw [hl,Nat.add_mul] at this
  exact Nat.lt_of_le_of_lt (Nat.le_add_right _ _) this
 ·have:=h.hi k
  rw [hl] at this
  exact Nat.lt_of_lt_of_le this (Nat.mul_le_mul_right _ (by omega))
theorem Fut.near {E:List Nat} {s:Cod} {A j a':Nat} (h:Fut E { s with a:=a',c:=s.c*2 ^ j,t:=s.t-j } (A*2 ^ j)) (hj:j<=s.t) (ht:s.t<=27):Fut E s A:=by
 have hl:lowC { s with a:=a',c:=s.c*2 ^ j,t:=s.t-j }=lowC s*2 ^ j:=by
  show valL (s.bs++[s.l])*2 ^ (27-(s.t-j))+s.c*2 ^ j=(valL (s.bs++[s.l])*2 ^ (27-s.t)+s.c)*2 ^ j
  rw [Nat.add_mul,Nat.mul_assoc,<- Nat.pow_add]
  congr 3; omega
 have he:BE E s.bs.length+(27-(s.t-j))=BE E s.bs.length+(27-s.t)+j:=by omega
 have hp:0<2 ^ j:=Nat.two_pow_pos j
 refine ⟨h.len,h.pre,h.last,fun k hk=>?_,fun k=>?_⟩
 ·have h1:_<(XE E k+1)*2 ^ (BE E s.bs.length+(27-(s.t-j))):=h.lo k hk
  rw [hl,he,Nat.pow_add _ _ j,<- Nat.mul_assoc,Nat.mul_right_comm] at h1
  exact Nat.lt_of_mul_lt_mul_right h1
 ·have h1:XE E k*2 ^ (BE E s.bs.length+(27-(s.t-j)))<_:=h.hi k
  rw [hl,he,Nat.pow_add _ _ j,<- Nat.mul_assoc,<- Nat.add_mul,Nat.mul_right_comm (lowC s+A)] at h1
  exact Nat.lt_of_mul_lt_mul_right h1
theorem outTail_low (s:Cod) (l c:Nat) (hc:c<2 ^ 28) (hc2:l≠255->c<2 ^ 27):lowC (outTail s l c)=valL (s.bs++[l])*2 ^ 27+c:=by
 unfold outTail lowC
 split
 ·rename_i h
  show valL ((s.bs++[l])++[c / 1048576 % 256])*2 ^ (27-7)+c % 1048576=_
  rw [valL_snoc,List.getLast?_concat,if_pos (by rw [h])]
  generalize valL (s.bs++[l])=v
  omega
 ·rename_i h
  have:=hc2 h
  show valL ((s.bs++[l])++[c / 524288 % 256])*2 ^ (27-8)+c % 524288=_
  rw [valL_snoc,List.getLast?_concat,if_neg (by simpa using h)]
  generalize valL (s.bs++[l])=v
  omega
theorem Fut.tail {E:List Nat} {s:Cod} {A l c:Nat} (h:Fut E (outTail s l c) A) (hc:c<2 ^ 28) (hc2:l≠255->c<2 ^ 27) (ht:s.t=0) (hl:l=s.l/\c=s.c\/l=s.l+1/\s.l≠255/\c+2 ^ 27=s.c):Fut E s A:=by
 have hlow:lowC (outTail s l c)=lowC s:=by
  rw [outTail_low s l c hc hc2]
  unfold lowC
  rw [ht,valL_snoc,valL_snoc]
  rcases hl with ⟨rfl,rfl⟩ | ⟨rfl,_,h2⟩
  ·rfl
  ·generalize (valL s.bs*if s.bs.getLast? = some 255 then 128 else 256)=v
   omega
 have hbs:(outTail s l c).bs=s.bs++[l]:=by unfold outTail; split <;> rfl
 have hpre:=h.pre
 have hlen:=h.len
 rw [hbs] at hpre hlen
 have hfl:fE E s.bs.length=l:=hpre s.bs.length l (by simp)
 have hlen':s.bs.length+1<E.length:=by simpa using hlen
 have hB:BE E (s.bs.length+1)+(27-(outTail s l c).t)=BE E s.bs.length+27:=by
  show BE E s.bs.length+lenE E (s.bs.length+1)+_=_
  have:lenE E (s.bs.length+1)+(27-(outTail s l c).t)=27:=by
   unfold lenE outTail
   rw [Nat.add_sub_cancel,hfl]
   by_cases h3:l=255
   ·simp only [if_pos h3]; rw [if_pos ⟨hlen',h3⟩]
   ·simp only [if_neg h3]; rw [if_neg (by simp [h3])]
  omega
 have hsl:(outTail s l c).bs.length=s.bs.length+1:=by rw [hbs]; simp
 have hlo:=h.lo
 have hhi:=h.hi
 rw [hsl,hB,hlow] at hlo hhi
 refine ⟨by omega,fun j v hv=>hpre j v (by rw [List.getElem?_append_left (List.getElem?_eq_some_iff.1 hv).1]; exact hv),?_,fun k hk=>?_,fun k=>?_⟩
 ·rw [hfl]
  rcases hl with ⟨rfl,rfl⟩ | ⟨rfl,h1,_⟩
  ·exact .inl rfl
  ·exact .inr ⟨rfl,h1⟩
 ·rw [ht]
  rcases Nat.lt_or_ge (s.bs.length+1) k with h1 | h1
  ·exact hlo k h1
  ·have hk:k=s.bs.length+1:=by omega
   subst hk
   rw [<- hlow,Nat.sub_zero,<- hB,Nat.pow_add,<- Nat.mul_assoc,Nat.mul_right_comm]
   refine Nat.mul_lt_mul_of_pos_right ?_ (Nat.two_pow_pos _)
   have hX:=valL_XE E (s.bs++[l]) (outTail s l c).l (by simpa using hlen') hpre
   have hle:(outTail s l c).l<=fE E (s.bs.length+1):=by
    have:=h.last
    rw [hsl] at this
    omega
   rw [List.length_append,List.length_singleton] at hX
   have hcl:(outTail s l c).c<2 ^ (27-(outTail s l c).t):=by
    unfold outTail
    split
    ·exact Nat.mod_lt _ (by decide)
    ·exact Nat.mod_lt _ (by decide)
   unfold lowC
   rw [hbs]
   have h4:valL (s.bs++[l]++[(outTail s l c).l])<=XE E (s.bs.length+1):=by omega
   have h5:=Nat.mul_le_mul_right (2 ^ (27-(outTail s l c).t)) h4
   rw [Nat.add_mul]
   omega
 ·rw [ht]; exact hhi k
theorem Fut.out {E:List Nat} {s:Cod} {A:Nat} (h:Fut E (outM s) A) (ht:s.t=0) (hc:s.c<2 ^ 28):Fut E s A:=by
 unfold outM at h
 split at h
 ·rename_i h1
  refine h.tail (by omega) (fun _=>by omega) ht (.inr ⟨rfl,h1.1,by omega⟩)
 ·rename_i h1
  exact h.tail hc (fun h2=>by
   rcases Nat.lt_or_ge s.c 134217728 with h3 | h3
   ·exact h3
   ·exact absurd ⟨h2,h3⟩ h1) ht (.inl ⟨rfl,rfl⟩)
end Go.Ar
namespace Go.Ar
theorem outM_t (s:Cod) (t:Nat):outM { s with t:=t }=outM s:=rfl
theorem outM_ct (s:Cod):(outM s).c=s.c % 2 ^ (27-(outM s).t)/\((outM s).t=7\/(outM s).t=8):=by
 unfold outM outTail
 split
 ·split
  ·refine ⟨?_, .inl rfl⟩; show s.c % 134217728 % 1048576=s.c % 1048576; omega
  ·refine ⟨?_, .inr rfl⟩; show s.c % 134217728 % 524288=s.c % 524288; omega
 ·split
  ·exact ⟨rfl, .inl rfl⟩
  ·exact ⟨rfl, .inr rfl⟩
theorem Fut.shift {E:List Nat} {s:Cod} {A:Nat} (h:Fut E (shiftM s) (2*A)) (ht:1<=s.t) (ht2:s.t<=12) (hc:s.c<2 ^ (28-s.t)):Fut E s A:=by
 have key:Fut E { s with a:=2*s.a,c:=s.c*2 ^ 1,t:=s.t-1 } (A*2 ^ 1):=by
  rw [Nat.pow_one,Nat.mul_comm s.c 2,Nat.mul_comm A 2]
  unfold shiftM at h
  simp only [] at h
  split at h
  ·rename_i h1
   have h1:s.t-1=0:=h1
   have:s.t=1:=by omega
   rw [this] at hc
   exact h.out h1 (by show 2*s.c<2 ^ 28; omega)
  ·exact h
 exact key.near ht (by omega)
theorem Fut.renew {E:List Nat}:∀ (k:Nat) {s:Cod},Mid s->s.a<0x8000->0x8000<=s.a*2 ^ k->Fut E (renewM k s) (renewM k s).a->Fut E s s.a
 | 0,s,h,ha,hk,_=>by simp at hk; omega
 | k+1,s,h,ha,hk,hF=>by
  obtain ⟨h1,h2,h3,h4,h5,h6⟩:=shiftM_mid h ha
  have hc:=h.ca
  unfold renewM at hF
  simp only [] at hF
  split at hF
  ·rw [h2] at hF
   exact hF.shift h.t1 h.t12 (by omega)
  ·rename_i hlt
   have hk':0x8000<=(shiftM s).a*2 ^ k:=by
    rw [h2]
    rw [Nat.pow_succ] at hk
    have:s.a*(2 ^ k*2)=2*s.a*2 ^ k:=by rw [Nat.mul_comm (2 ^ k) 2,<- Nat.mul_assoc,Nat.mul_comm s.a 2]
    omega
   have:=Fut.renew k h1 (by omega) hk' hF
   rw [h2] at this
   exact this.shift h.t1 h.t12 (by omega)
def codeE (s:Cod):List Nat:=s.bs++[s.l]
theorem flushC_mod (s:Cod):32768 ∣ flushC s+1:=by
 unfold flushC
 simp only []
 split <;> omega
theorem fut_flush {s:Cod} (hs:Wf s):Fut (codeE (flushM s)) s s.a:=by
 have hca:=hs.ca
 have ht1:=hs.t1
 have ht2:=hs.t12
 have hlo:=hs.lo
 have hhi:=hs.hi
 have hf1:s.c<=flushC s/\flushC s+1<=s.c+s.a:=by
  unfold flushC
  simp only []
  split <;> omega
 have hmod:=flushC_mod s
 generalize hcf:flushC s=cf at hf1 hmod
 have hF:flushM s=flushS (flushS { s with c:=cf,done:=true }):=by unfold flushM; rw [hcf]
 generalize hS0:({ s with c:=cf,done:=true }:Cod)=S0 at hF
 have hS0t:S0.t=s.t:=by rw [<- hS0]
 have hS0c:S0.c=cf:=by rw [<- hS0]
 have hS1:flushS S0=outM { S0 with c:=S0.c*2 ^ S0.t,t:=S0.t-S0.t }:=(outM_t { S0 with c:=S0.c*2 ^ S0.t } _).symm
 generalize hG1:flushS S0=S1 at hF hS1
 have hS2:flushM s=outM { S1 with c:=S1.c*2 ^ S1.t,t:=S1.t-S1.t }:=hF.trans (outM_t { S1 with c:=S1.c*2 ^ S1.t } _).symm
 generalize hG2:flushM s=F at hS2
 obtain ⟨hc1,ht1'⟩:=outM_ct { S0 with c:=S0.c*2 ^ S0.t,t:=S0.t-S0.t }
 obtain ⟨hc2,ht2'⟩:=outM_ct { S1 with c:=S1.c*2 ^ S1.t,t:=S1.t-S1.t }
 rw [<- hS1] at hc1 ht1'
 rw [<- hS2] at hc2 ht2'
 have hc1:S1.c=cf*2 ^ s.t % 2 ^ (27-S1.t):=by rw [hc1,<- hS0c,<- hS0t]
 have hc2:F.c=S1.c*2 ^ S1.t % 2 ^ (27-F.t):=hc2
 have hdv:2 ^ (27-F.t)<=F.c+2 ^ (s.t+S1.t):=by
  have e1:F.c=cf*2 ^ (s.t+S1.t) % 2 ^ (27-F.t):=by
   rw [hc2,hc1,<- Nat.mul_mod_mul_right,<- Nat.pow_add,Nat.mul_assoc,<- Nat.pow_add,Nat.mod_mod_of_dvd]
   exact Nat.pow_dvd_pow 2 (by omega)
  have e2:(F.c+2 ^ (s.t+S1.t)) % 2 ^ (27-F.t)=0:=by
   rw [e1,Nat.mod_add_mod,<- Nat.succ_mul]
   refine Nat.mod_eq_zero_of_dvd (Nat.dvd_trans (Nat.pow_dvd_pow 2 (show 27-F.t<=15+(s.t+S1.t) by omega)) ?_)
   rw [Nat.pow_add]
   exact Nat.mul_dvd_mul_right hmod _
  have e3:=Nat.two_pow_pos (s.t+S1.t)
  exact Nat.le_of_dvd (by omega) (Nat.dvd_of_mod_eq_zero e2)
 have hclt:F.c<2 ^ (27-F.t):=by rw [hc2]; exact Nat.mod_lt _ (Nat.two_pow_pos _)
 have hEl:F.bs.length+1=(codeE F).length:=by simp [codeE]
 have hpre:∀ j v,F.bs[j]? = some v->fE (codeE F) j=v:=fun j v hj=>by
  unfold fE codeE
  rw [List.getD_eq_getElem?_getD,List.getElem?_append_left (List.getElem?_eq_some_iff.1 hj).1,hj]; rfl
 have hlast:fE (codeE F) F.bs.length=F.l:=by
  unfold fE codeE
  rw [List.getD_eq_getElem?_getD]; simp
 have hX:valL (F.bs++[F.l])=XE (codeE F) F.bs.length:=by
  have:=valL_XE (codeE F) F.bs F.l (by omega) hpre
  rw [hlast] at this
  omega
 have hlow:lowC F=XE (codeE F) F.bs.length*2 ^ (27-F.t)+F.c:=by unfold lowC; rw [hX]
 have fF:Fut (codeE F) F (2 ^ (s.t+S1.t)):=by
  refine ⟨by omega,hpre, .inl hlast,fun k hk=>?_,fun k=>?_⟩
  ·obtain ⟨d,rfl⟩:∃ d,k=F.bs.length+d:=⟨k-F.bs.length,by omega⟩
   obtain ⟨h1,h2⟩:=XE_end (codeE F) hEl d
   rw [h1,h2,hlow,Nat.pow_add,Nat.pow_add]
   have h3:XE (codeE F) F.bs.length*2 ^ (27-F.t)+F.c<(XE (codeE F) F.bs.length+1)*2 ^ (27-F.t):=by rw [Nat.add_mul]; omega
   have h4:=Nat.mul_lt_mul_of_pos_right h3 (show 0<2 ^ BE (codeE F) F.bs.length*2 ^ (8*d) from Nat.mul_pos (Nat.two_pow_pos _) (Nat.two_pow_pos _))
   have e:(XE (codeE F) F.bs.length+1)*2 ^ (8*d)*(2 ^ BE (codeE F) F.bs.length*2 ^ (27-F.t))=(XE (codeE F) F.bs.length+1)*2 ^ (27-F.t)*(2 ^ BE (codeE F) F.bs.length*2 ^ (8*d)):=by
    simp only [Nat.mul_assoc,Nat.mul_comm,Nat.mul_left_comm]
   rw [e]
   exact h4
  ·rcases Nat.lt_or_ge k F.bs.length with hk | hk
   ·have h1:=XE_mono (codeE F) (Nat.le_of_lt hk)
    have h2:=Nat.mul_le_mul_right (2 ^ (27-F.t)) h1
    rw [hlow,Nat.pow_add,<- Nat.mul_assoc]
    refine Nat.lt_of_le_of_lt h2 ?_
    rw [Nat.mul_right_comm]
    refine Nat.mul_lt_mul_of_pos_right ?_ (Nat.two_pow_pos _)
    have:=Nat.two_pow_pos (s.t+S1.t)
    omega
   ·obtain ⟨d,rfl⟩:∃ d,k=F.bs.length+d:=⟨k-F.bs.length,by omega⟩
    obtain ⟨h1,h2⟩:=XE_end (codeE F) hEl d
    have h3:XE (codeE F) (F.bs.length+d)<(XE (codeE F) F.bs.length+1)*2 ^ (8*d):=by omega
    rw [h2,hlow]
    have h4:=Nat.mul_lt_mul_of_pos_right h3 (Nat.two_pow_pos (BE (codeE F) F.bs.length+(27-F.t)))
    refine Nat.lt_of_lt_of_le h4 ?_
    have h5:(XE (codeE F) F.bs.length+1)*2 ^ (27-F.t)<=XE (codeE F) F.bs.length*2 ^ (27-F.t)+F.c+2 ^ (s.t+S1.t):=by rw [Nat.add_mul]; omega
    have h6:=Nat.mul_le_mul_right (2 ^ (BE (codeE F) F.bs.length+8*d)) h5
    refine Nat.le_trans (Nat.le_of_eq ?_) h6
    rw [Nat.pow_add,Nat.pow_add]
    simp only [Nat.mul_assoc,Nat.mul_comm,Nat.mul_left_comm]
 generalize codeE F=E at fF ⊢
 rw [hS2] at fF
 have hp1:(2:Nat) ^ (27-S1.t)*2 ^ S1.t=2 ^ 27:=by rw [<- Nat.pow_add]; congr 1; omega
 have hc1lt:S1.c<2 ^ (27-S1.t):=by rw [hc1]; exact Nat.mod_lt _ (Nat.two_pow_pos _)
 have f1:=fF.out (Nat.sub_self _) (by
  show S1.c*2 ^ S1.t<2 ^ 28
  have:=Nat.mul_lt_mul_of_pos_right hc1lt (Nat.two_pow_pos S1.t)
  omega)
 rw [Nat.pow_add] at f1
 have f2:Fut E S1 (2 ^ s.t):=f1.near (a':=S1.a) (Nat.le_refl _) (by omega)
 rw [hS1] at f2
 have f3:=f2.out (Nat.sub_self _) (by
  show S0.c*2 ^ S0.t<2 ^ 28
  rw [hS0c,hS0t]
  have h1:cf<2 ^ (28-s.t):=by omega
  have h2:=Nat.mul_lt_mul_of_pos_right h1 (Nat.two_pow_pos s.t)
  have h3:(2:Nat) ^ (28-s.t)*2 ^ s.t=2 ^ 28:=by rw [<- Nat.pow_add]; congr 1; omega
  omega)
 rw [<- hS0t] at f3
 have f3':Fut E { S0 with c:=S0.c*2 ^ S0.t,t:=S0.t-S0.t } (1*2 ^ S0.t):=by rw [Nat.one_mul]; exact f3
 have f4:Fut E S0 1:=f3'.near (a':=S0.a) (Nat.le_refl _) (by omega)
 rw [<- hS0] at f4
 exact Fut.part (s:=s) (a':=s.a) (n':=s.n) (st':=s.st) f4 hf1.1 hf1.2
end Go.Ar
namespace Go.Ar
structure Pos (E:List Nat) (d:Dec) (k:Nat):Prop where
 by_:∀ j,byteD d j=fE E (j+1)
 at_:k=d.i+1\/d.i+1<=k/\E.length<=d.i+2/\fE E (d.i+1)=255
def Stuffed (E:List Nat):Prop:=∀ j,fE E j=255->j+1<E.length->fE E (j+1)<=143
theorem fE_end (E:List Nat) {k:Nat} (h:E.length<=k):fE E k=255:=by unfold fE; rw [List.getD_eq_getElem?_getD,List.getElem?_eq_none h]; rfl
theorem inD_pos {E:List Nat} {d:Dec} {k:Nat} (hE:Stuffed E) (h:Pos E d k) :
  Pos E (inD d) (k+1)/\(inD d).t=lenE E (k+1)/\(inD d).c=(d.c+fE E (k+1)*2 ^ (16-lenE E (k+1))) % M32:=by
 have hb0:=h.by_ d.i
 have hb1:=h.by_ (d.i+1)
 have hb:∀ d':Dec,d'.b=d.b->∀ j,byteD d' j=fE E (j+1):=fun d' e j=>by rw [<- h.by_ j]; unfold byteD; rw [e]
 unfold inD
 split
 ·rename_i h1
  rw [hb0] at h1
  have hlt:d.i+1<E.length:=by
   rcases Nat.lt_or_ge (d.i+1) E.length with h2 | h2
   ·exact h2
   ·exact absurd (fE_end E h2) h1
  have hk:k=d.i+1:=by
   rcases h.at_ with h2 | ⟨_,h2,h3⟩
   ·exact h2
   ·exact absurd h3 h1
  have hl:lenE E (k+1)=8:=by
   unfold lenE
   rw [Nat.add_sub_cancel,if_neg]
   rintro ⟨_,h3⟩
   rw [hk] at h3
   exact h1 h3
  refine ⟨⟨hb _ rfl, .inl (by rw [hk])⟩,by rw [hl],?_⟩
  rw [hb1,hl,hk]
 ·rename_i h1
  rw [hb0] at h1
  have h1:fE E (d.i+1)=255:=by simpa using h1
  split
  ·rename_i h2
   rw [hb1] at h2
   have hge:E.length<=d.i+2:=by
    rcases Nat.lt_or_ge (d.i+1+1) E.length with h3 | h3
    ·have:=hE _ h1 h3; omega
    ·exact h3
   have hkge:d.i+1<=k:=by rcases h.at_ with h3 | ⟨h3,_⟩ <;> omega
   have hl:lenE E (k+1)=8:=by unfold lenE; rw [if_neg (by omega)]
   have hf:fE E (k+1)=255:=fE_end E (by omega)
   exact ⟨⟨hb _ rfl, .inr ⟨by show d.i+1<=k+1; omega,hge,h1⟩⟩,by rw [hl],by rw [hl,hf]⟩
  ·rename_i h2
   rw [hb1] at h2
   have hlt:d.i+2<E.length:=by
    rcases Nat.lt_or_ge (d.i+2) E.length with h3 | h3
    ·exact h3
    ·have:=fE_end E h3
     rw [show d.i+1+1=d.i+2 from rfl] at h2
     omega
   have hk:k=d.i+1:=by
    rcases h.at_ with h3 | ⟨_,h3,_⟩
    ·exact h3
    ·omega
   have hl:lenE E (k+1)=7:=by
    unfold lenE
    rw [Nat.add_sub_cancel,if_pos ⟨by omega,by rw [hk]; exact h1⟩]
   refine ⟨⟨hb _ rfl, .inl (by rw [hk])⟩,by rw [hl],?_⟩
   rw [hb1,hl,hk]
structure Num (E:List Nat) (s:Cod) (d:Dec) (k:Nat):Prop extends Pos E d k where
 pos:BE E k=BE E s.bs.length+(27-s.t)+d.t
 num:d.c+lowC s*65536=XE E k*2 ^ (16-d.t)
structure Sync (E:List Nat) (s:Cod) (d:Dec):Prop where
 a:d.a=s.a
 st:d.st=s.st
 n:d.n=s.n
 num:∃ k,Num E s d k
section
variable {E:List Nat} {s:Cod} {d:Dec} {k A t:Nat}
theorem XE_split (x:Nat) (h:t<=16):x*2 ^ (16-t)*2 ^ t=x*65536:=by
 rw [Nat.mul_assoc,<- Nat.pow_add]
 congr 1
 have:16-t+t=16:=by omega
 rw [this]
theorem Fut.lt (h:Fut E s A) (hp:BE E k=BE E s.bs.length+(27-s.t)+t) (ht:t<=16):XE E k*2 ^ (16-t)<(lowC s+A)*65536:=by
 have h1:=h.hi k
 rw [hp,Nat.pow_add _ _ t,<- Nat.mul_assoc,Nat.mul_right_comm (lowC s+A)] at h1
 have h2:XE E k<(lowC s+A)*2 ^ t:=Nat.lt_of_mul_lt_mul_right h1
 refine Nat.lt_of_mul_lt_mul_right (a:=2 ^ t) ?_
 rw [XE_split _ ht,Nat.mul_right_comm]
 exact Nat.mul_lt_mul_of_pos_right h2 (by decide)
theorem Fut.ge (h:Fut E s A) (hp:BE E k=BE E s.bs.length+(27-s.t)+t) (ht:t<=16) (hk:s.bs.length<k):lowC s*65536<=XE E k*2 ^ (16-t):=by
 have h1:=h.lo k hk
 rw [hp,Nat.pow_add _ _ t,<- Nat.mul_assoc,Nat.mul_right_comm] at h1
 have h2:lowC s*2 ^ t<XE E k+1:=Nat.lt_of_mul_lt_mul_right h1
 refine Nat.le_of_mul_le_mul_right (c:=2 ^ t) ?_ (Nat.two_pow_pos t)
 rw [XE_split _ ht,Nat.mul_right_comm]
 exact Nat.mul_le_mul_right _ (by omega)
theorem ahead (hp:BE E k=BE E s.bs.length+(27-s.t)+t) (ht:s.t<=12):s.bs.length<k:=by
 rcases Nat.lt_or_ge s.bs.length k with h1 | h1
 ·exact h1
 ·have:=BE_mono E h1; omega
theorem shiftM_pos (h:Fut E (shiftM s) A) (ht1:1<=s.t) (ht2:s.t<=12) (hc:s.c<2 ^ (28-s.t)):lowC (shiftM s)=2*lowC s/\BE E (shiftM s).bs.length+(27-(shiftM s).t)=BE E s.bs.length+(27-s.t)+1:=by
 have e0:lowC { s with a:=2*s.a,c:=2*s.c,t:=s.t-1 }=2*lowC s:=by
  show valL (s.bs++[s.l])*2 ^ (27-(s.t-1))+2*s.c=2*(valL (s.bs++[s.l])*2 ^ (27-s.t)+s.c)
  rw [show 27-(s.t-1)=(27-s.t)+1 by omega,Nat.pow_succ,<- Nat.mul_assoc]
  omega
 unfold shiftM at h ⊢
 simp only [] at h ⊢
 split
 ·rename_i h1
  rw [if_pos h1] at h
  have h1:s.t-1=0:=h1
  have ht:s.t=1:=by omega
  rw [ht] at hc
  have tail:∀ {l c:Nat},Fut E (outTail { s with a:=2*s.a,c:=2*s.c,t:=s.t-1 } l c) A->c<2 ^ 28->(l≠255->c<2 ^ 27)->(l=s.l/\c=2*s.c\/l=s.l+1/\s.l≠255/\c+2 ^ 27=2*s.c) ->
    lowC (outTail { s with a:=2*s.a,c:=2*s.c,t:=s.t-1 } l c)=2*lowC s/\BE E (outTail { s with a:=2*s.a,c:=2*s.c,t:=s.t-1 } l c).bs.length+(27-(outTail { s with a:=2*s.a,c:=2*s.c,t:=s.t-1 } l c).t)=BE E s.bs.length+(27-s.t)+1:=by
   intro l c hF hc hc2 hl
   constructor
   ·rw [outTail_low _ l c hc hc2,<- e0]
    unfold lowC
    show valL (s.bs++[l])*2 ^ 27+c=valL (s.bs++[s.l])*2 ^ (27-(s.t-1))+2*s.c
    rw [h1,valL_snoc,valL_snoc]
    rcases hl with ⟨rfl,rfl⟩ | ⟨rfl,_,h2⟩
    ·rfl
    ·generalize (valL s.bs*if s.bs.getLast? = some 255 then 128 else 256)=v
     omega
   ·have hbs:(outTail { s with a:=2*s.a,c:=2*s.c,t:=s.t-1 } l c).bs=s.bs++[l]:=by unfold outTail; split <;> rfl
    have hpre:=hF.pre
    have hlen:=hF.len
    rw [hbs] at hpre hlen
    have hfl:fE E s.bs.length=l:=hpre s.bs.length l (by simp)
    have hlen':s.bs.length+1<E.length:=by simpa using hlen
    rw [hbs,List.length_append,List.length_singleton]
    show BE E s.bs.length+lenE E (s.bs.length+1)+_=_
    have:lenE E (s.bs.length+1)+(27-(outTail { s with a:=2*s.a,c:=2*s.c,t:=s.t-1 } l c).t)=27:=by
     unfold lenE outTail
     rw [Nat.add_sub_cancel,hfl]
     by_cases h3:l=255
     ·simp only [if_pos h3]; rw [if_pos ⟨hlen',h3⟩]
     ·simp only [if_neg h3]; rw [if_neg (by simp [h3])]
    omega
  unfold outM at h ⊢
  split
  ·rename_i h2
   rw [if_pos h2] at h
   exact tail h (by show 2*s.c % 134217728<_; omega) (fun _=>by show 2*s.c % 134217728<_; omega) (.inr ⟨rfl,h2.1,by
    have:134217728<=2*s.c:=h2.2
    show 2*s.c % 134217728+_=_
    omega⟩)
  ·rename_i h2
   rw [if_neg h2] at h
   exact tail h (by show 2*s.c<_; omega) (fun h3=>by
    rcases Nat.lt_or_ge (2*s.c) 134217728 with h4 | h4
    ·exact h4
    ·exact absurd ⟨h3,h4⟩ h2) (.inl ⟨rfl,rfl⟩)
 ·exact ⟨e0,by show BE E s.bs.length+(27-(s.t-1))=_; omega⟩
theorem sync_shift (hE:Stuffed E) (hm:Mid s) (hd:MidD d) (S:Sync E s d) (ha:s.a<0x8000) (F:Fut E (shiftM s) (shiftM s).a):Sync E (shiftM s) (shiftD d):=by
 obtain ⟨hm1,hma,hmn,hmst,_,_⟩:=shiftM_mid hm ha
 have hc:=hm.ca
 rw [hma] at F
 have hF:Fut E s s.a:=F.shift hm.t1 hm.t12 (by omega)
 obtain ⟨p1,p2⟩:=shiftM_pos F hm.t1 hm.t12 (by omega)
 obtain ⟨k,hN⟩:=S.num
 have key:∃ (k:Nat) (d1:Dec),(if d.t=0 then inD d else d)=d1/\Num E s d1 k/\1<=d1.t/\d1.t<=8/\d1.a=d.a/\d1.st=d.st/\d1.n=d.n:=by
  by_cases h0:d.t=0
  ·obtain ⟨q1,q2,q3⟩:=inD_pos hE hN.toPos
   obtain ⟨i1,i2,i3,i4,i5,i6⟩:=inD_mid hd
   obtain ⟨l1,l2⟩:=lenE_le E (k+1)
   rw [if_pos h0]
   have hpos:BE E (k+1)=BE E s.bs.length+(27-s.t)+lenE E (k+1):=by
    have:=hN.pos
    show BE E k+lenE E (k+1)=_
    omega
   have hlt:=hF.lt hpos (by omega)
   have e1:XE E (k+1)*2 ^ (16-lenE E (k+1))=XE E k*65536+fE E (k+1)*2 ^ (16-lenE E (k+1)):=by
    show (XE E k*2 ^ lenE E (k+1)+fE E (k+1))*_=_
    rw [Nat.add_mul,<- XE_split (t:=lenE E (k+1)) (XE E k) (by omega),Nat.mul_right_comm]
   have e2:=hN.num
   rw [h0,Nat.sub_zero] at e2
   have hcl:(inD d).c+lowC s*65536=XE E (k+1)*2 ^ (16-lenE E (k+1)):=by
    rw [q3,Nat.mod_eq_of_lt]
    ·omega
    ·show _<4294967296
     rw [Nat.add_mul] at hlt
     have e3:XE E k*2 ^ 16=XE E k*65536:=rfl
     omega
   exact ⟨k+1,_,rfl,⟨q1,by rw [q2]; exact hpos,by rw [q2]; exact hcl⟩,by omega,by omega,i2,i4,i3⟩
  ·rw [if_neg h0]
   exact ⟨k,d,rfl,hN,by omega,hd.t8,rfl,rfl,rfl⟩
 obtain ⟨k1,d1,hd1,hN1,t1,t8,ea,est,en⟩:=key
 have hlt:=hF.lt hN1.pos (by omega)
 rw [<- hN1.num] at hlt
 rw [Nat.add_mul] at hlt
 have hsd:shiftD d = { d1 with a:=2*d1.a,c:=2*d1.c % M32,t:=d1.t-1 }:=by rw [<- hd1]; rfl
 rw [hsd]
 have hc2:2*d1.c % M32=2*d1.c:=Nat.mod_eq_of_lt (by show 2*d1.c<4294967296; omega)
 rw [hc2]
 refine ⟨by show 2*d1.a=_; rw [hma,ea,S.a],by show d1.st=_; rw [hmst,est,S.st],by show d1.n=_; rw [hmn,en,S.n],k1,⟨⟨hN1.by_,hN1.at_⟩,?_,?_⟩⟩
 ·show BE E k1=_+(d1.t-1)
  have:=hN1.pos
  omega
 ·show 2*d1.c+lowC (shiftM s)*65536=XE E k1*2 ^ (16-(d1.t-1))
  have:=hN1.num
  rw [p1,show 16-(d1.t-1)=(16-d1.t)+1 by omega,Nat.pow_succ,<- Nat.mul_assoc]
  omega
end
theorem sync_renew {E:List Nat} (hE:Stuffed E):∀ (k:Nat) {s:Cod} {d:Dec},Mid s->MidD d->Sync E s d->s.a<0x8000->0x8000<=s.a*2 ^ k->Fut E (renewM k s) (renewM k s).a->Sync E (renewM k s) (renewD k d)
 | 0,s,d,h,_,_,ha,hk,_=>by simp at hk; omega
 | k+1,s,d,h,hd,S,ha,hk,hF=>by
  obtain ⟨h1,h2,h3,h4,h5,h6⟩:=shiftM_mid h ha
  obtain ⟨g1,g2,g3,g4,g5⟩:=shiftD_mid hd
  have ea:(shiftD d).a=(shiftM s).a:=by rw [g2,h2,S.a]
  unfold renewM at hF ⊢
  unfold renewD
  simp only [] at hF ⊢
  rw [ea]
  by_cases hge:0x8000<=(shiftM s).a
  ·rw [if_pos hge] at hF ⊢
   rw [if_pos hge]
   exact sync_shift hE h hd S ha hF
  ·rw [if_neg hge] at hF ⊢
   rw [if_neg hge]
   have hk':0x8000<=(shiftM s).a*2 ^ k:=by
    rw [h2]
    rw [Nat.pow_succ] at hk
    have:s.a*(2 ^ k*2)=2*s.a*2 ^ k:=by rw [Nat.mul_comm (2 ^ k) 2,<- Nat.mul_assoc,Nat.mul_comm s.a 2]
    omega
   exact sync_renew hE k h1 g1 (sync_shift hE h hd S ha (Fut.renew k h1 (by omega) hk' hF)) (by omega) hk' hF
theorem sync_put {E:List Nat} (hE:Stuffed E) {s:Cod} {d:Dec} (hs:Wf s) (hd:WfD d) (S:Sync E s d) {k bit:Nat} (hb:bit<=1) (hF:Fut E (putM s k bit) (putM s k bit).a) :
  Sync E (putM s k bit) (getD d k).1/\(getD d k).2=bit/\Fut E s s.a:=by
 have hx:=getD_lt hs.st k
 have hr:s.st.getD k 0 / 2<47:=by omega
 have hq1:=qOf_pos hr
 have hq2:=qOf_le hr
 have hM:=set_lt hs.st (k:=k) (upM_lt hx)
 have hL:=set_lt hs.st (k:=k) (upL_lt hx)
 have hlo:=hs.lo
 have hhi:=hs.hi
 have hca:=hs.ca
 have ht1:=hs.t1
 have ht2:=hs.t12
 have hdc:=hd.c
 have h17:(2:Nat) ^ 17=131072:=rfl
 obtain ⟨kk,hN⟩:=S.num
 have hdt:=hd.t8
 have up:∀ {a' n':Nat} {st':List Nat},Fut E { s with a:=a',c:=s.c+qOf (s.st.getD k 0 / 2),n:=n',st:=st' } (s.a-qOf (s.st.getD k 0 / 2))->¬ d.c / 65536<qOf (s.st.getD k 0 / 2)/\Fut E s s.a:=by
  intro a' n' st' h
  have hl:lowC { s with a:=a',c:=s.c+qOf (s.st.getD k 0 / 2),n:=n',st:=st' }=lowC s+qOf (s.st.getD k 0 / 2):=(Nat.add_assoc _ _ _).symm
  have h1:=h.ge (k:=kk) (t:=d.t) hN.pos (by omega) (ahead (s:=s) hN.pos ht2)
  rw [hl,<- hN.num,Nat.add_mul] at h1
  refine ⟨by omega,Fut.part (s:=s) (d':=s.done) h (by omega) (by omega)⟩
 have lw:∀ {a' n':Nat} {st':List Nat},Fut E { s with a:=a',n:=n',st:=st' } (qOf (s.st.getD k 0 / 2))->d.c / 65536<qOf (s.st.getD k 0 / 2)/\Fut E s s.a:=by
  intro a' n' st' h
  have h1:=h.lt (k:=kk) (t:=d.t) hN.pos (by omega)
  rw [<- hN.num] at h1
  have hl:lowC { s with a:=a',n:=n',st:=st' }=lowC s:=rfl
  rw [hl,Nat.add_mul] at h1
  refine ⟨by omega,Fut.part (s:=s) (c':=s.c) (d':=s.done) h (by omega) (by omega)⟩
 have hbit:s.st.getD k 0 % 2<2:=Nat.mod_lt _ (by omega)
 have nup:¬ d.c / 65536<qOf (s.st.getD k 0 / 2)->∀ {a' n':Nat} {st':List Nat},Sync E { s with a:=a',c:=s.c+qOf (s.st.getD k 0 / 2),n:=n',st:=st' } { d with a:=a',c:=d.c-qOf (s.st.getD k 0 / 2)*65536,n:=n',st:=st' }:=by
  intro h a' n' st'
  refine ⟨rfl,rfl,rfl,kk,⟨hN.by_,hN.at_⟩,hN.pos,?_⟩
  have:=hN.num
  have hl:lowC { s with a:=a',c:=s.c+qOf (s.st.getD k 0 / 2),n:=n',st:=st' }=lowC s+qOf (s.st.getD k 0 / 2):=(Nat.add_assoc _ _ _).symm
  show d.c-qOf (s.st.getD k 0 / 2)*65536+lowC { s with a:=a',c:=s.c+qOf (s.st.getD k 0 / 2),n:=n',st:=st' }*65536=XE E kk*2 ^ (16-d.t)
  rw [hl,Nat.add_mul]
  omega
 have nlw:∀ {a' n':Nat} {st':List Nat},Sync E { s with a:=a',n:=n',st:=st' } { d with a:=a',n:=n',st:=st' }:=by
  intro a' n' st'
  exact ⟨rfl,rfl,rfl,kk,⟨hN.by_,hN.at_⟩,hN.pos,hN.num⟩
 have hget:getD d k=(if d.c / 65536<qOf (s.st.getD k 0 / 2) then
  if s.a-qOf (s.st.getD k 0 / 2)<qOf (s.st.getD k 0 / 2) then (renewD 17 { d with a:=qOf (s.st.getD k 0 / 2),n:=s.n+1,st:=s.st.set k (upM (s.st.getD k 0)) },s.st.getD k 0 % 2)
  else (renewD 17 { d with a:=qOf (s.st.getD k 0 / 2),n:=s.n+1,st:=s.st.set k (upL (s.st.getD k 0)) },1-s.st.getD k 0 % 2)
 else
  if 0x8000<=s.a-qOf (s.st.getD k 0 / 2) then ({ d with a:=s.a-qOf (s.st.getD k 0 / 2),c:=d.c-qOf (s.st.getD k 0 / 2)*65536,n:=s.n+1,st:=s.st },s.st.getD k 0 % 2)
  else if s.a-qOf (s.st.getD k 0 / 2)<qOf (s.st.getD k 0 / 2) then (renewD 17 { d with a:=s.a-qOf (s.st.getD k 0 / 2),c:=d.c-qOf (s.st.getD k 0 / 2)*65536,n:=s.n+1,st:=s.st.set k (upL (s.st.getD k 0)) },1-s.st.getD k 0 % 2)
  else (renewD 17 { d with a:=s.a-qOf (s.st.getD k 0 / 2),c:=d.c-qOf (s.st.getD k 0 / 2)*65536,n:=s.n+1,st:=s.st.set k (upM (s.st.getD k 0)) },s.st.getD k 0 % 2)):=by
  have e1:=S.a
  have e2:=S.st
  have e3:=S.n
  obtain ⟨da,dc,dt,dn,dst,db,di⟩:=d
  simp only at e1 e2 e3
  subst e1 e2 e3
  rfl
 have hdm:∀ {a' c' n':Nat} {st':List Nat},c'<=d.c->(∀ x∈st',x<94)->MidD { d with a:=a',c:=c',n:=n',st:=st' }:=fun hc hst=>⟨hd.t8,Nat.lt_of_le_of_lt hc hdc,hd.b,hst,hd.i⟩
 rw [hget]
 unfold putM at hF ⊢
 simp only [] at hF ⊢
 generalize s.st.getD k 0=x at *
 generalize qOf (x / 2)=q at *
 have mlw:∀ {n':Nat} {st':List Nat},(∀ x∈st',x<94)->Mid { s with a:=q,n:=n',st:=st' }:=fun hst=>⟨ht1,ht2,by show s.c+q<2 ^ (28-s.t); omega,hs.l,hs.bs,hst⟩
 have mup:∀ {n':Nat} {st':List Nat},(∀ x∈st',x<94)->Mid { s with a:=s.a-q,c:=s.c+q,n:=n',st:=st' }:=fun hst=>⟨ht1,ht2,by show s.c+q+(s.a-q)<2 ^ (28-s.t); omega,hs.l,hs.bs,hst⟩
 have flw:∀ {n':Nat} {st':List Nat},(∀ x∈st',x<94)->Fut E (renewM 17 { s with a:=q,n:=n',st:=st' }) (renewM 17 { s with a:=q,n:=n',st:=st' }).a ->
   d.c / 65536<q/\Fut E s s.a/\Sync E (renewM 17 { s with a:=q,n:=n',st:=st' }) (renewD 17 { d with a:=q,n:=n',st:=st' }):=by
  intro n' st' hst h
  have h0:=Fut.renew 17 (mlw (n':=n') hst) (by show q<_; omega) (by show _<=q*_; omega) h
  obtain ⟨h1,h2⟩:=lw h0
  exact ⟨h1,h2,sync_renew hE 17 (mlw hst) (hdm (Nat.le_refl _) hst) nlw (by show q<_; omega) (by show _<=q*_; omega) h⟩
 have fup:∀ {n':Nat} {st':List Nat},s.a-q<0x8000->1<=s.a-q->(∀ x∈st',x<94)->Fut E (renewM 17 { s with a:=s.a-q,c:=s.c+q,n:=n',st:=st' }) (renewM 17 { s with a:=s.a-q,c:=s.c+q,n:=n',st:=st' }).a ->
   ¬ d.c / 65536<q/\Fut E s s.a/\Sync E (renewM 17 { s with a:=s.a-q,c:=s.c+q,n:=n',st:=st' }) (renewD 17 { d with a:=s.a-q,c:=d.c-q*65536,n:=n',st:=st' }):=by
  intro n' st' h3 h4 hst h
  have h0:=Fut.renew 17 (mup (n':=n') hst) h3 (by show _<=(s.a-q)*_; omega) h
  obtain ⟨h1,h2⟩:=up h0
  exact ⟨h1,h2,sync_renew hE 17 (mup hst) (hdm (Nat.sub_le _ _) hst) (nup h1) h3 (by show _<=(s.a-q)*_; omega) h⟩
 by_cases hbx:bit=x % 2
 ·rw [if_pos hbx] at hF ⊢
  by_cases h8:0x8000<=s.a-q
  ·rw [if_pos h8] at hF ⊢
   obtain ⟨h1,h2⟩:=up (a':=s.a-q) (n':=s.n+1) (st':=s.st) hF
   rw [if_neg h1,if_pos h8]
   exact ⟨nup h1,hbx.symm,h2⟩
  ·rw [if_neg h8] at hF ⊢
   by_cases hq:s.a-q<q
   ·rw [if_pos hq] at hF ⊢
    obtain ⟨h1,h2,h3⟩:=flw hM hF
    rw [if_pos h1,if_pos hq]
    exact ⟨h3,hbx.symm,h2⟩
   ·rw [if_neg hq] at hF ⊢
    obtain ⟨h1,h2,h3⟩:=fup (by omega) (by omega) hM hF
    rw [if_neg h1,if_neg h8,if_neg hq]
    exact ⟨h3,hbx.symm,h2⟩
 ·rw [if_neg hbx] at hF ⊢
  by_cases hq:s.a-q<q
  ·rw [if_pos hq] at hF ⊢
   obtain ⟨h1,h2,h3⟩:=fup (by omega) (by omega) hL hF
   rw [if_neg h1,if_neg (by omega),if_pos hq]
   exact ⟨h3,by show 1-x % 2=bit; omega,h2⟩
  ·rw [if_neg hq] at hF ⊢
   obtain ⟨h1,h2,h3⟩:=flw hL hF
   rw [if_pos h1,if_neg hq]
   exact ⟨h3,by show 1-x % 2=bit; omega,h2⟩
end Go.Ar
namespace Go.Ar
structure Stf0 (s:Cod) (A:Nat):Prop where
 bs:∀ j,s.bs[j]? = some 255->∀ y,s.bs[j+1]? = some y->y<=143
 last:s.bs.getLast? = some 255->s.l*2 ^ (27-s.t)+s.c+A<=144*2 ^ (27-s.t)
structure Stf (s:Cod) (A:Nat):Prop extends Stf0 s A where
 ff:s.l=255->s.t<=8/\s.c+A<=589824*2 ^ (8-s.t)
section
variable {s:Cod} {A:Nat}
theorem Stf.part (h:Stf s A) {A' a' c' n':Nat} {st':List Nat} {d':Bool} (hc:c'+A'<=s.c+A):Stf { s with a:=a',c:=c',n:=n',st:=st',done:=d' } A':=by
 refine ⟨⟨h.bs,fun hl=>?_⟩,fun hl=>?_⟩
 ·have:=h.last hl
  show s.l*2 ^ (27-s.t)+c'+A'<=144*2 ^ (27-s.t)
  omega
 ·have:=h.ff hl
  exact ⟨this.1,Nat.le_trans hc this.2⟩
theorem Stf.near (h:Stf s A) {j a':Nat} (hj:j<=s.t) (ht:s.t<=27):Stf { s with a:=a',c:=s.c*2 ^ j,t:=s.t-j } (A*2 ^ j):=by
 refine ⟨⟨h.bs,fun hl=>?_⟩,fun hl=>?_⟩
 ·have h1:=Nat.mul_le_mul_right (2 ^ j) (h.last hl)
  show s.l*2 ^ (27-(s.t-j))+s.c*2 ^ j+A*2 ^ j<=144*2 ^ (27-(s.t-j))
  have e:27-(s.t-j)=27-s.t+j:=by omega
  rw [e,Nat.pow_add,<- Nat.mul_assoc,<- Nat.mul_assoc]
  rw [Nat.add_mul,Nat.add_mul] at h1
  exact h1
 ·obtain ⟨h1,h2⟩:=h.ff hl
  have h3:=Nat.mul_le_mul_right (2 ^ j) h2
  refine ⟨by show s.t-j<=8; omega,?_⟩
  show s.c*2 ^ j+A*2 ^ j<=589824*2 ^ (8-(s.t-j))
  have e:8-(s.t-j)=8-s.t+j:=by omega
  rw [e,Nat.pow_add,<- Nat.mul_assoc,<- Nat.add_mul]
  exact h3
theorem Stf.out (h:Stf s A) (ht:s.t=0) (hc:s.c+A<=2 ^ 28) (hA:1<=A):Stf0 (outM s) A/\(A<=65536->Stf (outM s) A):=by
 have key:∀ l c,(l=s.l/\c=s.c/\(l≠255->c<2 ^ 27)\/l=s.l+1/\s.l≠255/\c+2 ^ 27=s.c)->Stf0 (outTail s l c) A/\(A<=65536->Stf (outTail s l c) A):=by
  intro l c hl
  have hbs:(outTail s l c).bs=s.bs++[l]:=by unfold outTail; split <;> rfl
  have hchain:∀ j,(s.bs++[l])[j]? = some 255->∀ y,(s.bs++[l])[j+1]? = some y->y<=143:=by
   intro j hj y hy
   have hlt:=(List.getElem?_eq_some_iff.1 hy).1
   rw [List.length_append,List.length_singleton] at hlt
   rw [List.getElem?_append_left (by omega)] at hj
   rcases Nat.lt_or_ge (j+1) s.bs.length with h1 | h1
   ·rw [List.getElem?_append_left h1] at hy
    exact h.bs j hj y hy
   ·have e:j+1=s.bs.length:=by omega
    rw [e] at hy
    simp at hy
    subst hy
    have hg:s.bs.getLast? = some 255:=by rw [List.getLast?_eq_getElem?,<- e,Nat.add_sub_cancel]; exact hj
    have:=h.last hg
    rw [ht] at this
    omega
  have hlast:(s.bs++[l]).getLast? = some 255->l=255/\c+A<=144*2 ^ 20:=by
   intro hg
   rw [List.getLast?_concat] at hg
   have hl2:l=255:=Option.some.inj hg
   refine ⟨hl2,?_⟩
   rcases hl with ⟨h1,h2,_⟩ | ⟨h1,h2,h3⟩
   ·have:=(h.ff (by omega)).2
    rw [ht] at this
    omega
   ·omega
  have hclt:c<2 ^ 28:=by omega
  have h0:Stf0 (outTail s l c) A:=by
   refine ⟨by rw [hbs]; exact hchain,fun hg=>?_⟩
   rw [hbs] at hg
   obtain ⟨h1,h2⟩:=hlast hg
   unfold outTail
   rw [if_pos h1]
   show c / 1048576 % 256*2 ^ 20+c % 1048576+A<=144*2 ^ 20
   omega
  refine ⟨h0,fun hA2=>⟨h0,fun hl2=>?_⟩⟩
  by_cases h3:l=255
  ·have:=h0.last (by rw [hbs,List.getLast?_concat,h3])
   rw [hl2] at this
   omega
  ·unfold outTail
   rw [if_neg h3]
   refine ⟨Nat.le_refl _,?_⟩
   show c % 524288+A<=589824
   omega
 unfold outM
 split
 ·rename_i h1
  exact key _ _ (.inr ⟨rfl,h1.1,by omega⟩)
 ·rename_i h1
  exact key _ _ (.inl ⟨rfl,rfl,fun h2=>by
   rcases Nat.lt_or_ge s.c 134217728 with h3 | h3
   ·exact h3
   ·exact absurd ⟨h2,h3⟩ h1⟩)
theorem stf_shift (h:Stf s s.a) (hm:Mid s) (ha:s.a<0x8000) (ha1:1<=s.a):Stf (shiftM s) (shiftM s).a:=by
 have ht1:=hm.t1
 have ht2:=hm.t12
 have hca:=hm.ca
 have h1:=h.near (j:=1) (a':=2*s.a) ht1 (by omega)
 rw [Nat.pow_one,Nat.mul_comm s.c 2,Nat.mul_comm s.a 2] at h1
 unfold shiftM
 simp only []
 split
 ·rename_i h0
  have h0:s.t-1=0:=h0
  have ht:s.t=1:=by omega
  rw [ht] at hca
  rw [(outM_same _).1]
  exact (h1.out h0 (by show 2*s.c+2*s.a<=_; omega) (by omega)).2 (by omega)
 ·exact h1
theorem stf_renew:∀ (k:Nat) {s:Cod},Stf s s.a->Mid s->s.a<0x8000->1<=s.a->Stf (renewM k s) (renewM k s).a
 | 0,s,h,_,_,_=>h
 | k+1,s,h,hm,ha,ha1=>by
  obtain ⟨g1,g2,_⟩:=shiftM_mid hm ha
  unfold renewM
  simp only []
  split
  ·exact stf_shift h hm ha ha1
  ·exact stf_renew k (stf_shift h hm ha ha1) g1 (by omega) (by omega)
theorem stf_put (h:Stf s s.a) (hs:Wf s) (k bit:Nat):Stf (putM s k bit) (putM s k bit).a:=by
 have hx:=getD_lt hs.st k
 have hr:s.st.getD k 0 / 2<47:=by omega
 have hq1:=qOf_pos hr
 have hq2:=qOf_le hr
 have hM:=set_lt hs.st (k:=k) (upM_lt hx)
 have hL:=set_lt hs.st (k:=k) (upL_lt hx)
 have hlo:=hs.lo
 have hhi:=hs.hi
 have hca:=hs.ca
 unfold putM
 simp only []
 generalize s.st.getD k 0=x at *
 generalize qOf (x / 2)=q at *
 have lw:∀ {n':Nat} {st':List Nat},(∀ x∈st',x<94)->Stf (renewM 17 { s with a:=q,n:=n',st:=st' }) (renewM 17 { s with a:=q,n:=n',st:=st' }).a:=fun {n' st'} hst =>
  stf_renew 17 (h.part (c':=s.c) (A':=q) (d':=s.done) (by omega)) ⟨hs.t1,hs.t12,by show s.c+q<2 ^ (28-s.t); omega,hs.l,hs.bs,hst⟩ (by show q<_; omega) hq1
 have up:∀ {n':Nat} {st':List Nat},s.a-q<0x8000->1<=s.a-q->(∀ x∈st',x<94)->Stf (renewM 17 { s with a:=s.a-q,c:=s.c+q,n:=n',st:=st' }) (renewM 17 { s with a:=s.a-q,c:=s.c+q,n:=n',st:=st' }).a:=fun {n' st'} h1 h2 hst =>
  stf_renew 17 (h.part (c':=s.c+q) (A':=s.a-q) (d':=s.done) (by omega)) ⟨hs.t1,hs.t12,by show s.c+q+(s.a-q)<2 ^ (28-s.t); omega,hs.l,hs.bs,hst⟩ h1 h2
 split
 ·split
  ·exact h.part (a':=s.a-q) (c':=s.c+q) (A':=s.a-q) (n':=s.n+1) (st':=s.st) (d':=s.done) (by omega)
  ·split
   ·exact lw hM
   ·exact up (by omega) (by omega) hM
 ·split
  ·exact up (by omega) (by omega) hL
  ·exact lw hL
theorem stf_new (m:Nat):Stf (newC m) (newC m).a:=⟨⟨fun j hj=>by simp [newC] at hj,fun hl=>by simp [newC] at hl⟩,fun hl=>by simp [newC] at hl⟩
theorem stf_flush (h:Stf s s.a) (hs:Wf s):Stf0 (flushM s) 1:=by
 have hca:=hs.ca
 have ht1:=hs.t1
 have ht2:=hs.t12
 have hlo:=hs.lo
 have hf1:s.c<=flushC s/\flushC s+1<=s.c+s.a:=by
  unfold flushC
  simp only []
  split <;> omega
 have h0:Stf { s with c:=flushC s,done:=true } 1:=h.part (a':=s.a) (n':=s.n) (st':=s.st) (by omega)
 have hS:flushM s=flushS (flushS { s with c:=flushC s,done:=true }):=rfl
 rw [hS]
 generalize hS0:({ s with c:=flushC s,done:=true }:Cod)=S0 at h0
 have hS0t:S0.t=s.t:=by rw [<- hS0]
 have hS0c:S0.c=flushC s:=by rw [<- hS0]
 have h1:=h0.near (j:=S0.t) (a':=S0.a) (Nat.le_refl _) (by omega)
 have hp:(2:Nat) ^ (28-s.t)*2 ^ s.t=2 ^ 28:=by rw [<- Nat.pow_add]; congr 1; omega
 have hp12:(2:Nat) ^ s.t<=2 ^ 12:=Nat.pow_le_pow_right (by omega) ht2
 have h2:=(h1.out (Nat.sub_self _) (by
  show S0.c*2 ^ S0.t+1*2 ^ S0.t<=2 ^ 28
  rw [<- Nat.add_mul,hS0c,hS0t,<- hp]
  exact Nat.mul_le_mul_right _ (by omega)) (by have:=Nat.two_pow_pos S0.t; omega)).2 (by rw [hS0t]; omega)
 have e1:outM { S0 with c:=S0.c*2 ^ S0.t,t:=S0.t-S0.t }=flushS S0:=outM_t { S0 with c:=S0.c*2 ^ S0.t } _
 rw [e1] at h2
 obtain ⟨hc1,ht1'⟩:=outM_ct { S0 with c:=S0.c*2 ^ S0.t,t:=S0.t-S0.t }
 rw [e1] at hc1 ht1'
 generalize flushS S0=S1 at *
 rw [hS0t,Nat.one_mul] at h2
 have h3:=h2.near (j:=S1.t) (a':=S1.a) (Nat.le_refl _) (by omega)
 have hp1:(2:Nat) ^ (27-S1.t)*2 ^ S1.t=2 ^ 27:=by rw [<- Nat.pow_add]; congr 1; omega
 have hc1lt:S1.c<2 ^ (27-S1.t):=by rw [hc1]; exact Nat.mod_lt _ (Nat.two_pow_pos _)
 have hp8:(2:Nat) ^ S1.t<=2 ^ 8:=Nat.pow_le_pow_right (by omega) (by omega)
 have hpp:2 ^ s.t*2 ^ S1.t<=2 ^ 12*2 ^ 8:=Nat.mul_le_mul hp12 hp8
 have hpz:0<2 ^ s.t*2 ^ S1.t:=Nat.mul_pos (Nat.two_pow_pos _) (Nat.two_pow_pos _)
 have h4:=(h3.out (Nat.sub_self _) (by
  show S1.c*2 ^ S1.t+2 ^ s.t*2 ^ S1.t<=2 ^ 28
  have:=Nat.mul_lt_mul_of_pos_right hc1lt (Nat.two_pow_pos S1.t)
  omega) hpz).1
 have e2:outM { S1 with c:=S1.c*2 ^ S1.t,t:=S1.t-S1.t }=flushS S1:=outM_t { S1 with c:=S1.c*2 ^ S1.t } _
 rw [e2] at h4
 exact ⟨h4.bs,fun hl=>by have:=h4.last hl; omega⟩
end
theorem codeE_get {F:Cod} (j:Nat) (h:j<F.bs.length):fE (codeE F) j=F.bs.getD j 0/\F.bs[j]? = some (fE (codeE F) j):=by
 unfold fE codeE
 rw [List.getD_eq_getElem?_getD,List.getD_eq_getElem?_getD,List.getElem?_append_left h,List.getElem?_eq_getElem h]
 exact ⟨rfl,rfl⟩
theorem codeE_last {F:Cod}:fE (codeE F) F.bs.length=F.l:=by
 unfold fE codeE
 rw [List.getD_eq_getElem?_getD]; simp
theorem codeE_len {F:Cod}:(codeE F).length=F.bs.length+1:=by simp [codeE]
theorem Stf0.prev {F:Cod} (h:Stf0 F 1) (hl:F.bs.getLast? = some 255):F.l<=143:=by
 have h1:=h.last hl
 have h2:=Nat.two_pow_pos (27-F.t)
 have h3:F.l*2 ^ (27-F.t)<144*2 ^ (27-F.t):=by omega
 have:=Nat.lt_of_mul_lt_mul_right h3
 omega
theorem Stf0.stuffed {F:Cod} (h:Stf0 F 1):Stuffed (codeE F):=by
 intro j hj hlt
 rw [codeE_len] at hlt
 have hjl:j<F.bs.length:=by omega
 have h1:=(codeE_get j hjl).2
 rw [hj] at h1
 rcases Nat.lt_or_ge (j+1) F.bs.length with h2 | h2
 ·exact h.bs j h1 _ (codeE_get (j+1) h2).2
 ·have e:j+1=F.bs.length:=by omega
  rw [e,codeE_last]
  refine h.prev ?_
  rw [List.getLast?_eq_getElem?,<- e,Nat.add_sub_cancel]
  exact h1
theorem bytes_code {F:Cod} (j:Nat):(bytesM F).getD j 255=fE (codeE F) (j+1):=by
 have hc:bytesM F=if F.l=255 then ((codeE F).drop 1).dropLast else (codeE F).drop 1:=rfl
 have hd:((codeE F).drop 1).getD j 255=fE (codeE F) (j+1):=by
  unfold fE
  rw [List.getD_eq_getElem?_getD,List.getD_eq_getElem?_getD,List.getElem?_drop,Nat.add_comm 1 j]
 rw [hc]
 split
 ·rename_i hl
  have hlen:=codeE_len (F:=F)
  have hdl:((codeE F).drop 1).length=F.bs.length:=by rw [List.length_drop,hlen]; omega
  rcases Nat.lt_trichotomy (j+1) F.bs.length with h1 | h1 | h1
  ·rw [<- hd,List.getD_eq_getElem?_getD,List.getD_eq_getElem?_getD,List.dropLast_eq_take,List.getElem?_take_of_lt (by omega)]
  ·have e:fE (codeE F) (j+1)=255:=by rw [h1,codeE_last,hl]
   rw [e,List.getD_eq_getElem?_getD,List.getElem?_eq_none (by rw [List.length_dropLast]; omega)]
   rfl
  ·rw [fE_end _ (by omega),List.getD_eq_getElem?_getD,List.getElem?_eq_none (by rw [List.length_dropLast]; omega)]
   rfl
 ·exact hd
theorem fut_put {E:List Nat} {s:Cod} (hs:Wf s) {k bit:Nat} (hF:Fut E (putM s k bit) (putM s k bit).a):Fut E s s.a:=by
 have hx:=getD_lt hs.st k
 have hr:s.st.getD k 0 / 2<47:=by omega
 have hq1:=qOf_pos hr
 have hq2:=qOf_le hr
 have hM:=set_lt hs.st (k:=k) (upM_lt hx)
 have hL:=set_lt hs.st (k:=k) (upL_lt hx)
 have hlo:=hs.lo
 have hhi:=hs.hi
 have hca:=hs.ca
 have h17:(2:Nat) ^ 17=131072:=rfl
 unfold putM at hF
 simp only [] at hF
 generalize s.st.getD k 0=x at *
 generalize qOf (x / 2)=q at *
 have lw:∀ {n':Nat} {st':List Nat},(∀ x∈st',x<94)->Fut E (renewM 17 { s with a:=q,n:=n',st:=st' }) (renewM 17 { s with a:=q,n:=n',st:=st' }).a->Fut E s s.a:=fun {n' st'} hst h =>
  Fut.part (s:=s) (c':=s.c) (d':=s.done) (Fut.renew 17 (s:={ s with a:=q,n:=n',st:=st' }) ⟨hs.t1,hs.t12,by show s.c+q<2 ^ (28-s.t); omega,hs.l,hs.bs,hst⟩ (by show q<_; omega) (by show _<=q*_; omega) h) (by omega) (by show s.c+q<=_; omega)
 have up:∀ {n':Nat} {st':List Nat},s.a-q<0x8000->1<=s.a-q->(∀ x∈st',x<94)->Fut E (renewM 17 { s with a:=s.a-q,c:=s.c+q,n:=n',st:=st' }) (renewM 17 { s with a:=s.a-q,c:=s.c+q,n:=n',st:=st' }).a->Fut E s s.a:=fun {n' st'} h1 h2 hst h =>
  Fut.part (s:=s) (d':=s.done) (Fut.renew 17 (s:={ s with a:=s.a-q,c:=s.c+q,n:=n',st:=st' }) ⟨hs.t1,hs.t12,by show s.c+q+(s.a-q)<2 ^ (28-s.t); omega,hs.l,hs.bs,hst⟩ h1 (by show _<=(s.a-q)*_; omega) h) (by omega) (by show s.c+q+(s.a-q)<=_; omega)
 split at hF
 ·split at hF
  ·exact Fut.part (s:=s) (A:=s.a-q) (d':=s.done) hF (by omega) (by omega)
  ·split at hF
   ·exact lw hM hF
   ·exact up (by omega) (by omega) hM hF
 ·split at hF
  ·exact up (by omega) (by omega) hL hF
  ·exact lw hL hF
theorem sync_new {E:List Nat} {m:Nat} {b:List Nat} (hE:Stuffed E) (hb:∀ j,b.getD j 255=fE E (j+1)) (hlt:∀ x∈b,x<256) (hF:Fut E (newC m) (newC m).a):Sync E (newC m) (newD b m):=by
 have hX0:fE E 0=0:=by
  have:=hF.hi 0
  have e:lowC (newC m)=0:=by simp [lowC,newC,valL,valR]
  rw [e] at this
  have e2:XE E 0=fE E 0:=rfl
  rw [e2] at this
  simp [newC,BE] at this
  omega
 have hb0:∀ d:Dec,d.b=b->∀ j,byteD d j=fE E (j+1):=fun d e j=>by unfold byteD; rw [e]; exact hb j
 have hl1:lenE E 1=8:=by
  unfold lenE
  rw [if_neg]
  rintro ⟨_,h⟩
  rw [show 1-1=0 from rfl,hX0] at h
  omega
 have hX1:XE E 1=fE E 1:=by
  show XE E 0*2 ^ lenE E 1+fE E 1=_
  have:XE E 0=0:=hX0
  rw [this]; omega
 have hf1:fE E 1<256:=by rw [<- hb0 { a:=0,c:=0,t:=0,n:=0,st:=[],b:=b,i:=0 } rfl 0]; exact byteD_lt (s:={ a:=0,c:=0,t:=0,n:=0,st:=[],b:=b,i:=0 }) hlt 0
 have hf2:fE E 2<256:=by rw [<- hb0 { a:=0,c:=0,t:=0,n:=0,st:=[],b:=b,i:=0 } rfl 1]; exact byteD_lt (s:={ a:=0,c:=0,t:=0,n:=0,st:=[],b:=b,i:=0 }) hlt 1
 have hc0:b.getD 0 255=fE E 1:=hb 0
 generalize hd:({ a:=0x8000,c:=b.getD 0 255*65536,t:=0,n:=0,st:=List.replicate m 0,b:=b,i:=0 }:Dec)=d
 have hdc:d.c=fE E 1*65536:=by rw [<- hd]; show b.getD 0 255*65536=_; rw [hc0]
 have hP:Pos E d 1:=⟨hb0 d (by rw [<- hd]), .inl (by rw [<- hd])⟩
 obtain ⟨q1,q2,q3⟩:=inD_pos hE hP
 have hnew:newD b m = { inD d with c:=(inD d).c*128 % M32,t:=(inD d).t-7 }:=by rw [<- hd]; rfl
 have hst:(inD d).a=0x8000/\(inD d).n=0/\(inD d).st=List.replicate m 0:=by
  rw [<- hd]; unfold inD; split
  ·exact ⟨rfl,rfl,rfl⟩
  ·split <;> exact ⟨rfl,rfl,rfl⟩
 obtain ⟨l1,l2⟩:=lenE_le E 2
 have hXX:XE E 2=fE E 1*2 ^ lenE E 2+fE E 2:=by show XE E 1*_+_=_; rw [hX1]
 have hBB:BE E 2=8+lenE E 2:=by show 0+lenE E 1+lenE E 2=_; rw [hl1]
 have q2:(inD d).t=lenE E 2:=q2
 have q3:(inD d).c=(d.c+fE E 2*2 ^ (16-lenE E 2)) % M32:=q3
 rw [hnew]
 refine ⟨hst.1,hst.2.2,hst.2.1,2,⟨⟨q1.by_,q1.at_⟩,?_,?_⟩⟩
 ·show BE E 2=0+(27-12)+((inD d).t-7)
  omega
 ·have e:lowC (newC m)=0:=by simp [lowC,newC,valL,valR]
  show (inD d).c*128 % M32+lowC (newC m)*65536=XE E 2*2 ^ (16-((inD d).t-7))
  have hM:M32=4294967296:=rfl
  rw [e,q3,q2,hXX,hdc,hM]
  rcases (show lenE E 2=7\/lenE E 2=8 by omega) with h | h <;> rw [h] <;> simp only [show (16-7)=9 from rfl,show 16-8=8 from rfl,show 16-(7-7)=16 from rfl,show 16-(8-7)=15 from rfl] <;> omega
section
variable (k b:Nat->Nat) (m cnt:Nat)
theorem codN_wf (h:∀ i,i<cnt->b i<=1):∀ i,i<=cnt->i<=16777216->Wf (codN k b m i)/\(codN k b m i).n=i
 | 0,_,_=>⟨newC_wf m,rfl⟩
 | i+1,hi,h2=>by
  obtain ⟨g1,g2⟩:=codN_wf h i (by omega) (by omega)
  exact ⟨putM_wf g1 _ _ (by omega),by show (putM _ _ _).n=_; rw [(putM_n _ _ _).1,g2]⟩
theorem codN_stf (h:∀ i,i<cnt->b i<=1):∀ i,i<=cnt->i<=16777216->Stf (codN k b m i) (codN k b m i).a
 | 0,_,_=>stf_new m
 | i+1,hi,h2=>stf_put (codN_stf h i (by omega) (by omega)) (codN_wf k b m cnt h i (by omega) (by omega)).1 _ _
theorem fut_run (h:∀ i,i<cnt->b i<=1) (hc:cnt<=16777216):∀ d,d<=cnt->Fut (codeE (flushM (codN k b m cnt))) (codN k b m (cnt-d)) (codN k b m (cnt-d)).a
 | 0,_=>fut_flush (codN_wf k b m cnt h cnt (Nat.le_refl _) hc).1
 | d+1,hd=>by
  have h1:=fut_run h hc d (by omega)
  have e:cnt-d=(cnt-(d+1))+1:=by omega
  rw [e] at h1
  exact fut_put (codN_wf k b m cnt h _ (by omega) (by omega)).1 h1
theorem decN_wfD {bytes:List Nat} (hb:∀ x∈bytes,x<256):∀ i,i<=16777216->WfD (decN k bytes m i)/\(decN k bytes m i).n=i
 | 0,_=>by
  have hnew:∀ d:Dec,MidD d->d.a=0x8000->d.n=0->WfD { inD d with c:=(inD d).c*128 % M32,t:=(inD d).t-7 }/\({ inD d with c:=(inD d).c*128 % M32,t:=(inD d).t-7 }:Dec).n=0:=fun d hd ha hn=>by
   obtain ⟨i1,i2,i3,i4,i5,i6⟩:=inD_mid hd
   have:=i1.t8
   exact ⟨⟨⟨by show (inD d).t-7<=8; omega,Nat.mod_lt _ (by decide),i1.b,i1.st,i1.i⟩,by show (inD d).n<=_; omega,by show _<=(inD d).a; omega,by show (inD d).a<_; omega⟩,by show (inD d).n=0; omega⟩
  refine hnew { a:=0x8000,c:=bytes.getD 0 255*65536,t:=0,n:=0,st:=List.replicate m 0,b:=bytes,i:=0 } ⟨Nat.zero_le _,?_,hb,fun x hx=>by simp only [List.mem_replicate] at hx; omega,Nat.zero_le _⟩ rfl rfl
  have:=byteD_lt (s:={ a:=0,c:=0,t:=0,n:=0,st:=[],b:=bytes,i:=0 }) hb 0
  have e:byteD { a:=0,c:=0,t:=0,n:=0,st:=[],b:=bytes,i:=0 } 0=bytes.getD 0 255:=rfl
  show bytes.getD 0 255*65536<4294967296
  omega
 | i+1,h=>by
  obtain ⟨g1,g2⟩:=decN_wfD hb i (by omega)
  refine ⟨getD_wf g1 _ (by omega),?_⟩
  have hrn:∀ (j:Nat) (s:Dec),(renewD j s).n=s.n:=by
   have hi:∀ s:Dec,(inD s).n=s.n:=fun s=>by unfold inD; split; rfl; split <;> rfl
   have hs:∀ s:Dec,(shiftD s).n=s.n:=fun s=>by unfold shiftD; simp only []; split; exact hi s; rfl
   intro j
   induction j with
   | zero=>intro s; rfl
   | succ j ih=>intro s; unfold renewD; simp only []; split; exact hs s; exact (ih _).trans (hs s)
  show (getD (decN k bytes m i) (k i)).1.n=i+1
  unfold getD
  simp only []
  split
  ·split <;> (rw [hrn]; exact congrArg (· + 1) g2)
  ·split
   ·exact congrArg (· + 1) g2
   ·split <;> (rw [hrn]; exact congrArg (· + 1) g2)
theorem back_run (h:∀ i,i<cnt->b i<=1) (hc:cnt<=16777216) (hlt:∀ x∈bytesM (flushM (codN k b m cnt)),x<256):∀ i,i<=cnt ->
  Sync (codeE (flushM (codN k b m cnt))) (codN k b m i) (decN k (bytesM (flushM (codN k b m cnt))) m i)
 | 0,_=>by
  have hE:=(stf_flush (codN_stf k b m cnt h cnt (Nat.le_refl _) hc) (codN_wf k b m cnt h cnt (Nat.le_refl _) hc).1).stuffed
  have hF:=fut_run k b m cnt h hc cnt (Nat.le_refl _)
  rw [Nat.sub_self] at hF
  exact sync_new hE bytes_code hlt hF
 | i+1,hi=>by
  have hE:=(stf_flush (codN_stf k b m cnt h cnt (Nat.le_refl _) hc) (codN_wf k b m cnt h cnt (Nat.le_refl _) hc).1).stuffed
  have hF:=fut_run k b m cnt h hc (cnt-(i+1)) (by omega)
  rw [show cnt-(cnt-(i+1))=i+1 by omega] at hF
  exact (sync_put hE (codN_wf k b m cnt h i (by omega) (by omega)).1 (decN_wfD k m hlt i (by omega)).1 (back_run h hc hlt i (by omega)) (h i (by omega)) hF).1
theorem back_bit (h:∀ i,i<cnt->b i<=1) (hc:cnt<=16777216) (hlt:∀ x∈bytesM (flushM (codN k b m cnt)),x<256) {i:Nat} (hi:i<cnt) :
  (getD (decN k (bytesM (flushM (codN k b m cnt))) m i) (k i)).2=b i:=by
 have hE:=(stf_flush (codN_stf k b m cnt h cnt (Nat.le_refl _) hc) (codN_wf k b m cnt h cnt (Nat.le_refl _) hc).1).stuffed
 have hF:=fut_run k b m cnt h hc (cnt-(i+1)) (by omega)
 rw [show cnt-(cnt-(i+1))=i+1 by omega] at hF
 exact (sync_put hE (codN_wf k b m cnt h i (by omega) (by omega)).1 (decN_wfD k m hlt i (by omega)).1 (back_run k b m cnt h hc hlt i (by omega)) (h i hi) hF).2.1
end
end Go.Ar
namespace Go.Bm
open Go Go.Den Go.Den.YtfaclehehhgpcaaGreat
section
variable (G R:Int->Int->Bool) (W m:Nat) (dx dy base:Int)
def partG (i:Nat):Int->Int->Bool:=fun x y=>decide (0<=x/\x<W/\0<=y/\y.toNat*W+x.toNat<i) && G x y
variable (hG:∀ x y:Int,¬ (0<=x/\x<W/\0<=y)->G x y=false)
include hG
theorem partG_eq {i:Nat} {x y:Int} (h:0<=x->x<W->0<=y->y.toNat*W+x.toNat<i):partG G W i x y=G x y:=by
 unfold partG
 by_cases h1:0<=x/\x<W/\0<=y
 ·rw [decide_eq_true ⟨h1.1,h1.2.1,h1.2.2,h h1.1 h1.2.1 h1.2.2⟩,Bool.true_and]
 ·rw [hG _ _ h1,Bool.and_false]
theorem partG_next {x y:Nat} (hx:x<W):upd (partG G W (y*W+x)) (x:Int) (y:Int) (G (x:Int) (y:Int))=partG G W (y*W+x+1):=by
 have _:=hG
 funext a b
 unfold upd
 by_cases h1:a=x/\b=y
 ·obtain ⟨rfl,rfl⟩:=h1
  rw [if_pos ⟨rfl,rfl⟩]
  unfold partG
  rw [decide_eq_true ⟨by omega,by omega,by omega,by simp⟩,Bool.true_and]
 ·rw [if_neg h1]
  unfold partG
  congr 1
  rw [decide_eq_decide]
  constructor
  ·rintro ⟨h2,h3,h4,h5⟩; exact ⟨h2,h3,h4,by omega⟩
  ·rintro ⟨h2,h3,h4,h5⟩
   refine ⟨h2,h3,h4,?_⟩
   rcases Nat.lt_or_ge (b.toNat*W+a.toNat) (y*W+x) with h6 | h6
   ·exact h6
   ·exfalso
    have h7:b.toNat*W+a.toNat=y*W+x:=by omega
    have:=idx_inj (wd:=W) (c:=a.toNat) (c':=x) (y:=b.toNat) (y':=y) (by omega) hx h7
    exact h1 ⟨by omega,by omega⟩
end
end Go.Bm
namespace Go.Ar
open Go Go.Den Go.Den.YtfaclehehhgpcaaGreat
end Go.Ar
namespace Go.Bm
open Go Go.Den Go.Den.YtfaclehehhgpcaaGreat
theorem getP_out (ws:List Nat) (W X:Nat) (x y:Int) (h:¬ (0<=x/\x<W/\0<=y)):getP ws W X x y=false:=by
 unfold getP
 rw [decide_eq_false (by omega),Bool.false_and]
theorem getP_ext {W X:Nat} {a b:List Nat} (ha:a.length=X*wds W) (hb:b.length=X*wds W) (wa:W64 a) (wb:W64 b) (za:PadZ W X a) (zb:PadZ W X b) (h:getP a W X=getP b W X):a=b:=by
 refine pix_ext ha hb wa wb fun y hy x hx=>?_
 rcases Nat.lt_or_ge x W with h1 | h1
 ·have:=congrFun (congrFun h (x:Int)) (y:Int)
  unfold getP at this
  rw [decide_eq_true (by omega),Bool.true_and,Bool.true_and,Int.toNat_natCast,Int.toNat_natCast] at this
  exact this
 ·rw [za y hy x h1 hx,zb y hy x h1 hx]
theorem part_all (ws:List Nat) (W X:Nat):partG (getP ws W X) W (X*W)=getP ws W X:=by
 funext x y
 unfold partG
 by_cases h:0<=x/\0<=y/\x<W/\y<X
 ·have h2:y.toNat*W+x.toNat<X*W:=by
   have:(y.toNat+1)*W<=X*W:=Nat.mul_le_mul_right _ (by omega)
   rw [Nat.add_mul,Nat.one_mul] at this
   omega
  rw [decide_eq_true ⟨h.1,h.2.2.1,h.2.1,h2⟩,Bool.true_and]
 ·unfold getP
  rw [decide_eq_false h,Bool.false_and,Bool.and_false]
end Go.Bm
namespace Go.Den
open Go
section
variable {h0 h:Heap} {FF:List Nat} {L:List Ent}
theorem hpA (H:Hp h0 FF h L) (k:Nat) {b o i:Nat} {w:Bool} {t:TypeId} {cs:List Value} {v:Value} (he:L[k]? = some ⟨b,w,t,cs⟩) (hv:cs[o+i]? = some v):hcell h ((⟨b,o,none⟩:Addr).add i)=some v:=by
 rw [add_mk]
 exact H.cell k he hv
theorem hpB (H:Hp h0 FF h L) (k:Nat) {b o i j:Nat} {w:Bool} {t:TypeId} {cs:List Value} {v:Value} (he:L[k]? = some ⟨b,w,t,cs⟩) (hv:cs[o+i+j]? = some v):hcell h (((⟨b,o,none⟩:Addr).add i).add j)=some v:=by
 rw [add_mk,add_mk]
 exact H.cell k he hv
theorem hpC (H:Hp h0 FF h L) (k:Nat) {b o i j l:Nat} {w:Bool} {t:TypeId} {cs:List Value} {v:Value} (he:L[k]? = some ⟨b,w,t,cs⟩) (hv:cs[o+i+j+l]? = some v):hcell h ((((⟨b,o,none⟩:Addr).add i).add j).add l)=some v:=by
 rw [add_mk,add_mk,add_mk]
 exact H.cell k he hv
theorem stA (H:Hp h0 FF h L) (k:Nat) {b o i:Nat} {t:TypeId} {cs:List Value} {v:Value} {K:Heap->Prop} (he:L[k]? = some ⟨b,true,t,cs⟩) (hi:Nat.ble (o+i+1) cs.length=true) (hv:v.oneCell'=true)
  (hk:∀ h',Hp h0 FF h' (L.set k ⟨b,true,t,cs.set (o+i) v⟩)->K h'):stV h ((⟨b,o,none⟩:Addr).add i) v K:=by
 rw [add_mk]
 exact stV_hp H k he (Nat.le_of_ble_eq_true hi) hv fun h' _ H'=>hk h' H'
theorem stB (H:Hp h0 FF h L) (k:Nat) {b o i j:Nat} {t:TypeId} {cs:List Value} {v:Value} {K:Heap->Prop} (he:L[k]? = some ⟨b,true,t,cs⟩) (hi:Nat.ble (o+i+j+1) cs.length=true) (hv:v.oneCell'=true)
  (hk:∀ h',Hp h0 FF h' (L.set k ⟨b,true,t,cs.set (o+i+j) v⟩)->K h'):stV h (((⟨b,o,none⟩:Addr).add i).add j) v K:=by
 rw [add_mk,add_mk]
 exact stV_hp H k he (Nat.le_of_ble_eq_true hi) hv fun h' _ H'=>hk h' H'
theorem st0 (H:Hp h0 FF h L) (k:Nat) {b i:Nat} {t:TypeId} {cs:List Value} {v:Value} {K:Heap->Prop} (he:L[k]? = some ⟨b,true,t,cs⟩) (hi:Nat.ble (i+1) cs.length=true) (hv:v.oneCell'=true)
  (hk:∀ h',Hp h0 FF h' (L.set k ⟨b,true,t,cs.set i v⟩)->K h'):stV h ⟨b,i,none⟩ v K :=
 stV_hp H k he (Nat.le_of_ble_eq_true hi) hv fun h' _ H'=>hk h' H'
end
end Go.Den
namespace Go.Den.YtfaclehehhgpcaaGreat
open Go Go.Den
def context_Size (C:CallP) (template:Int) (h:Heap) (K:VK) (Kp:PK):Prop :=
C F_context_spans #[.int .i64 template] h (fun v_1 h_2 =>
∃ (r_3:Option Addr) (r_3n:Nat) (r_3c:Nat),v_1 = .slice r_3 r_3n r_3c/\(
bcase (Option.isNone r_3) (
K (.tuple #[.int .i64 0, .int .i64 60]) h_2) <|
∃ J_4:Nat->List Value->Heap->Prop,(∃ n_6,J_4 n_6 [.int .i64 0, .int .i64 0] h_2)/\∀ (n_6:Nat) (h_7:Heap) (u_8:Nat->Value) (n_9:Int) (x_10:Int),J_4 n_6 [.int .i64 n_9, .int .i64 x_10] h_7->(
bcase (decide (x_10<(r_3n:Int))) (
needs (0<=x_10/\x_10<(r_3n:Int)) <|
ptr r_3 fun a_11 =>
ldI h_7 ((a_11.add (x_10.toNat*3)).add 0) .i64 fun x_12 =>
ldI h_7 ((a_11.add (x_10.toNat*3)).add 1) .i64 fun x_13 =>
ldI h_7 ((a_11.add (x_10.toNat*3)).add 2) .i64 fun x_14 =>
newC h_7 [.int .i64 0, .int .i64 0, .int .i64 0] T_context_span fun r_15 h_16 =>
stV h_16 ((⟨r_15,0,none⟩:Addr).add 0) (.int .i64 x_12) fun h_17 =>
stV h_17 ((⟨r_15,0,none⟩:Addr).add 1) (.int .i64 x_13) fun h_18 =>
stV h_18 ((⟨r_15,0,none⟩:Addr).add 2) (.int .i64 x_14) fun h_19 =>
ldI h_19 ((⟨r_15,0,none⟩:Addr).add 2) .i64 fun x_20 =>
ldI h_19 ((⟨r_15,0,none⟩:Addr).add 1) .i64 fun x_21 =>
bindI (IntKind.i64.wrap (x_20-x_21)) fun z_22 =>
bindI (IntKind.i64.wrap (z_22+(1:Int))) fun z_23 =>
bindI (IntKind.i64.wrap (n_9+z_23)) fun z_24 =>
bindI (IntKind.i64.wrap (x_10+(1:Int))) fun z_25 =>
∃ m_5,m_5<n_6/\J_4 m_5 [.int .i64 z_24, .int .i64 z_25] h_19) <|
needs (0<=n_9) <|
bindI (shlI .i64 (1:Int) n_9) fun z_26 =>
K (.tuple #[.int .i64 z_26, .int .i64 0]) h_7))) (Kp)
def context_spans (C:CallP) (template:Int) (h:Heap) (K:VK) (Kp:PK):Prop :=
bcase (template == (0:Int)) (
newC h [.int .i64 (-2), .int .i64 (-2), .int .i64 2, .int .i64 (-1), .int .i64 (-3), .int .i64 3, .int .i64 0, .int .i64 (-4), .int .i64 (-1)] T_context_span fun r_1 h_2 =>
K (.slice (some ⟨r_1,0,none⟩) 3 3) h_2) <|
bcase (template == (1:Int)) (
newC h [.int .i64 (-2), .int .i64 (-1), .int .i64 2, .int .i64 (-1), .int .i64 (-2), .int .i64 3, .int .i64 0, .int .i64 (-3), .int .i64 (-1)] T_context_span fun r_3 h_4 =>
K (.slice (some ⟨r_3,0,none⟩) 3 3) h_4) <|
bcase (template == (2:Int)) (
newC h [.int .i64 (-2), .int .i64 (-1), .int .i64 1, .int .i64 (-1), .int .i64 (-2), .int .i64 2, .int .i64 0, .int .i64 (-2), .int .i64 (-1)] T_context_span fun r_5 h_6 =>
K (.slice (some ⟨r_5,0,none⟩) 3 3) h_6) <|
bcase (template == (3:Int)) (
newC h [.int .i64 (-1), .int .i64 (-3), .int .i64 2, .int .i64 0, .int .i64 (-4), .int .i64 (-1)] T_context_span fun r_7 h_8 =>
K (.slice (some ⟨r_7,0,none⟩) 2 2) h_8) <|
K (.slice none 0 0) h
end Go.Den.YtfaclehehhgpcaaGreat
namespace Go.Den.YtfaclehehhgpcaaGreat
open Go Go.Den
theorem call_context_Size {template:Int} {h:Heap} {K:VK} {Kp:PK} (H:context_Size (CallsHP Go.Proofs.Tryz.prog) template h K Kp):CallsHP Go.Proofs.Tryz.prog F_context_Size #[.int .i64 template] h K Kp :=
 callsHP_ofE (Hints.mk (fun i=>none) (fun i=>bif Nat.beq i 6 then some ([(5, .int .i64),(14, .int .i64)],134201504) else (none)) (fun i=>none) []) (by kernel_rfl) Go.Proofs.Tryz.func88 (by kernel_rfl) (fun C=>context_Size C template h K Kp) (fun C=>by kernel_rfl) H
theorem call_context_spans {template:Int} {h:Heap} {K:VK} {Kp:PK} (H:context_spans (CallsHP Go.Proofs.Tryz.prog) template h K Kp):CallsHP Go.Proofs.Tryz.prog F_context_spans #[.int .i64 template] h K Kp :=
 callsHP_ofE (Hints.mk (fun i=>none) (fun i=>none) (fun i=>none) []) (by kernel_rfl) Go.Proofs.Tryz.func140 (by kernel_rfl) (fun C=>context_spans C template h K Kp) (fun C=>by kernel_rfl) H
end Go.Den.YtfaclehehhgpcaaGreat
namespace Go.Den.YtfaclehehhgpcaaGreat
open Go Go.Den
def generic_Put (C:CallP) (c:Option Addr) (base:Int) (b_1:Int) (b_2:Int) (b_3:Option Addr) (b_3n:Nat) (b_3c:Nat) (template:Int) (skip:Bool) (h:Heap) (K:VK) (Kp:PK):Prop :=
newC h [.int .i64 b_1, .int .i64 b_2, .slice b_3 b_3n b_3c] T_api_Bitmap fun r_4 h_5 =>
bcase c.isNone (
K (.int .i64 53) h_5) <|
C F_context_Size #[.int .i64 template] h_5 (fun v_6 h_7 =>
∃ (r_8:Int),∃ (r_9:Int),v_6 = .tuple #[.int .i64 r_8, .int .i64 r_9]/\(
newC h_7 [.int .i64 0] T_int fun r_10 h_11 =>
stV h_11 (⟨r_10,0,none⟩:Addr) (.int .i64 r_8) fun h_12 =>
bcase (r_9 != (0:Int)) (
K (.int .i64 r_9) h_12) <|
ldI h_12 ((⟨r_4,0,none⟩:Addr).add 0) .i64 fun x_13 =>
ldI h_12 ((⟨r_4,0,none⟩:Addr).add 1) .i64 fun x_14 =>
ldS h_12 ((⟨r_4,0,none⟩:Addr).add 2) fun x_15 x_15n x_15c =>
C F_bitmap_From #[.agg #[.int .i64 x_13, .int .i64 x_14, .slice x_15 x_15n x_15c]] h_12 (fun v_16 h_17 =>
∃ (r_18:Option Addr),∃ (r_19:Int),v_16 = .tuple #[.pointer r_18, .int .i64 r_19]/\(
bcase (r_19 != (0:Int)) (
K (.int .i64 62) h_17) <|
ptr c fun a_20 =>
ldI h_17 (⟨r_10,0,none⟩:Addr) .i64 fun x_21 =>
bindI (IntKind.i64.wrap (x_21+(1:Int))) fun z_22 =>
C F_arith_table_Contexts #[.pointer (some (a_20.add 0))] h_17 (fun v_23 h_24 =>
∃ (r_25:Int),v_23 = .int .i64 r_25/\(
hext h_17 h_24/\(
C F_generic_fits #[.int .i64 base, .int .i64 z_22, .int .i64 r_25] h_24 (fun v_26 h_27 =>
∃ (r_28:Bool),v_26 = .bool r_28/\(
bcase (!r_28) (
K (.int .i64 51) h_27) <|
newC h_27 [.iface T_generic_coding (.agg #[.pointer c]), .pointer r_18, .int .i64 base, .int .i64 template, .bool skip] T_generic_procedure fun r_29 h_30 =>
newC h_30 [.pointer none] T_p_generic_procedure fun r_31 h_32 =>
stV h_32 (⟨r_31,0,none⟩:Addr) (.pointer (some ⟨r_29,0,none⟩)) fun h_33 =>
C F_generic_caught #[.func (.func F_generic_Put_c1) #[] #[.pointer (some ⟨r_31,0,none⟩), .pointer (some ⟨r_10,0,none⟩)]] h_33 (fun v_34 h_35 =>
∃ (r_36:Int),v_34 = .int .i64 r_36/\(
K (.int .i64 r_36) h_35)) (Kp))) (Kp)))) (Kp))) (Kp))) (Kp)
def generic_Get (C:CallP) (a0:Option Addr) (a1:Int) (a2:Int) (a3:Int) (a4:Int) (a5:Bool) (h:Heap) (K:VK) (Kp:PK):Prop :=
newC h [.int .i64 0, .int .i64 0, .slice none 0 0] T_api_Bitmap fun r_1 h_2 =>
bcase a0.isNone (
stV h_2 ((⟨r_1,0,none⟩:Addr).add 0) (.int .i64 0) fun h_3 =>
stV h_3 ((⟨r_1,0,none⟩:Addr).add 1) (.int .i64 0) fun h_4 =>
stV h_4 ((⟨r_1,0,none⟩:Addr).add 2) (.slice none 0 0) fun h_5 =>
ldI h_5 ((⟨r_1,0,none⟩:Addr).add 0) .i64 fun r_6 =>
ldI h_5 ((⟨r_1,0,none⟩:Addr).add 1) .i64 fun r_7 =>
ldS h_5 ((⟨r_1,0,none⟩:Addr).add 2) fun r_8 r_8n r_8c =>
K (.tuple #[.agg #[.int .i64 r_6, .int .i64 r_7, .slice r_8 r_8n r_8c], .int .i64 53]) h_5) <|
C F_context_Size #[.int .i64 a4] h_2 (fun v_9 h_10 =>
∃ (r_11:Int),∃ (r_12:Int),v_9 = .tuple #[.int .i64 r_11, .int .i64 r_12]/\(
newC h_10 [.int .i64 0] T_int fun r_13 h_14 =>
stV h_14 (⟨r_13,0,none⟩:Addr) (.int .i64 r_11) fun h_15 =>
bcase (r_12 != (0:Int)) (
stV h_15 ((⟨r_1,0,none⟩:Addr).add 0) (.int .i64 0) fun h_16 =>
stV h_16 ((⟨r_1,0,none⟩:Addr).add 1) (.int .i64 0) fun h_17 =>
stV h_17 ((⟨r_1,0,none⟩:Addr).add 2) (.slice none 0 0) fun h_18 =>
ldI h_18 ((⟨r_1,0,none⟩:Addr).add 0) .i64 fun r_19 =>
ldI h_18 ((⟨r_1,0,none⟩:Addr).add 1) .i64 fun r_20 =>
ldS h_18 ((⟨r_1,0,none⟩:Addr).add 2) fun r_21 r_21n r_21c =>
K (.tuple #[.agg #[.int .i64 r_19, .int .i64 r_20, .slice r_21 r_21n r_21c], .int .i64 r_12]) h_18) <|
C F_bitmap_New #[.int .i64 a2, .int .i64 a3] h_15 (fun v_22 h_23 =>
∃ (r_24:Option Addr),∃ (r_25:Int),v_22 = .tuple #[.pointer r_24, .int .i64 r_25]/\(
bcase (r_25 != (0:Int)) (
stV h_23 ((⟨r_1,0,none⟩:Addr).add 0) (.int .i64 0) fun h_26 =>
stV h_26 ((⟨r_1,0,none⟩:Addr).add 1) (.int .i64 0) fun h_27 =>
stV h_27 ((⟨r_1,0,none⟩:Addr).add 2) (.slice none 0 0) fun h_28 =>
ldI h_28 ((⟨r_1,0,none⟩:Addr).add 0) .i64 fun r_29 =>
ldI h_28 ((⟨r_1,0,none⟩:Addr).add 1) .i64 fun r_30 =>
ldS h_28 ((⟨r_1,0,none⟩:Addr).add 2) fun r_31 r_31n r_31c =>
K (.tuple #[.agg #[.int .i64 r_29, .int .i64 r_30, .slice r_31 r_31n r_31c], .int .i64 63]) h_28) <|
ptr a0 fun a_32 =>
ldI h_23 (⟨r_13,0,none⟩:Addr) .i64 fun x_33 =>
bindI (IntKind.i64.wrap (x_33+(1:Int))) fun z_34 =>
C F_arith_table_Contexts #[.pointer (some (a_32.add 0))] h_23 (fun v_35 h_36 =>
∃ (r_37:Int),v_35 = .int .i64 r_37/\(
hext h_23 h_36/\(
C F_generic_fits #[.int .i64 a1, .int .i64 z_34, .int .i64 r_37] h_36 (fun v_38 h_39 =>
∃ (r_40:Bool),v_38 = .bool r_40/\(
bcase (!r_40) (
stV h_39 ((⟨r_1,0,none⟩:Addr).add 0) (.int .i64 0) fun h_41 =>
stV h_41 ((⟨r_1,0,none⟩:Addr).add 1) (.int .i64 0) fun h_42 =>
stV h_42 ((⟨r_1,0,none⟩:Addr).add 2) (.slice none 0 0) fun h_43 =>
ldI h_43 ((⟨r_1,0,none⟩:Addr).add 0) .i64 fun r_44 =>
ldI h_43 ((⟨r_1,0,none⟩:Addr).add 1) .i64 fun r_45 =>
ldS h_43 ((⟨r_1,0,none⟩:Addr).add 2) fun r_46 r_46n r_46c =>
K (.tuple #[.agg #[.int .i64 r_44, .int .i64 r_45, .slice r_46 r_46n r_46c], .int .i64 51]) h_43) <|
newC h_39 [.iface T_generic_decoding (.agg #[.pointer a0]), .pointer r_24, .int .i64 a1, .int .i64 a4, .bool a5] T_generic_procedure fun r_47 h_48 =>
newC h_48 [.pointer none] T_p_generic_procedure fun r_49 h_50 =>
stV h_50 (⟨r_49,0,none⟩:Addr) (.pointer (some ⟨r_47,0,none⟩)) fun h_51 =>
C F_generic_caught #[.func (.func F_generic_Get_c1) #[] #[.pointer (some ⟨r_49,0,none⟩), .pointer (some ⟨r_13,0,none⟩)]] h_51 (fun v_52 h_53 =>
∃ (r_54:Int),v_52 = .int .i64 r_54/\(
bcase (r_54 != (0:Int)) (
stV h_53 ((⟨r_1,0,none⟩:Addr).add 0) (.int .i64 0) fun h_55 =>
stV h_55 ((⟨r_1,0,none⟩:Addr).add 1) (.int .i64 0) fun h_56 =>
stV h_56 ((⟨r_1,0,none⟩:Addr).add 2) (.slice none 0 0) fun h_57 =>
ldI h_57 ((⟨r_1,0,none⟩:Addr).add 0) .i64 fun r_58 =>
ldI h_57 ((⟨r_1,0,none⟩:Addr).add 1) .i64 fun r_59 =>
ldS h_57 ((⟨r_1,0,none⟩:Addr).add 2) fun r_60 r_60n r_60c =>
K (.tuple #[.agg #[.int .i64 r_58, .int .i64 r_59, .slice r_60 r_60n r_60c], .int .i64 r_54]) h_57) <|
C F_bitmap_Map_Plain #[.pointer r_24] h_53 (fun v_61 h_62 =>
∃ (r_63:Int) (r_64:Int) (r_65:Option Addr) (r_65n:Nat) (r_65c:Nat),v_61 = .agg #[.int .i64 r_63, .int .i64 r_64, .slice r_65 r_65n r_65c]/\(
stV h_62 ((⟨r_1,0,none⟩:Addr).add 0) (.int .i64 r_63) fun h_66 =>
stV h_66 ((⟨r_1,0,none⟩:Addr).add 1) (.int .i64 r_64) fun h_67 =>
stV h_67 ((⟨r_1,0,none⟩:Addr).add 2) (.slice r_65 r_65n r_65c) fun h_68 =>
ldI h_68 ((⟨r_1,0,none⟩:Addr).add 0) .i64 fun r_69 =>
ldI h_68 ((⟨r_1,0,none⟩:Addr).add 1) .i64 fun r_70 =>
ldS h_68 ((⟨r_1,0,none⟩:Addr).add 2) fun r_71 r_71n r_71c =>
K (.tuple #[.agg #[.int .i64 r_69, .int .i64 r_70, .slice r_71 r_71n r_71c], .int .i64 0]) h_68)) (Kp))) (Kp))) (Kp)))) (Kp))) (Kp))) (Kp)
def generic_fits (C:CallP) (base:Int) (many:Int) (all:Int) (h:Heap) (K:VK) (Kp:PK):Prop :=
bcase (decide (base≥(0:Int))) (
bindI (IntKind.i64.wrap (all-many)) fun z_1 =>
K (.bool (decide (base<=z_1))) h) <|
K (.bool false) h
def generic_caught (C:CallP) (D:CallDP) (run:Value) (h:Heap) (K:VK) (Kp:PK):Prop :=
newC h [.int .i64 0] T_api_Errno fun r_1 h_2 =>
callD C (fun c_10 h_11=>leaveD D (fun h_8 =>
ldI h_8 (⟨r_1,0,none⟩:Addr) .i64 fun r_9 =>
K (.int .i64 r_9) h_8) Kp [{ target := .fn (.func F_generic_caught_c1) #[.pointer (some ⟨r_1,0,none⟩)],args:=#[] }] (.panicking c_10) h_11) run [] h_2 fun v_3 h_4 =>
stV h_4 (⟨r_1,0,none⟩:Addr) (.int .i64 0) fun h_5 =>
leaveD D (fun h_6 =>
ldI h_6 (⟨r_1,0,none⟩:Addr) .i64 fun r_7 =>
K (.int .i64 r_7) h_6) Kp [{ target := .fn (.func F_generic_caught_c1) #[.pointer (some ⟨r_1,0,none⟩)],args:=#[] }] .returning h_5
def generic_Put_c1 (C:CallP) (cap0:Addr) (cap1:Addr) (h:Heap) (K:VK) (Kp:PK):Prop :=
ldP h cap0 fun x_1 =>
ldI h cap1 .i64 fun x_2 =>
C F_generic_procedure_run #[.pointer x_1, .int .i64 x_2] h (fun v_3 h_4 =>
K (.tuple #[]) h_4) (Kp)
def generic_procedure_run (C:CallP) (I:InvP) (p:Option Addr) (size:Int) (h:Heap) (K:VK) (Kp:PK):Prop :=
ptr p fun a_1 =>
ldP h (a_1.add 1) fun x_2 =>
C F_bitmap_Map_Size #[.pointer x_2] h (fun v_3 h_4 =>
∃ (r_5:Int),∃ (r_6:Int),v_3 = .tuple #[.int .i64 r_5, .int .i64 r_6]/\(
∃ J_7:Nat->List Value->Heap->Prop,(∃ n_9,J_7 n_9 [.int .i64 0] h_4)/\∀ (n_9:Nat) (h_10:Heap) (u_11:Nat->Value) (x_12:Int),J_7 n_9 [.int .i64 x_12] h_10->(
bcase (decide (x_12<r_6)) (
ptr p fun a_13 =>
ldB h_10 (a_13.add 4) fun x_14 =>
bcase x_14 (
∃ K_15:List Value->Heap->Prop,(
C F_generic_procedure_same #[.pointer p, .int .i64 r_5, .int .i64 x_12] h_10 (fun v_18 h_19 =>
∃ (r_20:Bool),v_18 = .bool r_20/\(
bcase r_20 (
K_15 [.int .i64 1] h_19) <|
K_15 [.int .i64 0] h_19)) (Kp))/\∀ (h_16:Heap) (u_17:Nat->Value) (bit_21:Int),K_15 [.int .i64 bit_21] h_16->(
ptr p fun a_22 =>
ptr p fun a_23 =>
ldV h_16 (a_22.add 0) fun x_24 =>
nilD x_24 fun w_25 =>
ldI h_16 (a_23.add 2) .i64 fun x_26 =>
bindI (IntKind.i64.wrap (x_26+size)) fun z_27 =>
I (x_24) "burin/generic.decide" ([.int .i64 z_27, .int .i64 bit_21] : List Value) h_16 (fun v_28 h_29 =>
∃ (r_30:Int),v_28 = .int .i64 r_30/\(
bcase (r_30 == (1:Int)) (
ptr p fun a_31 =>
ptr p fun a_32 =>
bindI (IntKind.i64.wrap (x_12-(1:Int))) fun z_33 =>
ldP h_29 (a_31.add 1) fun x_34 =>
ldP h_29 (a_32.add 1) fun x_35 =>
C F_bitmap_Map_Blit #[.pointer x_34, .pointer x_35, .int .i64 0, .int .i64 z_33, .int .i64 r_5, .int .i64 1, .int .i64 0, .int .i64 x_12, .int .i64 4] h_29 (fun v_36 h_37 =>
∃ (r_38:Int),v_36 = .int .i64 r_38/\(
bindI (IntKind.i64.wrap (x_12+(1:Int))) fun z_39 =>
∃ m_8,m_8<n_9/\J_7 m_8 [.int .i64 z_39] h_37)) (Kp)) <|
C F_generic_procedure_row #[.pointer p, .int .i64 r_5, .int .i64 x_12] h_29 (fun v_40 h_41 =>
bindI (IntKind.i64.wrap (x_12+(1:Int))) fun z_42 =>
∃ m_8,m_8<n_9/\J_7 m_8 [.int .i64 z_42] h_41) (Kp))) (Kp))) <|
C F_generic_procedure_row #[.pointer p, .int .i64 r_5, .int .i64 x_12] h_10 (fun v_43 h_44 =>
bindI (IntKind.i64.wrap (x_12+(1:Int))) fun z_45 =>
∃ m_8,m_8<n_9/\J_7 m_8 [.int .i64 z_45] h_44) (Kp)) <|
K (.tuple #[]) h_10))) (Kp)
def generic_Get_c1 (C:CallP) (cap0:Addr) (cap1:Addr) (h:Heap) (K:VK) (Kp:PK):Prop :=
ldP h cap0 fun x_1 =>
ldI h cap1 .i64 fun x_2 =>
C F_generic_procedure_run #[.pointer x_1, .int .i64 x_2] h (fun v_3 h_4 =>
K (.tuple #[]) h_4) (Kp)
def generic_caught_c1 (C:CallP) (cap0:Addr) (u:FrameMode) (h:Heap) (Kd:FrameMode->Heap->Prop) (Kdp:FrameMode->PK):Prop :=
recD u (fun u_1 =>
Kd u_1 h) (fun t_2 x_3 u_4 =>
bcase (Nat.beq t_2 T_generic_fault) (
∃ (r_5:Int),x_3 = .agg #[.int .i64 r_5]/\(
newC h [.int .i64 0] T_generic_fault fun r_6 h_7 =>
stV h_7 ((⟨r_6,0,none⟩:Addr).add 0) (.int .i64 r_5) fun h_8 =>
ldI h_8 ((⟨r_6,0,none⟩:Addr).add 0) .i64 fun x_9 =>
stV h_8 cap0 (.int .i64 x_9) fun h_10 =>
Kd u_4 h_10)) <|
newC h [.int .i64 0] T_generic_fault fun r_11 h_12 =>
stV h_12 ((⟨r_11,0,none⟩:Addr).add 0) (.int .i64 0) fun h_13 =>
Kdp u_4 [{ v := .iface t_2 (x_3),recovered:=false }] h_13)
def generic_procedure_same (C:CallP) (p:Option Addr) (w:Int) (y:Int) (h:Heap) (K:VK) (Kp:PK):Prop :=
∃ J_1:Nat->List Value->Heap->Prop,(∃ n_3,J_1 n_3 [.int .i64 0] h)/\∀ (n_3:Nat) (h_4:Heap) (u_5:Nat->Value) (x_6:Int),J_1 n_3 [.int .i64 x_6] h_4->(
bcase (decide (x_6<w)) (
ptr p fun a_7 =>
ptr p fun a_8 =>
bindI (IntKind.i64.wrap (y-(1:Int))) fun z_9 =>
ldP h_4 (a_7.add 1) fun x_10 =>
ldP h_4 (a_8.add 1) fun x_11 =>
C F_bitmap_Map_Get #[.pointer x_10, .int .i64 x_6, .int .i64 y] h_4 (fun v_12 h_13 =>
∃ (r_14:Int),v_12 = .int .i64 r_14/\(
hext h_4 h_13/\(
C F_bitmap_Map_Get #[.pointer x_11, .int .i64 x_6, .int .i64 z_9] h_13 (fun v_15 h_16 =>
∃ (r_17:Int),v_15 = .int .i64 r_17/\(
bcase (r_14 != r_17) (
K (.bool false) h_16) <|
bindI (IntKind.i64.wrap (x_6+(1:Int))) fun z_18 =>
∃ m_2,m_2<n_3/\J_1 m_2 [.int .i64 z_18] h_16)) (Kp)))) (Kp)) <|
K (.bool true) h_4)
def generic_procedure_row (C:CallP) (I:InvP) (a0:Option Addr) (a1:Int) (a2:Int) (h:Heap) (K:VK) (Kp:PK):Prop :=
ptr a0 fun a_1 =>
ldI h (a_1.add 3) .i64 fun x_2 =>
C F_generic_spans #[.int .i64 x_2] h (fun v_3 h_4 =>
∃ (r_5:Option Addr) (r_5n:Nat) (r_5c:Nat),v_3 = .slice r_5 r_5n r_5c/\(
∃ J_6:Nat->List Value->Heap->Prop,(∃ n_8,J_6 n_8 [.slice none 0 0, .int .i64 0] h_4)/\∀ (n_8:Nat) (h_9:Heap) (u_10:Nat->Value) (x_11:Option Addr) (x_11n:Nat) (x_11c:Nat) (x_12:Int),J_6 n_8 [.slice x_11 x_11n x_11c, .int .i64 x_12] h_9->(
bcase (decide (x_12<(r_5n:Int))) (
needs (0<=x_12/\x_12<(r_5n:Int)) <|
ptr r_5 fun a_13 =>
ldI h_9 ((a_13.add (x_12.toNat*3)).add 0) .i64 fun x_14 =>
ldI h_9 ((a_13.add (x_12.toNat*3)).add 1) .i64 fun x_15 =>
ldI h_9 ((a_13.add (x_12.toNat*3)).add 2) .i64 fun x_16 =>
newC h_9 [.int .i64 0, .int .i64 0, .int .i64 0] T_generic_span fun r_17 h_18 =>
stV h_18 ((⟨r_17,0,none⟩:Addr).add 0) (.int .i64 x_14) fun h_19 =>
stV h_19 ((⟨r_17,0,none⟩:Addr).add 1) (.int .i64 x_15) fun h_20 =>
stV h_20 ((⟨r_17,0,none⟩:Addr).add 2) (.int .i64 x_16) fun h_21 =>
ldI h_21 ((⟨r_17,0,none⟩:Addr).add 0) .i64 fun x_22 =>
ldI h_21 ((⟨r_17,0,none⟩:Addr).add 1) .i64 fun x_23 =>
ldI h_21 ((⟨r_17,0,none⟩:Addr).add 2) .i64 fun x_24 =>
ldI h_21 ((⟨r_17,0,none⟩:Addr).add 2) .i64 fun x_25 =>
ldI h_21 ((⟨r_17,0,none⟩:Addr).add 1) .i64 fun x_26 =>
bindI (IntKind.i64.wrap (x_25-x_26)) fun z_27 =>
bindI (IntKind.i64.wrap (z_27+(1:Int))) fun z_28 =>
needs (0<=z_28) <|
bindI (shlI .i64 (1:Int) z_28) fun z_29 =>
bindI (IntKind.i64.wrap (z_29-(1:Int))) fun z_30 =>
newC h_21 [.int .i64 0, .int .i64 0, .int .i64 0, .int .i64 0, .int .i64 0] T_generic_window fun r_31 h_32 =>
stV h_32 ((⟨r_31,0,none⟩:Addr).add 0) (.int .i64 x_22) fun h_33 =>
stV h_33 ((⟨r_31,0,none⟩:Addr).add 1) (.int .i64 x_23) fun h_34 =>
stV h_34 ((⟨r_31,0,none⟩:Addr).add 2) (.int .i64 x_24) fun h_35 =>
stV h_35 ((⟨r_31,0,none⟩:Addr).add 3) (.int .i64 0) fun h_36 =>
stV h_36 ((⟨r_31,0,none⟩:Addr).add 4) (.int .i64 z_30) fun h_37 =>
ldI h_37 ((⟨r_17,0,none⟩:Addr).add 1) .i64 fun x_38 =>
∃ J_39:Nat->List Value->Heap->Prop,(∃ n_41,J_39 n_41 [.int .i64 x_38] h_37)/\∀ (n_41:Nat) (h_42:Heap) (u_43:Nat->Value) (x_44:Int),J_39 n_41 [.int .i64 x_44] h_42->(
ldI h_42 ((⟨r_17,0,none⟩:Addr).add 2) .i64 fun x_45 =>
bcase (decide (x_44<x_45)) (
∃ R_46:Nat->Prop,(
ptr a0 fun a_47 =>
ldI h_42 ((⟨r_31,0,none⟩:Addr).add 3) .i64 fun x_48 =>
R_46 (((⟨r_31,0,none⟩:Addr).add 3):Addr).block/\(
bindI (shlI .i64 x_48 (1:Int)) fun z_49 =>
ldP h_42 (a_47.add 1) fun x_50 =>
R_46 ((a_47.add 1):Addr).block/\(
ldI h_42 ((⟨r_17,0,none⟩:Addr).add 0) .i64 fun x_51 =>
R_46 (((⟨r_17,0,none⟩:Addr).add 0):Addr).block/\(
bindI (IntKind.i64.wrap (a2+x_51)) fun z_52 =>
C F_bitmap_Map_Get #[.pointer x_50, .int .i64 x_44, .int .i64 z_52] h_42 (fun v_53 h_54 =>
∃ (r_55:Int),v_53 = .int .i64 r_55/\(
hkeep R_46 h_42 h_54/\(
bindI (bitI .or .i64 z_49 r_55) fun z_56 =>
stV h_54 ((⟨r_31,0,none⟩:Addr).add 3) (.int .i64 z_56) fun h_57 =>
bindI (IntKind.i64.wrap (x_44+(1:Int))) fun z_58 =>
∃ m_40,m_40<n_41/\J_39 m_40 [.int .i64 z_58] h_57))) (Kp)))))) <|
ldI h_42 ((⟨r_31,0,none⟩:Addr).add 0) .i64 fun x_59 =>
ldI h_42 ((⟨r_31,0,none⟩:Addr).add 1) .i64 fun x_60 =>
ldI h_42 ((⟨r_31,0,none⟩:Addr).add 2) .i64 fun x_61 =>
ldI h_42 ((⟨r_31,0,none⟩:Addr).add 3) .i64 fun x_62 =>
ldI h_42 ((⟨r_31,0,none⟩:Addr).add 4) .i64 fun x_63 =>
newC h_42 [.int .i64 x_59, .int .i64 x_60, .int .i64 x_61, .int .i64 x_62, .int .i64 x_63] T_generic_window fun r_64 h_65 =>
appC h_65 T_generic_window 5 40 [.int .i64 0, .int .i64 0, .int .i64 0, .int .i64 0, .int .i64 0] x_11 (x_11n) (x_11c) (some ⟨r_64,0,none⟩) (1) fun q_66 q_66n q_66c h_67 =>
bindI (IntKind.i64.wrap (x_12+(1:Int))) fun z_68 =>
∃ m_7,m_7<n_8/\J_6 m_7 [.slice q_66 q_66n q_66c, .int .i64 z_68] h_67)) <|
∃ J_69:Nat->List Value->Heap->Prop,(∃ n_71,J_69 n_71 [.int .i64 0] h_9)/\∀ (n_71:Nat) (h_72:Heap) (u_73:Nat->Value) (x_74:Int),J_69 n_71 [.int .i64 x_74] h_72->(
bcase (decide (x_74<a1)) (
∃ J_75:Nat->List Value->Heap->Prop,(∃ n_77,J_75 n_77 [.int .i64 0, .int .i64 0] h_72)/\∀ (n_77:Nat) (h_78:Heap) (u_79:Nat->Value) (x_80:Int) (x_81:Int),J_75 n_77 [.int .i64 x_80, .int .i64 x_81] h_78->(
bcase (decide (x_81<(x_11n:Int))) (
needs (0<=x_81/\x_81<(x_11n:Int)) <|
ptr x_11 fun a_82 =>
∃ R_83:Nat->Prop,(
ptr a0 fun a_84 =>
ldI h_78 ((a_82.add (x_81.toNat*5)).add 3) .i64 fun x_85 =>
R_83 (((a_82.add (x_81.toNat*5)).add 3):Addr).block/\(
bindI (shlI .i64 x_85 (1:Int)) fun z_86 =>
ldP h_78 (a_84.add 1) fun x_87 =>
R_83 ((a_84.add 1):Addr).block/\(
ldI h_78 (((a_82.add (x_81.toNat*5)).add 0).add 2) .i64 fun x_88 =>
R_83 ((((a_82.add (x_81.toNat*5)).add 0).add 2):Addr).block/\(
bindI (IntKind.i64.wrap (x_74+x_88)) fun z_89 =>
ldI h_78 (((a_82.add (x_81.toNat*5)).add 0).add 0) .i64 fun x_90 =>
R_83 ((((a_82.add (x_81.toNat*5)).add 0).add 0):Addr).block/\(
bindI (IntKind.i64.wrap (a2+x_90)) fun z_91 =>
ldI h_78 ((a_82.add (x_81.toNat*5)).add 4) .i64 fun x_92 =>
R_83 (((a_82.add (x_81.toNat*5)).add 4):Addr).block/\(
C F_bitmap_Map_Get #[.pointer x_87, .int .i64 z_89, .int .i64 z_91] h_78 (fun v_93 h_94 =>
∃ (r_95:Int),v_93 = .int .i64 r_95/\(
hkeep R_83 h_78 h_94/\(
bindI (bitI .or .i64 z_86 r_95) fun z_96 =>
bindI (bitI .and .i64 z_96 x_92) fun z_97 =>
stV h_94 ((a_82.add (x_81.toNat*5)).add 3) (.int .i64 z_97) fun h_98 =>
ldI h_98 ((a_82.add (x_81.toNat*5)).add 4) .i64 fun x_99 =>
bindI (IntKind.i64.wrap (x_99+(1:Int))) fun z_100 =>
bindI (IntKind.i64.wrap (x_80*z_100)) fun z_101 =>
ldI h_98 ((a_82.add (x_81.toNat*5)).add 3) .i64 fun x_102 =>
bindI (IntKind.i64.wrap (z_101+x_102)) fun z_103 =>
bindI (IntKind.i64.wrap (x_81+(1:Int))) fun z_104 =>
∃ m_76,m_76<n_77/\J_75 m_76 [.int .i64 z_103, .int .i64 z_104] h_98))) (Kp)))))))) <|
∃ R_105:Nat->Prop,(
ptr a0 fun a_106 =>
ptr a0 fun a_107 =>
ptr a0 fun a_108 =>
ptr a0 fun a_109 =>
ldP h_78 (a_106.add 1) fun x_110 =>
R_105 ((a_106.add 1):Addr).block/\(
ldV h_78 (a_107.add 0) fun x_111 =>
R_105 ((a_107.add 0):Addr).block/\(
nilD x_111 fun w_112 =>
ldI h_78 (a_108.add 2) .i64 fun x_113 =>
R_105 ((a_108.add 2):Addr).block/\(
bindI (IntKind.i64.wrap (x_113+x_80)) fun z_114 =>
ldP h_78 (a_109.add 1) fun x_115 =>
R_105 ((a_109.add 1):Addr).block/\(
C F_bitmap_Map_Get #[.pointer x_115, .int .i64 x_74, .int .i64 a2] h_78 (fun v_116 h_117 =>
∃ (r_118:Int),v_116 = .int .i64 r_118/\(
hkeep R_105 h_78 h_117/\(
I (x_111) "burin/generic.decide" ([.int .i64 z_114, .int .i64 r_118] : List Value) h_117 (fun v_119 h_120 =>
∃ (r_121:Int),v_119 = .int .i64 r_121/\(
hkeep R_105 h_117 h_120/\(
C F_bitmap_Map_Set #[.pointer x_110, .int .i64 x_74, .int .i64 a2, .int .i64 r_121] h_120 (fun v_122 h_123 =>
∃ (r_124:Int),v_122 = .int .i64 r_124/\(
bindI (IntKind.i64.wrap (x_74+(1:Int))) fun z_125 =>
∃ m_70,m_70<n_71/\J_69 m_70 [.int .i64 z_125] h_123)) (Kp)))) (Kp)))) (Kp)))))))) <|
K (.tuple #[]) h_72)))) (Kp)
def generic_spans (C:CallP) (template:Int) (h:Heap) (K:VK) (Kp:PK):Prop :=
bcase (template == (0:Int)) (
newC h [.int .i64 (-2), .int .i64 (-2), .int .i64 2, .int .i64 (-1), .int .i64 (-3), .int .i64 3, .int .i64 0, .int .i64 (-4), .int .i64 (-1)] T_generic_span fun r_1 h_2 =>
K (.slice (some ⟨r_1,0,none⟩) 3 3) h_2) <|
bcase (template == (1:Int)) (
newC h [.int .i64 (-2), .int .i64 (-1), .int .i64 2, .int .i64 (-1), .int .i64 (-2), .int .i64 3, .int .i64 0, .int .i64 (-3), .int .i64 (-1)] T_generic_span fun r_3 h_4 =>
K (.slice (some ⟨r_3,0,none⟩) 3 3) h_4) <|
bcase (template == (2:Int)) (
newC h [.int .i64 (-2), .int .i64 (-1), .int .i64 1, .int .i64 (-1), .int .i64 (-2), .int .i64 2, .int .i64 0, .int .i64 (-2), .int .i64 (-1)] T_generic_span fun r_5 h_6 =>
K (.slice (some ⟨r_5,0,none⟩) 3 3) h_6) <|
newC h [.int .i64 (-1), .int .i64 (-3), .int .i64 2, .int .i64 0, .int .i64 (-4), .int .i64 (-1)] T_generic_span fun r_7 h_8 =>
K (.slice (some ⟨r_7,0,none⟩) 2 2) h_8
def generic_coding_decide (C:CallP) (x_1:Option Addr) (context:Int) (bit:Int) (h:Heap) (K:VK) (Kp:PK):Prop :=
newC h [.pointer x_1] T_generic_coding fun r_2 h_3 =>
ldP h_3 ((⟨r_2,0,none⟩:Addr).add 0) fun x_4 =>
C F_arith_Coder_Put #[.pointer x_4, .int .i64 context, .int .i64 bit] h_3 (fun v_5 h_6 =>
∃ (r_7:Int),v_5 = .int .i64 r_7/\(
bcase (r_7 != (0:Int)) (
Kp [{ v := .iface T_generic_fault (.agg #[.int .i64 r_7]),recovered:=false }] h_6) <|
K (.int .i64 bit) h_6)) (Kp)
def generic_decoding_decide (C:CallP) (x_1:Option Addr) (context:Int) (a2:Int) (h:Heap) (K:VK) (Kp:PK):Prop :=
newC h [.pointer x_1] T_generic_decoding fun r_2 h_3 =>
ldP h_3 ((⟨r_2,0,none⟩:Addr).add 0) fun x_4 =>
C F_arith_Decoder_Get #[.pointer x_4, .int .i64 context] h_3 (fun v_5 h_6 =>
∃ (r_7:Int),∃ (r_8:Int),v_5 = .tuple #[.int .i64 r_7, .int .i64 r_8]/\(
bcase (r_8 != (0:Int)) (
Kp [{ v := .iface T_generic_fault (.agg #[.int .i64 r_8]),recovered:=false }] h_6) <|
K (.int .i64 r_7) h_6)) (Kp)
end Go.Den.YtfaclehehhgpcaaGreat
namespace Go.Den.YtfaclehehhgpcaaGreat
open Go Go.Den
theorem call_generic_Put {c:Option Addr} {base:Int} {b_1:Int} {b_2:Int} {b_3:Option Addr} {b_3n:Nat} {b_3c:Nat} {template:Int} {skip:Bool} {h:Heap} {K:VK} {Kp:PK} (H:generic_Put (CallsHP Go.Proofs.Tryz.prog) c base b_1 b_2 b_3 b_3n b_3c template skip h K Kp):CallsHP Go.Proofs.Tryz.prog F_generic_Put #[.pointer c, .int .i64 base, .agg #[.int .i64 b_1, .int .i64 b_2, .slice b_3 b_3n b_3c], .int .i64 template, .bool skip] h K Kp :=
 callsHP_ofE (Hints.mk (fun i=>bif Nat.beq i 9 then some ([7], .take 0 <| .take 3 <| .take 4 <| .take 5 <| .take 1 <| .take 2 <| .go 6 <| .bar 7 [] <| .take 8 <| .take 9 <| .done) else (none)) (fun i=>none) (fun i=>none) []) (by kernel_rfl) Go.Proofs.Tryz.func123 (by kernel_rfl) (fun C=>generic_Put C c base b_1 b_2 b_3 b_3n b_3c template skip h K Kp) (fun C=>by kernel_rfl) H
theorem call_generic_Get {a0:Option Addr} {a1:Int} {a2:Int} {a3:Int} {a4:Int} {a5:Bool} {h:Heap} {K:VK} {Kp:PK} (H:generic_Get (CallsHP Go.Proofs.Tryz.prog) a0 a1 a2 a3 a4 a5 h K Kp):CallsHP Go.Proofs.Tryz.prog F_generic_Get #[.pointer a0, .int .i64 a1, .int .i64 a2, .int .i64 a3, .int .i64 a4, .bool a5] h K Kp :=
 callsHP_ofE (Hints.mk (fun i=>bif Nat.beq i 9 then some ([7], .take 0 <| .take 3 <| .take 4 <| .take 5 <| .take 1 <| .take 2 <| .go 6 <| .bar 7 [] <| .take 8 <| .take 9 <| .done) else (none)) (fun i=>none) (fun i=>none) []) (by kernel_rfl) Go.Proofs.Tryz.func135 (by kernel_rfl) (fun C=>generic_Get C a0 a1 a2 a3 a4 a5 h K Kp) (fun C=>by kernel_rfl) H
theorem call_generic_fits {base:Int} {many:Int} {all:Int} {h:Heap} {K:VK} {Kp:PK} (H:generic_fits (CallsHP Go.Proofs.Tryz.prog) base many all h K Kp):CallsHP Go.Proofs.Tryz.prog F_generic_fits #[.int .i64 base, .int .i64 many, .int .i64 all] h K Kp :=
 callsHP_ofE (Hints.mk (fun i=>none) (fun i=>none) (fun i=>none) []) (by kernel_rfl) Go.Proofs.Tryz.func169 (by kernel_rfl) (fun C=>generic_fits C base many all h K Kp) (fun C=>by kernel_rfl) H
noncomputable def hints_generic_caught:Hints:=Hints.mk (fun i=>none)
 (fun i=>none)
 (fun i=>none) []
theorem eq_generic_caught (C:CallP) (D:CallDP) (run:Value) (h:Heap) (K:VK) (Kp:PK) :
  fnDD Go.Proofs.Tryz.prog C D hints_generic_caught Go.Proofs.Tryz.f171 [run] h K Kp=generic_caught C D run h K Kp:=by kernel_rfl
theorem call_generic_caught {run:Value} {h:Heap} {K:VK} {Kp:PK} (H:generic_caught (CallsHP Go.Proofs.Tryz.prog) (DCalls Go.Proofs.Tryz.prog) run h K Kp):CallsHP Go.Proofs.Tryz.prog F_generic_caught #[run] h K Kp :=
 callsHP_ofD hints_generic_caught (by kernel_rfl) Go.Proofs.Tryz.func171 (by kernel_rfl) (by rw [eq_generic_caught]; exact H)
theorem call_generic_Put_c1 {cap0:Addr} {cap1:Addr} {h:Heap} {K:VK} {Kp:PK} (H:generic_Put_c1 (CallsHP Go.Proofs.Tryz.prog) cap0 cap1 h K Kp):CallsHP Go.Proofs.Tryz.prog F_generic_Put_c1 #[.pointer (some cap0), .pointer (some cap1)] h K Kp :=
 callsHP_ofE (Hints.mk (fun i=>none) (fun i=>none) (fun i=>none) []) (by kernel_rfl) Go.Proofs.Tryz.func172 (by kernel_rfl) (fun C=>generic_Put_c1 C cap0 cap1 h K Kp) (fun C=>by kernel_rfl) H
theorem call_generic_procedure_run {p:Option Addr} {size:Int} {h:Heap} {K:VK} {Kp:PK} (H:generic_procedure_run (CallsHP Go.Proofs.Tryz.prog) (invokeD Go.Proofs.Tryz.prog (CallsHP Go.Proofs.Tryz.prog)) p size h K Kp):CallsHP Go.Proofs.Tryz.prog F_generic_procedure_run #[.pointer p, .int .i64 size] h K Kp :=
 callsHP_ofE (Hints.mk (fun i=>bif Nat.beq i 8 then some ([13], .take 0 <| .take 1 <| .take 2 <| .take 4 <| .take 5 <| .take 6 <| .take 8 <| .take 10 <| .take 3 <| .take 11 <| .take 12 <| .take 7 <| .take 9 <| .bar 13 [] <| .take 14 <| .done) else (bif Nat.beq i 9 then some ([12], .take 0 <| .take 1 <| .take 2 <| .take 4 <| .take 5 <| .take 6 <| .take 8 <| .take 9 <| .take 10 <| .take 11 <| .take 3 <| .take 7 <| .bar 12 [] <| .done) else (none))) (fun i=>bif Nat.beq i 2 then some ([(17, .int .i64)],2305843009213563072) else (none)) (fun i=>bif Nat.beq i 8 then some ([(7, .int .i64)],251658368) else (none)) []) (by kernel_rfl) Go.Proofs.Tryz.func173 (by kernel_rfl) (fun C=>generic_procedure_run C (invokeD Go.Proofs.Tryz.prog C) p size h K Kp) (fun C=>by kernel_rfl) H
theorem call_generic_Get_c1 {cap0:Addr} {cap1:Addr} {h:Heap} {K:VK} {Kp:PK} (H:generic_Get_c1 (CallsHP Go.Proofs.Tryz.prog) cap0 cap1 h K Kp):CallsHP Go.Proofs.Tryz.prog F_generic_Get_c1 #[.pointer (some cap0), .pointer (some cap1)] h K Kp :=
 callsHP_ofE (Hints.mk (fun i=>none) (fun i=>none) (fun i=>none) []) (by kernel_rfl) Go.Proofs.Tryz.func179 (by kernel_rfl) (fun C=>generic_Get_c1 C cap0 cap1 h K Kp) (fun C=>by kernel_rfl) H
noncomputable def hints_generic_caught_c1:Hints:=Hints.mk (fun i=>none)
 (fun i=>none)
 (fun i=>none) []
theorem eq_generic_caught_c1 (C:CallP) (cap0:Addr) (u:FrameMode) (h:Heap) (Kd:FrameMode->Heap->Prop) (Kdp:FrameMode->PK) :
  dfnD Go.Proofs.Tryz.prog C hints_generic_caught_c1 Go.Proofs.Tryz.f199 [.pointer (some cap0)] u h Kd Kdp=generic_caught_c1 C cap0 u h Kd Kdp:=by kernel_rfl
theorem dcall_generic_caught_c1 {cap0:Addr} {u:FrameMode} {h:Heap} {Kd:FrameMode->Heap->Prop} {Kdp:FrameMode->PK} (H:generic_caught_c1 (CallsHP Go.Proofs.Tryz.prog) cap0 u h Kd Kdp):DCalls Go.Proofs.Tryz.prog F_generic_caught_c1 #[.pointer (some cap0)] u h Kd Kdp :=
 dcalls_of hints_generic_caught_c1 (by kernel_rfl) Go.Proofs.Tryz.func199 (by kernel_rfl) (by rw [eq_generic_caught_c1]; exact H)
theorem call_generic_procedure_same {p:Option Addr} {w:Int} {y:Int} {h:Heap} {K:VK} {Kp:PK} (H:generic_procedure_same (CallsHP Go.Proofs.Tryz.prog) p w y h K Kp):CallsHP Go.Proofs.Tryz.prog F_generic_procedure_same #[.pointer p, .int .i64 w, .int .i64 y] h K Kp :=
 callsHP_ofE (Hints.mk (fun i=>bif Nat.beq i 4 then some ([14], .take 0 <| .take 1 <| .take 2 <| .take 4 <| .take 5 <| .take 7 <| .take 8 <| .take 9 <| .take 11 <| .take 12 <| .take 13 <| .take 3 <| .take 10 <| .go 6 <| .bar 14 [] <| .take 15 <| .done) else (none)) (fun i=>bif Nat.beq i 2 then some ([(9, .int .i64)],536870592) else (none)) (fun i=>none) []) (by kernel_rfl) Go.Proofs.Tryz.func201 (by kernel_rfl) (fun C=>generic_procedure_same C p w y h K Kp) (fun C=>by kernel_rfl) H
theorem call_generic_procedure_row {a0:Option Addr} {a1:Int} {a2:Int} {h:Heap} {K:VK} {Kp:PK} (H:generic_procedure_row (CallsHP Go.Proofs.Tryz.prog) (invokeD Go.Proofs.Tryz.prog (CallsHP Go.Proofs.Tryz.prog)) a0 a1 a2 h K Kp):CallsHP Go.Proofs.Tryz.prog F_generic_procedure_row #[.pointer a0, .int .i64 a1, .int .i64 a2] h K Kp :=
 callsHP_ofE (Hints.mk (fun i=>bif Nat.beq i 4 then some ([11], .take 1 <| .take 3 <| .take 0 <| .take 2 <| .take 4 <| .take 5 <| .take 6 <| .take 7 <| .take 8 <| .take 9 <| .go 10 <| .bar 11 [] <| .done) else (bif Nat.beq i 8 then some ([15], .keep <| .take 0 <| .take 3 <| .take 4 <| .take 5 <| .take 7 <| .take 8 <| .take 9 <| .take 1 <| .take 2 <| .take 6 <| .take 10 <| .take 11 <| .go 12 <| .take 13 <| .take 14 <| .bar 15 [] <| .done) else (bif Nat.beq i 19 then some ([33], .keep <| .take 0 <| .take 1 <| .take 2 <| .take 3 <| .take 6 <| .take 7 <| .take 8 <| .take 10 <| .take 11 <| .take 12 <| .take 13 <| .take 14 <| .take 17 <| .take 18 <| .take 19 <| .take 20 <| .take 21 <| .take 26 <| .take 27 <| .take 28 <| .take 4 <| .take 5 <| .take 9 <| .take 15 <| .take 16 <| .take 22 <| .take 23 <| .take 29 <| .go 24 <| .take 25 <| .take 30 <| .take 31 <| .take 32 <| .bar 33 [] <| .done) else (bif Nat.beq i 20 then some ([], .take 0 <| .take 1 <| .take 2 <| .take 3 <| .take 7 <| .take 8 <| .take 9 <| .take 4 <| .take 5 <| .take 6 <| .take 10 <| .take 11 <| .take 12 <| .done) else (bif Nat.beq i 22 then some ([26], .keep <| .take 0 <| .take 1 <| .take 2 <| .take 4 <| .take 5 <| .take 6 <| .take 7 <| .take 8 <| .take 10 <| .take 11 <| .take 12 <| .take 14 <| .take 16 <| .take 17 <| .take 18 <| .take 20 <| .take 21 <| .take 3 <| .take 9 <| .take 23 <| .take 24 <| .take 13 <| .take 15 <| .take 19 <| .go 22 <| .go 25 <| .bar 26 [] <| .done) else (none)))))) (fun i=>bif Nat.beq i 2 then some ([(6, .slc),(21, .int .i64)],9223372036852680512) else (bif Nat.beq i 6 then some ([(10, .int .i64)],288230238712759296) else (bif Nat.beq i 12 then some ([(64, .int .i64)],713623846352979940529142966278003494481852416) else (bif Nat.beq i 16 then some ([(12, .int .i64),(69, .int .i64)],2658455991569831155511803761855066112) else (none))))) (fun i=>none) []) (by kernel_rfl) Go.Proofs.Tryz.func202 (by kernel_rfl) (fun C=>generic_procedure_row C (invokeD Go.Proofs.Tryz.prog C) a0 a1 a2 h K Kp) (fun C=>by kernel_rfl) H
theorem call_generic_spans {template:Int} {h:Heap} {K:VK} {Kp:PK} (H:generic_spans (CallsHP Go.Proofs.Tryz.prog) template h K Kp):CallsHP Go.Proofs.Tryz.prog F_generic_spans #[.int .i64 template] h K Kp :=
 callsHP_ofE (Hints.mk (fun i=>none) (fun i=>none) (fun i=>none) []) (by kernel_rfl) Go.Proofs.Tryz.func218 (by kernel_rfl) (fun C=>generic_spans C template h K Kp) (fun C=>by kernel_rfl) H
theorem call_generic_coding_decide {x_1:Option Addr} {context:Int} {bit:Int} {h:Heap} {K:VK} {Kp:PK} (H:generic_coding_decide (CallsHP Go.Proofs.Tryz.prog) x_1 context bit h K Kp):CallsHP Go.Proofs.Tryz.prog F_generic_coding_decide #[.agg #[.pointer x_1], .int .i64 context, .int .i64 bit] h K Kp :=
 callsHP_ofE (Hints.mk (fun i=>none) (fun i=>none) (fun i=>none) []) (by kernel_rfl) Go.Proofs.Tryz.func240 (by kernel_rfl) (fun C=>generic_coding_decide C x_1 context bit h K Kp) (fun C=>by kernel_rfl) H
theorem call_generic_decoding_decide {x_1:Option Addr} {context:Int} {a2:Int} {h:Heap} {K:VK} {Kp:PK} (H:generic_decoding_decide (CallsHP Go.Proofs.Tryz.prog) x_1 context a2 h K Kp):CallsHP Go.Proofs.Tryz.prog F_generic_decoding_decide #[.agg #[.pointer x_1], .int .i64 context, .int .i64 a2] h K Kp :=
 callsHP_ofE (Hints.mk (fun i=>none) (fun i=>none) (fun i=>none) []) (by kernel_rfl) Go.Proofs.Tryz.func241 (by kernel_rfl) (fun C=>generic_decoding_decide C x_1 context a2 h K Kp) (fun C=>by kernel_rfl) H
end Go.Den.YtfaclehehhgpcaaGreat
namespace Go.Den.YtfaclehehhgpcaaGreat
open Go Go.Den
def burinref6_Size (C:CallP) (template:Int) (h:Heap) (K:VK) (Kp:PK):Prop :=
C F_burinref6_Places #[.int .i64 template] h (fun v_1 h_2 =>
∃ (r_3:Option Addr) (r_3n:Nat) (r_3c:Nat),v_1 = .slice r_3 r_3n r_3c/\(
bindI (IntKind.i64.wrap ((r_3n:Int).tdiv (2:Int))) fun z_4 =>
bindI (IntKind.u64.wrap z_4) fun z_5 =>
needs (0<=z_5) <|
bindI (shlI .i64 (1:Int) z_5) fun z_6 =>
K (.int .i64 z_6) h_2)) (Kp)
def burinref6_Places (C:CallP) (template:Int) (h:Heap) (K:VK) (Kp:PK):Prop :=
bcase (template == (0:Int)) (
newC h [.int .i64 (-2), .int .i64 (-2), .int .i64 (-1), .int .i64 (-2), .int .i64 0, .int .i64 (-2), .int .i64 1, .int .i64 (-2), .int .i64 2, .int .i64 (-2), .int .i64 (-3), .int .i64 (-1), .int .i64 (-2), .int .i64 (-1), .int .i64 (-1), .int .i64 (-1), .int .i64 0, .int .i64 (-1), .int .i64 1, .int .i64 (-1), .int .i64 2, .int .i64 (-1), .int .i64 3, .int .i64 (-1), .int .i64 (-4), .int .i64 0, .int .i64 (-3), .int .i64 0, .int .i64 (-2), .int .i64 0, .int .i64 (-1), .int .i64 0] T_int fun r_1 h_2 =>
K (.slice (some ⟨r_1,0,none⟩) 32 32) h_2) <|
bcase (template == (1:Int)) (
newC h [.int .i64 (-1), .int .i64 (-2), .int .i64 0, .int .i64 (-2), .int .i64 1, .int .i64 (-2), .int .i64 2, .int .i64 (-2), .int .i64 (-2), .int .i64 (-1), .int .i64 (-1), .int .i64 (-1), .int .i64 0, .int .i64 (-1), .int .i64 1, .int .i64 (-1), .int .i64 2, .int .i64 (-1), .int .i64 3, .int .i64 (-1), .int .i64 (-3), .int .i64 0, .int .i64 (-2), .int .i64 0, .int .i64 (-1), .int .i64 0] T_int fun r_3 h_4 =>
K (.slice (some ⟨r_3,0,none⟩) 26 26) h_4) <|
bcase (template == (2:Int)) (
newC h [.int .i64 (-1), .int .i64 (-2), .int .i64 0, .int .i64 (-2), .int .i64 1, .int .i64 (-2), .int .i64 (-2), .int .i64 (-1), .int .i64 (-1), .int .i64 (-1), .int .i64 0, .int .i64 (-1), .int .i64 1, .int .i64 (-1), .int .i64 2, .int .i64 (-1), .int .i64 (-2), .int .i64 0, .int .i64 (-1), .int .i64 0] T_int fun r_5 h_6 =>
K (.slice (some ⟨r_5,0,none⟩) 20 20) h_6) <|
newC h [.int .i64 (-3), .int .i64 (-1), .int .i64 (-2), .int .i64 (-1), .int .i64 (-1), .int .i64 (-1), .int .i64 0, .int .i64 (-1), .int .i64 1, .int .i64 (-1), .int .i64 2, .int .i64 (-1), .int .i64 (-4), .int .i64 0, .int .i64 (-3), .int .i64 0, .int .i64 (-2), .int .i64 0, .int .i64 (-1), .int .i64 0] T_int fun r_7 h_8 =>
K (.slice (some ⟨r_7,0,none⟩) 20 20) h_8
def burinref6_At (C:CallP) (b_1:Int) (b_2:Int) (b_3:Option Addr) (b_3n:Nat) (b_3c:Nat) (places:Option Addr) (placesn:Nat) (placesc:Nat) (x:Int) (y:Int) (h:Heap) (K:VK) (Kp:PK):Prop :=
newC h [.int .i64 b_1, .int .i64 b_2, .slice b_3 b_3n b_3c] T_api_Bitmap fun r_4 h_5 =>
bcase (decide (x<(-10:Int))) (
K (.int .i64 0) h_5) <|
bcase (decide (y<(-10:Int))) (
K (.int .i64 0) h_5) <|
ldI h_5 ((⟨r_4,0,none⟩:Addr).add 0) .i64 fun x_6 =>
bindI (IntKind.i64.wrap (x_6+(10:Int))) fun z_7 =>
bcase (decide (x > z_7)) (
K (.int .i64 0) h_5) <|
ldI h_5 ((⟨r_4,0,none⟩:Addr).add 1) .i64 fun x_8 =>
bindI (IntKind.i64.wrap (x_8+(10:Int))) fun z_9 =>
bcase (decide (y > z_9)) (
K (.int .i64 0) h_5) <|
∃ J_10:Nat->List Value->Heap->Prop,(∃ n_12,J_10 n_12 [.int .i64 0, .int .i64 0] h_5)/\∀ (n_12:Nat) (h_13:Heap) (u_14:Nat->Value) (n_15:Int) (i_16:Int),J_10 n_12 [.int .i64 n_15, .int .i64 i_16] h_13->(
bcase (decide (i_16<(placesn:Int))) (
bindI (IntKind.i64.wrap ((2:Int)*n_15)) fun z_17 =>
needs (0<=i_16/\i_16<(placesn:Int)) <|
ptr places fun a_18 =>
bindI (IntKind.i64.wrap (i_16+(1:Int))) fun z_19 =>
needs (0<=z_19/\z_19<(placesn:Int)) <|
ptr places fun a_20 =>
ldI h_13 ((⟨r_4,0,none⟩:Addr).add 0) .i64 fun x_21 =>
ldI h_13 ((⟨r_4,0,none⟩:Addr).add 1) .i64 fun x_22 =>
ldS h_13 ((⟨r_4,0,none⟩:Addr).add 2) fun x_23 x_23n x_23c =>
ldI h_13 (a_18.add (i_16.toNat*1)) .i64 fun x_24 =>
bindI (IntKind.i64.wrap (x+x_24)) fun z_25 =>
ldI h_13 (a_20.add (z_19.toNat*1)) .i64 fun x_26 =>
bindI (IntKind.i64.wrap (y+x_26)) fun z_27 =>
C F_burinref0_Get #[.agg #[.int .i64 x_21, .int .i64 x_22, .slice x_23 x_23n x_23c], .int .i64 z_25, .int .i64 z_27] h_13 (fun v_28 h_29 =>
∃ (r_30:Int),v_28 = .int .i64 r_30/\(
bindI (IntKind.i64.wrap (z_17+r_30)) fun z_31 =>
bindI (IntKind.i64.wrap (i_16+(2:Int))) fun z_32 =>
∃ m_11,m_11<n_12/\J_10 m_11 [.int .i64 z_31, .int .i64 z_32] h_29)) (Kp)) <|
K (.int .i64 n_15) h_13)
end Go.Den.YtfaclehehhgpcaaGreat
namespace Go.Den.YtfaclehehhgpcaaGreat
open Go Go.Den
theorem call_burinref6_Size {template:Int} {h:Heap} {K:VK} {Kp:PK} (H:burinref6_Size (CallsHP Go.Proofs.Tryz.prog) template h K Kp):CallsHP Go.Proofs.Tryz.prog F_burinref6_Size #[.int .i64 template] h K Kp :=
 callsHP_ofE (Hints.mk (fun i=>none) (fun i=>none) (fun i=>none) []) (by kernel_rfl) Go.Proofs.Tryz.func147 (by kernel_rfl) (fun C=>burinref6_Size C template h K Kp) (fun C=>by kernel_rfl) H
theorem call_burinref6_Places {template:Int} {h:Heap} {K:VK} {Kp:PK} (H:burinref6_Places (CallsHP Go.Proofs.Tryz.prog) template h K Kp):CallsHP Go.Proofs.Tryz.prog F_burinref6_Places #[.int .i64 template] h K Kp :=
 callsHP_ofE (Hints.mk (fun i=>none) (fun i=>none) (fun i=>none) []) (by kernel_rfl) Go.Proofs.Tryz.func151 (by kernel_rfl) (fun C=>burinref6_Places C template h K Kp) (fun C=>by kernel_rfl) H
theorem call_burinref6_At {b_1:Int} {b_2:Int} {b_3:Option Addr} {b_3n:Nat} {b_3c:Nat} {places:Option Addr} {placesn:Nat} {placesc:Nat} {x:Int} {y:Int} {h:Heap} {K:VK} {Kp:PK} (H:burinref6_At (CallsHP Go.Proofs.Tryz.prog) b_1 b_2 b_3 b_3n b_3c places placesn placesc x y h K Kp):CallsHP Go.Proofs.Tryz.prog F_burinref6_At #[.agg #[.int .i64 b_1, .int .i64 b_2, .slice b_3 b_3n b_3c], .slice places placesn placesc, .int .i64 x, .int .i64 y] h K Kp :=
 callsHP_ofE (Hints.mk (fun i=>bif Nat.beq i 7 then some ([16], .take 0 <| .take 1 <| .take 3 <| .take 4 <| .take 5 <| .take 6 <| .take 9 <| .take 10 <| .take 11 <| .take 12 <| .take 13 <| .take 2 <| .take 7 <| .take 8 <| .take 14 <| .take 15 <| .bar 16 [] <| .take 17 <| .take 18 <| .done) else (none)) (fun i=>bif Nat.beq i 5 then some ([(9, .int .i64),(10, .int .i64)],36028794871481856) else (none)) (fun i=>none) []) (by kernel_rfl) Go.Proofs.Tryz.func153 (by kernel_rfl) (fun C=>burinref6_At C b_1 b_2 b_3 b_3n b_3c places placesn placesc x y h K Kp) (fun C=>by kernel_rfl) H
end Go.Den.YtfaclehehhgpcaaGreat
namespace Go.Bm
open Go Go.Den Go.Den.YtfaclehehhgpcaaGreat
abbrev Sp:=Int × Int × Int
def spanL:Nat->List Sp
 | 0=>[(-2,-2,2),(-1,-3,3),(0,-4,-1)]
 | 1=>[(-2,-1,2),(-1,-2,3),(0,-3,-1)]
 | 2=>[(-2,-1,1),(-1,-2,2),(0,-2,-1)]
 | _=>[(-1,-3,2),(0,-4,-1)]
def spanW (s:Sp):Nat:=(s.2.2-s.2.1+1).toNat
def spl (s:Sp) (k:Nat):List (Int × Int):=(List.range k).map fun (j:Nat)=>(s.2.1+(j:Int),s.1)
def plcs (l:List Sp):List (Int × Int):=l.flatMap fun s=>spl s (spanW s)
def pb (G:Int->Int->Bool) (x y:Int) (l:List (Int × Int)):List Bool:=l.map fun p=>G (x+p.1) (y+p.2)
def gctx (t:Nat) (G:Int->Int->Bool) (x y:Int):Nat:=bitsN 0 (pb G x y (plcs (spanL t)))
def gsize (t:Nat):Nat:=2 ^ (plcs (spanL t)).length
theorem gsize_le {t:Nat} (h:t<4):1024<=gsize t/\gsize t<=65536:=by
 have:t=0\/t=1\/t=2\/t=3:=by omega
 rcases this with rfl | rfl | rfl | rfl <;> decide
theorem gctx_lt (t:Nat) (G:Int->Int->Bool) (x y:Int):gctx t G x y<gsize t:=by
 unfold gctx gsize
 have:=bitsN_lt (pb G x y (plcs (spanL t))) 0 0 (by decide)
 rw [Nat.zero_add] at this
 simpa [pb] using this
structure SpOk (s:Sp):Prop where
 d:-2<=s.1/\s.1<=0
 f:-4<=s.2.1/\s.2.1<=s.2.2
 t:s.2.2<=3
 z:s.1=0->s.2.2<=-1
theorem spanL_ok {t:Nat} (h:t<4):∀ s∈spanL t,SpOk s:=by
 have:t=0\/t=1\/t=2\/t=3:=by omega
 rcases this with rfl | rfl | rfl | rfl <;> (intro s hs; simp [spanL] at hs; rcases hs with rfl | rfl | rfl <;> exact ⟨by decide,by decide,by decide,by decide⟩)
theorem spanL_len {t:Nat} (h:t<4):2<=(spanL t).length/\(spanL t).length<=3:=by
 have:t=0\/t=1\/t=2\/t=3:=by omega
 rcases this with rfl | rfl | rfl | rfl <;> decide
def spC:List Sp->List Value
 | []=>[]
 | s::l => .int .i64 s.1 :: .int .i64 s.2.1 :: .int .i64 s.2.2::spC l
theorem spC_get:∀ {l:List Sp} {i:Nat} {s:Sp},l[i]? = some s->(spC l)[i*3]? = some (.int .i64 s.1)/\(spC l)[i*3+1]? = some (.int .i64 s.2.1)/\(spC l)[i*3+2]? = some (.int .i64 s.2.2)
 | [],i,s,h=>by simp at h
 | a::l,0,s,h=>by
  simp at h
  subst h
  exact ⟨rfl,rfl,rfl⟩
 | a::l,i+1,s,h=>by
  have:=spC_get (l:=l) (i:=i) (s:=s) (by simpa using h)
  rw [show (i+1)*3=i*3+3 by omega]
  exact this
section
variable {hB:Heap} {K:VK} {Kp:PK}
theorem cspans_ok {template:Int} (hg:∀ t:Nat,t<4->template=(t:Int)->∀ r h',Hp hB [] h' [⟨r,true,T_context_span,spC (spanL t)⟩]->K (.slice (at0 r) (spanL t).length (spanL t).length) h')
  (hbad:¬ (0<=template/\template<4)->K (.slice none 0 0) hB):CP F_context_spans #[.int .i64 template] hB K Kp:=by
 refine call_context_spans ?_
 unfold context_spans
 have H:=Hp.nil hB []
 refine bcase_eq (fun h0=>?_) fun h0=>bcase_eq (fun h1=>?_) fun h1=>bcase_eq (fun h2=>?_) fun h2=>bcase_eq (fun h3=>?_) fun h3=>hbad (by omega)
 ·exact newC_hp H fun r h H=>hg 0 (by decide) h0 r h H
 ·exact newC_hp H fun r h H=>hg 1 (by decide) h1 r h H
 ·exact newC_hp H fun r h H=>hg 2 (by decide) h2 r h H
 ·exact newC_hp H fun r h H=>hg 3 (by decide) h3 r h H
theorem gspans_ok {t:Nat} (ht:t<4) (hk:∀ r h',Hp hB [] h' [⟨r,true,T_generic_span,spC (spanL t)⟩]->K (.slice (at0 r) (spanL t).length (spanL t).length) h'):CP F_generic_spans #[.int .i64 (t:Nat)] hB K Kp:=by
 refine call_generic_spans ?_
 unfold generic_spans
 have H:=Hp.nil hB []
 have:t=0\/t=1\/t=2\/t=3:=by omega
 rcases this with rfl | rfl | rfl | rfl
 ·refine bcase_true (by decide) ?_
  exact newC_hp H fun r h H=>hk r h H
 ·refine bcase_false (by decide) (bcase_true (by decide) ?_)
  exact newC_hp H fun r h H=>hk r h H
 ·refine bcase_false (by decide) (bcase_false (by decide) (bcase_true (by decide) ?_))
  exact newC_hp H fun r h H=>hk r h H
 ·refine bcase_false (by decide) (bcase_false (by decide) (bcase_false (by decide) ?_))
  exact newC_hp H fun r h H=>hk r h H
theorem plcs_take {l:List Sp} {i:Nat} {s:Sp} (h:l[i]? = some s):(plcs (l.take (i+1))).length=(plcs (l.take i)).length+spanW s:=by
 have hi:=(List.getElem?_eq_some_iff.1 h).1
 have e:=(List.getElem?_eq_some_iff.1 h).2
 rw [List.take_succ_eq_append_getElem hi,e]
 unfold plcs
 rw [List.flatMap_append,List.length_append]
 simp [spl]
theorem plcs_small {t i:Nat} (ht:t<4):(plcs ((spanL t).take i)).length<=16:=by
 have:t=0\/t=1\/t=2\/t=3:=by omega
 have hi:i=0\/i=1\/i=2\/3<=i:=by omega
 rcases hi with rfl | rfl | rfl | hi
 ·rcases this with rfl | rfl | rfl | rfl <;> decide
 ·rcases this with rfl | rfl | rfl | rfl <;> decide
 ·rcases this with rfl | rfl | rfl | rfl <;> decide
 ·rw [List.take_of_length_le (Nat.le_trans (spanL_len ht).2 hi)]
  rcases this with rfl | rfl | rfl | rfl <;> decide
theorem csize_ok {template:Int} (hg:∀ t:Nat,t<4->template=(t:Int)->∀ h',hext hB h'->K (.tuple #[.int .i64 (gsize t:Nat), .int .i64 0]) h')
  (hbad:¬ (0<=template/\template<4)->∀ h',hext hB h'->K (.tuple #[.int .i64 0, .int .i64 60]) h'):CP F_context_Size #[.int .i64 template] hB K Kp:=by
 refine call_context_Size ?_
 unfold context_Size
 refine cspans_ok (fun t ht et r h H=>?_) fun hn=>?_
 ·refine ⟨_,_,_,rfl,?_⟩
  refine bcase_false (by rfl) ?_
  have hlen:=spanL_len ht
  refine ⟨fun n vs h'=>∃ i:Nat,i+n=(spanL t).length/\vs=[.int .i64 ((plcs ((spanL t).take i)).length:Nat), .int .i64 (i:Nat)]/\Hp hB [] h' [⟨r,true,T_context_span,spC (spanL t)⟩],⟨(spanL t).length,0,by omega,rfl,H⟩,?_⟩
  clear H
  rintro n h u a b ⟨i,hin,hxx,H⟩
  injection hxx with h1 hxx
  injection hxx with h2 hxx
  injection h1 with _ h1
  injection h2 with _ h2
  subst h1 h2
  refine bcase_dec (fun h3=>?_) fun h3=>?_
  ·have hi:i<(spanL t).length:=by omega
   obtain ⟨s,hs⟩:∃ s,(spanL t)[i]? = some s:=⟨_,List.getElem?_eq_getElem hi⟩
   have hok:=spanL_ok ht s (List.mem_of_getElem? hs)
   obtain ⟨k0,k1,k2⟩:=spC_get hs
   have o1:=hok.d
   have o2:=hok.f
   have o3:=hok.t
   refine needs_of (by omega) (ptr_of (a:=⟨r,0,none⟩) ?_)
   rw [Int.toNat_natCast]
   refine ldI_of (hpB H 0 rfl (by rw [Nat.zero_add,Nat.add_zero]; exact k0)) (ldI_of (hpB H 0 rfl (by rw [Nat.zero_add]; exact k1)) (ldI_of (hpB H 0 rfl (by rw [Nat.zero_add]; exact k2)) ?_))
   refine newC_hp H fun r15 h H=>?_
   repeat first | with_reducible refine ldI_of (by with_unfolding_all first | exact hpA H 0 rfl rfl | exact hpA H 1 rfl rfl | exact Hp.cell H 0 rfl rfl | exact Hp.cell H 1 rfl rfl | exact hpB H 0 rfl rfl | exact hpB H 1 rfl rfl | exact hpC H 0 rfl rfl | exact hpC H 1 rfl rfl) ?_ | with_reducible refine ldS_of (by with_unfolding_all first | exact hpA H 0 rfl rfl | exact hpA H 1 rfl rfl | exact Hp.cell H 0 rfl rfl | exact Hp.cell H 1 rfl rfl | exact hpB H 0 rfl rfl | exact hpB H 1 rfl rfl | exact hpC H 0 rfl rfl | exact hpC H 1 rfl rfl) ?_ | with_reducible refine ldP_of (by with_unfolding_all first | exact hpA H 0 rfl rfl | exact hpA H 1 rfl rfl | exact Hp.cell H 0 rfl rfl | exact Hp.cell H 1 rfl rfl | exact hpB H 0 rfl rfl | exact hpB H 1 rfl rfl | exact hpC H 0 rfl rfl | exact hpC H 1 rfl rfl) ?_ | with_reducible refine ldB_of (by with_unfolding_all first | exact hpA H 0 rfl rfl | exact hpA H 1 rfl rfl | exact Hp.cell H 0 rfl rfl | exact Hp.cell H 1 rfl rfl | exact hpB H 0 rfl rfl | exact hpB H 1 rfl rfl | exact hpC H 0 rfl rfl | exact hpC H 1 rfl rfl) ?_ | with_reducible refine ldT_of (by with_unfolding_all first | exact hpA H 0 rfl rfl | exact hpA H 1 rfl rfl | exact Hp.cell H 0 rfl rfl | exact Hp.cell H 1 rfl rfl | exact hpB H 0 rfl rfl | exact hpB H 1 rfl rfl | exact hpC H 0 rfl rfl | exact hpC H 1 rfl rfl) ?_ | with_reducible refine stA H 0 (by with_unfolding_all exact rfl) (by with_unfolding_all exact rfl) (by with_unfolding_all exact rfl) fun h H=>?_ | with_reducible refine stA H 1 (by with_unfolding_all exact rfl) (by with_unfolding_all exact rfl) (by with_unfolding_all exact rfl) fun h H=>?_ | with_reducible refine st0 H 0 (by with_unfolding_all exact rfl) (by with_unfolding_all exact rfl) (by with_unfolding_all exact rfl) fun h H=>?_ | with_reducible refine st0 H 1 (by with_unfolding_all exact rfl) (by with_unfolding_all exact rfl) (by with_unfolding_all exact rfl) fun h H=>?_ | with_reducible refine stB H 0 (by with_unfolding_all exact rfl) (by with_unfolding_all exact rfl) (by with_unfolding_all exact rfl) fun h H=>?_ | with_reducible refine stB H 1 (by with_unfolding_all exact rfl) (by with_unfolding_all exact rfl) (by with_unfolding_all exact rfl) fun h H=>?_
   have hw:((spanW s:Nat):Int)=s.2.2-s.2.1+1:=by unfold spanW; omega
   have hsm:=plcs_small (i:=i+1) ht
   have htk:=plcs_take hs
   refine bindI_of ((s.2.2-s.2.1)) (by exact i64_in _ (by omega) (by omega)) ?_
   refine bindI_of (((spanW s:Nat):Int)) (by exact i64_at _ _ (by omega) (by omega) (by omega)) ?_
   refine bindI_of ((((plcs ((spanL t).take (i+1))).length:Nat):Int)) (by exact i64_at _ _ (by omega) (by omega) (by omega)) ?_
   refine bindI_of (((i+1:Nat):Int)) (by exact i64_at _ _ (by omega) (by omega) (by omega)) ?_
   exact ⟨n-1,by omega,i+1,by omega,rfl,H.take 1⟩
  ·have hi:(spanL t).length<=i:=by omega
   have hsm:=plcs_small (i:=i) ht
   rw [List.take_of_length_le hi] at hsm ⊢
   refine needs_of (by omega) ?_
   refine bindI_of (((gsize t:Nat):Int)) (by exact (shlI_of (a:=1) (i:=(plcs (spanL t)).length) (by omega) (by rw [Nat.one_mul]; exact Nat.lt_of_le_of_lt (gsize_le ht).2 (by decide))).trans (by rw [Nat.one_mul]; rfl)) ?_
   exact hg t ht et _ H.hext
 ·refine ⟨_,_,_,rfl,?_⟩
  refine bcase_true (by rfl) ?_
  exact hbad hn _ (hext.refl _)
def plcI (l:List (Int × Int)):List Value:=l.flatMap fun p=>[.int .i64 p.1, .int .i64 p.2]
theorem plcI_get:∀ {l:List (Int × Int)} {i:Nat} {p:Int × Int},l[i]? = some p->(plcI l)[2*i]? = some (.int .i64 p.1)/\(plcI l)[2*i+1]? = some (.int .i64 p.2)
 | [],i,s,h=>by simp at h
 | a::l,0,s,h=>by
  simp at h
  subst h
  exact ⟨rfl,rfl⟩
 | a::l,i+1,s,h=>by
  have:=plcI_get (l:=l) (i:=i) (p:=s) (by simpa using h)
  rw [show 2*(i+1)=2*i+2 by omega]
  exact this
theorem places_ok {t:Nat} (ht:t<4) (hk:∀ r h',Hp hB [] h' [⟨r,true,T_int,plcI (plcs (spanL t))⟩]->K (.slice (at0 r) (2*(plcs (spanL t)).length) (2*(plcs (spanL t)).length)) h'):CP F_burinref6_Places #[.int .i64 (t:Nat)] hB K Kp:=by
 refine call_burinref6_Places ?_
 unfold burinref6_Places
 have H:=Hp.nil hB []
 have:t=0\/t=1\/t=2\/t=3:=by omega
 rcases this with rfl | rfl | rfl | rfl
 ·refine bcase_true (by decide) ?_
  exact newC_hp H fun r h H=>hk r h H
 ·refine bcase_false (by decide) (bcase_true (by decide) ?_)
  exact newC_hp H fun r h H=>hk r h H
 ·refine bcase_false (by decide) (bcase_false (by decide) (bcase_true (by decide) ?_))
  exact newC_hp H fun r h H=>hk r h H
 ·refine bcase_false (by decide) (bcase_false (by decide) (bcase_false (by decide) ?_))
  exact newC_hp H fun r h H=>hk r h H
theorem rsize6_ok {t:Nat} (ht:t<4) (hk:∀ h',hext hB h'->K (.int .i64 (gsize t:Nat)) h'):CP F_burinref6_Size #[.int .i64 (t:Nat)] hB K Kp:=by
 refine call_burinref6_Size ?_
 unfold burinref6_Size
 refine places_ok ht fun r h H=>?_
 refine ⟨_,_,_,rfl,?_⟩
 have hsm:=plcs_small (i:=3) ht
 rw [List.take_of_length_le (spanL_len ht).2] at hsm
 refine bindI_of ((((plcs (spanL t)).length:Nat):Int)) (by exact i64_at _ _ ((tdiv_nat _ 2).trans (by congr 1; omega)) (by omega) (by omega)) ?_
 refine bindI_of ((((plcs (spanL t)).length:Nat):Int)) (by exact u64_at _ _ rfl (by omega) (by omega)) ?_
 refine needs_of (by omega) ?_
 refine bindI_of (((gsize t:Nat):Int)) (by exact (shlI_of (a:=1) (i:=(plcs (spanL t)).length) (by omega) (by rw [Nat.one_mul]; exact Nat.lt_of_le_of_lt (gsize_le ht).2 (by decide))).trans (by rw [Nat.one_mul]; rfl)) ?_
 exact hk _ H.hext
theorem at6_ok {W X:Nat} {q:Option Addr} {c:Nat} {ws:List Nat} {t:Nat} (ht:t<4) (hr:rdO hB q (ws.length*1) (u64s ws)) (hw:W64 ws) (hs:SizeP (W:Int) (X:Int)) (hl:ws.length=X*wds W)
  {pq:Option Addr} {pc:Nat} (hp:rdO hB pq (2*(plcs (spanL t)).length*1) (plcI (plcs (spanL t)))) {x y:Nat} (hx:x<W) (hy:y<X) (hk:∀ h',hext hB h'->K (.int .i64 (gctx t (getP ws W X) x y:Nat)) h') :
  CP F_burinref6_At #[.agg #[.int .i64 (W:Nat), .int .i64 (X:Nat), .slice q ws.length c], .slice pq (2*(plcs (spanL t)).length) pc, .int .i64 (x:Nat), .int .i64 (y:Nat)] hB K Kp:=by
 refine call_burinref6_At ?_
 unfold burinref6_At
 obtain ⟨W',X',e1,e2,hW1,hW2,hX1,hX2,hWX⟩:=size_nat hs
 obtain rfl:W=W':=by omega
 obtain rfl:X=X':=by omega
 have H:=Hp.nil hB []
 refine newC_hp H fun r4 h H=>?_
 refine bcase_dec (fun h1=>by omega) fun h1=>?_
 refine bcase_dec (fun h1=>by omega) fun h1=>?_
 repeat first | with_reducible refine ldI_of (by with_unfolding_all first | exact hpA H 0 rfl rfl | exact Hp.cell H 0 rfl rfl | exact hpB H 0 rfl rfl | exact hpC H 0 rfl rfl) ?_ | with_reducible refine ldS_of (by with_unfolding_all first | exact hpA H 0 rfl rfl | exact Hp.cell H 0 rfl rfl | exact hpB H 0 rfl rfl | exact hpC H 0 rfl rfl) ?_ | with_reducible refine ldP_of (by with_unfolding_all first | exact hpA H 0 rfl rfl | exact Hp.cell H 0 rfl rfl | exact hpB H 0 rfl rfl | exact hpC H 0 rfl rfl) ?_ | with_reducible refine ldB_of (by with_unfolding_all first | exact hpA H 0 rfl rfl | exact Hp.cell H 0 rfl rfl | exact hpB H 0 rfl rfl | exact hpC H 0 rfl rfl) ?_ | with_reducible refine ldT_of (by with_unfolding_all first | exact hpA H 0 rfl rfl | exact Hp.cell H 0 rfl rfl | exact hpB H 0 rfl rfl | exact hpC H 0 rfl rfl) ?_
 refine bindI_of (((W+10:Nat):Int)) (by exact i64_at _ _ (by omega) (by omega) (by omega)) ?_
 refine bcase_dec (fun h1=>by omega) fun h1=>?_
 repeat first | with_reducible refine ldI_of (by with_unfolding_all first | exact hpA H 0 rfl rfl | exact Hp.cell H 0 rfl rfl | exact hpB H 0 rfl rfl | exact hpC H 0 rfl rfl) ?_ | with_reducible refine ldS_of (by with_unfolding_all first | exact hpA H 0 rfl rfl | exact Hp.cell H 0 rfl rfl | exact hpB H 0 rfl rfl | exact hpC H 0 rfl rfl) ?_ | with_reducible refine ldP_of (by with_unfolding_all first | exact hpA H 0 rfl rfl | exact Hp.cell H 0 rfl rfl | exact hpB H 0 rfl rfl | exact hpC H 0 rfl rfl) ?_ | with_reducible refine ldB_of (by with_unfolding_all first | exact hpA H 0 rfl rfl | exact Hp.cell H 0 rfl rfl | exact hpB H 0 rfl rfl | exact hpC H 0 rfl rfl) ?_ | with_reducible refine ldT_of (by with_unfolding_all first | exact hpA H 0 rfl rfl | exact Hp.cell H 0 rfl rfl | exact hpB H 0 rfl rfl | exact hpC H 0 rfl rfl) ?_
 refine bindI_of (((X+10:Nat):Int)) (by exact i64_at _ _ (by omega) (by omega) (by omega)) ?_
 refine bcase_dec (fun h1=>by omega) fun h1=>?_
 have hsm:=plcs_small (i:=3) ht
 rw [List.take_of_length_le (spanL_len ht).2] at hsm
 have hpl:∀ p∈plcs (spanL t),(-4<=p.1/\p.1<=3)/\-2<=p.2/\p.2<=0:=by
  have:t=0\/t=1\/t=2\/t=3:=by omega
  rcases this with rfl | rfl | rfl | rfl <;> decide
 have hlt:=gctx_lt t (getP ws W X) x y
 have hgs:=gsize_le ht
 unfold gctx at hk hlt
 generalize hP:plcs (spanL t)=P at hp hsm hpl hk hlt ⊢
 have hpart:∀ i,i<=P.length->bitsN 0 (pb (getP ws W X) x y (P.take i))<65536:=fun i hi=>by
  have:=bitsN_lt (pb (getP ws W X) x y (P.take i)) 0 0 (by decide)
  rw [Nat.zero_add] at this
  refine Nat.lt_of_lt_of_le this ?_
  rw [show (65536:Nat)=2 ^ 16 from rfl]
  exact Nat.pow_le_pow_right (by decide) (by simp [pb]; omega)
 refine ⟨fun n vs h'=>∃ i:Nat,i+n=P.length/\vs=[.int .i64 (bitsN 0 (pb (getP ws W X) x y (P.take i)):Nat), .int .i64 (2*i:Nat)]/\Hp hB [] h' [⟨r4,true,T_api_Bitmap,[.int .i64 (W:Nat), .int .i64 (X:Nat), .slice q ws.length c]⟩],⟨P.length,0,by omega,rfl,H⟩,?_⟩
 clear H
 rintro n h u a b ⟨i,hin,hxx,H⟩
 injection hxx with h1 hxx
 injection hxx with h2 hxx
 injection h1 with _ h1
 injection h2 with _ h2
 subst h1 h2
 refine bcase_dec (fun h3=>?_) fun h3=>?_
 ·have hi:i<P.length:=by omega
  obtain ⟨p,hpi⟩:∃ p,P[i]? = some p:=⟨_,List.getElem?_eq_getElem hi⟩
  obtain ⟨k0,k1⟩:=plcI_get hpi
  obtain ⟨a0,ha0,hc0⟩:=Go.Ar.rdO_cell hp k0
  obtain ⟨a1,ha1,hc1⟩:=Go.Ar.rdO_cell hp k1
  obtain rfl:a0=a1:=Option.some.inj (ha0.symm.trans ha1)
  subst ha0
  have hpb:=hpl p (List.mem_of_getElem? hpi)
  have hq1:=hpart i (by omega)
  have hq2:=hpart (i+1) (by omega)
  have hnx:bitsN 0 (pb (getP ws W X) x y (P.take (i+1)))=2*bitsN 0 (pb (getP ws W X) x y (P.take i))+(getP ws W X ((x:Int)+p.1) ((y:Int)+p.2)).toNat:=by
   have e:=(List.getElem?_eq_some_iff.1 hpi).2
   rw [List.take_succ_eq_append_getElem hi,e]
   unfold pb
   rw [List.map_append,bitsN_app]
   rfl
  have hbb:=toNat_le (getP ws W X ((x:Int)+p.1) ((y:Int)+p.2))
  generalize bitsN 0 (pb (getP ws W X) x y (P.take i))=acc at hq1 hnx ⊢
  refine bindI_of (((2*acc:Nat):Int)) (by exact i64_at _ _ (by omega) (by omega) (by omega)) ?_
  refine needs_of (by omega) (ptr_of (a:=a0) ?_)
  refine bindI_of (((2*i+1:Nat):Int)) (by exact i64_at _ _ (by omega) (by omega) (by omega)) ?_
  refine needs_of (by omega) (ptr_of (a:=a0) ?_)
  repeat first | with_reducible refine ldI_of (by with_unfolding_all first | exact hpA H 0 rfl rfl | exact Hp.cell H 0 rfl rfl | exact hpB H 0 rfl rfl | exact hpC H 0 rfl rfl) ?_ | with_reducible refine ldS_of (by with_unfolding_all first | exact hpA H 0 rfl rfl | exact Hp.cell H 0 rfl rfl | exact hpB H 0 rfl rfl | exact hpC H 0 rfl rfl) ?_ | with_reducible refine ldP_of (by with_unfolding_all first | exact hpA H 0 rfl rfl | exact Hp.cell H 0 rfl rfl | exact hpB H 0 rfl rfl | exact hpC H 0 rfl rfl) ?_ | with_reducible refine ldB_of (by with_unfolding_all first | exact hpA H 0 rfl rfl | exact Hp.cell H 0 rfl rfl | exact hpB H 0 rfl rfl | exact hpC H 0 rfl rfl) ?_ | with_reducible refine ldT_of (by with_unfolding_all first | exact hpA H 0 rfl rfl | exact Hp.cell H 0 rfl rfl | exact hpB H 0 rfl rfl | exact hpC H 0 rfl rfl) ?_
  rw [Int.toNat_natCast,Int.toNat_natCast,Nat.mul_one,Nat.mul_one]
  refine ldI_of (H.fr.cell (by simp) hc0) ?_
  refine bindI_of (((x:Int)+p.1)) (by exact i64_in _ (by omega) (by omega)) ?_
  refine ldI_of (H.fr.cell (by simp) hc1) ?_
  refine bindI_of (((y:Int)+p.2)) (by exact i64_in _ (by omega) (by omega)) ?_
  refine get_ok (H.rdO hr) hw hs hl fun h' e=>?_
  have H:=H.ext e
  refine ⟨_,rfl,?_⟩
  refine bindI_of (((bitsN 0 (pb (getP ws W X) x y (P.take (i+1))):Nat):Int)) (by exact i64_at _ _ (by omega) (by omega) (by omega)) ?_
  refine bindI_of (((2*(i+1):Nat):Int)) (by exact i64_at _ _ (by omega) (by omega) (by omega)) ?_
  exact ⟨n-1,by omega,i+1,by omega,rfl,H⟩
 ·have hi:P.length<=i:=by omega
  rw [List.take_of_length_le hi]
  exact hk _ H.hext
end
end Go.Bm
namespace Go.Bm
open Go Go.Den Go.Den.YtfaclehehhgpcaaGreat
structure Wn where
 s:Sp
 b:Nat
def maskW (s:Sp):Nat:=2 ^ spanW s-1
def wnC (w:Wn):List Value:=[.int .i64 w.s.1, .int .i64 w.s.2.1, .int .i64 w.s.2.2, .int .i64 (w.b:Nat), .int .i64 (maskW w.s:Nat)]
def wnsC:List Wn->List Value
 | []=>[]
 | w::l=>wnC w++wnsC l
theorem wnsC_app:∀ (l l':List Wn),wnsC (l++l')=wnsC l++wnsC l'
 | [],_=>rfl
 | w::l,l'=>by
  show wnC w++wnsC (l++l')=(wnC w++wnsC l)++wnsC l'
  rw [wnsC_app l l',List.append_assoc]
theorem wnsC_len:∀ l:List Wn,(wnsC l).length=l.length*5
 | []=>rfl
 | w::l=>by
  show (wnC w++wnsC l).length=_
  rw [List.length_append,wnsC_len l,List.length_cons]
  show 5+_=_
  omega
theorem wnsC_get:∀ {l:List Wn} {i:Nat} {w:Wn},l[i]? = some w->∀ j v,(wnC w)[j]? = some v->(wnsC l)[i*5+j]? = some v
 | [],i,w,h=>by simp at h
 | a::l,0,w,h=>fun j v hv=>by
  simp at h
  subst h
  rw [Nat.zero_mul,Nat.zero_add]
  exact Go.Ar.get_app hv
 | a::l,i+1,w,h=>fun j v hv=>by
  have:=wnsC_get (l:=l) (i:=i) (w:=w) (by simpa using h) j v hv
  show (wnC a++wnsC l)[(i+1)*5+j]? = some v
  rw [show (i+1)*5+j=(wnC a).length+(i*5+j) by show _=5+_; omega,List.getElem?_append_right (by omega),Nat.add_sub_cancel_left]
  exact this
theorem wnsC_set:∀ {l:List Wn} {i:Nat} {w:Wn} (b:Nat),l[i]? = some w->(wnsC l).set (i*5+3) (.int .i64 (b:Nat))=wnsC (l.set i ⟨w.s,b⟩)
 | [],i,w,b,h=>by simp at h
 | a::l,0,w,b,h=>by
  simp at h
  subst h
  rfl
 | a::l,i+1,w,b,h=>by
  have:=wnsC_set (l:=l) (i:=i) (w:=w) b (by simpa using h)
  show (wnC a++wnsC l).set ((i+1)*5+3) _=wnC a++wnsC (l.set i ⟨w.s,b⟩)
  rw [<- this,show (i+1)*5+3=(wnC a).length+(i*5+3) by show _=5+_; omega,List.set_append_right _ _ (by omega),Nat.add_sub_cancel_left]
theorem bitsN_val:∀ (l:List Bool) (n:Nat),bitsN n l=n*2 ^ l.length+bitsN 0 l
 | [],n=>by simp [bitsN]
 | b::l,n=>by
  have h1:=bitsN_val l (2*n+b.toNat)
  have h2:=bitsN_val l (2*0+b.toNat)
  show bitsN (2*n+b.toNat) l=n*2 ^ (l.length+1)+bitsN (2*0+b.toNat) l
  have e:(2*n+b.toNat)*2 ^ l.length=n*2 ^ (l.length+1)+b.toNat*2 ^ l.length:=by
   rw [Nat.add_mul,Nat.pow_succ,Nat.mul_comm (2 ^ l.length) 2,<- Nat.mul_assoc,Nat.mul_comm 2 n]
  rw [h1,h2,Nat.mul_zero,Nat.zero_add,e,Nat.add_assoc]
theorem bits0_lt (l:List Bool):bitsN 0 l<2 ^ l.length:=by
 have:=bitsN_lt l 0 0 (by decide)
 rwa [Nat.zero_add] at this
theorem bits_head (b:Bool) (l:List Bool):bitsN 0 (b::l) % 2 ^ l.length=bitsN 0 l:=by
 show bitsN (2*0+b.toNat) l % _=_
 rw [bitsN_val,Nat.mul_comm,Nat.mul_add_mod]
 exact Nat.mod_eq_of_lt (bits0_lt l)
theorem spl_len (s:Sp) (k:Nat):(spl s k).length=k:=by simp [spl]
theorem pb_len (G:Int->Int->Bool) (x y:Int) (l:List (Int × Int)):(pb G x y l).length=l.length:=by simp [pb]
theorem pb_snoc (G:Int->Int->Bool) (x y:Int) (s:Sp) (k:Nat):pb G x y (spl s (k+1))=pb G x y (spl s k)++[G (x+(s.2.1+(k:Int))) (y+s.1)]:=by
 unfold pb spl
 rw [List.range_succ,List.map_append,List.map_append]
 rfl
theorem bits_snoc (G:Int->Int->Bool) (x y:Int) (s:Sp) (k:Nat):bitsN 0 (pb G x y (spl s (k+1)))=2*bitsN 0 (pb G x y (spl s k))+(G (x+(s.2.1+(k:Int))) (y+s.1)).toNat:=by
 rw [pb_snoc,bitsN_app]
 rfl
theorem pb_head (G:Int->Int->Bool) (x y:Int) (s:Sp) (k:Nat):pb G x y (spl s (k+1))=G (x+s.2.1) (y+s.1)::pb G (x+1) y (spl s k):=by
 unfold pb spl
 rw [List.range_succ_eq_map,List.map_cons,List.map_cons,List.map_map,List.map_map,List.map_map]
 congr 1
 ·simp
 ·refine List.map_congr_left fun j _=>?_
  simp only [Function.comp]
  congr 1
  push_cast
  omega
theorem spanW_pos {s:Sp} (h:SpOk s):1<=spanW s/\spanW s<=8/\((spanW s:Nat):Int)=s.2.2-s.2.1+1:=by
 have h1:=h.f
 have h2:=h.t
 unfold spanW
 omega
theorem mask_add (s:Sp):maskW s+1=2 ^ spanW s:=by
 unfold maskW
 have:=Nat.two_pow_pos (spanW s)
 omega
theorem win_step {G:Int->Int->Bool} {x y:Int} {s:Sp} {b:Nat} (h:SpOk s) (hb:b % 2 ^ (spanW s-1)=bitsN 0 (pb G x y (spl s (spanW s-1)))) :
  (2*b+(G (x+s.2.2) (y+s.1)).toNat) % 2 ^ spanW s=bitsN 0 (pb G x y (spl s (spanW s))):=by
 obtain ⟨h1,h2,h3⟩:=spanW_pos h
 obtain ⟨k,hk⟩:∃ k,spanW s=k+1:=⟨spanW s-1,by omega⟩
 rw [hk,Nat.add_sub_cancel] at hb
 have hg:=toNat_le (G (x+s.2.2) (y+s.1))
 have e:(s.2.1+(k:Int))=s.2.2:=by omega
 rw [hk,bits_snoc,e,<- hb,Nat.pow_succ,Nat.mul_comm _ 2]
 have hp:=Nat.two_pow_pos k
 have hd:=Nat.div_add_mod b (2 ^ k)
 have hm:=Nat.mod_lt b hp
 generalize hq:b / 2 ^ k=q at hd
 generalize hr:b % 2 ^ k=r at hd hm ⊢
 rw [<- hd]
 have e2:2*(2 ^ k*q+r)+(G (x+s.2.2) (y+s.1)).toNat=2*2 ^ k*q+(2*r+(G (x+s.2.2) (y+s.1)).toNat):=by
  rw [Nat.mul_add,Nat.mul_assoc,Nat.add_assoc]
 rw [e2,Nat.mul_add_mod]
 exact Nat.mod_eq_of_lt (by omega)
theorem win_next {G:Int->Int->Bool} {x y:Int} {s:Sp} (h:SpOk s) (bit:Bool):bitsN 0 (pb G x y (spl s (spanW s))) % 2 ^ (spanW s-1)=bitsN 0 (pb (upd G x y bit) (x+1) y (spl s (spanW s-1))):=by
 obtain ⟨h1,h2,h3⟩:=spanW_pos h
 obtain ⟨k,hk⟩:∃ k,spanW s=k+1:=⟨spanW s-1,by omega⟩
 rw [hk,Nat.add_sub_cancel,pb_head]
 have hl:(pb G (x+1) y (spl s k)).length=k:=by rw [pb_len,spl_len]
 have hb:=bits_head (G (x+s.2.1) (y+s.1)) (pb G (x+1) y (spl s k))
 rw [hl] at hb
 rw [hb]
 congr 1
 unfold pb spl
 rw [List.map_map,List.map_map]
 refine List.map_congr_left fun j hj=>?_
 have hj:=List.mem_range.1 hj
 simp only [Function.comp]
 unfold upd
 rw [if_neg]
 rintro ⟨e1,e2⟩
 have h4:=h.z (by omega)
 omega
def WinOk (G:Int->Int->Bool) (x y:Int) (S:List Sp) (i:Nat) (wl:List Wn):Prop:=wl.length=S.length/\∀ j s,S[j]? = some s->∃ b,wl[j]? = some ⟨s,b⟩/\b<2 ^ spanW s /\
 (j<i->b=bitsN 0 (pb G x y (spl s (spanW s))))/\(i<=j->b % 2 ^ (spanW s-1)=bitsN 0 (pb G x y (spl s (spanW s-1))))
theorem WinOk.step {G:Int->Int->Bool} {x y:Int} {S:List Sp} {i:Nat} {wl:List Wn} {s:Sp} (h:WinOk G x y S i wl) (hs:S[i]? = some s):WinOk G x y S (i+1) (wl.set i ⟨s,bitsN 0 (pb G x y (spl s (spanW s)))⟩):=by
 refine ⟨by rw [List.length_set]; exact h.1,fun j s' hj=>?_⟩
 by_cases hji:i=j
 ·subst hji
  obtain rfl:s=s':=Option.some.inj (hs.symm.trans hj)
  have hi:i<wl.length:=by rw [h.1]; exact (List.getElem?_eq_some_iff.1 hs).1
  refine ⟨_,List.getElem?_set_self hi,?_,fun _=>rfl,fun h=>by omega⟩
  have:=bits0_lt (pb G x y (spl s (spanW s)))
  rwa [pb_len,spl_len] at this
 ·obtain ⟨b,h1,h2,h3,h4⟩:=h.2 j s' hj
  exact ⟨b,by rw [List.getElem?_set_ne hji]; exact h1,h2,fun h5=>h3 (by omega),fun h5=>h4 (by omega)⟩
theorem WinOk.next {G:Int->Int->Bool} {x y:Int} {S:List Sp} {wl:List Wn} (h:WinOk G x y S S.length wl) (hS:∀ s∈S,SpOk s) (bit:Bool):WinOk (upd G x y bit) (x+1) y S 0 wl:=by
 refine ⟨h.1,fun j s hj=>?_⟩
 obtain ⟨b,h1,h2,h3,h4⟩:=h.2 j s hj
 have hjl:=(List.getElem?_eq_some_iff.1 hj).1
 refine ⟨b,h1,h2,fun h5=>absurd h5 (Nat.not_lt_zero _),fun _=>?_⟩
 rw [h3 hjl]
 exact win_next (hS s (List.mem_of_getElem? hj)) bit
theorem ctx_step (G:Int->Int->Bool) (x y:Int) {S:List Sp} {i:Nat} {s:Sp} (hs:S[i]? = some s):bitsN 0 (pb G x y (plcs (S.take (i+1))))=bitsN 0 (pb G x y (plcs (S.take i)))*2 ^ spanW s+bitsN 0 (pb G x y (spl s (spanW s))):=by
 have hi:=(List.getElem?_eq_some_iff.1 hs).1
 have e:=(List.getElem?_eq_some_iff.1 hs).2
 rw [List.take_succ_eq_append_getElem hi,e]
 have e2:pb G x y (plcs (S.take i++[s]))=pb G x y (plcs (S.take i))++pb G x y (spl s (spanW s)):=by
  unfold plcs pb
  rw [List.flatMap_append,List.map_append]
  simp
 rw [e2,bitsN_app,bitsN_val,pb_len,spl_len]
section
variable {σ:Type}
def rowG (t:Nat) (step:σ->Nat->Bool->(Bool × σ) ⊕ (Int × σ)) (y:Nat):Nat->(Int->Int->Bool) × σ->((Int->Int->Bool) × σ) ⊕ (Int × σ)
 | 0,g => .inl g
 | k+1,g=>match rowG t step y k g with
  | .inr e => .inr e
  | .inl (G,s)=>match step s (gctx t G (k:Int) (y:Int)) (G (k:Int) (y:Int)) with
   | .inl (bit,s') => .inl (upd G (k:Int) (y:Int) bit,s')
   | .inr e => .inr e
theorem rowG_err {t:Nat} {step:σ->Nat->Bool->(Bool × σ) ⊕ (Int × σ)} {y:Nat} {g:(Int->Int->Bool) × σ} {e:Int × σ} {k:Nat} (h:rowG t step y k g = .inr e):∀ m,k<=m->rowG t step y m g = .inr e:=by
 intro m hm
 induction m with
 | zero=>rw [show k=0 by omega] at h; exact h
 | succ m ih =>
  rcases Nat.lt_or_ge m k with h1 | h1
  ·rw [show k=m+1 by omega] at h; exact h
  ·unfold rowG; rw [ih h1]
def sameB (G:Int->Int->Bool) (W y:Nat):Bool:=(List.range W).all fun x=>G (x:Int) (y:Int) == G (x:Int) ((y:Int)-1)
def copyRow (G:Int->Int->Bool) (y:Nat):Int->Int->Bool:=fun a b=>if b=(y:Int)/\y≠0 then G a ((y:Int)-1) else G a b
def runG (W t:Nat) (skip:Bool) (step:σ->Nat->Bool->(Bool × σ) ⊕ (Int × σ)):Nat->(Int->Int->Bool) × σ->((Int->Int->Bool) × σ) ⊕ (Int × σ)
 | 0,g => .inl g
 | y+1,g=>match runG W t skip step y g with
  | .inr e => .inr e
  | .inl (G,s)=>match skip with
   | false=>rowG t step y W (G,s)
   | true=>match step s (gsize t) (sameB G W y) with
    | .inr e => .inr e
    | .inl (true,s') => .inl (copyRow G y,s')
    | .inl (false,s')=>rowG t step y W (G,s')
theorem runG_err {W t:Nat} {skip:Bool} {step:σ->Nat->Bool->(Bool × σ) ⊕ (Int × σ)} {g:(Int->Int->Bool) × σ} {e:Int × σ} {k:Nat} (h:runG W t skip step k g = .inr e):∀ m,k<=m->runG W t skip step m g = .inr e:=by
 intro m hm
 induction m with
 | zero=>rw [show k=0 by omega] at h; exact h
 | succ m ih =>
  rcases Nat.lt_or_ge m k with h1 | h1
  ·rw [show k=m+1 by omega] at h; exact h
  ·unfold runG; rw [ih h1]
def DecOkI (N:Nat) (base:Int) (S:σ->List Ent->Prop) (Ok:Nat->σ->Prop) (step:σ->Nat->Bool->(Bool × σ) ⊕ (Int × σ)) (fv:Value):Prop :=
 (∃ t v,fv = .iface t v)/\∀ {h0 h:Heap} {FF:List Nat} {s:σ} {n:Nat} {bit:Bool} {K:VK} {Kp:PK},∀ {M:List Ent} {k:Nat},Ok k s->k<N->n<=65536->S s M->Hp h0 FF h M ->
  (∀ bit' s' M' h',step s n bit = .inl (bit',s')->Ok (k+1) s'->S s' M'->Hp h0 FF h' M'->K (.int .i64 (bit'.toNat:Nat)) h') ->
  (∀ e s' M' h',step s n bit = .inr (e,s')->Ok (k+1) s'->S s' M'->Hp h0 FF h' M'->Kp [{ v := .iface T_generic_fault (.agg #[.int .i64 e]),recovered:=false }] h') ->
  invokeD Go.Proofs.Tryz.prog (CallsHP Go.Proofs.Tryz.prog) fv "burin/generic.decide" [.int .i64 (base+(n:Int)), .int .i64 (bit.toNat:Nat)] h K Kp
end
end Go.Bm
namespace Go.Bm
open Go Go.Den Go.Den.YtfaclehehhgpcaaGreat
def procE (r p:Nat) (fv:Value) (base:Int) (t:Nat) (skip:Bool):Ent:=⟨r,true,T_generic_procedure,[fv, .pointer (at0 p), .int .i64 base, .int .i64 (t:Nat), .bool skip]⟩
theorem and_mask (a w:Nat) (ha:a<9223372036854775808) (hw:w<=62):bitI .and .i64 (a:Int) ((2 ^ w-1:Nat):Int)=((a % 2 ^ w:Nat):Int):=by
 have h1:2 ^ w<=2 ^ 62:=Nat.pow_le_pow_right (by decide) hw
 have h2:(2 ^ 62:Nat)=4611686018427387904:=rfl
 rw [and63 _ _ ha (by omega),Nat.and_two_pow_sub_one_eq_mod]
theorem keep_of {h0 h h3:Heap} {FF:List Nat} {A M:List Ent} {M':List Ent} (H:Hp h0 FF h (A++M)) (H':Hp h (M.map Ent.b) h3 M') {e:Ent} (he:e∈A):hkeep (fun b=>b=e.b) h h3 :=
 ⟨H'.fr.1,fun b hb hR=>H'.fr.2 b hb fun hm=>by
  obtain ⟨e',he',hbb⟩:=List.mem_map.1 hm
  exact (List.pairwise_append.1 H.pw).2.2 e he e' he' (by rw [<- hR,hbb])⟩
set_option maxHeartbeats 8000000 in
theorem grow_ok {σ:Type} {S:σ->List Ent->Prop} {Ok:Nat->σ->Prop} {step:σ->Nat->Bool->(Bool × σ) ⊕ (Int × σ)} {fv:Value} {base:Int} {NN:Nat} (hSw:∀ s M,S s M->M.all Ent.w=true) (hdec:DecOkI NN base S Ok step fv) (hb:0<=base/\base<=131072)
  {h0 h:Heap} {FF:List Nat} {rp p q W X N cc t y k0:Nat} {skip:Bool} {rest:List Value} {ws0:List Nat} {s0:σ} {M0:List Ent} (ht:t<4) (hS0:S s0 M0) (H:Hp h0 FF h ([procE rp p fv base t skip,mapE p q W X N cc,⟨q,true,T_uint64,u64s ws0++rest⟩]++M0))
  (hN:ws0.length=N) (hs:SizeP (W:Int) (X:Int)) (hl:N=X*wds W) (hw:W64 ws0) (hz:PadZ W X ws0) (hy:y<X) (hok0:Ok k0 s0) (hk0:k0+W<=NN) {K:VK} {Kp:PK}
  (hgood:∀ ws s M h',S s M->rowG t step y W (getP ws0 W X,s0) = .inl (getP ws W X,s)->ws.length=N->W64 ws->PadZ W X ws->Ok (k0+W) s->Hp h0 FF h' ([procE rp p fv base t skip,mapE p q W X N cc,⟨q,true,T_uint64,u64s ws++rest⟩]++M)->K (.tuple #[]) h')
  (hbad:∀ e ws s M h' k,S s M->rowG t step y W (getP ws0 W X,s0) = .inr (e,s)->ws.length=N->k<=NN->Ok k s->Hp h0 FF h' ([procE rp p fv base t skip,mapE p q W X N cc,⟨q,true,T_uint64,u64s ws++rest⟩]++M) ->
   Kp [{ v := .iface T_generic_fault (.agg #[.int .i64 e]),recovered:=false }] h') :
  CP F_generic_procedure_row #[.pointer (at0 rp), .int .i64 (W:Nat), .int .i64 (y:Nat)] h K Kp:=by
 refine call_generic_procedure_row ?_
 unfold generic_procedure_row
 obtain ⟨W',X',e1,e2,hW1,hW2,hX1,hX2,hWX⟩:=size_nat hs
 obtain rfl:W=W':=by omega
 obtain rfl:X=X':=by omega
 clear e1 e2
 have hSL:=spanL_len ht
 have hSok:=spanL_ok ht
 refine ptr_of (a:=⟨rp,0,none⟩) ?_
 refine ldI_of (hpA H 0 rfl rfl) ?_
 refine gspans_ok ht fun rs h' H'=>?_
 replace H:=(H.join H' rfl).rot
 clear H'
 refine ⟨_,_,_,rfl,?_⟩
 obtain ⟨SL,hSLd⟩:∃ SL,SL=spanL t:=⟨_,rfl⟩
 rw [<- hSLd] at H hSL hSok ⊢
 obtain ⟨G0,hG0⟩:∃ G0,G0=getP ws0 W X:=⟨_,rfl⟩
 obtain ⟨L0,hL0⟩:∃ L0:List Ent,L0=[⟨rs,true,T_generic_span,spC SL⟩,procE rp p fv base t skip,mapE p q W X N cc,⟨q,true,T_uint64,u64s ws0++rest⟩]++M0:=⟨_,rfl⟩
 have H:Hp h0 FF h' L0:=by rw [hL0]; exact H
 refine ⟨fun n vs h'=>∃ (i:Nat) (D:List Ent) (qw:Option Addr) (cw:Nat),i+n=SL.length/\vs=[.slice qw i cw, .int .i64 (i:Nat)] /\
   Slot T_generic_window 5 D qw i cw (wnsC ((SL.take i).map fun s=>⟨s,bitsN 0 (pb G0 0 y (spl s (spanW s-1)))⟩))/\Hp h0 FF h' (L0++D),
  ⟨SL.length,0,[],none,0,by omega,rfl,Slot.nil _ _,H.as (List.append_nil _).symm⟩,?_⟩
 clear H
 rintro n h u a b c d ⟨i,D,qw,cw,hin,hxx,hsl,H⟩
 injection hxx with h1 hxx
 injection hxx with h2 hxx
 injection h1 with h11 h12 h13
 injection h2 with _ h2
 subst a b c d
 refine bcase_dec (fun h3=>?_) fun h3=>?_
 ·
  have hi:i<SL.length:=by omega
  obtain ⟨s,hsi⟩:∃ s,SL[i]? = some s:=⟨_,List.getElem?_eq_getElem hi⟩
  have hso:=hSok s (List.mem_of_getElem? hsi)
  obtain ⟨k0',k1,k2⟩:=spC_get hsi
  have o1:=hso.d
  have o2:=hso.f
  have o3:=hso.t
  obtain ⟨w1,w2,w3⟩:=spanW_pos hso
  refine needs_of (by omega) (ptr_of (a:=⟨rs,0,none⟩) ?_)
  rw [Int.toNat_natCast]
  have H0:Hp h0 FF h ([⟨rs,true,T_generic_span,spC SL⟩,procE rp p fv base t skip,mapE p q W X N cc,⟨q,true,T_uint64,u64s ws0++rest⟩]++(M0++D)):=by
   rw [hL0] at H
   exact H.asc
  refine ldI_of (hpB H0 0 rfl (by rw [Nat.zero_add,Nat.add_zero]; exact k0')) (ldI_of (hpB H0 0 rfl (by rw [Nat.zero_add]; exact k1)) (ldI_of (hpB H0 0 rfl (by rw [Nat.zero_add]; exact k2)) ?_))
  clear H0
  refine newC_hp H fun r17 h H=>?_
  have H:=H.rot
  repeat first | with_reducible refine stA H 0 (by with_unfolding_all exact rfl) (by with_unfolding_all exact rfl) (by with_unfolding_all exact rfl) fun h H=>?_ | with_reducible refine st0 H 0 (by with_unfolding_all exact rfl) (by with_unfolding_all exact rfl) (by with_unfolding_all exact rfl) fun h H=>?_ | with_reducible refine stB H 0 (by with_unfolding_all exact rfl) (by with_unfolding_all exact rfl) (by with_unfolding_all exact rfl) fun h H=>?_
  repeat first | with_reducible refine ldI_of (by with_unfolding_all first | exact hpA H 0 rfl rfl | exact Hp.cell H 0 rfl rfl | exact hpB H 0 rfl rfl | exact hpC H 0 rfl rfl) ?_ | with_reducible refine ldS_of (by with_unfolding_all first | exact hpA H 0 rfl rfl | exact Hp.cell H 0 rfl rfl | exact hpB H 0 rfl rfl | exact hpC H 0 rfl rfl) ?_ | with_reducible refine ldP_of (by with_unfolding_all first | exact hpA H 0 rfl rfl | exact Hp.cell H 0 rfl rfl | exact hpB H 0 rfl rfl | exact hpC H 0 rfl rfl) ?_ | with_reducible refine ldB_of (by with_unfolding_all first | exact hpA H 0 rfl rfl | exact Hp.cell H 0 rfl rfl | exact hpB H 0 rfl rfl | exact hpC H 0 rfl rfl) ?_ | with_reducible refine ldT_of (by with_unfolding_all first | exact hpA H 0 rfl rfl | exact Hp.cell H 0 rfl rfl | exact hpB H 0 rfl rfl | exact hpC H 0 rfl rfl) ?_
  refine bindI_of ((s.2.2-s.2.1)) (by exact i64_in _ (by omega) (by omega)) ?_
  refine bindI_of (((spanW s:Nat):Int)) (by exact i64_at _ _ (by omega) (by omega) (by omega)) ?_
  refine needs_of (by omega) ?_
  have hp8:2 ^ spanW s<=256:=Nat.le_trans (Nat.pow_le_pow_right (n:=2) (by decide) w2) (by decide)
  have hp1:=Nat.two_pow_pos (spanW s)
  refine bindI_of (((2 ^ spanW s:Nat):Int)) (by exact (shlI_of (a:=1) (i:=spanW s) (by omega) (by omega)).trans (by rw [Nat.one_mul])) ?_
  refine bindI_of (((maskW s:Nat):Int)) (by exact i64_at _ _ (by unfold maskW; omega) (by omega) (by unfold maskW; omega)) ?_
  have H:Hp h0 FF h ([⟨r17,true,T_generic_span,[.int .i64 s.1, .int .i64 s.2.1, .int .i64 s.2.2]⟩]++(L0++D)):=H
  refine newC_hp H fun r31 h H=>?_
  have H:=H.rot
  repeat first | with_reducible refine stA H 0 (by with_unfolding_all exact rfl) (by with_unfolding_all exact rfl) (by with_unfolding_all exact rfl) fun h H=>?_ | with_reducible refine st0 H 0 (by with_unfolding_all exact rfl) (by with_unfolding_all exact rfl) (by with_unfolding_all exact rfl) fun h H=>?_ | with_reducible refine stB H 0 (by with_unfolding_all exact rfl) (by with_unfolding_all exact rfl) (by with_unfolding_all exact rfl) fun h H=>?_
  repeat first | with_reducible refine ldI_of (by with_unfolding_all first | exact hpA H 1 rfl rfl | exact Hp.cell H 1 rfl rfl | exact hpB H 1 rfl rfl | exact hpC H 1 rfl rfl) ?_ | with_reducible refine ldS_of (by with_unfolding_all first | exact hpA H 1 rfl rfl | exact Hp.cell H 1 rfl rfl | exact hpB H 1 rfl rfl | exact hpC H 1 rfl rfl) ?_ | with_reducible refine ldP_of (by with_unfolding_all first | exact hpA H 1 rfl rfl | exact Hp.cell H 1 rfl rfl | exact hpB H 1 rfl rfl | exact hpC H 1 rfl rfl) ?_ | with_reducible refine ldB_of (by with_unfolding_all first | exact hpA H 1 rfl rfl | exact Hp.cell H 1 rfl rfl | exact hpB H 1 rfl rfl | exact hpC H 1 rfl rfl) ?_ | with_reducible refine ldT_of (by with_unfolding_all first | exact hpA H 1 rfl rfl | exact Hp.cell H 1 rfl rfl | exact hpB H 1 rfl rfl | exact hpC H 1 rfl rfl) ?_
  have hw0:∀ j,bitsN 0 (pb G0 0 y (spl s j))<2 ^ j:=fun j=>by
   have:=bits0_lt (pb G0 0 y (spl s j))
   rwa [pb_len,spl_len] at this
  have H:Hp h0 FF h ([⟨r31,true,T_generic_window,[.int .i64 s.1, .int .i64 s.2.1, .int .i64 s.2.2, .int .i64 ((bitsN 0 (pb G0 0 y (spl s 0)):Nat):Int), .int .i64 (maskW s:Nat)]⟩,⟨r17,true,T_generic_span,[.int .i64 s.1, .int .i64 s.2.1, .int .i64 s.2.2]⟩]++(L0++D)):=H
  refine ⟨fun n vs h'=>∃ j:Nat,j+n=spanW s-1/\vs=[.int .i64 (s.2.1+(j:Int))] /\
    Hp h0 FF h' ([⟨r31,true,T_generic_window,[.int .i64 s.1, .int .i64 s.2.1, .int .i64 s.2.2, .int .i64 ((bitsN 0 (pb G0 0 y (spl s j)):Nat):Int), .int .i64 (maskW s:Nat)]⟩,⟨r17,true,T_generic_span,[.int .i64 s.1, .int .i64 s.2.1, .int .i64 s.2.2]⟩]++(L0++D)),
   ⟨spanW s-1,0,by omega,by simp,H⟩,?_⟩
  clear H
  rintro n2 h u2 x44 ⟨j,hjn,hxx,H⟩
  injection hxx with hxx
  injection hxx with _ hxx
  subst hxx
  repeat first | with_reducible refine ldI_of (by with_unfolding_all first | exact hpA H 1 rfl rfl | exact Hp.cell H 1 rfl rfl | exact hpB H 1 rfl rfl | exact hpC H 1 rfl rfl) ?_ | with_reducible refine ldS_of (by with_unfolding_all first | exact hpA H 1 rfl rfl | exact Hp.cell H 1 rfl rfl | exact hpB H 1 rfl rfl | exact hpC H 1 rfl rfl) ?_ | with_reducible refine ldP_of (by with_unfolding_all first | exact hpA H 1 rfl rfl | exact Hp.cell H 1 rfl rfl | exact hpB H 1 rfl rfl | exact hpC H 1 rfl rfl) ?_ | with_reducible refine ldB_of (by with_unfolding_all first | exact hpA H 1 rfl rfl | exact Hp.cell H 1 rfl rfl | exact hpB H 1 rfl rfl | exact hpC H 1 rfl rfl) ?_ | with_reducible refine ldT_of (by with_unfolding_all first | exact hpA H 1 rfl rfl | exact Hp.cell H 1 rfl rfl | exact hpB H 1 rfl rfl | exact hpC H 1 rfl rfl) ?_
  refine bcase_dec (fun h4=>?_) fun h4=>?_
  ·refine ⟨fun _=>True,?_⟩
   refine ptr_of (a:=⟨rp,0,none⟩) ?_
   refine ldI_of (hpA H 0 rfl rfl) ⟨trivial,?_⟩
   have hbj:=hw0 j
   have hj8:2 ^ j<=2 ^ 8:=Nat.pow_le_pow_right (by decide) (by omega)
   have hsn:=bits_snoc G0 0 y s j
   rw [Int.zero_add] at hsn
   have hg:=toNat_le (G0 (s.2.1+(j:Int)) ((y:Int)+s.1))
   generalize bitsN 0 (pb G0 0 y (spl s j))=B at hbj hsn H ⊢
   refine bindI_of ((2*B:Nat):Int) ((shl1 (by omega)).trans (by rw [Nat.mul_comm])) ?_
   have HM:Hp h0 FF h ([⟨r31,true,T_generic_window,[.int .i64 s.1, .int .i64 s.2.1, .int .i64 s.2.2, .int .i64 (B:Nat), .int .i64 (maskW s:Nat)]⟩,⟨r17,true,T_generic_span,[.int .i64 s.1, .int .i64 s.2.1, .int .i64 s.2.2]⟩,⟨rs,true,T_generic_span,spC SL⟩,procE rp p fv base t skip,mapE p q W X N cc,⟨q,true,T_uint64,u64s ws0++rest⟩]++(M0++D)):=by
    rw [hL0] at H
    exact H.as (by simp)
   refine ldP_of (hpA HM 3 rfl rfl) ⟨trivial,?_⟩
   refine ldI_of (hpA H 1 rfl rfl) ⟨trivial,?_⟩
   refine bindI_of (((y:Int)+s.1)) (by exact i64_in _ (by omega) (by omega)) ?_
   refine mget_ok (ws:=ws0) (c:=cc) (rest:=rest) HM 4 5 (by rw [hN]; rfl) rfl hs (by rw [hN]; exact hl) hw ?_
   refine ⟨_,rfl,hkeep.refl _ _,?_⟩
   rw [<- hG0]
   refine bindI_of _ (orA (i:=1) (by decide) (by omega) (by omega) (by omega)) ?_
   refine stA H 0 rfl rfl rfl fun h H=>?_
   refine bindI_of ((s.2.1+((j+1:Nat):Int))) (by exact i64_at _ _ (by omega) (by omega) (by omega)) ?_
   refine ⟨n2-1,by omega,j+1,by omega,rfl,?_⟩
   rw [hsn]
   exact H
  ·obtain rfl:j=spanW s-1:=by omega
   repeat first | with_reducible refine ldI_of (by with_unfolding_all first | exact hpA H 0 rfl rfl | exact Hp.cell H 0 rfl rfl | exact hpB H 0 rfl rfl | exact hpC H 0 rfl rfl) ?_ | with_reducible refine ldS_of (by with_unfolding_all first | exact hpA H 0 rfl rfl | exact Hp.cell H 0 rfl rfl | exact hpB H 0 rfl rfl | exact hpC H 0 rfl rfl) ?_ | with_reducible refine ldP_of (by with_unfolding_all first | exact hpA H 0 rfl rfl | exact Hp.cell H 0 rfl rfl | exact hpB H 0 rfl rfl | exact hpC H 0 rfl rfl) ?_ | with_reducible refine ldB_of (by with_unfolding_all first | exact hpA H 0 rfl rfl | exact Hp.cell H 0 rfl rfl | exact hpB H 0 rfl rfl | exact hpC H 0 rfl rfl) ?_ | with_reducible refine ldT_of (by with_unfolding_all first | exact hpA H 0 rfl rfl | exact Hp.cell H 0 rfl rfl | exact hpB H 0 rfl rfl | exact hpC H 0 rfl rfl) ?_
   refine newC_hp H fun r64 h H=>?_
   have hnewc:∀ v∈wnC ⟨s,bitsN 0 (pb G0 0 y (spl s (spanW s-1)))⟩,v.oneCell'=true:=List.all_eq_true.1 (by rfl)
   have hrd:=rdO_hp (H.rot) 0 (b:=r64) (o:=0) (n:=1*5) (w:=true) (t:=T_generic_window) (cs:=wnC ⟨s,bitsN 0 (pb G0 0 y (spl s (spanW s-1)))⟩) rfl (Nat.le_refl _)
   have hrd:rdO h (some ⟨r64,0,none⟩) (1*5) (wnC ⟨s,bitsN 0 (pb G0 0 y (spl s (spanW s-1)))⟩):=hrd
   have H:Hp h0 FF h (L0++(D++[])):=(H.rot).sub (by
    rw [List.append_nil]
    exact List.Sublist.trans (List.sublist_append_right _ _) (List.sublist_append_right _ _))
   refine hsl.app H rfl hrd rfl hnewc (Nat.le_refl _) (by omega) fun D' qw' cw' h' hsl' H=>?_
   refine bindI_of (((i+1:Nat):Int)) (by exact i64_at _ _ (by omega) (by omega) (by omega)) ?_
   refine ⟨n-1,by omega,i+1,D',qw',cw',by omega,rfl,?_,H.as (by rw [List.append_nil])⟩
   have e:=(List.getElem?_eq_some_iff.1 hsi).2
   rw [List.take_succ_eq_append_getElem hi,e,List.map_append,wnsC_app]
   exact hsl'
 ·
  have hi:SL.length<=i:=by omega
  obtain rfl:i=SL.length:=by omega
  rw [List.take_of_length_le (Nat.le_refl _)] at hsl
  obtain ⟨wl0,hwl0⟩:∃ wl0:List Wn,wl0=SL.map fun s=>⟨s,bitsN 0 (pb G0 0 y (spl s (spanW s-1)))⟩:=⟨_,rfl⟩
  rw [<- hwl0] at hsl
  have hwin0:WinOk G0 (0:Nat) y SL 0 wl0:=by
   refine ⟨by rw [hwl0,List.length_map],fun j s hj=>⟨bitsN 0 (pb G0 0 y (spl s (spanW s-1))),by rw [hwl0,List.getElem?_map,hj]; rfl,?_,fun h5=>absurd h5 (Nat.not_lt_zero _),fun _=>?_⟩⟩
   ·have:=bits0_lt (pb G0 0 y (spl s (spanW s-1)))
    rw [pb_len,spl_len] at this
    exact Nat.lt_of_lt_of_le this (Nat.pow_le_pow_right (by decide) (by omega))
   ·have:=bits0_lt (pb G0 0 y (spl s (spanW s-1)))
    rw [pb_len,spl_len] at this
    exact Nat.mod_eq_of_lt this
  obtain ⟨hll,⟨rfl,rfl,hn0,_⟩ | ⟨bw,restw,rfl,rfl,hcw⟩⟩:=hsl
  ·omega
  have H:Hp h0 FF h ([⟨bw,true,T_generic_window,wnsC wl0++restw⟩,procE rp p fv base t skip,mapE p q W X N cc,⟨q,true,T_uint64,u64s ws0++rest⟩]++M0):=by
   rw [hL0] at H
   exact (H.rot).sub (List.Sublist.cons_cons _ (List.Sublist.cons _ (List.Sublist.refl _)))
  have hrow0:rowG t step y 0 (getP ws0 W X,s0) = .inl (getP ws0 W X,s0):=rfl
  rw [hG0] at hwin0
  refine ⟨fun n vs h'=>∃ (x:Nat) (ws:List Nat) (s:σ) (M:List Ent) (wl:List Wn),x+n=W/\vs=[.int .i64 (x:Nat)]/\rowG t step y x (getP ws0 W X,s0) = .inl (getP ws W X,s)/\ws.length=N/\W64 ws/\PadZ W X ws/\Ok (k0+x) s/\S s M/\WinOk (getP ws W X) (x:Nat) y SL 0 wl /\
    Hp h0 FF h' ([⟨bw,true,T_generic_window,wnsC wl++restw⟩,procE rp p fv base t skip,mapE p q W X N cc,⟨q,true,T_uint64,u64s ws++rest⟩]++M),
   ⟨W,0,ws0,s0,M0,wl0,by omega,rfl,hrow0,hN,hw,hz,hok0,hS0,hwin0,H⟩,?_⟩
  clear H hwin0 hwl0 hll hL0
  rintro n h u xx ⟨x,ws,s,M,wl,hxn,hxx,hrow,hlw,hww,hzz,hoks,hM,hwin,H⟩
  injection hxx with hxx
  injection hxx with _ hxx
  subst hxx
  refine bcase_dec (fun h4=>?_) fun h4=>?_
  ·have hx:x<W:=by omega
   have hgl:=gsize_le ht
   obtain ⟨GG,hGG⟩:∃ GG,GG=getP ws W X:=⟨_,rfl⟩
   rw [<- hGG] at hwin
   have hplen:∀ i,(plcs (SL.take i)).length<=16:=fun i=>by rw [hSLd]; exact plcs_small ht
   have hacc:∀ i,bitsN 0 (pb GG (x:Nat) y (plcs (SL.take i)))<65536:=fun i=>by
    have:=bits0_lt (pb GG (x:Nat) y (plcs (SL.take i)))
    rw [pb_len] at this
    exact Nat.lt_of_lt_of_le this (Nat.le_trans (Nat.pow_le_pow_right (n:=2) (by decide) (hplen i)) (by decide))
   refine ⟨fun n vs h'=>∃ (i:Nat) (wl:List Wn),i+n=SL.length/\vs=[.int .i64 ((bitsN 0 (pb GG (x:Nat) y (plcs (SL.take i))):Nat):Int), .int .i64 (i:Nat)]/\WinOk GG (x:Nat) y SL i wl /\
     Hp h0 FF h' ([⟨bw,true,T_generic_window,wnsC wl++restw⟩,procE rp p fv base t skip,mapE p q W X N cc,⟨q,true,T_uint64,u64s ws++rest⟩]++M),⟨SL.length,0,wl,by omega,rfl,hwin,H⟩,?_⟩
   clear H hwin
   rintro n2 h u2 a b ⟨i,wl,hin2,hxx,hwin,H⟩
   injection hxx with h1 hxx
   injection hxx with h2 hxx
   injection h1 with _ h1
   injection h2 with _ h2
   subst h1 h2
   refine bcase_dec (fun h5=>?_) fun h5=>?_
   ·have hi:i<SL.length:=by omega
    obtain ⟨sp,hsi⟩:∃ s,SL[i]? = some s:=⟨_,List.getElem?_eq_getElem hi⟩
    have hso:=hSok sp (List.mem_of_getElem? hsi)
    have o1:=hso.d
    have o2:=hso.f
    have o3:=hso.t
    obtain ⟨w1,w2,w3⟩:=spanW_pos hso
    obtain ⟨B,hB1,hB2,_,hB4⟩:=hwin.2 i sp hsi
    have hB4:=hB4 (Nat.le_refl _)
    have hp8:2 ^ spanW sp<=256:=Nat.le_trans (Nat.pow_le_pow_right (n:=2) (by decide) w2) (by decide)
    have hget:∀ j v,(wnC ⟨sp,B⟩)[j]? = some v->(wnsC wl++restw)[i*5+j]? = some v:=fun j v hv=>Go.Ar.get_app (wnsC_get hB1 j v hv)
    have hst:=win_step hso hB4
    have hctx:=ctx_step GG (x:Nat) y hsi
    have hac1:=hacc i
    have hac2:=hacc (i+1)
    have hnb:bitsN 0 (pb GG (x:Nat) y (spl sp (spanW sp)))<2 ^ spanW sp:=by
     have:=bits0_lt (pb GG (x:Nat) y (spl sp (spanW sp)))
     rwa [pb_len,spl_len] at this
    have hwn:=hwin.step hsi
    have hwlen:i*5+3<(wnsC wl).length:=by
     rw [wnsC_len,hwin.1]
     omega
    refine needs_of (by omega) (ptr_of (a:=⟨bw,0,none⟩) ?_)
    rw [Int.toNat_natCast]
    refine ⟨fun _=>True,?_⟩
    refine ptr_of (a:=⟨rp,0,none⟩) ?_
    refine ldI_of (hpB H 0 rfl (by rw [Nat.zero_add]; exact hget 3 _ rfl)) ⟨trivial,?_⟩
    show bindI (shlI .i64 (B:Int) 1) _
    refine bindI_of ((2*B:Nat):Int) ((shl1 (by omega)).trans (by rw [Nat.mul_comm])) ?_
    refine ldP_of (hpA H 1 rfl rfl) ⟨trivial,?_⟩
    refine ldI_of (hpC H 0 rfl (by rw [Nat.zero_add,Nat.add_zero]; exact hget 2 _ rfl)) ⟨trivial,?_⟩
    refine bindI_of (((x:Int)+sp.2.2)) (by exact i64_at _ _ rfl (by omega) (by omega)) ?_
    refine ldI_of (hpC H 0 rfl (by rw [Nat.zero_add]; exact hget 0 _ rfl)) ⟨trivial,?_⟩
    refine bindI_of (((y:Int)+sp.1)) (by exact i64_at _ _ rfl (by omega) (by omega)) ?_
    refine ldI_of (hpB H 0 rfl (by rw [Nat.zero_add]; exact hget 4 _ rfl)) ⟨trivial,?_⟩
    refine mget_ok (ws:=ws) (c:=cc) (rest:=rest) H 2 3 (by rw [hlw]; rfl) rfl hs (by rw [hlw]; exact hl) hww ?_
    refine ⟨_,rfl,hkeep.refl _ _,?_⟩
    rw [<- hGG]
    have hg:=toNat_le (GG ((x:Int)+sp.2.2) ((y:Int)+sp.1))
    refine bindI_of _ (orA (i:=1) (by decide) (by omega) (by omega) (by omega)) ?_
    have hbt:2*B+(GG ((x:Int)+sp.2.2) ((y:Int)+sp.1)).toNat<9223372036854775808:=by omega
    generalize GG ((x:Int)+sp.2.2) ((y:Int)+sp.1)=gg at hst hg hbt ⊢
    refine bindI_of _ (and_mask _ (spanW sp) hbt (by omega)) ?_
    rw [hst]
    generalize bitsN 0 (pb GG (x:Nat) y (spl sp (spanW sp)))=nb at hnb hctx hwn ⊢
    rw [add_mk,add_mk,Nat.zero_add]
    refine stV_hp H 0 rfl (by rw [List.length_append]; omega) rfl fun h hsz H=>?_
    have hset:(wnsC wl++restw).set (i*5+3) (.int .i64 (nb:Nat))=wnsC (wl.set i ⟨sp,nb⟩)++restw:=by
     rw [List.set_append_left _ _ hwlen,wnsC_set nb hB1]
    rw [hset] at H
    have H:Hp h0 FF h ([⟨bw,true,T_generic_window,wnsC (wl.set i ⟨sp,nb⟩)++restw⟩,procE rp p fv base t skip,mapE p q W X N cc,⟨q,true,T_uint64,u64s ws++rest⟩]++M):=H
    have hil:i<wl.length:=by rw [hwin.1]; exact hi
    have hget2:∀ j v,(wnC ⟨sp,nb⟩)[j]? = some v->(wnsC (wl.set i ⟨sp,nb⟩)++restw)[i*5+j]? = some v:=fun j v hv=>Go.Ar.get_app (wnsC_get (List.getElem?_set_self hil) j v hv)
    refine ldI_of (H.cell 0 rfl (hget2 4 _ rfl)) ?_
    have hma:=mask_add sp
    refine bindI_of (((2 ^ spanW sp:Nat):Int)) (by exact i64_at _ _ (by rw [<- hma]; rfl) (by omega) (by omega)) ?_
    have hmul:bitsN 0 (pb GG (x:Nat) y (plcs (SL.take i)))*2 ^ spanW sp<=65536*256:=Nat.mul_le_mul (by omega) hp8
    generalize bitsN 0 (pb GG (x:Nat) y (plcs (SL.take i)))=acc at hmul hctx hac1 ⊢
    refine bindI_of (((acc*2 ^ spanW sp:Nat):Int)) (by exact i64_at _ _ mul_cast (by omega) (by omega)) ?_
    refine ldI_of (H.cell 0 rfl (hget2 3 _ rfl)) ?_
    refine bindI_of (((bitsN 0 (pb GG (x:Nat) y (plcs (SL.take (i+1)))):Nat):Int)) (by exact i64_at _ _ (by show _+(nb:Int)=_; omega) (by omega) (by omega)) ?_
    refine bindI_of (((i+1:Nat):Int)) (by exact i64_at _ _ (by omega) (by omega) (by omega)) ?_
    exact ⟨n2-1,by omega,i+1,_,by omega,rfl,hwn,H⟩
   ·obtain rfl:i=SL.length:=by omega
    have hctx:bitsN 0 (pb GG (x:Nat) y (plcs (SL.take SL.length)))=gctx t GG (x:Nat) y:=by rw [List.take_of_length_le (Nat.le_refl _),hSLd]; rfl
    rw [hctx]
    have hcl:=gctx_lt t GG (x:Nat) y
    obtain ⟨⟨ft,fx,hfv⟩,hdec⟩:=hdec
    refine ⟨fun b=>b=rp,?_⟩
    refine ptr_of (a:=⟨rp,0,none⟩) (ptr_of (a:=⟨rp,0,none⟩) (ptr_of (a:=⟨rp,0,none⟩) (ptr_of (a:=⟨rp,0,none⟩) ?_)))
    refine ldP_of (hpA H 1 rfl rfl) ⟨rfl,?_⟩
    refine ldV_of (hpA H 1 rfl rfl) ⟨rfl,?_⟩
    have hnil:∀ K:Value->Prop,K fv->nilD fv K:=fun K hk=>by subst hfv; exact hk
    refine hnil _ ?_
    refine ldI_of (hpA H 1 rfl rfl) ⟨rfl,?_⟩
    refine bindI_of ((base+((gctx t GG (x:Nat) y:Nat):Int))) (by exact i64_in _ (by omega) (by omega)) ?_
    refine ldP_of (hpA H 1 rfl rfl) ⟨rfl,?_⟩
    refine mget_ok (ws:=ws) (c:=cc) (rest:=rest) H 2 3 (by rw [hlw]; rfl) rfl hs (by rw [hlw]; exact hl) hww ?_
    refine ⟨_,rfl,hkeep.refl _ _,?_⟩
    rw [<- hGG]
    have hstep:rowG t step y (x+1) (getP ws0 W X,s0)=match step s (gctx t GG (x:Int) (y:Int)) (GG (x:Int) (y:Int)) with
      | .inl (bit,s') => .inl (upd GG (x:Int) (y:Int) bit,s')
      | .inr e => .inr e:=by
     (rw [rowG,hrow,<- hGG]) <;> rfl
    refine hdec hoks (by omega) (by omega) hM H.giveS (fun bit' s' M' h3 hst hok' hM' H'=>?_) fun e s' M' h3 hst hok' hM' H'=>?_
    ·rw [hst] at hstep
     simp only at hstep
     have keep:=keep_of H H' (e:=procE rp p fv base t skip) (by simp)
     have H3:=H.putS (hSw s M hM) H' (hSw s' M' hM')
     refine ⟨_,rfl,keep,?_⟩
     refine mset_ok (ws:=ws) (c:=cc) (rest:=rest) H3 2 3 (by rw [hlw]; rfl) rfl hs (by rw [hlw]; exact hl) hww hx hy fun R h4 k1 k2 k3 H4=>?_
     refine ⟨_,rfl,?_⟩
     refine bindI_of (((x+1:Nat):Int)) (by exact i64_at _ _ (by omega) (by omega) (by omega)) ?_
     have hset:=getP_set hx hy k3
     rw [<- hGG] at hset
     refine ⟨n-1,by omega,x+1,R,s',M',wl,by omega,rfl,by rw [hset]; exact hstep,by rw [k1,hlw],k2,hzz.set hx k3,hok',hM',?_,H4⟩
     rw [hset]
     exact hwin.next hSok bit'
    ·rw [hst] at hstep
     simp only at hstep
     have H3:=H.putS (hSw s M hM) H' (hSw s' M' hM')
     exact hbad e ws s' M' h3 (k0+x+1) hM' (rowG_err hstep _ (by omega)) hlw (by omega) hok' (H3.sub (List.Sublist.append (List.Sublist.cons _ (List.Sublist.refl _)) (List.Sublist.refl _)))
  ·obtain rfl:W=x:=by omega
   exact hgood ws s M h hM hrow hlw hww hzz hoks (H.sub (List.Sublist.append (List.Sublist.cons _ (List.Sublist.refl _)) (List.Sublist.refl _)))
end Go.Bm
namespace Go.Bm
open Go Go.Den Go.Den.YtfaclehehhgpcaaGreat
theorem word_okN {h:Heap} {q:Option Addr} {c:Nat} {ws:List Nat} {n:Nat} (e:ws.length=n) (hr:rdO h q (ws.length*1) (u64s ws)) (hw:W64 ws) (hl:ws.length<1048577) {x:Int} (hx:-1000000000<=x/\x<1000000000) {K:VK} {Kp:PK}
  (hk:∀ V:Nat,V<M64->(∀ j,j<64->V.testBit j=rowB ws (x+(63-(j:Int))))->K (.int .u64 (V:Nat)) h) :
  CP F_bitmap_word #[.slice q n c, .int .i64 x] h K Kp:=by
 subst e
 exact word_ok hr hw hl hx hk
theorem blitS_ok {h0 h:Heap} {FF:List Nat} {p q W X:Nat} {ws:List Nat} {rest:List Value} (H:Hp h0 FF h (mapL p q W X ws rest)) (hs:SizeP (W:Int) (X:Int)) (hl:ws.length=X*wds W) (hw:W64 ws)
  {sx sy w g dx dy:Int} {op:Nat} (hsx:InI sx) (hsy:InI sy) (hwi:InI w) (hgi:InI g) (hdx:InI dx) (hdy:InI dy) (hw0:0<=w) (hg0:0<=g) (hop:op<5) (hg1:g<=1)
  {K:VK} {Kp:PK}
  (hk:∀ R h',R.length=X*wds W->W64 R->(∀ Y,Y<X->∀ x',x'<64*wds W->pix R (wds W) x' Y =
    if dx<=x'/\(x':Int)<dx+w/\x'<W/\dy<=Y/\(Y:Int)<dy+g/\0<=sx+(x'-dx)/\sx+(x'-dx)<W/\0<=sy+(Y-dy)/\sy+(Y-dy)<X then opB op (pix ws (wds W) x' Y) (pix ws (wds W) (sx+(x'-dx)).toNat (sy+(Y-dy)).toNat) else pix ws (wds W) x' Y) ->
   Hp h0 FF h' (mapL p q W X R rest)->K (.int .i64 0) h') :
  CP F_bitmap_Map_Blit #[.pointer (at0 p), .pointer (at0 p), .int .i64 sx, .int .i64 sy, .int .i64 w, .int .i64 g, .int .i64 dx, .int .i64 dy, .int .i64 (op:Nat)] h K Kp:=by
 refine call_bitmap_Map_Blit ?_
 unfold bitmap_Map_Blit
 obtain ⟨W',X',e1,e2,hW1,hW2,hX1,hX2,hWX⟩:=size_nat hs
 obtain rfl:W=W':=by omega
 obtain rfl:X=X':=by omega
 clear e1 e2
 have hhw:=hw_le hW1 hWX
 have hwl:=wds_le hW1
 have hwp2:=wds_pos hW1
 refine bcase_false (by rfl) ?_
 refine bcase_dec (fun h1=>by omega) fun h1=>?_
 refine bcase_dec (fun h2=>by omega) fun h2=>?_
 refine bcase_dec (fun h3=>by omega) fun h3=>?_
 refine bcase_dec (fun h4=>by omega) fun h4=>?_
 clear h1 h2 h3 h4
 try simp only [ptr_some_eq,add_mk,Nat.zero_add,Nat.add_zero]
 refine ldI_of (H.cell 0 rfl (i:=0) rfl) ?_
 refine ldI_of (H.cell 0 rfl rfl) ?_
 refine both_ok hsx hdx hwi (by omega) (by omega) fun f1 t1 l1 c1=>?_
 refine ⟨_,_,_,rfl,?_⟩
 refine ldI_of (H.cell 0 rfl (i:=1) rfl) ?_
 refine ldI_of (H.cell 0 rfl rfl) ?_
 refine both_ok hsy hdy hgi (by omega) (by omega) fun f2 t2 l2 c2=>?_
 refine ⟨_,_,_,rfl,?_⟩
 have none:(l1=0\/l2=0)->K (.int .i64 0) h:=fun hz=>by
  refine hk ws _ hl hw (fun Y hY x' hx'=>?_) H
  rw [if_neg]
  rintro ⟨g1,g2,g3,g4,g5,g6,g7,g8,g9⟩
  rcases hz with hz | hz
  ·rcases c1 with ⟨_,c1⟩ | c1
   ·exact c1 (x'-dx) (by omega) (by omega) (by omega) (by omega) (by omega) (by omega)
   ·omega
  ·rcases c2 with ⟨_,c2⟩ | c2
   ·exact c2 (Y-dy) (by omega) (by omega) (by omega) (by omega) (by omega) (by omega)
   ·omega
 refine bcase_eq (fun h3=>none (.inl h3)) fun h3=>?_
 refine bcase_eq (fun h4=>none (.inr h4)) fun h4=>?_
 clear none
 obtain ⟨a1,a2,a3,a4,a5,a6,a7,a8,a9⟩:=c1.resolve_left (fun h=>h3 h.1)
 obtain ⟨b1,b2,b3,b4,b5,b6,b7,b8,b9⟩:=c2.resolve_left (fun h=>h4 h.1)
 clear c1 c2 h3 h4
 obtain ⟨fx,rfl⟩:∃ n:Nat,f1=(n:Nat):=⟨f1.toNat,by omega⟩
 obtain ⟨tx,rfl⟩:∃ n:Nat,t1=(n:Nat):=⟨t1.toNat,by omega⟩
 obtain ⟨wide,rfl⟩:∃ n:Nat,l1=(n:Nat):=⟨l1.toNat,by omega⟩
 obtain ⟨fy,rfl⟩:∃ n:Nat,f2=(n:Nat):=⟨f2.toNat,by omega⟩
 obtain ⟨ty,rfl⟩:∃ n:Nat,t2=(n:Nat):=⟨t2.toNat,by omega⟩
 obtain ⟨high,rfl⟩:∃ n:Nat,l2=(n:Nat):=⟨l2.toNat,by omega⟩
 refine operations_ok fun o h' H'=>?_
 replace H:=H.join H' rfl
 clear H'
 refine ⟨_,_,_,rfl,?_⟩
 refine needs_of (by omega) ?_
 obtain ⟨fv,hfv,hfc⟩:=opB_cell H 2 rfl hop
 simp only [ptr_some_eq,add_mk,Nat.zero_add,Int.toNat_natCast,Nat.mul_one]
 refine ldV_of hfc ?_
 refine ldI_of (H.cell 0 rfl (i:=2) rfl) ?_
 refine needs_of (by simp; omega) ?_
 simp only [Int.toNat_natCast,u64s_zero]
 refine newC_hp H fun rw h H=>?_
 let G:Nat->Nat->Bool:=fun x' Y=>if tx<=x'/\x'<tx+wide/\ty<=Y/\Y<ty+high then opB op (pix ws (wds W) x' Y) (pix ws (wds W) (fx+(x'-tx)) (fy+(Y-ty))) else pix ws (wds W) x' Y
 have hG:∀ x' Y,G x' Y=if tx<=x'/\x'<tx+wide/\ty<=Y/\Y<ty+high then opB op (pix ws (wds W) x' Y) (pix ws (wds W) (fx+(x'-tx)) (fy+(Y-ty))) else pix ws (wds W) x' Y:=fun _ _=>rfl
 have hlast:(tx+wide-1) / 64<wds W:=by unfold wds; omega
 have hsrc:W<=64*wds W:=by unfold wds; omega
 let D:Nat->Nat->Bool:=fun n Y=>if fy<ty then decide (ty+(high-n)<=Y/\Y<ty+high) else decide (ty<=Y/\Y<ty+n)
 have hD:∀ n Y,D n Y=true↔(fy<ty/\ty+(high-n)<=Y/\Y<ty+high)\/(¬ fy<ty/\ty<=Y/\Y<ty+n):=fun n Y=>by
  show (if fy<ty then _ else _)=true↔_
  by_cases h1:fy<ty
  ·rw [if_pos h1,decide_eq_true_eq]; omega
  ·rw [if_neg h1,decide_eq_true_eq]; omega
 have hrw0:W64 (List.replicate (wds W) 0):=W64.zero _
 refine ⟨fun n vs h=>∃ (j J0:Nat) (R rs:List Nat),(j=0->R=ws)/\j+n=high/\vs=[.int .i64 (j:Int)]/\rs.length=wds W/\Inv X (wds W) G (pix ws (wds W)) (D j) J0 (tx / 64) R/\J0<X /\
   Hp h0 FF h (mapL p q W X R rest++[⟨o,true,T_func_uint64_uint64_uint64,opsV⟩]++[⟨rw,true,T_uint64,u64s rs⟩]),
  ⟨high,0,0,ws,List.replicate (wds W) 0,fun _=>rfl,by omega,rfl,by simp,⟨hl,hw,fun Y hY x' hx'=>?_⟩,by omega,H⟩,?_⟩
 ·by_cases h5:D 0 Y=true\/Y=0/\x' / 64<tx / 64
  ·rw [if_pos h5,hG,if_neg]
   rcases h5 with h5 | h5
   ·have:=(hD 0 Y).1 h5; omega
   ·omega
  ·rw [if_neg h5]
 clear H hrw0
 rintro n h u xx ⟨j,J0,R,rs,hR0,hjn,hxx,hrs,hI,hJ0,H⟩
 injection hxx with hxx
 injection hxx with _ hxx
 subst hxx
 refine bcase_dec (fun h5=>?_) fun h5=>?_
 ·have h5:j<high:=by omega
  have hRws:R=ws:=hR0 (by omega)
  obtain ⟨jj,hjj⟩:∃ jj:Nat,jj=if fy<ty then high-1-j else j:=⟨_,rfl⟩
  have hjj2:fy<ty/\jj+j+1=high\/¬ fy<ty/\jj=j:=by
   by_cases h1:fy<ty
   ·rw [if_pos h1] at hjj; left; omega
   ·rw [if_neg h1] at hjj; right; exact ⟨h1,hjj⟩
  refine ⟨fun vs h'=>h'=h/\vs=[.int .i64 (jj:Int)],?_,?_⟩
  ·refine bcase_dec (fun h6=>?_) fun h6=>?_
   ·refine bindI_of (((high-1:Nat):Int)) (by exact i64_at _ _ (by omega) (by omega) (by omega)) ?_
    refine bindI_of (((jj:Nat):Int)) (by exact i64_at _ _ (by omega) (by omega) (by omega)) ?_
    exact ⟨by first | rfl | trivial,rfl⟩
   ·have:jj=j:=by omega
    rw [this]
    exact ⟨by first | rfl | trivial,rfl⟩
  ·rintro h' u' x39 ⟨rfl,hx39⟩
   injection hx39 with hx39
   injection hx39 with _ hx39
   subst hx39
   have hjh:jj<high:=by omega
   have hsrow:fy+jj<X:=by omega
   have hdrow:ty+jj<X:=by omega
   have hRl0:=hI.1
   have hrow2:(fy+jj+1)*wds W<=X*wds W:=Nat.mul_le_mul_right _ (by omega)
   have hrow2':(fy+jj+1)*wds W=(fy+jj)*wds W+wds W:=by rw [Nat.add_mul,Nat.one_mul]
   refine bindI_of (((fy+jj:Nat):Int)) (by exact i64_at _ _ (by omega) (by omega) (by omega)) ?_
   try simp only [ptr_some_eq,add_mk,Nat.zero_add,Nat.add_zero]
   refine ldI_of (H.cell 0 rfl (i:=2) rfl) ?_
   refine bindI_of ((((fy+jj)*wds W:Nat):Int)) (by exact i64_at _ _ mul_cast (by omega) (by omega)) ?_
   generalize hat:(fy+jj)*wds W=at_ at hrow2 hrow2' ⊢
   refine ldS_of (H.cell 0 rfl (i:=3) rfl) ?_
   refine ldI_of (H.cell 0 rfl (i:=2) rfl) ?_
   refine bindI_of (((at_+wds W:Nat):Int)) (by exact i64_at _ _ (by omega) (by omega) (by omega)) ?_
   refine ldI_of (H.cell 0 rfl (i:=2) rfl) ?_
   refine bindI_of (((at_+wds W:Nat):Int)) (by exact i64_at _ _ (by omega) (by omega) (by omega)) ?_
   refine needs_of (by omega) ?_
   refine needs_of (by omega) ?_
   refine needs_of (by omega) ?_
   simp only [Int.toNat_natCast]
   have hsub:subA (at0 q) (at_+wds W) at_ 1=some ⟨q,at_,none⟩:=by
    unfold subA
    rw [if_neg (by omega)]
    show some ((⟨q,0,none⟩:Addr).add (at_*1))=_
    rw [add_mk]; simp
   rw [hsub]
   have hmin:Nat.min (at_+wds W-at_) (wds W)=wds W:=by
    show min (at_+wds W-at_) (wds W)=_
    omega
   have hnew:((u64s ws++rest).drop at_).take (wds W*1)=u64s (rowW ws (wds W) (fy+jj)):=by
    unfold rowW
    rw [hat,Nat.mul_one,List.drop_append_of_le_length (by rw [u64s_length]; omega),List.take_append_of_le_length (by rw [List.length_drop,u64s_length]; omega)]
    unfold u64s
    rw [List.map_take,List.map_drop]
   have Hs:=H
   rw [hRws] at Hs
   have hrd:=rdO_hp Hs 1 (o:=at_) (n:=wds W*1) rfl (by rw [List.length_append,u64s_length]; omega)
   rw [hnew] at hrd
   have hrl:=rowW_len hl hsrow
   refine ⟨_,by rw [hmin]; exact hrd,?_⟩
   refine stVs_all H 3 rfl (by rw [u64s_length,u64s_length,hrl,hrs]) (u64s_cells _) fun h' hsz H=>?_
   have H:Hp h0 FF h' (mapL p q W X R rest++[⟨o,true,T_func_uint64_uint64_uint64,opsV⟩]++[⟨rw,true,T_uint64,u64s (rowW ws (wds W) (fy+jj))⟩]):=H
   have hrwp:=fun x (hx:x<64*wds W)=>rowW_pix (S:=ws) (swd:=wds W) (r:=fy+jj) hx
   have hrww:=rowW_w hw (wds W) (fy+jj)
   generalize rowW ws (wds W) (fy+jj)=rw2 at H hrl hrwp hrww
   have hDj:D j (ty+jj)=false:=by
    rw [<- Bool.not_eq_true,hD]; omega
   have hI2:Inv X (wds W) G (pix ws (wds W)) (D j) (ty+jj) (tx / 64) R:=by
    refine ⟨hI.1,hI.2.1,fun Y hY x' hx'=>?_⟩
    rw [hI.2.2 Y hY x' hx']
    have e:∀ Y,x' / 64<tx / 64->G x' Y=pix ws (wds W) x' Y:=fun Y h6=>by rw [hG,if_neg (by omega)]
    by_cases h6:D j Y=true
    ·rw [if_pos (.inl h6),if_pos (.inl h6)]
    ·by_cases h7:x' / 64<tx / 64
     ·have:=e Y h7
      split <;> split <;> first | rfl | exact this | exact this.symm
     ·rw [if_neg (by rintro (h8 | h8); exact h6 h8; exact h7 h8.2),if_neg (by rintro (h8 | h8); exact h6 h8; exact h7 h8.2)]
   clear hI
   refine bindI_of (((tx / 64:Nat):Int)) (by exact i64_at _ _ (tdiv_nat tx 64) (by omega) (by omega)) ?_
   refine ⟨fun n vs h=>∃ (i:Nat) (R:List Nat),i+n=(tx+wide-1) / 64+1/\tx / 64<=i/\vs=[.int .i64 (i:Int)]/\Inv X (wds W) G (pix ws (wds W)) (D j) (ty+jj) i R /\
     Hp h0 FF h (mapL p q W X R rest++[⟨o,true,T_func_uint64_uint64_uint64,opsV⟩]++[⟨rw,true,T_uint64,u64s rw2⟩]),
    ⟨(tx+wide-1) / 64+1-tx / 64,tx / 64,R,by omega,Nat.le_refl _,rfl,hI2,H⟩,?_⟩
   clear H hI2
   rintro n2 h u2 xx ⟨i,R,hin,hi,hxx,hI,H⟩
   injection hxx with hxx
   injection hxx with _ hxx
   subst hxx
   refine bindI_of (((tx+wide:Nat):Int)) (by exact i64_at _ _ (by omega) (by omega) (by omega)) ?_
   refine bindI_of (((tx+wide-1:Nat):Int)) (by exact i64_at _ _ (by omega) (by omega) (by omega)) ?_
   refine bindI_of ((((tx+wide-1) / 64:Nat):Int)) (by exact i64_at _ _ (tdiv_nat (tx+wide-1) 64) (by omega) (by omega)) ?_
   refine bcase_dec (fun h6=>?_) fun h6=>?_
   ·have h6:i<=(tx+wide-1) / 64:=by omega
    have hiw:i<wds W:=by omega
    have hidx:=idx_lt hiw hdrow
    have hjw:(ty+jj)*wds W<=X*wds W:=Nat.mul_le_mul_right _ (by omega)
    have hRl:=hI.1
    refine bindI_of (((ty+jj:Nat):Int)) (by exact i64_at _ _ (by omega) (by omega) (by omega)) ?_
    refine ldS_of (H.cell 0 rfl rfl) ?_
    refine ldI_of (H.cell 0 rfl rfl) ?_
    refine bindI_of ((((ty+jj)*wds W:Nat):Int)) (by exact i64_at _ _ mul_cast (by omega) (by omega)) ?_
    refine bindI_of ((((ty+jj)*wds W+i:Nat):Int)) (by exact i64_at _ _ (by omega) (by omega) (by omega)) ?_
    refine needs_of (by omega) ?_
    try simp only [ptr_some_eq,add_mk,Nat.zero_add,Int.toNat_natCast,Nat.mul_one]
    refine mask_ok (by omega) (by omega) fun M hM hMb=>?_
    refine ⟨_,rfl,?_⟩
    refine bindI_of (((64*i:Nat):Int)) (by exact i64_at _ _ (by omega) (by omega) (by omega)) ?_
    refine bindI_of (((fx+64*i:Nat):Int)) (by exact i64_at _ _ (by omega) (by omega) (by omega)) ?_
    refine bindI_of ((((fx+64*i:Nat):Int)-(tx:Nat))) (by exact i64_in _ (by omega) (by omega)) ?_
    have hcell:=H.cell 1 rfl (get_app (u64s_get (getD_get (l:=R) (i:=(ty+jj)*wds W+i) (by omega))))
    have hv:=hI.2.1.get ((ty+jj)*wds W+i)
    refine ldI_of hcell ?_
    refine bindI_of _ (andNot64 _ _ hv hM) ?_
    refine ldI_of hcell ?_
    have hrr:=row_rdO (xs:=rw2) (rest:=[]) H 3 (b:=rw) (w:=true) (t:=T_uint64) (by rw [List.append_nil]; rfl)
    refine word_okN hrl hrr hrww (by omega) (by omega) fun V hV hVb=>?_
    refine ⟨_,rfl,hext.refl _,?_⟩
    refine does_ok hop hv hV hfv fun v hvv hvb=>?_
    refine ⟨_,rfl,hext.refl _,?_⟩
    refine bindI_of _ (and64 _ _ hvv hM) ?_
    refine bindI_of _ (or64 _ _ (and_lt hv) (and_lt hvv)) ?_
    refine stV_hp H 1 rfl (by rw [List.length_append,u64s_length]; omega) rfl fun h hsz H=>?_
    rw [u64s_setr _ _ _ _ (by omega)] at H
    refine bindI_of (((i+1:Nat):Int)) (by exact i64_at _ _ (by omega) (by omega) (by omega)) ?_
    refine ⟨n2-1,by omega,i+1,_,by omega,by omega,rfl,hI.step hdrow hiw (v:=R.getD ((ty+jj)*wds W+i) 0 &&& wnot M ||| v &&& M) (or_lt (and_lt hv) (and_lt hvv)) (fun b hb=>?_),H.as (by simp [mapL,mapE])⟩
    have hwb:=hI.word hDj hdrow hiw hb
    rw [Nat.testBit_or,Nat.testBit_and,Nat.testBit_and,wnot_bit hM hb,hvb b hb,hMb b hb,hVb b hb,hwb,hG]
    by_cases h7:tx<=64*i+(63-b)/\64*i+(63-b)<tx+wide
    ·rw [decide_eq_true h7,if_pos ⟨h7.1,h7.2,by omega,by omega⟩]
     have e1:((fx+64*i:Nat):Int)-(tx:Nat)+(63-(b:Int))=((fx+(64*i+(63-b)-tx):Nat):Int):=by omega
     have e2:ty+jj-ty=jj:=by omega
     rw [e1,hrwp _ (by omega),e2]
     simp
    ·rw [decide_eq_false h7,if_neg (fun h8=>h7 ⟨h8.1,h8.2.1⟩)]
     simp
   ·have h6:(tx+wide-1) / 64<i:=by omega
    refine bindI_of (((j+1:Nat):Int)) (by exact i64_at _ _ (by omega) (by omega) (by omega)) ?_
    refine ⟨n-1,by omega,j+1,ty+jj,R,rw2,fun h=>absurd h (Nat.succ_ne_zero _),by omega,rfl,hrl,hI.row (fun x' h7 h8=>?_) (fun Y=>?_) (fun x' h7 h8=>?_),hdrow,H⟩
    ·rw [hG,if_neg (by omega)]
    ·rw [hD,hD]; omega
    ·rw [hG,if_neg (by omega)]
 ·have h5:j=high:=by omega
  subst h5
  refine hk R _ hI.1 hI.2.1 (fun Y hY x' hx'=>?_) (H.pre.pre)
  rw [hI.2.2 Y hY x' hx']
  have e1:(D j Y=true\/Y=J0/\x' / 64<tx / 64)->G x' Y=if tx<=x'/\x'<tx+wide/\ty<=Y/\Y<ty+j then opB op (pix ws (wds W) x' Y) (pix ws (wds W) (fx+(x'-tx)) (fy+(Y-ty))) else pix ws (wds W) x' Y:=fun _=>hG x' Y
  by_cases h6:tx<=x'/\x'<tx+wide/\ty<=Y/\Y<ty+j
  ·rw [if_pos (.inl ((hD j Y).2 (by omega))),hG,if_pos h6,if_pos (by omega)]
   congr 2 <;> omega
  ·have hno:¬ (dx<=x'/\(x':Int)<dx+w/\x'<W/\dy<=Y/\(Y:Int)<dy+g/\0<=sx+(x'-dx)/\sx+(x'-dx)<W/\0<=sy+(Y-dy)/\sy+(Y-dy)<X):=by
    rintro ⟨g1,g2,g3,g4,g5,g6,g7,g8,g9⟩
    have k1:=a9 (x'-dx) (by omega) (by omega) (by omega) (by omega) (by omega) (by omega)
    have k2:=b9 (Y-dy) (by omega) (by omega) (by omega) (by omega) (by omega) (by omega)
    exact h6 (by omega)
   rw [if_neg hno]
   split
   ·rw [hG,if_neg h6]
   ·rfl
end Go.Bm
namespace Go.Bm
open Go Go.Den Go.Den.YtfaclehehhgpcaaGreat
theorem same_ok {h0 h:Heap} {FF:List Nat} {L:List Ent} {rp p q W X N cc t y:Nat} {fv:Value} {base:Int} {skip:Bool} {ws:List Nat} {rest:List Value} (H:Hp h0 FF h ([procE rp p fv base t skip,mapE p q W X N cc,⟨q,true,T_uint64,u64s ws++rest⟩]++L))
  (hN:ws.length=N) (hs:SizeP (W:Int) (X:Int)) (hl:N=X*wds W) (hw:W64 ws) (hy:y<X) {K:VK} {Kp:PK} (hk:K (.bool (sameB (getP ws W X) W y)) h) :
  CP F_generic_procedure_same #[.pointer (at0 rp), .int .i64 (W:Nat), .int .i64 (y:Nat)] h K Kp:=by
 refine call_generic_procedure_same ?_
 unfold generic_procedure_same
 obtain ⟨W',X',e1,e2,hW1,hW2,hX1,hX2,hWX⟩:=size_nat hs
 obtain rfl:W=W':=by omega
 obtain rfl:X=X':=by omega
 clear e1 e2
 refine ⟨fun n vs h'=>h'=h/\∃ x:Nat,x+n=W/\vs=[.int .i64 (x:Nat)]/\∀ j,j<x->getP ws W X (j:Int) (y:Int)=getP ws W X (j:Int) ((y:Int)-1),⟨W,rfl,0,by omega,rfl,fun j hj=>absurd hj (Nat.not_lt_zero _)⟩,?_⟩
 rintro n h u xx ⟨rfl,x,hxn,hxx,hall⟩
 injection hxx with hxx
 injection hxx with _ hxx
 subst hxx
 refine bcase_dec (fun h4=>?_) fun h4=>?_
 ·refine ptr_of (a:=⟨rp,0,none⟩) (ptr_of (a:=⟨rp,0,none⟩) ?_)
  refine bindI_of (((y:Int)-1)) (by exact i64_in _ (by omega) (by omega)) ?_
  refine ldP_of (hpA H 0 rfl rfl) (ldP_of (hpA H 0 rfl rfl) ?_)
  refine mget_ok (ws:=ws) (c:=cc) (rest:=rest) H 1 2 (by rw [hN]; rfl) rfl hs (by rw [hN]; exact hl) hw ?_
  refine ⟨_,rfl,hext.refl _,?_⟩
  refine mget_ok (ws:=ws) (c:=cc) (rest:=rest) H 1 2 (by rw [hN]; rfl) rfl hs (by rw [hN]; exact hl) hw ?_
  refine ⟨_,rfl,?_⟩
  refine bcase_ne (fun h5=>?_) fun h5=>?_
  ·have hne:getP ws W X (x:Int) (y:Int)≠getP ws W X (x:Int) ((y:Int)-1):=fun e=>h5 (by rw [e])
   have:sameB (getP ws W X) W y=false:=by
    unfold sameB
    rw [<- Bool.not_eq_true,List.all_eq_true]
    intro hh
    have:=hh x (List.mem_range.2 (by omega))
    exact hne (by simpa using this)
   rw [this] at hk
   exact hk
  ·have heq:getP ws W X (x:Int) (y:Int)=getP ws W X (x:Int) ((y:Int)-1):=by
    generalize getP ws W X (x:Int) (y:Int)=a at h5
    generalize getP ws W X (x:Int) ((y:Int)-1)=b at h5
    cases a <;> cases b <;> first | rfl | (exact absurd h5 (by decide))
   refine bindI_of (((x+1:Nat):Int)) (by exact i64_at _ _ (by omega) (by omega) (by omega)) ?_
   refine ⟨n-1,by omega,rfl,x+1,by omega,rfl,fun j hj=>?_⟩
   rcases Nat.lt_or_ge j x with h6 | h6
   ·exact hall j h6
   ·obtain rfl:j=x:=by omega
    exact heq
 ·obtain rfl:W=x:=by omega
  have:sameB (getP ws W X) W y=true:=by
   unfold sameB
   rw [List.all_eq_true]
   intro j hj
   rw [hall j (List.mem_range.1 hj)]
   simp
  rw [this] at hk
  exact hk
set_option maxHeartbeats 4000000 in
theorem grun_ok {σ:Type} {S:σ->List Ent->Prop} {Ok:Nat->σ->Prop} {step:σ->Nat->Bool->(Bool × σ) ⊕ (Int × σ)} {fv:Value} {base:Int} {NN:Nat} (hSw:∀ s M,S s M->M.all Ent.w=true) (hdec:DecOkI NN base S Ok step fv) (hb:0<=base/\base<=131072)
  {h0 h:Heap} {FF:List Nat} {rp p q W X N cc t:Nat} {skip:Bool} {rest:List Value} {ws0:List Nat} {s0:σ} {M0:List Ent} (ht:t<4) (hS0:S s0 M0) (H:Hp h0 FF h ([procE rp p fv base t skip,mapE p q W X N cc,⟨q,true,T_uint64,u64s ws0++rest⟩]++M0))
  (hN:ws0.length=N) (hcc:cc=N+rest.length) (hs:SizeP (W:Int) (X:Int)) (hl:N=X*wds W) (hw:W64 ws0) (hz:PadZ W X ws0) (hok0:Ok 0 s0) (hNN:X*(W+1)<=NN) {K:VK} {Kp:PK}
  (hgood:∀ ws s M h' k,S s M->runG W t skip step X (getP ws0 W X,s0) = .inl (getP ws W X,s)->ws.length=N->W64 ws->PadZ W X ws->k<=X*(W+1)->Ok k s->Hp h0 FF h' ([procE rp p fv base t skip,mapE p q W X N cc,⟨q,true,T_uint64,u64s ws++rest⟩]++M)->K (.tuple #[]) h')
  (hbad:∀ e ws s M h' k,S s M->runG W t skip step X (getP ws0 W X,s0) = .inr (e,s)->ws.length=N->k<=NN->Ok k s->Hp h0 FF h' ([procE rp p fv base t skip,mapE p q W X N cc,⟨q,true,T_uint64,u64s ws++rest⟩]++M) ->
   Kp [{ v := .iface T_generic_fault (.agg #[.int .i64 e]),recovered:=false }] h') :
  CP F_generic_procedure_run #[.pointer (at0 rp), .int .i64 (gsize t:Nat)] h K Kp:=by
 refine call_generic_procedure_run ?_
 unfold generic_procedure_run
 obtain ⟨W',X',e1,e2,hW1,hW2,hX1,hX2,hWX⟩:=size_nat hs
 obtain rfl:W=W':=by omega
 obtain rfl:X=X':=by omega
 clear e1 e2
 have hgs:=gsize_le ht
 refine ptr_of (a:=⟨rp,0,none⟩) ?_
 refine ldP_of (hpA H 0 rfl rfl) ?_
 refine msize_ok (ws:=ws0) (c:=cc) H 1 (by rw [hN]; rfl) ?_
 refine ⟨_,_,rfl,?_⟩
 refine ⟨fun n vs h'=>∃ (y:Nat) (ws:List Nat) (s:σ) (M:List Ent) (k:Nat),y+n=X/\vs=[.int .i64 (y:Nat)]/\S s M/\runG W t skip step y (getP ws0 W X,s0) = .inl (getP ws W X,s)/\ws.length=N/\W64 ws/\PadZ W X ws/\k<=y*(W+1)/\Ok k s /\
   Hp h0 FF h' ([procE rp p fv base t skip,mapE p q W X N cc,⟨q,true,T_uint64,u64s ws++rest⟩]++M),⟨X,0,ws0,s0,M0,0,by omega,rfl,hS0,rfl,hN,hw,hz,by omega,hok0,H⟩,?_⟩
 clear H
 rintro n h u xx ⟨y,ws,s,M,k,hyn,hxx,hM,hrun,hlw,hww,hzz,hky,hok,H⟩
 injection hxx with hxx
 injection hxx with _ hxx
 subst hxx
 refine bcase_dec (fun h1=>?_) fun h1=>?_
 ·have hy:y<X:=by omega
  have hkX:(y+1)*(W+1)<=X*(W+1):=Nat.mul_le_mul_right _ (by omega)
  rw [Nat.add_mul,Nat.one_mul] at hkX
  have hnext:runG W t skip step (y+1) (getP ws0 W X,s0)=match skip with
    | false=>rowG t step y W (getP ws W X,s)
    | true=>match step s (gsize t) (sameB (getP ws W X) W y) with
     | .inr e => .inr e
     | .inl (true,s') => .inl (copyRow (getP ws W X) y,s')
     | .inl (false,s')=>rowG t step y W (getP ws W X,s'):=by
   rw [runG,hrun]
   cases skip <;> rfl
  refine ptr_of (a:=⟨rp,0,none⟩) ?_
  cases skip with
  | true =>
   simp only at hnext
   refine ldB_of (hpA H 0 rfl rfl) ?_
   refine bcase_true rfl ?_
   refine ⟨fun vs h'=>h'=h/\vs=[.int .i64 ((sameB (getP ws W X) W y).toNat:Nat)],?_,?_⟩
   ·refine same_ok H hlw hs hl hww hy ?_
    refine ⟨_,rfl,?_⟩
    cases hsm:sameB (getP ws W X) W y with
    | true=>exact bcase_true rfl ⟨rfl,rfl⟩
    | false=>exact bcase_false rfl ⟨rfl,rfl⟩
   ·rintro h' u' bb ⟨rfl,hbb⟩
    injection hbb with hbb
    injection hbb with _ hbb
    subst hbb
    obtain ⟨⟨ft,fx,hfv⟩,hdc⟩:=id hdec
    refine ptr_of (a:=⟨rp,0,none⟩) (ptr_of (a:=⟨rp,0,none⟩) ?_)
    refine ldV_of (hpA H 0 rfl rfl) ?_
    have hnil:∀ K:Value->Prop,K fv->nilD fv K:=fun K hk=>by subst hfv; exact hk
    refine hnil _ ?_
    refine ldI_of (hpA H 0 rfl rfl) ?_
    refine bindI_of ((base+((gsize t:Nat):Int))) (by exact i64_in _ (by omega) (by omega)) ?_
    refine hdc hok (by omega) (by omega) hM H.giveS (fun bit' s' M' h3 hst hok' hM' H'=>?_) fun e s' M' h3 hst hok' hM' H'=>?_
    ·rw [hst] at hnext
     have H:=H.putS (hSw s M hM) H' (hSw s' M' hM')
     clear H'
     refine ⟨_,rfl,?_⟩
     cases bit' with
     | true =>
      simp only at hnext
      refine bcase_eq (fun _=>?_) fun h5=>absurd rfl h5
      refine ptr_of (a:=⟨rp,0,none⟩) (ptr_of (a:=⟨rp,0,none⟩) ?_)
      refine bindI_of (((y:Int)-1)) (by exact i64_in _ (by omega) (by omega)) ?_
      refine ldP_of (hpA H 0 rfl rfl) (ldP_of (hpA H 0 rfl rfl) ?_)
      have hmL:mapL p q W X ws rest=[mapE p q W X N cc,⟨q,true,T_uint64,u64s ws++rest⟩]:=by
       unfold mapL
       rw [hlw,hcc]
      have Hg:=H.give [1,2] (A:=mapL p q W X ws rest) (by decide) (by rw [hmL]; rfl)
      refine blitS_ok (sx:=0) (sy:=(y:Int)-1) (w:=(W:Nat)) (g:=1) (dx:=0) (dy:=(y:Nat)) (op:=4) Hg hs (by rw [hlw]; exact hl) hww ⟨by omega,by omega⟩ ⟨by omega,by omega⟩ ⟨by omega,by omega⟩ ⟨by omega,by omega⟩ ⟨by omega,by omega⟩ ⟨by omega,by omega⟩ (by omega) (by omega) (by decide) (by omega) fun R h4 k1 k2 k3 H4=>?_
      have hmR:mapL p q W X R rest=[mapE p q W X N cc,⟨q,true,T_uint64,u64s R++rest⟩]:=by
       unfold mapL
       rw [k1,<- hl,hcc]
      have H:=H.put [1,2] (by decide) (by rw [hmL]; rfl) (by rw [hmL]; rfl) H4 (by rw [hmR]; rfl) (by rw [hmR]; rfl)
      rw [hmR] at H
      clear H4 Hg
      refine ⟨_,rfl,?_⟩
      refine bindI_of (((y+1:Nat):Int)) (by exact i64_at _ _ (by omega) (by omega) (by omega)) ?_
      have k4:∀ Y,Y<X->∀ x',x'<64*wds W->pix R (wds W) x' Y=if x'<W/\Y=y/\y≠0 then pix ws (wds W) x' (y-1) else pix ws (wds W) x' Y:=fun Y hY x' hx'=>by
       rw [k3 Y hY x' hx']
       by_cases hc:x'<W/\Y=y/\y≠0
       ·rw [if_pos hc,if_pos (by omega)]
        show pix ws (wds W) _ _=_
        congr 1 <;> omega
       ·rw [if_neg hc,if_neg (by omega)]
      have hcopy:getP R W X=copyRow (getP ws W X) y:=by
       funext a b
       unfold copyRow getP
       by_cases hin:0<=a/\0<=b/\a<W/\b<X
       ·rw [decide_eq_true hin,Bool.true_and,k4 b.toNat (by omega) a.toNat (by unfold wds; omega)]
        by_cases hc:b=(y:Int)/\y≠0
        ·rw [if_pos (by omega),if_pos hc,decide_eq_true (by omega),Bool.true_and]
         congr 1
         omega
        ·rw [if_neg (by omega),if_neg hc,Bool.true_and]
       ·rw [decide_eq_false hin,Bool.false_and]
        by_cases hc:b=(y:Int)/\y≠0
        ·rw [if_pos hc,decide_eq_false (by omega),Bool.false_and]
        ·rw [if_neg hc,Bool.false_and]
      refine ⟨n-1,by omega,y+1,R,s',M',k+1,by omega,rfl,hM',by rw [hcopy]; exact hnext,by rw [k1,hl],k2,fun Y hY x' h6 h7=>?_,by rw [Nat.add_mul,Nat.one_mul]; omega,hok',H⟩
      rw [k4 Y hY x' h7,if_neg (by omega)]
      exact hzz Y hY x' h6 h7
     | false =>
      simp only at hnext
      refine bcase_eq (fun h5=>absurd h5 (by decide)) fun h5=>?_
      refine grow_ok hSw hdec hb ht hM' H hlw hs hl hww hzz hy hok' (by omega) (fun ws2 s2 M2 h4 hM2 hrow hl2 hw2 hz2 hok2 H=>?_) fun e ws2 s2 M2 h4 k2 hM2 hrow hl2 hk2 hok2 H=>?_
      ·rw [hrow] at hnext
       refine bindI_of (((y+1:Nat):Int)) (by exact i64_at _ _ (by omega) (by omega) (by omega)) ?_
       exact ⟨n-1,by omega,y+1,ws2,s2,M2,k+1+W,by omega,rfl,hM2,hnext,hl2,hw2,hz2,by rw [Nat.add_mul,Nat.one_mul]; omega,hok2,H⟩
      ·rw [hrow] at hnext
       exact hbad e ws2 s2 M2 h4 k2 hM2 (runG_err hnext _ (by omega)) hl2 hk2 hok2 H
    ·rw [hst] at hnext
     simp only at hnext
     have H3:=H.putS (hSw s M hM) H' (hSw s' M' hM')
     exact hbad e ws s' M' h3 (k+1) hM' (runG_err hnext _ (by omega)) hlw (by omega) hok' H3
  | false =>
   simp only at hnext
   refine ldB_of (hpA H 0 rfl rfl) ?_
   refine bcase_false rfl ?_
   refine grow_ok hSw hdec hb ht hM H hlw hs hl hww hzz hy hok (by omega) (fun ws2 s2 M2 h4 hM2 hrow hl2 hw2 hz2 hok2 H=>?_) fun e ws2 s2 M2 h4 k2 hM2 hrow hl2 hk2 hok2 H=>?_
   ·rw [hrow] at hnext
    refine bindI_of (((y+1:Nat):Int)) (by exact i64_at _ _ (by omega) (by omega) (by omega)) ?_
    exact ⟨n-1,by omega,y+1,ws2,s2,M2,k+W,by omega,rfl,hM2,hnext,hl2,hw2,hz2,by rw [Nat.add_mul,Nat.one_mul]; omega,hok2,H⟩
   ·rw [hrow] at hnext
    exact hbad e ws2 s2 M2 h4 k2 hM2 (runG_err hnext _ (by omega)) hl2 hk2 hok2 H
 ·obtain rfl:X=y:=by omega
  exact hgood ws s M h k hM hrun hlw hww hzz hky hok H
theorem gcatch_idle {h:Heap} {r:Nat} {Kd:FrameMode->Heap->Prop} {Kdp:FrameMode->PK} (hk:Kd .returning h):DCalls Go.Proofs.Tryz.prog F_generic_caught_c1 #[.pointer (some ⟨r,0,none⟩)] .returning h Kd Kdp :=
 dcall_generic_caught_c1 (cap0:=⟨r,0,none⟩) (by unfold generic_caught_c1 recD; exact hk)
theorem gcatch {h0 h:Heap} {FF:List Nat} {L:List Ent} {r:Nat} {K:VK} {Kp:PK} {e x:Int} (H:Hp h0 FF h ([⟨r,true,T_api_Errno,[.int .i64 x]⟩]++L)) (hk:∀ h',Hp h0 FF h' L->K (.int .i64 e) h') :
  leaveD (DCalls Go.Proofs.Tryz.prog) (fun h=>ldI h ⟨r,0,none⟩ .i64 fun v=>K (.int .i64 v) h) Kp [{ target := .fn (.func F_generic_caught_c1) #[.pointer (some ⟨r,0,none⟩)],args:=#[] }] (.panicking [{ v := .iface T_generic_fault (.agg #[.int .i64 e]),recovered:=false }]) h:=by
 show DCalls Go.Proofs.Tryz.prog F_generic_caught_c1 #[.pointer (some ⟨r,0,none⟩)] _ h _ _
 refine dcall_generic_caught_c1 (cap0:=⟨r,0,none⟩) ?_
 unfold generic_caught_c1
 refine recD_iface ?_
 refine bcase_true (by decide) ?_
 refine ⟨e,rfl,?_⟩
 refine newC_hp H fun r6 h H=>?_
 have H:=H.rot
 refine stA H 0 rfl rfl rfl fun h H=>?_
 refine ldI_of (hpA H 0 rfl rfl) ?_
 refine st0 H 1 rfl rfl rfl fun h H=>?_
 show ldI h ⟨r,0,none⟩ .i64 _
 refine ldI_of (H.cell 1 rfl rfl) ?_
 have H:Hp h0 FF h ([⟨r6,true,T_generic_fault,[.int .i64 e]⟩,⟨r,true,T_api_Errno,[.int .i64 e]⟩]++L):=H
 exact hk h (Hp.suf H)
theorem caught_ok {h0 h:Heap} {FF:List Nat} {L:List Ent} {run:Value} {K:VK} {Kp:PK} (Post:List Ent->Prop) (PostB:Int->List Ent->Prop) (H:Hp h0 FF h L)
  (hrun:∀ {r:Nat} {h1:Heap} {K1:VK} {Kp1:PK},Hp h0 FF h1 ([⟨r,true,T_api_Errno,[.int .i64 0]⟩]++L)->(∀ h2 L2,Post L2->Hp h0 FF h2 ([⟨r,true,T_api_Errno,[.int .i64 0]⟩]++L2)->K1 (.tuple #[]) h2) ->
   (∀ e h2 L2,PostB e L2->Hp h0 FF h2 ([⟨r,true,T_api_Errno,[.int .i64 0]⟩]++L2)->Kp1 [{ v := .iface T_generic_fault (.agg #[.int .i64 e]),recovered:=false }] h2)->callD (CallsHP Go.Proofs.Tryz.prog) Kp1 run [] h1 K1)
  (hk0:∀ h' L',Post L'->Hp h0 FF h' L'->K (.int .i64 0) h') (hke:∀ e h' L',PostB e L'->Hp h0 FF h' L'->K (.int .i64 e) h'):CP F_generic_caught #[run] h K Kp:=by
 refine call_generic_caught ?_
 unfold generic_caught
 refine newC_hp H fun r1 h H=>?_
 have H:=H.rot
 refine hrun H (fun h2 L2 hp H=>?_) fun e h2 L2 hp H=>?_
 ·refine st0 H 0 rfl rfl rfl fun h H=>?_
  show DCalls Go.Proofs.Tryz.prog F_generic_caught_c1 #[.pointer (some ⟨r1,0,none⟩)] .returning h _ _
  refine gcatch_idle ?_
  show ldI h ⟨r1,0,none⟩ .i64 _
  refine ldI_of (H.cell 0 rfl rfl) ?_
  have H:Hp h0 FF h ([⟨r1,true,T_api_Errno,[.int .i64 0]⟩]++L2):=H
  exact hk0 h L2 hp (Hp.suf H)
 ·exact gcatch H fun h' H=>hke e h' L2 hp H
end Go.Bm
namespace Go.Bm
open Go Go.Den Go.Den.YtfaclehehhgpcaaGreat
open Go.Ar (Cod CodOk Dec codL decL BOk idx putM_ok getD_ok getD_bit)
def fvC (p:Nat):Value := .iface T_generic_coding (.agg #[.pointer (at0 p)])
def fvD (p:Nat):Value := .iface T_generic_decoding (.agg #[.pointer (at0 p)])
theorem inv_coding {x:Value} {args:List Value} {h:Heap} {K:VK} {Kp:PK} (H:CallsHP Go.Proofs.Tryz.prog F_generic_coding_decide (x::args).toArray h K Kp) :
  invokeD Go.Proofs.Tryz.prog (CallsHP Go.Proofs.Tryz.prog) (.iface T_generic_coding x) "burin/generic.decide" args h K Kp:=by
 have hm:methD Go.Proofs.Tryz.prog T_generic_coding "burin/generic.decide" = some F_generic_coding_decide:=by kernel_rfl
 unfold invokeD
 simp only [hm]
 exact H
theorem inv_decoding {x:Value} {args:List Value} {h:Heap} {K:VK} {Kp:PK} (H:CallsHP Go.Proofs.Tryz.prog F_generic_decoding_decide (x::args).toArray h K Kp) :
  invokeD Go.Proofs.Tryz.prog (CallsHP Go.Proofs.Tryz.prog) (.iface T_generic_decoding x) "burin/generic.decide" args h K Kp:=by
 have hm:methD Go.Proofs.Tryz.prog T_generic_decoding "burin/generic.decide" = some F_generic_decoding_decide:=by kernel_rfl
 unfold invokeD
 simp only [hm]
 exact H
def codS (p q:Nat) (s:Cod) (M:List Ent):Prop:=∃ r rest,M=codL p q r s rest
def decS (p q:Nat) (e:Ent) (bp:Option Addr) (bc:Nat) (s:Dec) (M:List Ent):Prop:=BOk e bp s.b/\M=decL p q e bp bc s
theorem codS.w {p q:Nat}:∀ s M,codS p q s M->M.all Ent.w=true:=fun s M ⟨r,rest,h⟩=>by subst h; rfl
theorem decS.w {p q:Nat} {e:Ent} {bp:Option Addr} {bc:Nat}:∀ s M,decS p q e bp bc s M->M.all Ent.w=true:=fun s M ⟨h1,h⟩=>by subst h; simp [decL,Go.Ar.decE,h1.1]
theorem codI_ok {p q m n0 NN:Nat} {base:Int} (hb:0<=base/\base<=131072) (hm1:1<=m) (hm2:m<=131072) (hN:n0+NN<=16777216):DecOkI NN base (codS p q) (fun k s=>CodOk m (n0+k) s) (stepP m base) (fvC p):=by
 refine ⟨⟨_,_,rfl⟩,?_⟩
 intro h0 h FF s n bit K Kp M k hok hk hn hM H hgood hbad
 obtain ⟨r,rest,rfl⟩:=hM
 refine inv_coding ?_
 refine call_generic_coding_decide ?_
 unfold generic_coding_decide
 refine newC_hp H fun r2 h H=>?_
 refine ldP_of (hpA H 3 rfl rfl) ?_
 refine Go.Ar.put_ok (bit:=bit.toNat) (H.give [0,1,2] (by decide) rfl) hok.wf hok.done (by rw [hok.n]; omega) (by rw [hok.len]; exact hm1) (by rw [hok.len]; exact hm2) (toNat_le _) fun r3 rest3 h' H'=>?_
 replace H:=H.put [0,1,2] (by decide) rfl rfl H' rfl rfl
 clear H'
 refine ⟨_,rfl,?_⟩
 refine bcase_false (by rfl) ?_
 rw [hok.len] at H
 exact hgood bit _ _ h' rfl (putM_ok hok _ _ (by omega)) ⟨r3,rest3,rfl⟩ (H.take 3)
theorem decI_ok {p q m n0 NN:Nat} {e:Ent} {bp:Option Addr} {bc:Nat} {base:Int} {bytes:List Nat} (hbl:bytes.length<140737488351300) (hb:0<=base/\base<=131072) (hm1:1<=m) (hm2:m<=131072) (hN:n0+NN<=16777216) :
  DecOkI NN base (decS p q e bp bc) (fun k s=>Go.Ar.DecOk bytes m (n0+k) s) (stepG m base) (fvD p):=by
 refine ⟨⟨_,_,rfl⟩,?_⟩
 intro h0 h FF s n bit K Kp M k hok hk hn hM H hgood hbad
 obtain ⟨hbok,rfl⟩:=hM
 refine inv_decoding ?_
 refine call_generic_decoding_decide ?_
 unfold generic_decoding_decide
 refine newC_hp H fun r2 h H=>?_
 refine ldP_of (hpA H 3 rfl rfl) ?_
 refine Go.Ar.get_ok (H.give [0,1,2] (by decide) rfl) hbok hok.wf (by rw [hok.b]; exact hbl) (by rw [hok.n]; omega) (by rw [hok.len]; exact hm1) (by rw [hok.len]; exact hm2) fun h' H'=>?_
 have hbw:=hbok.1
 replace H:=H.put [0,1,2] (by decide) rfl (by simp [decL,Go.Ar.decE,hbw]) H' (by simp [decL,Go.Ar.decE,hbw]) rfl
 clear H'
 refine ⟨_,_,rfl,?_⟩
 refine bcase_false (by rfl) ?_
 rw [hok.len] at H ⊢
 have hbit:=getD_bit (s:=s) (idx (base+(n:Int)) m)
 have hbn:=(Go.Ar.getD_n s (idx (base+(n:Int)) m)).2.2
 have e1:(Go.Ar.getD s (idx (base+(n:Int)) m)).2=(decide ((Go.Ar.getD s (idx (base+(n:Int)) m)).2=1)).toNat:=by
  by_cases h1:(Go.Ar.getD s (idx (base+(n:Int)) m)).2=1
  ·rw [decide_eq_true h1,h1]; rfl
  ·rw [decide_eq_false h1]; show _=0; omega
 rw [e1]
 exact hgood _ _ _ h' rfl (getD_ok hok _ (by omega)) ⟨by rw [hbn]; exact hbok,rfl⟩ (H.take 3)
theorem gfits_ok {h:Heap} {base many all:Int} (ha:-1000000000000<=all/\all<1000000000000) (hm:-1000000000000<=many/\many<1000000000000) {K:VK} {Kp:PK} (hk:∀ b:Bool,(b=true↔0<=base/\base<=all-many)->K (.bool b) h):CP F_generic_fits #[.int .i64 base, .int .i64 many, .int .i64 all] h K Kp:=by
 refine call_generic_fits ?_
 unfold generic_fits
 refine bcase_dec (fun h1=>?_) fun h1=>hk false (by simp; omega)
 refine bindI_of ((all-many)) (by exact i64_in _ (by omega) (by omega)) ?_
 exact hk _ (by simp; omega)
set_option maxHeartbeats 2000000 in
theorem gput_ok {h0 h:Heap} {FF:List Nat} {p q r m NN:Nat} {s:Cod} {rest:List Value} {Ok:Nat->Cod->Prop} {step:Cod->Nat->Bool->(Bool × Cod) ⊕ (Int × Cod)} (H:Hp h0 FF h (codL p q r s rest)) (hm:s.st.length=m) (hm2:m<=131072) {base template:Int}
  {w b:Int} {q1:Option Addr} {c1:Nat} {ws:List Nat} {skip:Bool} (hr1:∀ h',hext h h'->rdO h' q1 (ws.length*1) (u64s ws)) (hw1:W64 ws) (hl1:ws.length<140737488351300)
  (hdec:MayP w b ws->0<=base/\base<=131072->DecOkI NN base (codS p q) Ok step (fvC p)) (hok:Ok 0 s) (hNN:MayP w b ws->b.toNat*(w.toNat+1)<=NN) {K:VK} {Kp:PK}
  (hk60:∀ h',¬ (0<=template/\template<4)->Hp h0 FF h' (codL p q r s rest)->K (.int .i64 60) h')
  (hk62:∀ h',(0<=template/\template<4)->¬ MayP w b ws->Hp h0 FF h' (codL p q r s rest)->K (.int .i64 62) h')
  (hk51:∀ h',(0<=template/\template<4)->MayP w b ws->¬ (0<=base/\base<=(m:Int)-((gsize template.toNat:Nat)+1))->Hp h0 FF h' (codL p q r s rest)->K (.int .i64 51) h')
  (hk0:∀ G s' k r' rest' h',(0<=template/\template<4)->MayP w b ws->(0<=base/\base<=(m:Int)-((gsize template.toNat:Nat)+1))->runG w.toNat template.toNat skip step b.toNat (getP ws w.toNat b.toNat,s) = .inl (G,s')->k<=b.toNat*(w.toNat+1)->Ok k s' ->
   Hp h0 FF h' (codL p q r' s' rest')->K (.int .i64 0) h')
  (hke:∀ e s' k r' rest' h',(0<=template/\template<4)->MayP w b ws->(0<=base/\base<=(m:Int)-((gsize template.toNat:Nat)+1))->runG w.toNat template.toNat skip step b.toNat (getP ws w.toNat b.toNat,s) = .inr (e,s')->k<=NN->Ok k s' ->
   Hp h0 FF h' (codL p q r' s' rest')->K (.int .i64 e) h') :
  CP F_generic_Put #[.pointer (at0 p), .int .i64 base, .agg #[.int .i64 w, .int .i64 b, .slice q1 ws.length c1], .int .i64 template, .bool skip] h K Kp:=by
 refine call_generic_Put ?_
 unfold generic_Put
 have HC:=H
 clear H
 have H:=Hp.nil h []
 refine newC_hp H fun r4 h H=>?_
 refine bcase_false (by rfl) ?_
 refine csize_ok (fun t ht et h2 e2=>?_) fun hn h2 e2=>?_
 ·have H:=H.ext e2
  clear e2
  subst et
  have htt:0<=((t:Nat):Int)/\((t:Nat):Int)<4:=by omega
  simp only [Int.toNat_natCast] at hk51 hk0 hke
  have hgs:=gsize_le ht
  refine ⟨_,_,rfl,?_⟩
  refine newC_hp H fun r10 h H=>?_
  repeat first | with_reducible refine stA H 0 (by with_unfolding_all exact rfl) (by with_unfolding_all exact rfl) (by with_unfolding_all exact rfl) fun h H=>?_ | with_reducible refine stA H 1 (by with_unfolding_all exact rfl) (by with_unfolding_all exact rfl) (by with_unfolding_all exact rfl) fun h H=>?_ | with_reducible refine st0 H 0 (by with_unfolding_all exact rfl) (by with_unfolding_all exact rfl) (by with_unfolding_all exact rfl) fun h H=>?_ | with_reducible refine st0 H 1 (by with_unfolding_all exact rfl) (by with_unfolding_all exact rfl) (by with_unfolding_all exact rfl) fun h H=>?_ | with_reducible refine stB H 0 (by with_unfolding_all exact rfl) (by with_unfolding_all exact rfl) (by with_unfolding_all exact rfl) fun h H=>?_ | with_reducible refine stB H 1 (by with_unfolding_all exact rfl) (by with_unfolding_all exact rfl) (by with_unfolding_all exact rfl) fun h H=>?_
  refine bcase_false (by rfl) ?_
  repeat first | with_reducible refine ldI_of (by with_unfolding_all first | exact hpA H 0 rfl rfl | exact hpA H 1 rfl rfl | exact Hp.cell H 0 rfl rfl | exact Hp.cell H 1 rfl rfl | exact hpB H 0 rfl rfl | exact hpB H 1 rfl rfl | exact hpC H 0 rfl rfl | exact hpC H 1 rfl rfl) ?_ | with_reducible refine ldS_of (by with_unfolding_all first | exact hpA H 0 rfl rfl | exact hpA H 1 rfl rfl | exact Hp.cell H 0 rfl rfl | exact Hp.cell H 1 rfl rfl | exact hpB H 0 rfl rfl | exact hpB H 1 rfl rfl | exact hpC H 0 rfl rfl | exact hpC H 1 rfl rfl) ?_ | with_reducible refine ldP_of (by with_unfolding_all first | exact hpA H 0 rfl rfl | exact hpA H 1 rfl rfl | exact Hp.cell H 0 rfl rfl | exact Hp.cell H 1 rfl rfl | exact hpB H 0 rfl rfl | exact hpB H 1 rfl rfl | exact hpC H 0 rfl rfl | exact hpC H 1 rfl rfl) ?_ | with_reducible refine ldB_of (by with_unfolding_all first | exact hpA H 0 rfl rfl | exact hpA H 1 rfl rfl | exact Hp.cell H 0 rfl rfl | exact Hp.cell H 1 rfl rfl | exact hpB H 0 rfl rfl | exact hpB H 1 rfl rfl | exact hpC H 0 rfl rfl | exact hpC H 1 rfl rfl) ?_ | with_reducible refine ldT_of (by with_unfolding_all first | exact hpA H 0 rfl rfl | exact hpA H 1 rfl rfl | exact Hp.cell H 0 rfl rfl | exact Hp.cell H 1 rfl rfl | exact hpB H 0 rfl rfl | exact hpB H 1 rfl rfl | exact hpC H 0 rfl rfl | exact hpC H 1 rfl rfl) ?_
  refine from_ok (hr1 _ H.hext) hw1 hl1 (fun W X pm qm mrest h5 hwW hbX hmay H'=>?_) fun h5 hmay e5=>?_
  ·subst hwW hbX
   have H:=H.join H' rfl
   clear H'
   refine ⟨_,_,rfl,?_⟩
   refine bcase_false (by rfl) ?_
   refine ptr_of (a:=⟨p,0,none⟩) ?_
   repeat first | with_reducible refine ldI_of (by with_unfolding_all first | exact hpA H 0 rfl rfl | exact hpA H 1 rfl rfl | exact Hp.cell H 0 rfl rfl | exact Hp.cell H 1 rfl rfl | exact hpB H 0 rfl rfl | exact hpB H 1 rfl rfl | exact hpC H 0 rfl rfl | exact hpC H 1 rfl rfl) ?_ | with_reducible refine ldS_of (by with_unfolding_all first | exact hpA H 0 rfl rfl | exact hpA H 1 rfl rfl | exact Hp.cell H 0 rfl rfl | exact Hp.cell H 1 rfl rfl | exact hpB H 0 rfl rfl | exact hpB H 1 rfl rfl | exact hpC H 0 rfl rfl | exact hpC H 1 rfl rfl) ?_ | with_reducible refine ldP_of (by with_unfolding_all first | exact hpA H 0 rfl rfl | exact hpA H 1 rfl rfl | exact Hp.cell H 0 rfl rfl | exact Hp.cell H 1 rfl rfl | exact hpB H 0 rfl rfl | exact hpB H 1 rfl rfl | exact hpC H 0 rfl rfl | exact hpC H 1 rfl rfl) ?_ | with_reducible refine ldB_of (by with_unfolding_all first | exact hpA H 0 rfl rfl | exact hpA H 1 rfl rfl | exact Hp.cell H 0 rfl rfl | exact Hp.cell H 1 rfl rfl | exact hpB H 0 rfl rfl | exact hpB H 1 rfl rfl | exact hpC H 0 rfl rfl | exact hpC H 1 rfl rfl) ?_ | with_reducible refine ldT_of (by with_unfolding_all first | exact hpA H 0 rfl rfl | exact hpA H 1 rfl rfl | exact Hp.cell H 0 rfl rfl | exact Hp.cell H 1 rfl rfl | exact hpB H 0 rfl rfl | exact hpB H 1 rfl rfl | exact hpC H 0 rfl rfl | exact hpC H 1 rfl rfl) ?_
   refine bindI_of (((gsize t+1:Nat):Int)) (by exact i64_at _ _ (by omega) (by omega) (by omega)) ?_
   refine Go.Ar.contexts_ok (n:=s.st.length) (HC.ext H.hext) 0 rfl ?_
   refine ⟨_,rfl,hext.refl _,?_⟩
   rw [hm]
   refine gfits_ok (by omega) (by omega) fun bf hbf=>?_
   refine ⟨_,rfl,?_⟩
   refine bcase_not (fun h2=>?_) fun h2=>?_
   ·exact hk51 _ htt hmay (fun hh=>by rw [hbf.2 (by omega)] at h2; cases h2) (HC.ext H.hext)
   have hft:=hbf.1 h2
   have hft2:0<=base/\base<=(m:Int)-((gsize t:Nat)+1):=by omega
   refine newC_hp H fun r29 h H=>?_
   refine newC_hp H fun r31 h H=>?_
   repeat first | with_reducible refine stA H 5 (by with_unfolding_all exact rfl) (by with_unfolding_all exact rfl) (by with_unfolding_all exact rfl) fun h H=>?_ | with_reducible refine st0 H 5 (by with_unfolding_all exact rfl) (by with_unfolding_all exact rfl) (by with_unfolding_all exact rfl) fun h H=>?_ | with_reducible refine stB H 5 (by with_unfolding_all exact rfl) (by with_unfolding_all exact rfl) (by with_unfolding_all exact rfl) fun h H=>?_
   have H:=(HC.join H rfl).pick [8,4,7,5,6,0,1,2] (by decide) (L':=[⟨r31,true,T_p_generic_procedure,[.pointer (some ⟨r29,0,none⟩)]⟩,⟨r10,true,T_int,[.int .i64 (gsize t:Nat)]⟩,procE r29 pm (fvC p) base t skip,mapE pm qm W X ws.length (ws.length+mrest.length),⟨qm,true,T_uint64,u64s ws++mrest⟩]++codL p q r s rest) rfl
   obtain ⟨W',X',e1,e2,hW1,hW2,hX1,hX2,hWX⟩:=size_nat hmay.1
   obtain rfl:W=W':=by omega
   obtain rfl:X=X':=by omega
   clear e1 e2
   have hNN':=hNN hmay
   simp only [Int.toNat_natCast] at hNN' hk0 hke
   refine caught_ok (fun L2=>∃ G s' k r' rest' ws',runG W t skip step X (getP ws W X,s) = .inl (G,s')/\k<=X*(W+1)/\Ok k s'/\L2=[⟨r31,true,T_p_generic_procedure,[.pointer (some ⟨r29,0,none⟩)]⟩,⟨r10,true,T_int,[.int .i64 (gsize t:Nat)]⟩,procE r29 pm (fvC p) base t skip,mapE pm qm W X ws.length (ws.length+mrest.length),⟨qm,true,T_uint64,u64s ws'++mrest⟩]++codL p q r' s' rest')
    (fun e L2=>∃ s' k r' rest' ws',runG W t skip step X (getP ws W X,s) = .inr (e,s')/\k<=NN/\Ok k s'/\L2=[⟨r31,true,T_p_generic_procedure,[.pointer (some ⟨r29,0,none⟩)]⟩,⟨r10,true,T_int,[.int .i64 (gsize t:Nat)]⟩,procE r29 pm (fvC p) base t skip,mapE pm qm W X ws.length (ws.length+mrest.length),⟨qm,true,T_uint64,u64s ws'++mrest⟩]++codL p q r' s' rest')
    H (fun {r1 h1 K1 Kp1} H hK hKp=>?_) (fun h' L' hp H=>?_) fun e h' L' hp H=>?_
   ·show CP F_generic_Put_c1 #[.pointer (some ⟨r31,0,none⟩), .pointer (some ⟨r10,0,none⟩)] h1 K1 Kp1
    refine call_generic_Put_c1 (cap0:=⟨r31,0,none⟩) (cap1:=⟨r10,0,none⟩) ?_
    unfold generic_Put_c1
    refine ldP_of (H.cell 1 rfl rfl) (ldI_of (H.cell 2 rfl rfl) ?_)
    have HG:Hp h1 _ h1 ([procE r29 pm (fvC p) base t skip,mapE pm qm W X ws.length (ws.length+mrest.length),⟨qm,true,T_uint64,u64s ws++mrest⟩]++codL p q r s rest):=H.give [3,4,5,6,7,8] (by decide) rfl
    refine grun_ok (S:=codS p q) (NN:=NN) codS.w (hdec hmay ⟨by omega,by omega⟩) ⟨by omega,by omega⟩ ht ⟨r,rest,rfl⟩ HG rfl rfl hmay.1 (may_len hmay) hw1 (fun y hy x h1 h2=>pix_of_may hmay hy h1 h2) hok hNN' (fun ws' s' M h' k hM hrun hl' hw' hz' hk hok' H'=>?_) fun e ws' s' M h' k hM hrun hl' hk hok' H'=>?_
    ·obtain ⟨r',rest',rfl⟩:=hM
     have H:=H.put [3,4,5,6,7,8] (by decide) rfl rfl H' rfl rfl
     exact hK h' _ ⟨_,s',k,r',rest',ws',hrun,hk,hok',rfl⟩ H
    ·obtain ⟨r',rest',rfl⟩:=hM
     have H:=H.put [3,4,5,6,7,8] (by decide) rfl rfl H' rfl rfl
     exact hKp e h' _ ⟨s',k,r',rest',ws',hrun,hk,hok',rfl⟩ H
   ·obtain ⟨G,s',k,r',rest',ws',hrun,hk,hok',rfl⟩:=hp
    refine ⟨_,rfl,?_⟩
    exact hk0 G s' k r' rest' h' htt hmay hft2 hrun hk hok' (Hp.suf H)
   ·obtain ⟨s',k,r',rest',ws',hrun,hk,hok',rfl⟩:=hp
    refine ⟨_,rfl,?_⟩
    exact hke e s' k r' rest' h' htt hmay hft2 hrun hk hok' (Hp.suf H)
  ·have H:=H.ext e5
   refine ⟨_,_,rfl,?_⟩
   refine bcase_true (by rfl) ?_
   exact hk62 _ htt hmay (HC.ext H.hext)
 ·have H:=H.ext e2
  refine ⟨_,_,rfl,?_⟩
  refine newC_hp H fun r10 h H=>?_
  repeat first | with_reducible refine stA H 0 (by with_unfolding_all exact rfl) (by with_unfolding_all exact rfl) (by with_unfolding_all exact rfl) fun h H=>?_ | with_reducible refine stA H 1 (by with_unfolding_all exact rfl) (by with_unfolding_all exact rfl) (by with_unfolding_all exact rfl) fun h H=>?_ | with_reducible refine st0 H 0 (by with_unfolding_all exact rfl) (by with_unfolding_all exact rfl) (by with_unfolding_all exact rfl) fun h H=>?_ | with_reducible refine st0 H 1 (by with_unfolding_all exact rfl) (by with_unfolding_all exact rfl) (by with_unfolding_all exact rfl) fun h H=>?_ | with_reducible refine stB H 0 (by with_unfolding_all exact rfl) (by with_unfolding_all exact rfl) (by with_unfolding_all exact rfl) fun h H=>?_ | with_reducible refine stB H 1 (by with_unfolding_all exact rfl) (by with_unfolding_all exact rfl) (by with_unfolding_all exact rfl) fun h H=>?_
  refine bcase_true (by rfl) ?_
  exact hk60 _ hn (HC.ext H.hext)
end Go.Bm
