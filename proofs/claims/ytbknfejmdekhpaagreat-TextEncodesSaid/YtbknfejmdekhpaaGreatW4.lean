/- W4: put together by wip/tools/bundle.py: ArB ArC ArD ArK Mburinkit Bburinkit ArE ArF ArG Mburinref4 Bburinref4 ArR ArS ArT ArU ArV ArW ArX ArH ArY PgA PgB PgC PgD PgF RfE Mburinref8 Bburinref8 RfF RfG RfH. -/
import Derived.Test.YtbknfejmdekhpaaGreatW1
import Derived.Test.YtbknfejmdekhpaaGreatW2
import Derived.Test.YtbknfejmdekhpaaGreatW3
import Derived.Test.YtbknfejmdekhpaaGreatProg
set_option linter.unusedVariables false
set_option linter.unusedSimpArgs false
set_option maxRecDepth 100000
namespace Go.Ar
open Go Go.Den Go.Den.YtbknfejmdekhpaaGreat
def u8s (l:List Nat):List Value:=l.map fun x:Nat => .int .u8 (x:Int)
theorem gO (l:List Nat):(u8s l).length=l.length:=by simp [u8s]
theorem uh {l:List Nat} {i x:Nat} (h:l[i]? = some x):(u8s l)[i]? = some (.int .u8 (x:Int)):=by
 unfold u8s; rw [gL,h]; rfl
theorem Ic (l:List Nat) (i x:Nat):u8s (l.set i x)=(u8s l).set i (.int .u8 (x:Int)):=by simp [u8s,Ex]
theorem ql (l:List Nat):∀ v∈u8s l,v.oneCell'=true:=fun v hv=>by
 obtain ⟨x,_,rfl⟩:=List.mem_map.1 hv; rfl
theorem ob {R T:List Value} {i:Nat} {v:Value} (h:R[i]? = some v):(R++T)[i]? = some v:=by
 rw [gk (List.getElem?_eq_some_iff.1 h).1]; exact h
theorem Qi {R T:List Value} {i:Nat} {v:Value} (h:i<R.length):(R++T).set i v=R.set i v++T:=mc _ _ h
def RC (r:Nat):List Value:=[.int .u32 (qOf r:Nat),.int .u8 (mOf r:Nat),.int .u8 (lOf r:Nat),.int .u8 (cOf r:Nat)]
def m8:Nat->List Value
 | 0=>[]
 | n+1=>m8 n++RC n
theorem xN:∀ n,(m8 n).length=4*n
 | 0=>rfl
 | n+1=>by rw [m8,fA,xN n]; show 4*n+4=_; omega
theorem Hb:∀ {n r j:Nat} {v:Value},r<n->(RC r)[j]? = some v->(m8 n)[4*r+j]? = some v
 | 0,r,j,v,h,_=>by omega
 | n+1,r,j,v,h,hv=>by
  rw [m8]
  have hj:j<4:=(List.getElem?_eq_some_iff.1 hv).1
  rcases gI r n with h1 | h1
  ·exact ob (Hb h1 hv)
  ·have:r=n:=by omega
   subst this
   exact gU (xN r) j hv
def ub:List Value:=m8 47
theorem hR:ub.length=188:=xN 47
def Gb (q:Nat) (nst n a c:Nat) (t:Int) (r:Nat) (bl bc:Nat) (done:Bool):List Value :=
 [.slice (some ⟨q,0,none⟩) nst nst,.int .i64 (n:Nat),.int .u32 (a:Nat),.int .u32 (c:Nat),.int .i64 t,.slice (some ⟨r,0,none⟩) bl bc,.bool done]
def Lj (p q r:Nat) (s:Cod) (rest:List Value):Ent :=
 ⟨p,true,Bk,ub++Gb q s.st.length s.n s.a s.c (s.t:Nat) r (s.bs.length+1) (s.bs.length+1+rest.length) s.done⟩
def ju (p q r:Nat) (s:Cod) (rest:List Value):List Ent :=
 [Lj p q r s rest,⟨q,true,gA,u8s s.st⟩,⟨r,true,gA,u8s (s.bs++[s.l])++rest⟩]
abbrev CP:gl:=kW Go.Proofs.Tryz.prog
abbrev at0 (p:Nat):Option Addr:=some ⟨p,0,none⟩
theorem tb (bs:List Nat) (l:Nat) (rest:List Value):(u8s (bs++[l])++rest)[bs.length]? = some (.int .u8 (l:Int)):=ob (uh (by simp))
theorem JL (bs:List Nat) (l l':Nat) (rest:List Value):(u8s (bs++[l])++rest).set bs.length (.int .u8 (l':Int))=u8s (bs++[l'])++rest:=by
 rw [Qi (by rw [gO]; simp),<- Ic]
 simp
theorem Ou {h:Heap} {p q r:Nat} {s:Cod} {rest:List Value} {F:List Nat} {h0:Heap} (H:Hp h0 F h (ju p q r s rest)) (hl:s.l<256) (hc:s.c<4294967296) (hb:s.bs.length<1000000000)
  {K:VK} {Kp:PK} (hk:∀ r' rest' h',Hp h0 F h' (ju p q r' (ni s) rest')->K (.tuple #[]) h') :
  CP oh #[.pointer (at0 p)] h K Kp:=by
 refine z5 ?_
 unfold tS
 try simp only [ga,gC,fN,gr]
 refine fU (H.cell 0 rfl (gU hR 5 rfl)) ?_
 refine fU (H.cell 0 rfl (gU hR 5 rfl)) ?_
 refine fw (((s.bs.length:Nat):Int)) (by exact fO _ _ (by omega) (by omega) (by omega)) ?_
 refine fH (by constructor <;> omega) ?_
 try simp only [ga,gC,fN,gr]
 simp only [fD,gu]
 refine ⟨fun vs h'=>vs=[]/\Hp h0 F h' (ju p q r (if s.l≠255/\134217728<=s.c then { s with l:=s.l+1,c:=s.c % 134217728 } else s) rest),?_,?_⟩
 ·refine ⟨fun vs h'=>vs=[.bool (decide (s.l≠255/\134217728<=s.c))]/\h'=h,?_,?_⟩
  ·refine fz (H.cell 2 rfl (tb _ _ _)) ?_
   refine gP (fun h1=>?_) fun h1=>?_
   ·refine fz (H.cell 0 rfl (gU hR 3 rfl)) ?_
    refine ⟨?_,rfl⟩
    have h1:s.l≠255:=by simp at h1; omega
    congr 2
    simp [h1]
    omega
   ·refine ⟨?_,rfl⟩
    have h1:s.l=255:=by simp at h1; omega
    simp [h1]
  ·rintro h' u x ⟨hx,rfl⟩
   injection hx with hx
   injection hx with hx
   subst hx
   refine gP (fun h1=>?_) fun h1=>?_
   ·have h1:s.l≠255/\134217728<=s.c:=of_decide_eq_true h1
    refine fz (H.cell 2 rfl (tb _ _ _)) ?_
    refine fw (((s.l+1:Nat):Int)) (by rw [<- u8_in (s.l+1) (by omega)]; rfl) ?_
    refine gq H 2 rfl (by simp [gO]; omega) rfl fun h hsz H=>?_
    rw [JL] at H
    refine fz (H.cell 0 rfl (gU hR 3 rfl)) ?_
    refine fw (((s.c % 134217728:Nat):Int)) (by exact (Rp _ 134217727 (by omega) (by omega)).trans (by congr 1; exact jH s.c 27)) ?_
    refine j1 H 0 rfl hR 3 (fB rfl) rfl fun h hsz H=>?_
    refine ⟨rfl,?_⟩
    rw [if_pos h1]
    exact H
   ·have h1:¬ (s.l≠255/\134217728<=s.c):=of_decide_eq_false h1
    refine ⟨rfl,?_⟩
    rw [if_neg h1]
    exact H
 ·rintro h' u ⟨_,H'⟩
  have e:ni s=iy (if s.l≠255/\134217728<=s.c then { s with l:=s.l+1,c:=s.c % 134217728 } else s) (if s.l≠255/\134217728<=s.c then { s with l:=s.l+1,c:=s.c % 134217728 } else s).l (if s.l≠255/\134217728<=s.c then { s with l:=s.l+1,c:=s.c % 134217728 } else s).c:=by
   unfold ni; split <;> rfl
  have hs':(if s.l≠255/\134217728<=s.c then { s with l:=s.l+1,c:=s.c % 134217728 } else s).l<256/\(if s.l≠255/\134217728<=s.c then { s with l:=s.l+1,c:=s.c % 134217728 } else s).c<4294967296/\(if s.l≠255/\134217728<=s.c then { s with l:=s.l+1,c:=s.c % 134217728 } else s).bs=s.bs:=by
   split
   ·exact ⟨by show s.l+1<256; omega,by show s.c % 134217728<_; omega,rfl⟩
   ·exact ⟨hl,hc,rfl⟩
  generalize (if s.l≠255/\134217728<=s.c then { s with l:=s.l+1,c:=s.c % 134217728 } else s)=s' at e hs' H'
  clear H
  obtain ⟨hl',hc',hb'⟩:=hs'
  rw [e] at hk
  rw [<- hb'] at hb ⊢
  have H:=H'
  clear H'
  refine ⟨fun vs h''=>vs=[.int .i64 ((if s'.l=255 then 20 else 19:Nat):Int)]/\h''=h',?_,?_⟩
  ·refine fz (H.cell 2 rfl (tb _ _ _)) ?_
   refine gP (fun h1=>?_) fun h1=>?_
   ·refine fw ((19:Int)) (by decide) ?_
    have h1:s'.l≠255:=by simp at h1; omega
    exact ⟨by rw [if_neg h1]; rfl,rfl⟩
   ·have h1:s'.l=255:=by simp at h1; omega
    exact ⟨by rw [if_pos h1]; rfl,rfl⟩
  ·rintro h'' u x ⟨hx,rfl⟩
   injection hx with hx
   injection hx with _ hx
   have hn:∃ i:Nat,(i=20/\s'.l=255\/i=19/\s'.l≠255)/\x=((i:Nat):Int):=by
    by_cases h1:s'.l=255
    ·rw [if_pos h1] at hx; exact ⟨20, .inl ⟨rfl,h1⟩,hx⟩
    ·rw [if_neg h1] at hx; exact ⟨19, .inr ⟨rfl,h1⟩,hx⟩
   clear hx
   obtain ⟨i,hi,rfl⟩:=hn
   have hi20:i<=20:=by omega
   have hi0:19<=i:=by omega
   refine fU (H.cell 0 rfl (gU hR 5 rfl)) ?_
   refine fz (H.cell 0 rfl (gU hR 3 rfl)) ?_
   refine fH (by omega) ?_
   refine fw (((s'.c / 2 ^ i:Nat):Int)) (by exact lG (by show i<=32; omega)) ?_
   refine fw (((s'.c / 2 ^ i % 256:Nat):Int)) (by rw [IntKind.wrap_u8]; omega) ?_
   refine fV H fun b h H=>?_
   refine Ai H 2 rfl (xs:=u8s (s'.bs++[s'.l])) (by rw [gO]; simp) (by rw [fA,gO]; simp) (pf (o:=0) (n:=1*1) H 3 rfl (gg _)) rfl (fun v hv=>by rw [List.mem_singleton.1 hv]; rfl) (by omega) fun r' rest' h H=>?_
   refine j1 H 0 rfl hR 5 (fB rfl) rfl fun h hsz H=>?_
   refine fH (by omega) ?_
   have hp:(2:Nat) ^ i<4294967296:=by rcases hi with ⟨rfl,_⟩ | ⟨rfl,_⟩ <;> decide
   have hp0:0<(2:Nat) ^ i:=iI i
   refine fw (((2 ^ i:Nat):Int)) (by exact lP (x:=1) (by show i<=32; omega) (by rw [kn]; exact u32_in _ hp)) ?_
   refine fw (((2 ^ i-1:Nat):Int)) (by exact xI _ _ (by omega) (by omega)) ?_
   refine fz (H.cell 0 rfl (gU hR 3 rfl)) ?_
   refine fw (((s'.c % 2 ^ i:Nat):Int)) (by exact (Rp _ _ hc' (by omega)).trans (by rw [jH])) ?_
   refine j1 H 0 rfl hR 3 (fB rfl) rfl fun h hsz H=>?_
   refine fw (((27-i:Nat):Int)) (by exact fO _ _ (by omega) (by omega) (by omega)) ?_
   refine j1 H 0 rfl hR 4 (fB rfl) rfl fun h hsz H=>?_
   refine hk r' rest' _ ?_
   have H2:=H.take 3
   have e2:iy s' s'.l s'.c = { s' with bs:=s'.bs++[s'.l],l:=s'.c / 2 ^ i % 256,c:=s'.c % 2 ^ i,t:=27-i }:=by
    unfold iy
    rcases hi with ⟨rfl,h1⟩ | ⟨rfl,h1⟩
    ·rw [if_pos h1]
    ·rw [if_neg h1]
   rw [e2]
   refine H2.as ?_
   simp [ju,Lj,Gb,u8s]
   omega
theorem Ax (s:Cod):jK s=if s.t-1=0 then ni { s with a:=2*s.a,c:=2*s.c,t:=s.t-1 } else { s with a:=2*s.a,c:=2*s.c,t:=s.t-1 }:=rfl
theorem Ee (n:Nat) (s:Cod):iU (n+1) s=if 0x8000<=(jK s).a then jK s else iU n (jK s):=rfl
theorem Cw {h:Heap} {p q r:Nat} {s:Cod} {rest:List Value} {F:List Nat} {h0:Heap} (H:Hp h0 F h (ju p q r s rest)) (hs:Mid s) (ha:1<=s.a) (ha':s.a<0x8000) (hb:s.bs.length<999999983)
  {K:VK} {Kp:PK} (hk:∀ r' rest' h',Hp h0 F h' (ju p q r' (iU 17 s) rest')->K (.tuple #[]) h') :
  CP lz #[.pointer (at0 p)] h K Kp:=by
 refine yi ?_
 unfold q8
 refine ⟨fun n vs h'=>∃ (s':Cod) (r':Nat) (rest':List Value),Hp h0 F h' (ju p q r' s' rest')/\Mid s'/\s'.a<0x8000/\0x8000<=s'.a*2 ^ n/\iU n s'=iU 17 s/\s'.bs.length+n<1000000000,
  ⟨17,s,r,rest,H,hs,ha',by have:(2:Nat) ^ 17=131072:=rfl; omega,rfl,by omega⟩,?_⟩
 clear H
 rintro n h u ⟨s',r',rest',H,hm,hlt,hge,he,hbn⟩
 obtain ⟨n,rfl⟩:∃ m,n=m+1:=by
  cases n with
  | zero=>simp at hge; omega
  | succ m=>exact ⟨m,rfl⟩
 have ht1:=hm.t1
 have ht2:=hm.t12
 have hca:=hm.ca
 have hcp:=Ds ht1
 obtain ⟨g1,g2,g3,g4,g5,g6⟩:=p4 hm hlt
 have hnext:0x8000<=(jK s').a*2 ^ n:=by
  rw [g2]
  rw [jA] at hge
  have:s'.a*(2 ^ n*2)=2*s'.a*2 ^ n:=by rw [gS (2 ^ n) 2,<- iG,gS s'.a 2]
  omega
 rw [Ee] at he
 try simp only [ga,gC,fN,gr]
 refine fz (H.cell 0 rfl (gU hR 2 rfl)) ?_
 refine fw (((2*s'.a:Nat):Int)) (by exact lP (i:=1) (by decide) ((u32_in _ (by omega)).trans (by omega))) ?_
 refine j1 H 0 rfl hR 2 (fB rfl) rfl fun h hsz H=>?_
 refine fz (H.cell 0 rfl (gU hR 3 rfl)) ?_
 refine fw (((2*s'.c:Nat):Int)) (by exact lP (i:=1) (by decide) ((u32_in _ (by omega)).trans (by omega))) ?_
 refine j1 H 0 rfl hR 3 (fB rfl) rfl fun h hsz H=>?_
 refine fz (H.cell 0 rfl (gU hR 4 rfl)) ?_
 refine fw (((s'.t-1:Nat):Int)) (by exact fO _ _ (by omega) (by omega) (by omega)) ?_
 refine j1 H 0 rfl hR 4 (fB rfl) rfl fun h hsz H=>?_
 refine fz (H.cell 0 rfl (gU hR 4 rfl)) ?_
 refine gP (fun h1=>?_) fun h1=>?_
 ·have h1:s'.t-1=0:=by simp at h1; omega
  rw [Ax,if_pos h1] at g1 g2 g3 g4 g5 g6 hnext he
  have H2:Hp h0 F _ (ju p q r' { s' with a:=2*s'.a,c:=2*s'.c,t:=s'.t-1 } rest'):=H
  refine Ou H2 hm.l (by show 2*s'.c<_; omega) (by show s'.bs.length<_; omega) fun r2 rest2 h2 H=>?_
  refine fz (H.cell 0 rfl (gU hR 2 rfl)) ?_
  refine gP (fun h3=>?_) fun h3=>?_
  ·have h3:0x8000<=(ni { s' with a:=2*s'.a,c:=2*s'.c,t:=s'.t-1 }).a:=by simp at h3; omega
   rw [if_pos h3] at he
   exact hk r2 rest2 _ (he ▸ H)
  ·have h3:¬ 0x8000<=(ni { s' with a:=2*s'.a,c:=2*s'.c,t:=s'.t-1 }).a:=by simp at h3; omega
   rw [if_neg h3] at he
   exact ⟨n,vq n,_,r2,rest2,H,g1,by omega,hnext,he,by omega⟩
 ·have h1:¬ s'.t-1=0:=by simp at h1; omega
  rw [Ax,if_neg h1] at g1 g2 g3 g4 g5 g6 hnext he
  have H2:Hp h0 F _ (ju p q r' { s' with a:=2*s'.a,c:=2*s'.c,t:=s'.t-1 } rest'):=H
  refine fz (H.cell 0 rfl (gU hR 2 rfl)) ?_
  refine gP (fun h3=>?_) fun h3=>?_
  ·have h3:0x8000<=2*s'.a:=by simp at h3; omega
   rw [if_pos h3] at he
   exact hk r' rest' _ (he ▸ H2)
  ·have h3:¬ 0x8000<=2*s'.a:=by simp at h3; omega
   rw [if_neg h3] at he
   exact ⟨n,vq n,_,r',rest',H2,g1,by omega,hnext,he,by show s'.bs.length+n<_; omega⟩
theorem AE {h:Heap} {q i x:Nat} {st:List Nat} {F:List Nat} {h0:Heap} {L:List Ent} (H:Hp h0 F h L) (k:Nat) (hq:L[k]? = some ⟨q,true,gA,u8s st⟩) (hi:st[i]? = some x) (hx:x<94) {a b c d:Int}
  (hb:b=(mOf (x / 2):Nat)) {K:VK} {Kp:PK} (hk:∀ h',Hp h0 F h' (L.set k ⟨q,true,gA,u8s (st.set i (upM x))⟩)->K (.tuple #[]) h') :
  CP oN #[.pointer (some ⟨q,i,none⟩),.agg #[.int .u32 a,.int .u8 b,.int .u8 c,.int .u8 d]] h K Kp:=by
 refine CY ?_
 unfold yr
 have hm:=OK (r:=x / 2) (by omega)
 have hkl:k<L.length:=(List.getElem?_eq_some_iff.1 hq).1
 have hil:i<st.length:=(List.getElem?_eq_some_iff.1 hi).1
 subst hb
 refine fV H fun b h H=>?_
 have hq2:(L++[(⟨b,true,k8,[.int .u32 a,.int .u8 (mOf (x / 2):Nat),.int .u8 c,.int .u8 d]⟩:Ent)])[k]? = some ⟨q,true,gA,u8s st⟩:=by rw [gk hkl]; exact hq
 try simp only [ga,gC,fN,gr]
 refine fz (H.cell L.length gW rfl) ?_
 refine fw (((2*mOf (x / 2):Nat):Int)) (by exact lP (i:=1) (by decide) ((u8_in _ (by omega)).trans (by omega))) ?_
 refine fz (H.cell k hq2 (uh hi)) ?_
 refine fw (((x % 2:Nat):Int)) (by exact (I1 _ 1 (by omega) (by omega)).trans (by rw [kR])) ?_
 refine fw (((upM x:Nat):Int)) (by exact (or8 _ _ (by omega) (by omega)).trans (by congr 1; exact (nR (i:=1) (by omega) _).symm)) ?_
 refine gq H k hq2 (by rw [gO]; exact hil) rfl fun h hsz H=>?_
 refine hk _ ?_
 have H2:=H.take L.length
 refine H2.as ?_
 rw [<- Ic,mc _ _ hkl,C7 (by simp)]
theorem vF {h:Heap} {q i x:Nat} {st:List Nat} {F:List Nat} {h0:Heap} {L:List Ent} (H:Hp h0 F h L) (k:Nat) (hq:L[k]? = some ⟨q,true,gA,u8s st⟩) (hi:st[i]? = some x) (hx:x<94) {a b c d:Int}
  (hc:c=(lOf (x / 2):Nat)) (hd:d=(cOf (x / 2):Nat)) {K:VK} {Kp:PK} (hk:∀ h',Hp h0 F h' (L.set k ⟨q,true,gA,u8s (st.set i (upL x))⟩)->K (.tuple #[]) h') :
  CP ng #[.pointer (some ⟨q,i,none⟩),.agg #[.int .u32 a,.int .u8 b,.int .u8 c,.int .u8 d]] h K Kp:=by
 refine Ba ?_
 unfold vi
 have hm:=OQ (r:=x / 2) (by omega)
 have hm2:=Pw (r:=x / 2) (by omega)
 have hkl:k<L.length:=(List.getElem?_eq_some_iff.1 hq).1
 have hil:i<st.length:=(List.getElem?_eq_some_iff.1 hi).1
 subst hc hd
 refine fV H fun b' h H=>?_
 have hq2:(L++[(⟨b',true,k8,[.int .u32 a,.int .u8 b,.int .u8 (lOf (x / 2):Nat),.int .u8 (cOf (x / 2):Nat)]⟩:Ent)])[k]? = some ⟨q,true,gA,u8s st⟩:=by rw [gk hkl]; exact hq
 try simp only [ga,gC,fN,gr]
 refine fz (H.cell L.length gW rfl) ?_
 refine fw (((2*lOf (x / 2):Nat):Int)) (by exact lP (i:=1) (by decide) ((u8_in _ (by omega)).trans (by omega))) ?_
 refine fz (H.cell k hq2 (uh hi)) ?_
 refine fw (((x % 2:Nat):Int)) (by exact (I1 _ 1 (by omega) (by omega)).trans (by rw [kR])) ?_
 refine fw (((2*lOf (x / 2)+x % 2:Nat):Int)) (by exact (or8 _ _ (by omega) (by omega)).trans (by congr 1; exact (nR (i:=1) (by omega) _).symm)) ?_
 refine fz (H.cell L.length gW rfl) ?_
 have hxor:(2*lOf (x / 2)+x % 2) ^^^ cOf (x / 2)=upL x:=by
  have e0:x % 2<2:=iP _ (by omega)
  unfold upL
  generalize lOf (x / 2)=l at hm ⊢
  generalize cOf (x / 2)=c at hm2 ⊢
  generalize x % 2=y at e0 ⊢
  have:∀ l∈List.range 47,∀ y∈List.range 2,∀ c∈List.range 2,(2*l+y) ^^^ c=2*l+(y+c) % 2:=by decide
  exact this l (List.mem_range.2 hm) y (List.mem_range.2 e0) c (List.mem_range.2 (by omega))
 refine fw (((upL x:Nat):Int)) (by exact (S9 _ _ (by omega) (by omega)).trans (by rw [hxor])) ?_
 refine gq H k hq2 (by rw [gO]; exact hil) rfl fun h hsz H=>?_
 refine hk _ ?_
 have H2:=H.take L.length
 refine H2.as ?_
 rw [<- Ic,mc _ _ hkl,C7 (by simp)]
def idx (ctx:Int) (n:Nat):Nat:=(ctx % (n:Int)).toNat
theorem rZ (ctx:Int) {n:Nat} (hn:1<=n):idx ctx n<n:=by
 unfold idx
 have h1:=Int.emod_nonneg ctx (b:=(n:Int)) (by omega)
 have h2:=Int.emod_lt_of_pos ctx (b:=(n:Int)) (by omega)
 omega
theorem Fe (ctx:Int) {n:Nat} (hn:1<=n):-(n:Int)<ctx.tmod n/\ctx.tmod n<n:=by
 constructor
 ·have h1:=Int.lt_tmod_of_pos ctx (b:=(n:Int)) (by omega)
  exact h1
 ·exact Int.tmod_lt_of_pos ctx (by omega)
theorem idx_eq (ctx:Int) {n:Nat} (hn:1<=n):(ctx.tmod n+n).tmod n=((idx ctx n:Nat):Int):=by
 have h1:=Int.emod_nonneg ctx (b:=(n:Int)) (by omega)
 have h3:=Fe ctx hn
 have e1:((idx ctx n:Nat):Int)=ctx % n:=by unfold idx; omega
 rw [e1,Int.tmod_eq_emod_of_nonneg (by omega),Int.add_emod_right,Int.tmod_eq_emod]
 split
 ·rw [show ((0:Nat):Int)=0 from rfl,Int.sub_zero,Int.emod_emod_of_dvd _ (Int.dvd_refl _)]
 ·have:((n:Int).natAbs:Int)=n:=by omega
  rw [this,Int.sub_emod_right,Int.emod_emod_of_dvd _ (Int.dvd_refl _)]
theorem Mu {h:Heap} {p q:Nat} {st:List Nat} {F:List Nat} {h0:Heap} {L:List Ent} (H:Hp h0 F h L) (kp kq:Nat) {w:Bool} {t:TypeId} {T:List Value} (hp:L[kp]? = some ⟨p,w,t,ub++(.slice (some ⟨q,0,none⟩) st.length st.length::T)⟩)
  (hq:L[kq]? = some ⟨q,true,gA,u8s st⟩) (hn:1<=st.length) (hn2:st.length<=131072) (hst:∀ x∈st,x<94) {ctx:Int} {K:VK} {Kp:PK}
  (hk:∀ h' x,st[idx ctx st.length]? = some x->x<94->Hp h0 F h' L->K (.tuple #[.pointer (some ⟨q,idx ctx st.length,none⟩),.agg #[.int .u32 (qOf (x / 2):Nat),.int .u8 (mOf (x / 2):Nat),.int .u8 (lOf (x / 2):Nat),.int .u8 (cOf (x / 2):Nat)]]) h') :
  CP o6 #[.pointer (at0 p),.int .i64 ctx] h K Kp:=by
 refine Bb ?_
 unfold vj
 have hi:=rZ ctx hn
 have habs:=Fe ctx hn
 obtain ⟨x,hx⟩:∃ x,st[idx ctx st.length]? = some x:=⟨_,fP hi⟩
 have hx94:x<94:=hst x (fS hx)
 have hkp:kp<L.length:=(List.getElem?_eq_some_iff.1 hp).1
 have hkq:kq<L.length:=(List.getElem?_eq_some_iff.1 hq).1
 refine fV H fun b h H=>?_
 have hp2:∀ e,(L++[e])[kp]? = some ⟨p,w,t,ub++(.slice (some ⟨q,0,none⟩) st.length st.length::T)⟩:=fun e=>by rw [gk hkp]; exact hp
 have hq2:∀ e,(L++[e])[kq]? = some ⟨q,true,gA,u8s st⟩:=fun e=>by rw [gk hkq]; exact hq
 try simp only [ga,gC,fN,gr]
 refine fU (H.cell kp (hp2 _) (gU hR 0 rfl)) ?_
 refine fH (by exact ⟨trivial,by omega⟩) ?_
 refine nU fun z6 e6=>?_
 subst e6
 refine fw (ctx.tmod st.length+st.length) (i64_in _ (by omega) (by omega)) ?_
 refine fH (by exact ⟨trivial,by omega⟩) ?_
 refine fw _ (idx_eq ctx hn) ?_
 refine fU (H.cell kp (hp2 _) (gU hR 0 rfl)) ?_
 refine fH (by omega) ?_
 simp only [fD,gu]
 try simp only [ga,gC,fN,gr]
 refine fz (H.cell kq (hq2 _) (uh hx)) ?_
 refine fw (((x / 2:Nat):Int)) (by exact lG (i:=1) (by decide)) ?_
 refine fH (by omega) ?_
 simp only [fD]
 have hr:x / 2<47:=by omega
 have hrow:∀ j v,(RC (x / 2))[j]? = some v->(ub++(.slice (some ⟨q,0,none⟩) st.length st.length::T))[x / 2*4+j]? = some v:=fun j v hv=>ob (by rw [gS]; exact Hb hr hv)
 refine fz (H.cell kp (hp2 _) (hrow 0 _ rfl)) ?_
 refine fz (H.cell kp (hp2 _) (hrow 1 _ rfl)) ?_
 refine fz (H.cell kp (hp2 _) (hrow 2 _ rfl)) ?_
 refine fz (H.cell kp (hp2 _) (hrow 3 _ rfl)) ?_
 refine gq H L.length gW (by simp) rfl fun h hsz H=>?_
 simp only [jl _ _ (gg _),iH,xF,rT] at H
 refine gq H L.length gW (by simp) rfl fun h hsz H=>?_
 simp only [jl _ _ (gg _),iH,xF,rT] at H
 refine gq H L.length gW (by simp) rfl fun h hsz H=>?_
 simp only [jl _ _ (gg _),iH,xF,rT] at H
 refine gq H L.length gW (by simp) rfl fun h hsz H=>?_
 simp only [jl _ _ (gg _),iH,xF,rT] at H
 refine fz (H.cell L.length gW rfl) ?_
 refine fz (H.cell L.length gW rfl) ?_
 refine fz (H.cell L.length gW rfl) ?_
 refine fz (H.cell L.length gW rfl) ?_
 exact hk _ x hx hx94 ((H.take L.length).as (C7 rfl))
theorem Mk {st:List Nat} {k x:Nat} (h:st[k]? = some x):st.getD k 0=x:=by rw [fY,h]; rfl
theorem LV (s:Cod) (k bit x:Nat) (hx:s.st[k]? = some x):oo s k bit =
 if bit=x % 2 then
  if 0x8000<=s.a-qOf (x / 2) then { s with a:=s.a-qOf (x / 2),c:=s.c+qOf (x / 2),n:=s.n+1 }
  else if s.a-qOf (x / 2)<qOf (x / 2) then iU 17 { s with a:=qOf (x / 2),n:=s.n+1,st:=s.st.set k (upM x) }
  else iU 17 { s with a:=s.a-qOf (x / 2),c:=s.c+qOf (x / 2),n:=s.n+1,st:=s.st.set k (upM x) }
 else
  if s.a-qOf (x / 2)<qOf (x / 2) then iU 17 { s with a:=s.a-qOf (x / 2),c:=s.c+qOf (x / 2),n:=s.n+1,st:=s.st.set k (upL x) }
  else iU 17 { s with a:=qOf (x / 2),n:=s.n+1,st:=s.st.set k (upL x) }:=by
 rw [<- Mk hx]; rfl
theorem BH {h:Heap} {p q r:Nat} {s:Cod} {rest:List Value} {F:List Nat} {h0:Heap} (H:Hp h0 F h (ju p q r s rest)) (hs:Wf s) (hd:s.done=false) (hn:s.n<16777216) (hl:1<=s.st.length) (hl2:s.st.length<=131072)
  {ctx:Int} {bit:Nat} (hbit:bit<=1) {K:VK} {Kp:PK} (hk:∀ r' rest' h',Hp h0 F h' (ju p q r' (oo s (idx ctx s.st.length) bit) rest')->K (.int .i64 0) h') :
  CP kJ #[.pointer (at0 p),.int .i64 ctx,.int .i64 (bit:Nat)] h K Kp:=by
 refine z7 ?_
 unfold tT
 refine ⟨fun vs h'=>h'=h,?_,?_⟩
 ·try simp only [ga,gC,fN,gr]
  refine gT (H.cell 0 rfl (gU hR 6 (congrArg (fun b=>some (Value.bool b)) hd))) ?_
  refine fZ (by rfl) ?_
  refine gP (fun h1=>?_) fun h1=>?_
  ·refine gP (fun h2=>?_) fun h2=>?_
   ·simp at h1 h2; omega
   ·refine fz (H.cell 0 rfl (gU hR 1 rfl)) ?_
    refine fZ (by simp; omega) ?_
    trivial
  ·refine fz (H.cell 0 rfl (gU hR 1 rfl)) ?_
   refine fZ (by simp; omega) ?_
   trivial
 ·rintro h' u rfl
  try simp only [ga,gC,fN,gr]
  refine fz (H.cell 0 rfl (gU hR 1 rfl)) ?_
  refine fw (((s.n+1:Nat):Int)) (by exact fO _ _ (by omega) (by omega) (by omega)) ?_
  refine j1 H 0 rfl hR 1 (fB rfl) rfl fun h hsz H=>?_
  refine Mu H 0 1 rfl rfl hl hl2 hs.st fun h x hx hx94 H=>?_
  refine ⟨_,_,_,_,_,rfl,?_⟩
  refine fV H fun b h H=>?_
  try simp only [ga,gC,fN,gr]
  refine gq H 3 rfl (by first | exact fB rfl | simp) rfl fun h hsz H=>?_
  refine gq H 3 rfl (by first | exact fB rfl | simp) rfl fun h hsz H=>?_
  refine gq H 3 rfl (by first | exact fB rfl | simp) rfl fun h hsz H=>?_
  refine gq H 3 rfl (by first | exact fB rfl | simp) rfl fun h hsz H=>?_
  refine fz (H.cell 0 rfl (gU hR 2 rfl)) ?_
  refine fz (H.cell 3 rfl rfl) ?_
  have hr:x / 2<47:=by omega
  have hq1:=vH hr
  have hq2:=zs hr
  have hlo:=hs.lo
  have hhi:=hs.hi
  have hca:=hs.ca
  have hcp:=Ds hs.t1
  have hlen:=hs.len
  have hM:=pa hs.st (k:=idx ctx s.st.length) (zd hx94)
  have hL:=pa hs.st (k:=idx ctx s.st.length) (ze hx94)
  rw [LV s _ bit x hx] at hk
  refine fw (((s.a-qOf (x / 2):Nat):Int)) (by exact xI _ _ (by omega) (by omega)) ?_
  refine j1 H 0 rfl hR 2 (fB rfl) rfl fun h hsz H=>?_
  refine fz (H.cell 1 rfl (uh hx)) ?_
  refine fw (((x % 2:Nat):Int)) (by exact (I1 _ 1 (by omega) (by omega)).trans (by rw [kR])) ?_
  refine fw (((x % 2:Nat):Int)) (by exact i64_in _ (by omega) (by omega)) ?_
  refine gP (fun h1=>?_) fun h1=>?_
  ·have h1:bit=x % 2:=by simp at h1; omega
   rw [if_pos h1] at hk
   refine fz (H.cell 0 rfl (gU hR 2 rfl)) ?_
   refine gP (fun h2=>?_) fun h2=>?_
   ·have h2:0x8000<=s.a-qOf (x / 2):=by simp at h2; omega
    rw [if_pos h2] at hk
    refine fz (H.cell 0 rfl (gU hR 3 rfl)) ?_
    refine fz (H.cell 3 rfl rfl) ?_
    refine fw (((s.c+qOf (x / 2):Nat):Int)) (by exact xI _ _ (by omega) (by omega)) ?_
    refine j1 H 0 rfl hR 3 (fB rfl) rfl fun h hsz H=>?_
    exact hk r rest _ (H.take 3)
   ·have h2:¬ 0x8000<=s.a-qOf (x / 2):=by simp at h2; omega
    rw [if_neg h2] at hk
    refine fz (H.cell 0 rfl (gU hR 2 rfl)) ?_
    refine fz (H.cell 3 rfl rfl) ?_
    refine gP (fun h3=>?_) fun h3=>?_
    ·have h3:s.a-qOf (x / 2)<qOf (x / 2):=by simp at h3; omega
     rw [if_pos h3] at hk
     refine fz (H.cell 3 rfl rfl) ?_
     refine j1 H 0 rfl hR 2 (fB rfl) rfl fun h hsz H=>?_
     refine fz (H.cell 3 rfl rfl) ?_
     refine fz (H.cell 3 rfl rfl) ?_
     refine fz (H.cell 3 rfl rfl) ?_
     refine fz (H.cell 3 rfl rfl) ?_
     refine AE H 1 rfl hx hx94 rfl fun h H=>?_
     have H2:Hp h0 F h (ju p q r { s with a:=qOf (x / 2),n:=s.n+1,st:=s.st.set (idx ctx s.st.length) (upM x) } rest):=(H.take 3).as (by simp [ju,Lj,Gb])
     exact Cw H2 ⟨hs.t1,hs.t12,by show s.c+qOf _<2 ^ (28-s.t); omega,hs.l,hs.bs,hM⟩ hq1 (by show qOf _<_; omega) (by show s.bs.length<_; omega) hk
    ·have h3:¬ s.a-qOf (x / 2)<qOf (x / 2):=by simp at h3; omega
     rw [if_neg h3] at hk
     refine fz (H.cell 0 rfl (gU hR 3 rfl)) ?_
     refine fz (H.cell 3 rfl rfl) ?_
     refine fw (((s.c+qOf (x / 2):Nat):Int)) (by exact xI _ _ (by omega) (by omega)) ?_
     refine j1 H 0 rfl hR 3 (fB rfl) rfl fun h hsz H=>?_
     refine fz (H.cell 3 rfl rfl) ?_
     refine fz (H.cell 3 rfl rfl) ?_
     refine fz (H.cell 3 rfl rfl) ?_
     refine fz (H.cell 3 rfl rfl) ?_
     refine AE H 1 rfl hx hx94 rfl fun h H=>?_
     have H2:Hp h0 F h (ju p q r { s with a:=s.a-qOf (x / 2),c:=s.c+qOf (x / 2),n:=s.n+1,st:=s.st.set (idx ctx s.st.length) (upM x) } rest):=(H.take 3).as (by simp [ju,Lj,Gb])
     exact Cw H2 ⟨hs.t1,hs.t12,by show s.c+qOf _+(s.a-qOf _)<2 ^ (28-s.t); omega,hs.l,hs.bs,hM⟩ (by show 1<=s.a-qOf _; omega) (by show s.a-qOf _<_; omega) (by show s.bs.length<_; omega) hk
  ·have h1:¬ bit=x % 2:=by simp at h1; omega
   rw [if_neg h1] at hk
   refine fz (H.cell 0 rfl (gU hR 2 rfl)) ?_
   refine fz (H.cell 3 rfl rfl) ?_
   refine gP (fun h3=>?_) fun h3=>?_
   ·have h3:s.a-qOf (x / 2)<qOf (x / 2):=by simp at h3; omega
    rw [if_pos h3] at hk
    refine fz (H.cell 0 rfl (gU hR 3 rfl)) ?_
    refine fz (H.cell 3 rfl rfl) ?_
    refine fw (((s.c+qOf (x / 2):Nat):Int)) (by exact xI _ _ (by omega) (by omega)) ?_
    refine j1 H 0 rfl hR 3 (fB rfl) rfl fun h hsz H=>?_
    refine fz (H.cell 3 rfl rfl) ?_
    refine fz (H.cell 3 rfl rfl) ?_
    refine fz (H.cell 3 rfl rfl) ?_
    refine fz (H.cell 3 rfl rfl) ?_
    refine vF H 1 rfl hx hx94 rfl rfl fun h H=>?_
    have H2:Hp h0 F h (ju p q r { s with a:=s.a-qOf (x / 2),c:=s.c+qOf (x / 2),n:=s.n+1,st:=s.st.set (idx ctx s.st.length) (upL x) } rest):=(H.take 3).as (by simp [ju,Lj,Gb])
    exact Cw H2 ⟨hs.t1,hs.t12,by show s.c+qOf _+(s.a-qOf _)<2 ^ (28-s.t); omega,hs.l,hs.bs,hL⟩ (by show 1<=s.a-qOf _; omega) (by show s.a-qOf _<_; omega) (by show s.bs.length<_; omega) hk
   ·have h3:¬ s.a-qOf (x / 2)<qOf (x / 2):=by simp at h3; omega
    rw [if_neg h3] at hk
    refine fz (H.cell 3 rfl rfl) ?_
    refine j1 H 0 rfl hR 2 (fB rfl) rfl fun h hsz H=>?_
    refine fz (H.cell 3 rfl rfl) ?_
    refine fz (H.cell 3 rfl rfl) ?_
    refine fz (H.cell 3 rfl rfl) ?_
    refine fz (H.cell 3 rfl rfl) ?_
    refine vF H 1 rfl hx hx94 rfl rfl fun h H=>?_
    have H2:Hp h0 F h (ju p q r { s with a:=qOf (x / 2),n:=s.n+1,st:=s.st.set (idx ctx s.st.length) (upL x) } rest):=(H.take 3).as (by simp [ju,Lj,Gb])
    exact Cw H2 ⟨hs.t1,hs.t12,by show s.c+qOf _<2 ^ (28-s.t); omega,hs.l,hs.bs,hL⟩ hq1 (by show qOf _<_; omega) (by show s.bs.length<_; omega) hk
theorem LS {h:Heap} {K:VK} {Kp:PK} (hk:∀ h',gi h h'->K (.agg ub.toArray) h'):CP uA #[] h K Kp:=by
 refine EM ?_
 unfold Cb
 have H:=Hp.nil h []
 refine fV H fun r h H=>?_
 refine wV H 0 rfl (by kernel_rfl) (List.all_eq_true.1 (by kernel_rfl)) fun h' hsz H'=>?_
 refine zx H' 0 rfl (by kernel_rfl) ?_
 have key:∀ X,X=ub->K (.agg X.toArray) h':=fun X e=>e ▸ hk _ H'.gi
 refine key _ ?_
 kernel_rfl
def Cr (q n:Nat):List Value:=ub++[.slice (some ⟨q,0,none⟩) n n,.int .i64 0]
theorem Ig (q n:Nat):mu (mu kj 0 ub) 188 [.slice (some ⟨q,0,none⟩) n n]=Cr q n:=by kernel_rfl
theorem kD (q n:Nat):(Cr q n).length=190:=by kernel_rfl
theorem Fv:∀ n,(m8 n).all Value.oneCell'=true
 | 0=>rfl
 | n+1=>by rw [m8,pP,Fv n]; rfl
theorem As (q n:Nat):∀ v∈Cr q n,v.oneCell'=true:=List.all_eq_true.1 (by unfold Cr; rw [pP]; unfold ub; rw [Fv]; rfl)
theorem Ja (n:Nat):l9 [.int .u8 0] n=u8s (List.replicate n 0):=by rw [Cu]; simp [u8s]
theorem L8 {h:Heap} {n:Nat} (h1:1<=n) (h2:n<=131072) {K:VK} {Kp:PK}
  (hk:∀ q h',Hp h [] h' [⟨q,true,gA,u8s (List.replicate n 0)⟩]->K (.tuple #[.agg (Cr q n).toArray,.bool true]) h'):CP uB #[.int .i64 (n:Nat)] h K Kp:=by
 refine EN ?_
 unfold Cc
 have H:=Hp.nil h []
 refine fV H fun r h H=>?_
 refine fZ (by simp; omega) ?_
 refine fZ (by simp; omega) ?_
 refine ⟨LS fun h2 e=>?_,?_⟩
 ·refine ⟨ub,hR,rfl,e,?_⟩
  have H:=H.ext e
  refine fH (by simp; omega) ?_
  simp only [fD,Ja]
  refine fV H fun q h H=>?_
  refine fH ⟨hR,by decide⟩ ?_
  refine fH (by exact ⟨rfl,by rw [nq]; decide⟩) ?_
  refine fH (by rw [Ig]; exact kD q n) ?_
  rw [Ig]
  refine wV H 0 rfl (kD q n) (As q n) fun h' hsz H=>?_
  refine zx H 0 rfl (kD q n) ?_
  exact hk q _ (H.pick [1] (by decide) rfl)
 ·refine fH (by simp; omega) ?_
  simp only [fD,Ja]
  refine fV H fun q h H=>?_
  refine LS fun h2 e=>?_
  refine ⟨ub,hR,rfl,e,?_⟩
  have H:=H.ext e
  refine fH ⟨hR,by decide⟩ ?_
  refine fH (by exact ⟨rfl,by rw [nq]; decide⟩) ?_
  refine fH (by rw [Ig]; exact kD q n) ?_
  rw [Ig]
  refine wV H 0 rfl (kD q n) (As q n) fun h' hsz H=>?_
  refine zx H 0 rfl (kD q n) ?_
  exact hk q _ (H.pick [1] (by decide) rfl)
theorem RN (q r n:Nat):mu (mu (mu (mu nV 0 (Cr q n)) 190 ([.int .u32 32768]:List Value)) 192 ([.int .i64 12]:List Value)) 193 ([.slice (some ⟨r,0,none⟩) 1 1]:List Value)=ub++Gb q n 0 0x8000 0 12 r 1 1 false:=by kernel_rfl
theorem RM {h:Heap} {n:Nat} (h1:1<=n) (h2:n<=131072) {K:VK} {Kp:PK}
  (hk:∀ p q r h',Hp h [] h' (ju p q r (gE n) [])->K (.tuple #[.pointer (at0 p),.int .i64 0]) h'):CP Am #[.int .i64 (n:Nat)] h K Kp:=by
 refine Gl ?_
 unfold D5
 refine L8 h1 h2 fun q h' H=>?_
 refine ⟨Cr q n,kD q n,true,rfl,?_⟩
 refine fV H fun t h H=>?_
 refine fH (kD q n) ?_
 refine wV H 1 rfl (kD q n) (As q n) fun h' hsz H=>?_
 refine fZ (by rfl) ?_
 refine zx H 1 rfl (kD q n) ?_
 refine fV H fun r h H=>?_
 refine fH ⟨kD q n,by decide⟩ ?_
 refine fH (by exact ⟨rfl,by simp only [nq]; decide⟩) ?_
 refine fH (by exact ⟨rfl,by simp only [nq]; decide⟩) ?_
 refine fH (by exact ⟨rfl,by simp only [nq]; decide⟩) ?_
 rw [RN]
 refine fV H fun p h H=>?_
 refine hk p q r _ ?_
 have H2:=H.pick [3,0,2] (by decide) (L':=ju p q r (gE n) []) (by simp [ju,Lj,gE,u8s])
 exact H2
theorem Hx (c:Nat):c ||| 65535=c / 65536*65536+65535:=by
 have h1:c % 65536 ||| 65535=65535:=by
  apply Bl
  intro i
  rw [o8,show 65535=2 ^ 16-1 from rfl,tq]
  by_cases hi:i<16
  ·simp [hi]
  ·have:(c % 65536).testBit i=false:=Nat.testBit_lt_two_pow (iK (iP c (by decide:65536 > 0)) (by
    have:2 ^ 16<=2 ^ i:=im (by omega) (by omega)
    simpa using this))
   simp [hi,this]
 have h2:=nR (i:=16) (b:=c % 65536) (by omega) (c / 65536)
 have h3:=nR (i:=16) (b:=65535) (by omega) (c / 65536)
 calc c ||| 65535=(2 ^ 16*(c / 65536)+c % 65536) ||| 65535:=by congr 1; omega
  _=(2 ^ 16*(c / 65536)) ||| (c % 65536 ||| 65535):=by rw [h2,Nat.or_assoc]
  _=_:=by rw [h1,<- h3]; omega
def nz:Nat->Cod->Cod
 | 0,s=>s
 | n+1,s=>lu (nz n s)
structure Fl (s:Cod) (k:Nat):Prop where
 c:s.c*2 ^ s.t<4294967296
 t:s.t<=12
 l:s.l<256
 n:s.bs.length<=900000000+k
theorem DA {s:Cod} {k:Nat} (h:Fl s k):Fl (lu s) (k+1)/\(lu s).bs.length=s.bs.length+1:=by
 have hm:∀ (s:Cod) (l c:Nat),l<256->c<4294967296->s.bs.length<=900000000+k->Fl (iy s l c) (k+1)/\(iy s l c).bs.length=s.bs.length+1:=fun s l c hl hc hn=>by
  unfold iy
  split
  ·exact ⟨⟨by show c % 1048576*2 ^ 7<_; omega,by show 7<=12; omega,by show c / 1048576 % 256<256; omega,by simp; omega⟩,by simp⟩
  ·exact ⟨⟨by show c % 524288*2 ^ 8<_; omega,by show 8<=12; omega,by show c / 524288 % 256<256; omega,by simp; omega⟩,by simp⟩
 unfold lu ni
 split
 ·rename_i h1
  have h1:s.l≠255/\_:=h1
  exact hm { s with c:=s.c*2 ^ s.t } _ _ (by show s.l+1<256; have:=h.l; omega) (by show s.c*2 ^ s.t % 134217728<_; have:=h.c; omega) h.n
 ·exact hm { s with c:=s.c*2 ^ s.t } _ _ h.l h.c h.n
theorem Pd {h:Heap} {p q r:Nat} {s:Cod} {rest:List Value} {F:List Nat} {h0:Heap} (H:Hp h0 F h (ju p q r s rest)) (hs:Wf s) (hd:s.done=false)
  {K:VK} {Kp:PK} (hk:∀ r' rest' o orest h',Hp h0 F h' (ju p q r' (iE s) rest'++[⟨o,true,gA,u8s (iX (iE s))++orest⟩]) ->
   K (.tuple #[.slice (at0 o) (iX (iE s)).length ((iX (iE s)).length+orest.length),.int .i64 0]) h') :
  CP pD #[.pointer (at0 p)] h K Kp:=by
 refine yj ?_
 unfold rh
 have hca:=hs.ca
 have hcp:=Ds hs.t1
 have hlen:=hs.len
 have hn:=hs.n
 have hcl:jw s<2 ^ (28-s.t)+65536:=by
  unfold jw
  simp only []
  split <;> omega
 have hfl:Fl { s with c:=jw s,done:=true } 0:=by
  refine ⟨?_,hs.t12,hs.l,by show s.bs.length<=_; omega⟩
  show jw s*2 ^ s.t<4294967296
  have h1:(2:Nat) ^ s.t<=2 ^ 12:=im (by omega) hs.t12
  have h2:jw s*2 ^ s.t<(2 ^ (28-s.t)+65536)*2 ^ s.t:=jk hcl (iI _)
  have h3:2 ^ (28-s.t)*2 ^ s.t=2 ^ 28:=by rw [<- jq]; congr 1; have:=hs.t12; omega
  rw [gZ,h3] at h2
  omega
 try simp only [ga,gC,fN,gr]
 refine gT (H.cell 0 rfl (gU hR 6 (congrArg (fun b=>some (Value.bool b)) hd))) ?_
 refine fZ (by rfl) ?_
 refine j1 H 0 rfl hR 6 (fB rfl) rfl fun h hsz H=>?_
 refine fz (H.cell 0 rfl (gU hR 3 rfl)) ?_
 refine fz (H.cell 0 rfl (gU hR 2 rfl)) ?_
 refine fw (((s.c+s.a:Nat):Int)) (by exact xI _ _ (by omega) (by omega)) ?_
 refine ⟨fun vs h'=>Hp h0 F h' (ju p q r { s with c:=jw s,done:=true } rest),?_,?_⟩
 ·refine fz (H.cell 0 rfl (gU hR 3 rfl)) ?_
  refine fw (((s.c / 65536*65536+65535:Nat):Int)) (by exact (Tc _ 65535 (by omega) (by omega)).trans (by rw [Hx])) ?_
  refine j1 H 0 rfl hR 3 (fB rfl) rfl fun h hsz H=>?_
  refine fz (H.cell 0 rfl (gU hR 3 rfl)) ?_
  refine gP (fun h1=>?_) fun h1=>?_
  ·have h1:s.c+s.a<=s.c / 65536*65536+65535:=by simp at h1; omega
   refine fz (H.cell 0 rfl (gU hR 3 rfl)) ?_
   refine fw (((s.c / 65536*65536+65535-0x8000:Nat):Int)) (by exact xI _ _ (by omega) (by omega)) ?_
   refine j1 H 0 rfl hR 3 (fB rfl) rfl fun h hsz H=>?_
   have e:jw s=s.c / 65536*65536+65535-0x8000:=by unfold jw; simp only []; rw [if_pos h1]
   rw [e]
   exact H
  ·have h1:¬ s.c+s.a<=s.c / 65536*65536+65535:=by simp at h1; omega
   have e:jw s=s.c / 65536*65536+65535:=by unfold jw; simp only []; rw [if_neg h1]
   rw [e]
   exact H
 ·intro h u H
  generalize hS:({ s with c:=jw s,done:=true }:Cod)=S at H hfl
  have hfm:iE s=nz 2 S:=by rw [<- hS]; rfl
  rw [hfm] at hk
  refine ⟨fun n vs h'=>∃ r' rest',n<=2/\vs=[.int .i64 ((2-n:Nat):Int)]/\Hp h0 F h' (ju p q r' (nz (2-n) S) rest')/\Fl (nz (2-n) S) (2-n)/\(nz (2-n) S).bs.length=S.bs.length+(2-n),⟨2,r,rest,gg _,rfl,H,by simpa [nz] using hfl,rfl⟩,?_⟩
  clear H
  rintro n h u x ⟨r',rest',hn2,hx,H,hf,hbl⟩
  injection hx with hx
  injection hx with _ hx
  subst hx
  try simp only [ga,gC,fN,gr]
  refine gP (fun h1=>?_) fun h1=>?_
  ·have h1:1<=n:=by simp at h1; omega
   obtain ⟨m,rfl⟩:∃ m,n=m+1:=⟨n-1,by omega⟩
   have hm1:2-m=(2-(m+1))+1:=by omega
   generalize 2-(m+1)=k at hm1 H hf hbl
   obtain ⟨hf2,hbl2⟩:=DA hf
   have hft:=hf.t
   have hfc:=hf.c
   have hfn:=hf.n
   have hc0:(nz k S).c<4294967296:=ir (Nat.le_mul_of_pos_right _ (iI _)) hfc
   refine fz (H.cell 0 rfl (gU hR 3 rfl)) ?_
   refine fz (H.cell 0 rfl (gU hR 4 rfl)) ?_
   refine fH (by omega) ?_
   refine fw ((((nz k S).c*2 ^ (nz k S).t:Nat):Int)) (by exact lP (by show (nz k S).t<=32; omega) (u32_in _ hfc)) ?_
   refine j1 H 0 rfl hR 3 (fB rfl) rfl fun h hsz H=>?_
   have H2:Hp h0 F _ (ju p q r' { nz k S with c:=(nz k S).c*2 ^ (nz k S).t } rest'):=H
   refine Ou H2 hf.l hfc (by show (nz k S).bs.length<_; omega) fun r2 rest2 h2 H=>?_
   refine fw (((k+1:Nat):Int)) (by exact fO _ _ (by omega) (by omega) (by omega)) ?_
   refine ⟨m,vq m,r2,rest2,by omega,by rw [hm1],?_,?_,?_⟩
   ·rw [hm1]; exact H
   ·rw [hm1]; exact hf2
   ·rw [hm1]; show (lu (nz k S)).bs.length=_; omega
  ·have h1:n=0:=by simp at h1; omega
   subst h1
   have hbl:(nz 2 S).bs.length=S.bs.length+2:=hbl
   have H:Hp h0 F h (ju p q r' (nz 2 S) rest'):=H
   have hfn:(nz 2 S).bs.length<=900000000+2:=hf.n
   generalize hE:nz 2 S=E at H hbl hk
   have hEn:E.bs.length<900000005:=by rw [<- hE]; omega
   have hEl:E.l<256:=by rw [<- hE]; exact hf.l
   refine fU (H.cell 0 rfl (gU hR 5 rfl)) ?_
   refine fH (by omega) ?_
   have hsub:((E.bs.length+1-(1:Int).toNat:Nat):Int)=(E.bs.length:Nat):=by simp
   rw [hsub]
   refine fw (((E.bs.length-1:Nat):Int)) (by exact fO _ _ (by omega) (by omega) (by omega)) ?_
   refine fH (by omega) ?_
   have e1:we (some ⟨r',0,none⟩) (E.bs.length+1+rest'.length) (1:Int).toNat 1=some ⟨r',1,none⟩:=by
    unfold we
    rw [if_neg (by simp; omega)]
    rfl
   rw [e1]
   try simp only [ga,gC,fN,gr]
   simp only [fD,gu]
   have e2:1+(E.bs.length-1)=E.bs.length:=by omega
   rw [e2]
   refine fz (H.cell 2 rfl (tb _ _ _)) ?_
   have hb:iX E=if E.l=255 then ((E.bs++[E.l]).drop 1).dropLast else (E.bs++[E.l]).drop 1:=rfl
   refine gP (fun h1=>?_) fun h1=>?_
   ·have h1:E.l=255:=by simp at h1; omega
    rw [if_pos h1] at hb
    refine fw (((E.bs.length-1:Nat):Int)) (by exact fO _ _ (by omega) (by omega) (by omega)) ?_
    refine fH (by simp; omega) ?_
    have e3:we (some ⟨r',1,none⟩) (E.bs.length+1+rest'.length-(1:Int).toNat) 0 1=some ⟨r',1,none⟩:=by
     unfold we
     split <;> rfl
    rw [e3]
    simp only [fD,An]
    have hlen:((u8s (E.bs++[E.l])++rest').drop 1).take ((E.bs.length-1)*1)=u8s (iX E):=by
     rw [hb,gu,m4 (by rw [gO]; simp),jr (by rw [kA,gO]; simp)]
     unfold u8s
     rw [<- Ch,<- GR,List.dropLast_eq_take]
     congr 2
     simp
    have hl2:(iX E).length=E.bs.length-1:=by rw [hb]; simp
    have hr:=pf H 2 (o:=1) (n:=(E.bs.length-1)*1) rfl (by simp [gO]; omega)
    rw [hlen] at hr
    refine vk H hr (by rw [gO,hl2]) (by omega) (by omega) fun o orest h' _ H=>?_
    have:=hk r' rest' o orest _ H
    rw [hl2] at this
    exact this
   ·have h1:¬ E.l=255:=by simp at h1; omega
    rw [if_neg h1] at hb
    have hlen:((u8s (E.bs++[E.l])++rest').drop 1).take (E.bs.length*1)=u8s (iX E):=by
     rw [hb,gu,m4 (by rw [gO]; simp),jr (by rw [kA,gO]; simp)]
     unfold u8s
     rw [<- Ch,<- GR,gz (by simp)]
    have hl2:(iX E).length=E.bs.length:=by rw [hb]; simp
    have hr:=pf H 2 (o:=1) (n:=E.bs.length*1) rfl (by simp [gO]; omega)
    rw [hlen] at hr
    have e4:E.bs.length+1-(1:Int).toNat=E.bs.length:=by simp
    rw [e4]
    refine vk H hr (by rw [gO,hl2]) (by omega) (by omega) fun o orest h' _ H=>?_
    have:=hk r' rest' o orest _ H
    rw [hl2] at this
    exact this
def BOk (e:Ent) (bp:Option Addr) (b:List Nat):Prop:=e.w=true/\(b=[]\/∃ rest,bp=some ⟨e.b,0,none⟩/\e.cs=u8s b++rest)
def HG (q nst n a c:Nat) (t:Int) (bp:Option Addr) (bl bc:Nat) (i:Nat):List Value :=
 [.slice (some ⟨q,0,none⟩) nst nst,.int .i64 (n:Nat),.int .u32 (a:Nat),.int .u32 (c:Nat),.int .i64 t,.slice bp bl bc,.int .i64 (i:Nat)]
def yM (p q:Nat) (bp:Option Addr) (bc:Nat) (s:Dec):Ent :=
 ⟨p,true,tU,ub++HG q s.st.length s.n s.a s.c (s.t:Nat) bp s.b.length bc s.i⟩
def iW (p q:Nat) (e:Ent) (bp:Option Addr) (bc:Nat) (s:Dec):List Ent:=[yM p q bp bc s,⟨q,true,gA,u8s s.st⟩,e]
theorem CZ {h:Heap} {p q:Nat} {e:Ent} {bp:Option Addr} {bc:Nat} {s:Dec} {F:List Nat} {h0:Heap} (H:Hp h0 F h (iW p q e bp bc s)) (hb:BOk e bp s.b) (hb8:∀ x∈s.b,x<256) {i:Nat}
  {K:VK} {Kp:PK} (hk:K (.int .u32 (jU s i:Nat)) h):CP jP #[.pointer (at0 p),.int .i64 (i:Nat)] h K Kp:=by
 refine xp ?_
 unfold qc
 try simp only [ga,gC,fN,gr]
 refine fU (H.cell 0 rfl (gU hR 5 rfl)) ?_
 refine gP (fun h1=>?_) fun h1=>?_
 ·have h1:i<s.b.length:=by simp at h1; omega
  obtain ⟨_,hb | ⟨rest,hbp,he⟩⟩:=hb
  ·rw [hb] at h1; simp at h1
  ·have hg:s.b[i]? = some (jU s i):=by
    unfold jU
    rw [fY,fP h1]; rfl
   have hlt:=tk hb8 (s:=s) i
   refine fU (H.cell 0 rfl (gU hR 5 rfl)) ?_
   refine fH (by omega) ?_
   rw [hbp]
   simp only [fD,gu]
   try simp only [ga,gC,fN,gr]
   refine fz (H.cell 2 rfl (i:=i) (by rw [he]; exact ob (uh hg))) ?_
   refine fw (((jU s i:Nat):Int)) (by exact u32_in _ (by omega)) ?_
   exact hk
 ·have h1:s.b.length<=i:=by simp at h1; omega
  have hg:jU s i=255:=by
   unfold jU
   rw [fY,iq h1]; rfl
  rw [hg] at hk
  exact hk
theorem RY (s:Dec):inD s =
 if jU s s.i≠255 then { s with i:=s.i+1,c:=(s.c+jU s (s.i+1)*256) % M32,t:=8 }
 else if jU s (s.i+1) > 143 then { s with c:=(s.c+65280) % M32,t:=8 }
 else { s with i:=s.i+1,c:=(s.c+jU s (s.i+1)*512) % M32,t:=7 }:=rfl
theorem Rl {h:Heap} {p q:Nat} {e:Ent} {bp:Option Addr} {bc:Nat} {s:Dec} {F:List Nat} {h0:Heap} (H:Hp h0 F h (iW p q e bp bc s)) (hb:BOk e bp s.b) (hs:MidD s) (hbl:s.b.length<140737488351300)
  {K:VK} {Kp:PK} (hk:∀ h',Hp h0 F h' (iW p q e bp bc (inD s))->K (.tuple #[]) h'):CP mF #[.pointer (at0 p)] h K Kp:=by
 refine y0 ?_
 unfold sD
 have hi:=hs.i
 have hc:=hs.c
 have hM:M32=4294967296:=rfl
 have hb1:=tk hs.b (s:=s) (s.i+1)
 have hb0:=tk hs.b (s:=s) s.i
 try simp only [ga,gC,fN,gr]
 refine fz (H.cell 0 rfl (gU hR 6 rfl)) ?_
 refine CZ H hb hs.b ?_
 refine ⟨_,rfl,?_⟩
 rw [RY] at hk
 refine gP (fun h1=>?_) fun h1=>?_
 ·have h1:jU s s.i≠255:=by simp at h1; omega
  rw [if_pos h1] at hk
  refine fz (H.cell 0 rfl (gU hR 6 rfl)) ?_
  refine fw (((s.i+1:Nat):Int)) (by exact fO _ _ (by omega) (by omega) (by omega)) ?_
  refine j1 H 0 rfl hR 6 (fB rfl) rfl fun h hsz H=>?_
  refine fz (H.cell 0 rfl (gU hR 3 rfl)) ?_
  refine fz (H.cell 0 rfl (gU hR 6 rfl)) ?_
  have H2:Hp h0 F h (iW p q e bp bc { s with i:=s.i+1 }):=H
  refine CZ H2 hb hs.b ?_
  refine ⟨_,rfl,gi.refl _,?_⟩
  have hb2:jU { s with i:=s.i+1 } (s.i+1)=jU s (s.i+1):=rfl
  rw [hb2]
  refine fw (((jU s (s.i+1)*256:Nat):Int)) (by exact lP (i:=8) (by decide) (u32_in _ (by omega))) ?_
  refine fw ((((s.c+jU s (s.i+1)*256) % M32:Nat):Int)) (by rw [IntKind.wrap_u32,hM]; omega) ?_
  refine j1 H 0 rfl hR 3 (fB rfl) rfl fun h hsz H=>?_
  refine j1 H 0 rfl hR 4 (fB rfl) rfl fun h hsz H=>?_
  exact hk _ H
 ·have h1:¬ jU s s.i≠255:=by simp at h1; omega
  rw [if_neg h1] at hk
  refine fz (H.cell 0 rfl (gU hR 6 rfl)) ?_
  refine fw (((s.i+1:Nat):Int)) (by exact fO _ _ (by omega) (by omega) (by omega)) ?_
  refine CZ H hb hs.b ?_
  refine ⟨_,rfl,?_⟩
  refine gP (fun h2=>?_) fun h2=>?_
  ·have h2:jU s (s.i+1) > 143:=by simp at h2; omega
   rw [if_pos h2] at hk
   refine fz (H.cell 0 rfl (gU hR 3 rfl)) ?_
   refine fw ((((s.c+65280) % M32:Nat):Int)) (by rw [IntKind.wrap_u32,hM]; omega) ?_
   refine j1 H 0 rfl hR 3 (fB rfl) rfl fun h hsz H=>?_
   refine j1 H 0 rfl hR 4 (fB rfl) rfl fun h hsz H=>?_
   exact hk _ H
  ·have h2:¬ jU s (s.i+1) > 143:=by simp at h2; omega
   rw [if_neg h2] at hk
   refine fz (H.cell 0 rfl (gU hR 6 rfl)) ?_
   refine fw (((s.i+1:Nat):Int)) (by exact fO _ _ (by omega) (by omega) (by omega)) ?_
   refine j1 H 0 rfl hR 6 (fB rfl) rfl fun h hsz H=>?_
   refine fz (H.cell 0 rfl (gU hR 3 rfl)) ?_
   refine fz (H.cell 0 rfl (gU hR 6 rfl)) ?_
   have H2:Hp h0 F h (iW p q e bp bc { s with i:=s.i+1 }):=H
   refine CZ H2 hb hs.b ?_
   refine ⟨_,rfl,gi.refl _,?_⟩
   have hb2:jU { s with i:=s.i+1 } (s.i+1)=jU s (s.i+1):=rfl
   rw [hb2]
   refine fw (((jU s (s.i+1)*512:Nat):Int)) (by exact lP (i:=9) (by decide) (u32_in _ (by omega))) ?_
   refine fw ((((s.c+jU s (s.i+1)*512) % M32:Nat):Int)) (by rw [IntKind.wrap_u32,hM]; omega) ?_
   refine j1 H 0 rfl hR 3 (fB rfl) rfl fun h hsz H=>?_
   refine j1 H 0 rfl hR 4 (fB rfl) rfl fun h hsz H=>?_
   exact hk _ H
theorem G7 (s:Dec):mI s = { (if s.t=0 then inD s else s) with a:=2*(if s.t=0 then inD s else s).a,c:=2*(if s.t=0 then inD s else s).c % M32,t:=(if s.t=0 then inD s else s).t-1 }:=rfl
theorem Ef (n:Nat) (s:Dec):jT (n+1) s=if 0x8000<=(mI s).a then mI s else jT n (mI s):=rfl
theorem AB {h:Heap} {p q:Nat} {e:Ent} {bp:Option Addr} {bc:Nat} {s:Dec} {F:List Nat} {h0:Heap} (H:Hp h0 F h (iW p q e bp bc s)) (hb:BOk e bp s.b) (hs:MidD s) (hbl:s.b.length<140737488351300) (ha:1<=s.a) (ha':s.a<0x8000)
  {K:VK} {Kp:PK} (hk:∀ h',Hp h0 F h' (iW p q e bp bc (jT 17 s))->K (.tuple #[]) h'):CP mG #[.pointer (at0 p)] h K Kp:=by
 refine wC ?_
 unfold pr
 refine ⟨fun n vs h'=>∃ s':Dec,Hp h0 F h' (iW p q e bp bc s')/\MidD s'/\s'.a<0x8000/\0x8000<=s'.a*2 ^ n/\jT n s'=jT 17 s/\s'.b=s.b,
  ⟨17,s,H,hs,ha',by have:(2:Nat) ^ 17=131072:=rfl; omega,rfl,rfl⟩,?_⟩
 clear H
 rintro n h u ⟨s',H,hm,hlt,hge,he,hbe⟩
 obtain ⟨n,rfl⟩:∃ m,n=m+1:=by
  cases n with
  | zero=>simp at hge; omega
  | succ m=>exact ⟨m,rfl⟩
 obtain ⟨g1,g2,g3,g4,g5⟩:=BA hm
 have hnext:0x8000<=(mI s').a*2 ^ n:=by
  rw [g2]
  rw [jA] at hge
  have:s'.a*(2 ^ n*2)=2*s'.a*2 ^ n:=by rw [gS (2 ^ n) 2,<- iG,gS s'.a 2]
  omega
 rw [Ef] at he
 rw [<- hbe] at hb hbl
 refine ⟨fun vs h'=>Hp h0 F h' (iW p q e bp bc (if s'.t=0 then inD s' else s')),?_,?_⟩
 ·try simp only [ga,gC,fN,gr]
  refine fz (H.cell 0 rfl (gU hR 4 rfl)) ?_
  refine gP (fun h1=>?_) fun h1=>?_
  ·have h1:s'.t=0:=by simp at h1; omega
   refine Rl H hb hm hbl fun h' H=>?_
   rw [if_pos h1]
   exact H
  ·have h1:¬ s'.t=0:=by simp at h1; omega
   rw [if_neg h1]
   exact H
 ·intro h u H
  rw [G7] at g1 g2 g5 hnext he
  have hS:MidD (if s'.t=0 then inD s' else s')/\(if s'.t=0 then inD s' else s').a=s'.a/\1<=(if s'.t=0 then inD s' else s').t:=by
   split
   ·obtain ⟨i1,i2,_,_,_,i6⟩:=AF hm
    exact ⟨i1,i2,i6⟩
   ·exact ⟨hm,rfl,by omega⟩
  generalize (if s'.t=0 then inD s' else s')=S at H g1 g2 g5 hnext he hS
  obtain ⟨hS1,hS2,hS3⟩:=hS
  have hSc:=hS1.c
  have hSt:=hS1.t8
  have hM:M32=4294967296:=rfl
  try simp only [ga,gC,fN,gr]
  refine fz (H.cell 0 rfl (gU hR 2 rfl)) ?_
  refine fw (((2*S.a:Nat):Int)) (by exact lP (i:=1) (by decide) ((u32_in _ (by omega)).trans (by omega))) ?_
  refine j1 H 0 rfl hR 2 (fB rfl) rfl fun h hsz H=>?_
  refine fz (H.cell 0 rfl (gU hR 3 rfl)) ?_
  refine fw (((2*S.c % M32:Nat):Int)) (by exact lP (i:=1) (by decide) (by rw [IntKind.wrap_u32,hM]; omega)) ?_
  refine j1 H 0 rfl hR 3 (fB rfl) rfl fun h hsz H=>?_
  refine fz (H.cell 0 rfl (gU hR 4 rfl)) ?_
  refine fw (((S.t-1:Nat):Int)) (by exact fO _ _ (by omega) (by omega) (by omega)) ?_
  refine j1 H 0 rfl hR 4 (fB rfl) rfl fun h hsz H=>?_
  refine fz (H.cell 0 rfl (gU hR 2 rfl)) ?_
  have H2:Hp h0 F h (iW p q e bp bc { S with a:=2*S.a,c:=2*S.c % M32,t:=S.t-1 }):=H
  refine gP (fun h3=>?_) fun h3=>?_
  ·have h3:0x8000<=2*S.a:=by simp at h3; omega
   rw [if_pos h3] at he
   exact hk _ (he ▸ H2)
  ·have h3:¬ 0x8000<=2*S.a:=by simp at h3; omega
   rw [if_neg h3] at he
   exact ⟨n,vq n,_,H2,g1,by show 2*S.a<_; omega,hnext,he,g5.trans hbe⟩
theorem Sc (q n:Nat) (bp:Option Addr) (bl bc:Nat):mu (mu (mu kU 0 (Cr q n)) 190 ([.int .u32 32768]:List Value)) 193 ([.slice bp bl bc]:List Value)=ub++HG q n 0 0x8000 0 0 bp bl bc 0:=by kernel_rfl
def pk (b:List Nat) (n:Nat):Dec:={ a:=0x8000,c:=0,t:=0,n:=0,st:=List.replicate n 0,b:=b,i:=0 }
theorem PO {h0 h:Heap} {F:List Nat} {L:List Ent} (H:Hp h0 F h L) {t:TypeId} {by_:Nat} {z:Value} {src:Option Addr} {new:List Value} (hr:rdO h src (0*1) new) {K:Option Addr->Nat->Nat->Heap->Prop} (hk:K none 0 0 h) :
  l4 h t 1 by_ [z] none 0 0 src 0 K:=⟨new,hr,by rw [if_pos (gg _)]; exact hk⟩
theorem GF {hB:Heap} {n:Nat} (h1:1<=n) (h2:n<=131072) {b:List Nat} (hb:∀ x∈b,x<256) (hbl:b.length<140737488351300) {src:Option Addr} {bc0:Nat} (hr:rdO hB src (b.length*1) (u8s b)) {K:VK} {Kp:PK}
  (hk:∀ p q e bp bc h',BOk e bp b->Hp hB [] h' (iW p q e bp bc (BJ b n))->K (.tuple #[.pointer (at0 p),.int .i64 0]) h'):CP qi #[.slice src b.length bc0,.int .i64 (n:Nat)] hB K Kp:=by
 refine yZ ?_
 unfold sC
 refine L8 h1 h2 fun q h' H=>?_
 refine ⟨Cr q n,kD q n,true,rfl,?_⟩
 refine fV H fun t h H=>?_
 refine fH (kD q n) ?_
 refine wV H 1 rfl (kD q n) (As q n) fun h' hsz H=>?_
 refine fZ (by rfl) ?_
 refine zx H 1 rfl (kD q n) ?_
 have goal:∀ (bp:Option Addr) (bc:Nat) (e:Ent) (h2:Heap),BOk e bp b->Hp hB [] h2 [⟨q,true,gA,u8s (List.replicate n 0)⟩,e] ->
   fW ((Cr q n).length=190/\0+190<=(kU).length) (
   fW ((([.int .u32 32768]:List Value)).length=1/\190+1<=((mu kU 0 (Cr q n))).length) <|
   fW ((([.slice bp b.length bc]:List Value)).length=1/\193+1<=((mu (mu kU 0 (Cr q n)) 190 ([.int .u32 32768]:List Value))).length) <|
   Go.Den.gE h2 ((mu (mu (mu kU 0 (Cr q n)) 190 ([.int .u32 32768]:List Value)) 193 ([.slice bp b.length bc]:List Value))) tU fun r_11 h_12 =>
   CP jP #[.pointer (some ⟨r_11,0,none⟩),.int .i64 0] h_12 (fun v_13 h_14 =>
   ∃ (r_15:Int),v_13 = .int .u32 r_15/\(
   fG (lT .u32 r_15 (16:Int)) fun z_16 =>
   stV h_14 ((⟨r_11,0,none⟩:Addr).add 191) (.int .u32 z_16) fun h_17 =>
   CP mF #[.pointer (some ⟨r_11,0,none⟩)] h_17 (fun v_18 h_19 =>
   ldI h_19 ((⟨r_11,0,none⟩:Addr).add 191) .u32 fun x_20 =>
   fG (lT .u32 x_20 (7:Int)) fun z_21 =>
   stV h_19 ((⟨r_11,0,none⟩:Addr).add 191) (.int .u32 z_21) fun h_22 =>
   ldI h_22 ((⟨r_11,0,none⟩:Addr).add 192) .i64 fun x_23 =>
   fG (IntKind.i64.wrap (x_23-(7:Int))) fun z_24 =>
   stV h_22 ((⟨r_11,0,none⟩:Addr).add 192) (.int .i64 z_24) fun h_25 =>
   K (.tuple #[.pointer (some ⟨r_11,0,none⟩),.int .i64 0]) h_25) (Kp))) (Kp)):=by
  intro bp bc e h2 hbo H
  refine fH ⟨kD q n,by decide⟩ ?_
  refine fH ⟨rfl,by simp only [nq]; decide⟩ ?_
  refine fH ⟨rfl,by simp only [nq]; decide⟩ ?_
  rw [Sc]
  refine fV H fun p h H=>?_
  have H2:=H.pick [2,0,1] (by decide) (L':=iW p q e bp bc (pk b n)) (by simp [iW,yM,pk])
  have H:=H2
  clear H2
  have hb0:=tk (s:=pk b n) hb 0
  refine CZ (i:=0) H hbo hb ?_
  refine ⟨_,rfl,?_⟩
  refine fw (((jU (pk b n) 0*65536:Nat):Int)) (by exact lP (i:=16) (by decide) (u32_in _ (by omega))) ?_
  try simp only [ga,gC,fN,gr]
  refine j1 H 0 rfl hR 3 (fB rfl) rfl fun h hsz H=>?_
  have H2:Hp _ [] h (iW p q e bp bc { pk b n with c:=jU (pk b n) 0*65536 }):=H
  have hm:MidD { pk b n with c:=jU (pk b n) 0*65536 }:=⟨km _,by show jU (pk b n) 0*65536<4294967296; omega,hb,fun x hx=>by simp only [pk,Ew] at hx; omega,km _⟩
  obtain ⟨i1,i2,i3,i4,i5,i6⟩:=AF hm
  refine Rl H2 hbo hm hbl fun h H=>?_
  have hn:BJ b n = { inD { pk b n with c:=jU (pk b n) 0*65536 } with c:=(inD { pk b n with c:=jU (pk b n) 0*65536 }).c*128 % M32,t:=(inD { pk b n with c:=jU (pk b n) 0*65536 }).t-7 }:=rfl
  have ht7:7<=(inD { pk b n with c:=jU (pk b n) 0*65536 }).t:=by
   unfold inD
   split
   ·show 7<=8; omega
   ·split
    ·show 7<=8; omega
    ·show 7<=7; omega
  generalize inD { pk b n with c:=jU (pk b n) 0*65536 }=S at H hn i1 ht7
  have hSc:=i1.c
  have hSt:=i1.t8
  have hM:M32=4294967296:=rfl
  refine fz (H.cell 0 rfl (gU hR 3 rfl)) ?_
  refine fw (((S.c*128 % M32:Nat):Int)) (by exact lP (i:=7) (by decide) (by rw [IntKind.wrap_u32,hM]; omega)) ?_
  refine j1 H 0 rfl hR 3 (fB rfl) rfl fun h hsz H=>?_
  refine fz (H.cell 0 rfl (gU hR 4 rfl)) ?_
  refine fw (((S.t-7:Nat):Int)) (by exact fO _ _ (by omega) (by omega) (by omega)) ?_
  refine j1 H 0 rfl hR 4 (fB rfl) rfl fun h hsz H=>?_
  refine hk p q e bp bc _ hbo ?_
  rw [hn]
  exact H
 have hr2:=H.rdO hr
 rcases oO b.length with hz | hpos
 ·have hbn:b=[]:=List.length_eq_zero_iff.1 hz
  rw [hz] at hr2 goal ⊢
  refine PO H hr2 ⟨gi.refl _,?_⟩
  exact goal none 0 ⟨t,true,sS,Cr q n⟩ _ ⟨rfl, .inl hbn⟩ H
 ·refine vk H hr2 (gO b) hpos (by omega) fun o rest h' he H'=>⟨he,?_⟩
  ·exact goal (some ⟨o,0,none⟩) _ ⟨o,true,gA,u8s b++rest⟩ _ ⟨rfl, .inr ⟨rest,rfl,rfl⟩⟩ (H'.pick [0,2] (by decide) rfl)
theorem QH (s:Dec) (k x:Nat) (hx:s.st[k]? = some x):getD s k =
 if s.c / 65536<qOf (x / 2) then
  if s.a-qOf (x / 2)<qOf (x / 2) then (jT 17 { s with a:=qOf (x / 2),n:=s.n+1,st:=s.st.set k (upM x) },x % 2)
  else (jT 17 { s with a:=qOf (x / 2),n:=s.n+1,st:=s.st.set k (upL x) },1-x % 2)
 else
  if 0x8000<=s.a-qOf (x / 2) then ({ s with a:=s.a-qOf (x / 2),c:=s.c-qOf (x / 2)*65536,n:=s.n+1 },x % 2)
  else if s.a-qOf (x / 2)<qOf (x / 2) then (jT 17 { s with a:=s.a-qOf (x / 2),c:=s.c-qOf (x / 2)*65536,n:=s.n+1,st:=s.st.set k (upL x) },1-x % 2)
  else (jT 17 { s with a:=s.a-qOf (x / 2),c:=s.c-qOf (x / 2)*65536,n:=s.n+1,st:=s.st.set k (upM x) },x % 2):=by
 rw [<- Mk hx]; rfl
theorem LA {y:Nat} (hy:y<2):y ^^^ 1=1-y:=by
 have:∀ y∈List.range 2,y ^^^ 1=1-y:=by decide
 exact this y (List.mem_range.2 hy)
theorem wv {h:Heap} {p q:Nat} {e:Ent} {bp:Option Addr} {bc:Nat} {s:Dec} {F:List Nat} {h0:Heap} (H:Hp h0 F h (iW p q e bp bc s)) (hb:BOk e bp s.b) (hs:WfD s) (hbl:s.b.length<140737488351300) (hn:s.n<16777216) (hl:1<=s.st.length) (hl2:s.st.length<=131072)
  {ctx:Int} {K:VK} {Kp:PK} (hk:∀ h',Hp h0 F h' (iW p q e bp bc (getD s (idx ctx s.st.length)).1)->K (.tuple #[.int .i64 ((getD s (idx ctx s.st.length)).2:Nat),.int .i64 0]) h') :
  CP kG #[.pointer (at0 p),.int .i64 ctx] h K Kp:=by
 refine yh ?_
 unfold q7
 try simp only [ga,gC,fN,gr]
 refine fz (H.cell 0 rfl (gU hR 1 rfl)) ?_
 refine fZ (by simp; omega) ?_
 refine fz (H.cell 0 rfl (gU hR 1 rfl)) ?_
 refine fw (((s.n+1:Nat):Int)) (by exact fO _ _ (by omega) (by omega) (by omega)) ?_
 refine j1 H 0 rfl hR 1 (fB rfl) rfl fun h hsz H=>?_
 refine Mu H 0 1 rfl rfl hl hl2 hs.st fun h x hx hx94 H=>?_
 refine ⟨_,_,_,_,_,rfl,?_⟩
 refine fV H fun w h H=>?_
 try simp only [ga,gC,fN,gr]
 refine gq H 3 rfl (by first | exact fB rfl | simp) rfl fun h hsz H=>?_
 refine gq H 3 rfl (by first | exact fB rfl | simp) rfl fun h hsz H=>?_
 refine gq H 3 rfl (by first | exact fB rfl | simp) rfl fun h hsz H=>?_
 refine gq H 3 rfl (by first | exact fB rfl | simp) rfl fun h hsz H=>?_
 refine fz (H.cell 1 rfl (uh hx)) ?_
 refine fw (((x % 2:Nat):Int)) (by exact (I1 _ 1 (by omega) (by omega)).trans (by rw [kR])) ?_
 refine fw (((x % 2:Nat):Int)) (by exact i64_in _ (by omega) (by omega)) ?_
 refine fz (H.cell 0 rfl (gU hR 2 rfl)) ?_
 refine fz (H.cell 3 rfl rfl) ?_
 have hr:x / 2<47:=by omega
 have hq1:=vH hr
 have hq2:=zs hr
 have hlo:=hs.lo
 have hhi:=hs.hi
 have hc:=hs.c
 have hM32:M32=4294967296:=rfl
 have hM:=pa hs.st (k:=idx ctx s.st.length) (zd hx94)
 have hL:=pa hs.st (k:=idx ctx s.st.length) (ze hx94)
 have hil:idx ctx s.st.length<s.st.length:=rZ ctx hl
 rw [QH s _ x hx] at hk
 generalize idx ctx s.st.length=k at hk hM hL hx hil H ⊢
 refine fw (((s.a-qOf (x / 2):Nat):Int)) (by exact xI _ _ (by omega) (by omega)) ?_
 refine j1 H 0 rfl hR 2 (fB rfl) rfl fun h hsz H=>?_
 refine fz (H.cell 0 rfl (gU hR 3 rfl)) ?_
 refine fw (((s.c / 65536:Nat):Int)) (by exact lG (i:=16) (by decide)) ?_
 refine fz (H.cell 3 rfl rfl) ?_
 have hcmp:decide (((s.c / 65536:Nat):Int)<((qOf (x / 2):Nat):Int))=decide (s.c / 65536<qOf (x / 2)):=by
  by_cases h1:s.c / 65536<qOf (x / 2)
  ·rw [decide_eq_true h1]; exact decide_eq_true (by omega)
  ·rw [decide_eq_false h1]; exact decide_eq_false (by omega)
 rw [hcmp]
 have H2:Hp h0 F h (iW p q e bp bc { s with a:=s.a-qOf (x / 2),n:=s.n+1 }++[⟨w,true,k8,[.int .u32 (qOf (x / 2):Nat),.int .u8 (mOf (x / 2):Nat),.int .u8 (lOf (x / 2):Nat),.int .u8 (cOf (x / 2):Nat)]⟩]):=H
 have H:=H2
 clear H2
 refine ⟨fun vs h'=>(s.c / 65536<qOf (x / 2)/\h'=h)\/(¬ s.c / 65536<qOf (x / 2)/\¬ 0x8000<=s.a-qOf (x / 2)/\Hp h0 F h' (iW p q e bp bc { s with a:=s.a-qOf (x / 2),c:=s.c-qOf (x / 2)*65536,n:=s.n+1 }++[⟨w,true,k8,[.int .u32 (qOf (x / 2):Nat),.int .u8 (mOf (x / 2):Nat),.int .u8 (lOf (x / 2):Nat),.int .u8 (cOf (x / 2):Nat)]⟩])),?_,?_⟩
 ·refine gP (fun h1=>?_) fun h1=>?_
  ·have h1:¬ s.c / 65536<qOf (x / 2):=by simpa using h1
   refine fz (H.cell 0 rfl (gU hR 3 rfl)) ?_
   refine fz (H.cell 3 rfl rfl) ?_
   refine fw (((qOf (x / 2)*65536:Nat):Int)) (by exact lP (i:=16) (by decide) (u32_in _ (by omega))) ?_
   refine fw (((s.c-qOf (x / 2)*65536:Nat):Int)) (by exact xI _ _ (by show (s.c:Int)-((qOf (x / 2)*65536:Nat):Int)=_; omega) (by omega)) ?_
   refine j1 H 0 rfl hR 3 (fB rfl) rfl fun h hsz H=>?_
   refine fz (H.cell 0 rfl (gU hR 2 rfl)) ?_
   refine gP (fun h2=>?_) fun h2=>?_
   ·have h2:0x8000<=s.a-qOf (x / 2):=by simp at h2; omega
    rw [if_neg h1,if_pos h2] at hk
    exact hk _ (H.take 3)
   ·have h2:¬ 0x8000<=s.a-qOf (x / 2):=by simp at h2; omega
    exact .inr ⟨h1,h2,H⟩
  ·have h1:s.c / 65536<qOf (x / 2):=by simpa using h1
   exact .inl ⟨h1,rfl⟩
 ·rintro h' u (⟨h1,rfl⟩ | ⟨h1,h2,H'⟩)
  ·rw [decide_eq_true h1]
   rw [if_pos h1] at hk
   refine ⟨fun vs h''=>(s.a-qOf (x / 2)<qOf (x / 2)/\vs=[.int .i64 ((x % 2:Nat):Int)]/\Hp h0 F h'' (iW p q e bp bc { s with a:=s.a-qOf (x / 2),n:=s.n+1,st:=s.st.set k (upM x) }++[⟨w,true,k8,[.int .u32 (qOf (x / 2):Nat),.int .u8 (mOf (x / 2):Nat),.int .u8 (lOf (x / 2):Nat),.int .u8 (cOf (x / 2):Nat)]⟩])) \/
    (¬ s.a-qOf (x / 2)<qOf (x / 2)/\vs=[.int .i64 ((1-x % 2:Nat):Int)]/\Hp h0 F h'' (iW p q e bp bc { s with a:=s.a-qOf (x / 2),n:=s.n+1,st:=s.st.set k (upL x) }++[⟨w,true,k8,[.int .u32 (qOf (x / 2):Nat),.int .u8 (mOf (x / 2):Nat),.int .u8 (lOf (x / 2):Nat),.int .u8 (cOf (x / 2):Nat)]⟩])),?_,?_⟩
   ·refine fz (H.cell 0 rfl (gU hR 2 rfl)) ?_
    refine fz (H.cell 3 rfl rfl) ?_
    refine gP (fun h3=>?_) fun h3=>?_
    ·have h3:s.a-qOf (x / 2)<qOf (x / 2):=by simp at h3; omega
     refine fz (H.cell 3 rfl rfl) ?_
     refine fz (H.cell 3 rfl rfl) ?_
     refine fz (H.cell 3 rfl rfl) ?_
     refine fz (H.cell 3 rfl rfl) ?_
     refine AE H 1 rfl hx hx94 rfl fun h H=>?_
     exact .inl ⟨h3,rfl,H.as (by simp [iW,yM,HG])⟩
    ·have h3:¬ s.a-qOf (x / 2)<qOf (x / 2):=by simp at h3; omega
     refine fw (((1-x % 2:Nat):Int)) (by exact (Q8 _ 1 (by omega) (by omega)).trans (by rw [LA (by omega)])) ?_
     refine fz (H.cell 3 rfl rfl) ?_
     refine fz (H.cell 3 rfl rfl) ?_
     refine fz (H.cell 3 rfl rfl) ?_
     refine fz (H.cell 3 rfl rfl) ?_
     refine vF H 1 rfl hx hx94 rfl rfl fun h H=>?_
     exact .inr ⟨h3,rfl,H.as (by simp [iW,yM,HG])⟩
   ·rintro h'' u y (⟨h3,hy,H⟩ | ⟨h3,hy,H⟩)
    ·injection hy with hy
     injection hy with _ hy
     subst hy
     rw [if_pos h3] at hk
     refine gN (by rfl) ?_
     refine fz (H.cell 3 rfl rfl) ?_
     refine j1 H 0 rfl hR 2 (fB rfl) rfl fun h hsz H=>?_
     exact AB (s:={ s with a:=qOf (x / 2),n:=s.n+1,st:=s.st.set k (upM x) }) (H.take 3) hb ⟨hs.t8,hc,hs.b,hM,hs.i⟩ hbl hq1 (by show qOf _<_; omega) hk
    ·injection hy with hy
     injection hy with _ hy
     subst hy
     rw [if_neg h3] at hk
     refine gN (by rfl) ?_
     refine fz (H.cell 3 rfl rfl) ?_
     refine j1 H 0 rfl hR 2 (fB rfl) rfl fun h hsz H=>?_
     exact AB (s:={ s with a:=qOf (x / 2),n:=s.n+1,st:=s.st.set k (upL x) }) (H.take 3) hb ⟨hs.t8,hc,hs.b,hL,hs.i⟩ hbl hq1 (by show qOf _<_; omega) hk
  ·have H:=H'
   clear H'
   rw [decide_eq_false h1]
   rw [if_neg h1,if_neg h2] at hk
   have hc':s.c-qOf (x / 2)*65536<M32:=by omega
   refine ⟨fun vs h''=>(s.a-qOf (x / 2)<qOf (x / 2)/\vs=[.int .i64 ((1-x % 2:Nat):Int)]/\Hp h0 F h'' (iW p q e bp bc { s with a:=s.a-qOf (x / 2),c:=s.c-qOf (x / 2)*65536,n:=s.n+1,st:=s.st.set k (upL x) }++[⟨w,true,k8,[.int .u32 (qOf (x / 2):Nat),.int .u8 (mOf (x / 2):Nat),.int .u8 (lOf (x / 2):Nat),.int .u8 (cOf (x / 2):Nat)]⟩])) \/
    (¬ s.a-qOf (x / 2)<qOf (x / 2)/\vs=[.int .i64 ((x % 2:Nat):Int)]/\Hp h0 F h'' (iW p q e bp bc { s with a:=s.a-qOf (x / 2),c:=s.c-qOf (x / 2)*65536,n:=s.n+1,st:=s.st.set k (upM x) }++[⟨w,true,k8,[.int .u32 (qOf (x / 2):Nat),.int .u8 (mOf (x / 2):Nat),.int .u8 (lOf (x / 2):Nat),.int .u8 (cOf (x / 2):Nat)]⟩])),?_,?_⟩
   ·refine fz (H.cell 0 rfl (gU hR 2 rfl)) ?_
    refine fz (H.cell 3 rfl rfl) ?_
    refine gP (fun h3=>?_) fun h3=>?_
    ·have h3:¬ s.a-qOf (x / 2)<qOf (x / 2):=by simp at h3; omega
     refine fz (H.cell 3 rfl rfl) ?_
     refine fz (H.cell 3 rfl rfl) ?_
     refine fz (H.cell 3 rfl rfl) ?_
     refine fz (H.cell 3 rfl rfl) ?_
     refine AE H 1 rfl hx hx94 rfl fun h H=>?_
     exact .inr ⟨h3,rfl,H.as (by simp [iW,yM,HG])⟩
    ·have h3:s.a-qOf (x / 2)<qOf (x / 2):=by simp at h3; omega
     refine fw (((1-x % 2:Nat):Int)) (by exact (Q8 _ 1 (by omega) (by omega)).trans (by rw [LA (by omega)])) ?_
     refine fz (H.cell 3 rfl rfl) ?_
     refine fz (H.cell 3 rfl rfl) ?_
     refine fz (H.cell 3 rfl rfl) ?_
     refine fz (H.cell 3 rfl rfl) ?_
     refine vF H 1 rfl hx hx94 rfl rfl fun h H=>?_
     exact .inl ⟨h3,rfl,H.as (by simp [iW,yM,HG])⟩
   ·rintro h'' u y (⟨h3,hy,H⟩ | ⟨h3,hy,H⟩)
    ·injection hy with hy
     injection hy with _ hy
     subst hy
     rw [if_pos h3] at hk
     refine fZ (by rfl) ?_
     exact AB (s:={ s with a:=s.a-qOf (x / 2),c:=s.c-qOf (x / 2)*65536,n:=s.n+1,st:=s.st.set k (upL x) }) (H.take 3) hb ⟨hs.t8,hc',hs.b,hL,hs.i⟩ hbl (by show 1<=s.a-_; omega) (by show s.a-_<_; omega) hk
    ·injection hy with hy
     injection hy with _ hy
     subst hy
     rw [if_neg h3] at hk
     refine fZ (by rfl) ?_
     exact AB (s:={ s with a:=s.a-qOf (x / 2),c:=s.c-qOf (x / 2)*65536,n:=s.n+1,st:=s.st.set k (upM x) }) (H.take 3) hb ⟨hs.t8,hc',hs.b,hM,hs.i⟩ hbl (by show 1<=s.a-_; omega) (by show s.a-_<_; omega) hk
def vu (k b:Nat->Nat) (m:Nat):Nat->Cod
 | 0=>gE m
 | n+1=>oo (vu k b m n) (k n) (b n)
def DH (k:Nat->Nat) (bytes:List Nat) (m:Nat):Nat->Dec
 | 0=>BJ bytes m
 | n+1=>(getD (DH k bytes m n) (k n)).1
end Go.Ar
namespace Go.Den.YtbknfejmdekhpaaGreat
open Go Go.Den
def p8 (C:gl) (l:Option Addr) (ln lc:Nat) (h:Heap) (K:VK) (Kp:PK):Prop :=
∃ c:Nat->List Value->Heap->Prop,(∃ b,c b [.int .i64 0] h)/\∀ (b:Nat) (d:Heap) (s:Nat->Value) (a:Int),c b [.int .i64 a] d->(
fI (decide (a<(ln:Int))) (
fW (0<=a/\a<(ln:Int))<|
ptr l fun o=>
stV d (o.add (a.toNat*1)) (.int .u64 23130) fun p=>
fG (IntKind.i64.wrap (a+(1:Int))) fun q=>
∃ f,f<b/\c f [.int .i64 q] p)<|
gE d [.int .u64 1,.int .u64 2] gj fun g i=>
l4 i gj 1 8 [.int .u64 0] l (ln) (lc) (some ⟨g,0,none⟩) (2) fun j e r k=>
fW (0<=(ln:Int)/\(ln:Int)<(e:Int))<|
ptr j fun m=>
stV k (m.add ((ln:Int).toNat*1)) (.int .u64 23130) fun n=>
K (.tuple #[]) n)
theorem xm {l:Option Addr} {ln lc:Nat} {h:Heap} {K:VK} {Kp:PK} (H:p8 QP l ln lc h K Kp):QP lW #[.slice l ln lc] h K Kp :=
 fJ (Hints.mk (fun i=>none) (fun i=>bif Nat.beq i 1 then some ([(2,.int .i64)],8180) else (none)) (fun i=>none) []) (by kernel_rfl) Go.Proofs.Tryz.func24 (by kernel_rfl) (fun C=>p8 C l ln lc h K Kp) (fun C=>by kernel_rfl) H
end Go.Den.YtbknfejmdekhpaaGreat
namespace Go.Ar
open Go Go.Den Go.Den.YtbknfejmdekhpaaGreat
structure CodOk (m n:Nat) (s:Cod):Prop where
 wf:Wf s
 n:s.n=n
 len:s.st.length=m
 done:s.done=false
theorem L4 (m:Nat):CodOk m 0 (gE m):=⟨L1 m,rfl,by simp [gE],rfl⟩
theorem qJ {m n:Nat} {s:Cod} (h:CodOk m n s) (k b:Nat) (hn:n<16777216):CodOk m (n+1) (oo s k b):=by
 obtain ⟨h1,h2,h3⟩:=Ol s k b
 exact ⟨LU h.wf k b (by rw [h.n]; exact hn),by rw [h1,h.n],by rw [h2,h.len],by rw [h3,h.done]⟩
theorem MY:∀ (k:Nat) (s:Dec),(jT k s).st=s.st/\(jT k s).n=s.n/\(jT k s).b=s.b:=by
 have hi:∀ s:Dec,(inD s).st=s.st/\(inD s).n=s.n/\(inD s).b=s.b:=fun s=>by
  unfold inD
  split
  ·exact ⟨rfl,rfl,rfl⟩
  ·split <;> exact ⟨rfl,rfl,rfl⟩
 have hs:∀ s:Dec,(mI s).st=s.st/\(mI s).n=s.n/\(mI s).b=s.b:=fun s=>by
  rw [G7]
  split
  ·exact hi s
  ·exact ⟨rfl,rfl,rfl⟩
 intro k
 induction k with
 | zero=>intro s; exact ⟨rfl,rfl,rfl⟩
 | succ k ih =>
  intro s
  obtain ⟨h1,h2,h3⟩:=hs s
  rw [Ef]
  split
  ·exact ⟨h1,h2,h3⟩
  ·obtain ⟨g1,g2,g3⟩:=ih (mI s)
   exact ⟨g1.trans h1,g2.trans h2,g3.trans h3⟩
theorem Pa (s:Dec) (k:Nat):(getD s k).1.n=s.n+1/\(getD s k).1.st.length=s.st.length/\(getD s k).1.b=s.b:=by
 have hr:∀ S:Dec,S.n=s.n+1->S.st.length=s.st.length->S.b=s.b->(jT 17 S).n=s.n+1/\(jT 17 S).st.length=s.st.length/\(jT 17 S).b=s.b:=fun S e1 e2 e3=>by
  obtain ⟨h1,h2,h3⟩:=MY 17 S
  exact ⟨h2.trans e1,by rw [h1,e2],h3.trans e3⟩
 unfold getD
 simp only []
 split
 ·split
  ·exact hr _ rfl (gB ..) rfl
  ·exact hr _ rfl (gB ..) rfl
 ·split
  ·exact ⟨rfl,rfl,rfl⟩
  ·split
   ·exact hr _ rfl (gB ..) rfl
   ·exact hr _ rfl (gB ..) rfl
theorem tg {s:Dec} (k:Nat):(getD s k).2<=1:=by
 have:s.st.getD k 0 % 2<2:=iP _ (by omega)
 unfold getD
 simp only []
 split
 ·split
  ·show s.st.getD k 0 % 2<=1; omega
  ·show 1-s.st.getD k 0 % 2<=1; omega
 ·split
  ·show s.st.getD k 0 % 2<=1; omega
  ·split
   ·show 1-s.st.getD k 0 % 2<=1; omega
   ·show s.st.getD k 0 % 2<=1; omega
theorem Qv {b:List Nat} (hb:∀ x∈b,x<256) (n:Nat):WfD (BJ b n)/\(BJ b n).n=0/\(BJ b n).st.length=n/\(BJ b n).b=b:=by
 have hm:MidD { pk b n with c:=jU (pk b n) 0*65536 }:=⟨km _,by
  show jU (pk b n) 0*65536<4294967296
  have:=tk (s:=pk b n) hb 0
  omega,hb,fun x hx=>by simp only [pk,Ew] at hx; omega,km _⟩
 obtain ⟨i1,i2,i3,i4,i5,i6⟩:=AF hm
 have hn:BJ b n = { inD { pk b n with c:=jU (pk b n) 0*65536 } with c:=(inD { pk b n with c:=jU (pk b n) 0*65536 }).c*128 % M32,t:=(inD { pk b n with c:=jU (pk b n) 0*65536 }).t-7 }:=rfl
 generalize inD { pk b n with c:=jU (pk b n) 0*65536 }=S at hn i1 i2 i3 i4 i5
 rw [hn]
 have e2:S.a=0x8000:=i2
 have e3:S.n=0:=i3
 have e4:S.st=List.replicate n 0:=i4
 have e5:S.b=b:=i5
 refine ⟨⟨⟨by show S.t-7<=8; have:=i1.t8; omega,iP _ (by decide),i1.b,i1.st,i1.i⟩,by show S.n<=_; omega,by show _<=S.a; omega,by show S.a<_; omega⟩,e3,?_,e5⟩
 show S.st.length=n
 rw [e4]
 simp
structure nh (bytes:List Nat) (m n:Nat) (s:Dec):Prop where
 wf:WfD s
 n:s.n=n
 len:s.st.length=m
 b:s.b=bytes
theorem L0 {b:List Nat} (hb:∀ x∈b,x<256) (m:Nat):nh b m 0 (BJ b m):=by
 obtain ⟨h1,h2,h3,h4⟩:=Qv hb m
 exact ⟨h1,h2,h3,h4⟩
theorem xX {b:List Nat} {m n:Nat} {s:Dec} (h:nh b m n s) (k:Nat) (hn:n<16777216):nh b m (n+1) (getD s k).1:=by
 obtain ⟨h1,h2,h3⟩:=Pa s k
 exact ⟨Mj h.wf k (by rw [h.n]; exact hn),by rw [h1,h.n],by rw [h2,h.len],by rw [h3,h.b]⟩
theorem LZ {s:Cod} (hl:s.l<256) (hb:∀ x∈s.bs,x<256):(ni s).l<256/\∀ x∈(ni s).bs,x<256:=by
 have hm:∀ (l c:Nat),l<256->(iy s l c).l<256/\∀ x∈(iy s l c).bs,x<256:=fun l c h=>by
  have h2:∀ x∈s.bs++[l],x<256:=fun x hx=>by
   rcases List.mem_append.1 hx with h3 | h3
   ·exact hb x h3
   ·rw [List.mem_singleton.1 h3]; exact h
  unfold iy
  split
  ·exact ⟨iP _ (by omega),h2⟩
  ·exact ⟨iP _ (by omega),h2⟩
 unfold ni
 split
 ·exact hm _ _ (by omega)
 ·exact hm _ _ hl
theorem AG {s:Cod} (h:Wf s):∀ x∈iX (iE s),x<256:=by
 have h1:(lu { s with c:=jw s,done:=true }).l<256/\∀ x∈(lu { s with c:=jw s,done:=true }).bs,x<256:=LZ (s:={ s with c:=jw s*2 ^ s.t,done:=true }) h.l h.bs
 have h2:(iE s).l<256/\∀ x∈(iE s).bs,x<256:=LZ (s:={ lu { s with c:=jw s,done:=true } with c:=(lu { s with c:=jw s,done:=true }).c*2 ^ (lu { s with c:=jw s,done:=true }).t }) h1.1 h1.2
 have h3:∀ x∈(iE s).bs++[(iE s).l],x<256:=fun x hx=>by
  rcases List.mem_append.1 hx with h4 | h4
  ·exact h2.2 x h4
  ·rw [List.mem_singleton.1 h4]; exact h2.1
 intro x hx
 unfold iX at hx
 simp only [] at hx
 split at hx
 ·exact h3 x (Bn ((List.dropLast_sublist _).subset hx))
 ·exact h3 x (Bn hx)
theorem BL (s:Cod):(iX (iE s)).length<=s.bs.length+3:=by
 have h1:(lu { s with c:=jw s,done:=true }).bs.length=s.bs.length+1:=(wW _).2.2.2.2
 have h2:(iE s).bs.length=(lu { s with c:=jw s,done:=true }).bs.length+1:=(wW _).2.2.2.2
 unfold iX
 simp only []
 split
 ·simp; omega
 ·simp; omega
theorem m9 {h:Heap} {a:Option Addr} {n:Nat} {cs:List Value} (hr:rdO h a n cs) {i:Nat} {v:Value} (hi:cs[i]? = some v):∃ ad,a=some ad/\ic h (ad.add i)=some v:=by
 cases a with
 | none=>rw [show cs=[] from hr] at hi; simp at hi
 | some ad=>exact ⟨ad,rfl,hr.2 i v hi⟩
theorem SU {h:Heap} {a b:Option Addr} {ac bc:Nat} {xs ys:List Nat} (ha:rdO h a (xs.length*1) (u8s xs)) (hb:rdO h b (ys.length*1) (u8s ys)) (hlen:xs.length<140737488351300)
  {K:VK} {Kp:PK} (hk:K (.bool (decide (xs=ys))) h):CP oM #[.slice a xs.length ac,.slice b ys.length bc] h K Kp:=by
 refine CS ?_
 unfold yl
 refine gP (fun h1=>?_) fun h1=>?_
 ·have h1:xs.length≠ys.length:=by simp at h1; omega
  rw [decide_eq_false (fun e=>h1 (congrArg List.length e))] at hk
  exact hk
 ·have h1:xs.length=ys.length:=by simp at h1; omega
  refine ⟨fun n vs h'=>∃ i:Nat,h'=h/\vs=[.int .i64 (i:Int)]/\i+n=xs.length/\xs.take i=ys.take i,⟨xs.length,0,rfl,rfl,by omega,rfl⟩,?_⟩
  rintro n h' u x ⟨i,rfl,hx,hin,hti⟩
  injection hx with hx
  injection hx with _ hx
  subst hx
  refine gP (fun h2=>?_) fun h2=>?_
  ·have h2:i<xs.length:=by simp at h2; omega
   have h3:i<ys.length:=by omega
   refine fH (by omega) ?_
   have hxi:xs[i]? = some xs[i]:=fP h2
   have hyi:ys[i]? = some ys[i]:=fP h3
   obtain ⟨aa,rfl,hca⟩:=m9 ha (uh hxi)
   obtain ⟨ba,rfl,hcb⟩:=m9 hb (uh hyi)
   simp only [ga,fD,gu]
   refine fH (by omega) ?_
   refine fz hca (fz hcb ?_)
   refine gP (fun h4=>?_) fun h4=>?_
   ·have h4:xs[i]≠ys[i]:=by simp at h4; omega
    rw [decide_eq_false (fun e=>h4 (by subst e; rfl))] at hk
    exact hk
   ·have h4:xs[i]=ys[i]:=by simp at h4; omega
    refine fw (((i+1:Nat):Int)) (by exact fO _ _ (by omega) (by omega) (by omega)) ?_
    refine ⟨n-1,by omega,i+1,by first | rfl | trivial,rfl,by omega,?_⟩
    rw [k6 h2,k6 h3,hti,h4]
  ·have h2:i=xs.length:=by simp at h2; omega
   subst h2
   have e:xs=ys:=by rwa [gz (gg _),h1,gz (gg _)] at hti
   rw [decide_eq_true e] at hk
   exact hk
theorem PR (a:Addr) (m n:Nat):(a.add m).add n=a.add (m+n):=by
 unfold Addr.add
 by_cases h1:m=0
 ·subst h1; simp
 ·by_cases h2:n=0
  ·subst h2; simp
  ·rw [if_neg h1,if_neg h2,if_neg (by omega)]
   simp [tZ]
end Go.Ar
namespace Go.Den.YtbknfejmdekhpaaGreat
open Go Go.Den
def wG (C:gl) (contexts:Int) (h:Heap) (K:VK) (Kp:PK):Prop :=
C ru #[.int .i64 contexts] h (fun m n=>
∃ (g:Option Addr) (a b:Nat) (i:Option Addr) (c d:Nat) (j:Option Addr) (e f:Nat) (k:Int),m = .agg #[.slice g a b,.slice i c d,.slice j e f,.int .i64 k]/\(
gE n [.int .u8 0] gA fun o p=>
gE p [.slice g a b,.slice i c d,.slice j e f,.int .i64 k,.int .i64 32768,.int .i64 0,.int .i64 12,.slice (some ⟨o,0,none⟩) 1 1,.bool false] vQ fun q l=>
K (.pointer (some ⟨q,0,none⟩)) l)) (Kp)
def n6 (C:gl) (c:Option Addr) (h:Heap) (K:VK) (Kp:PK):Prop :=
ptr c fun ag=>
ldB h (ag.add 8) fun ah=>
fI ah (
K (.tuple #[.slice none 0 0,.int .i64 43]) h)<|
ptr c fun ai=>
stV h (ai.add 8) (.bool true) fun m=>
ptr c fun aj=>
ptr c fun ak=>
ldI m (aj.add 5) .i64 fun al=>
ldI m (ak.add 4) .i64 fun am=>
fG (IntKind.i64.wrap (al+am)) fun an=>
ptr c fun t=>
ldI m (t.add 5) .i64 fun u=>
fG (jo .or .i64 u (65535:Int)) fun v=>
ptr c fun w=>
stV m (w.add 5) (.int .i64 v) fun d=>
∃ g:List Value->Heap->Prop,(
ptr c fun x=>
ldI d (x.add 5) .i64 fun y=>
fI (decide (y≥an)) (
ptr c fun z=>
ldI d (z.add 5) .i64 fun A=>
fG (IntKind.i64.wrap (A-(32768:Int))) fun B=>
ptr c fun D=>
stV d (D.add 5) (.int .i64 B) fun E=>
g [] E)<|
g [] d)/\∀ (e:Heap) (ar:Nat->Value) ,g [] e->(
ptr c fun F=>
ptr c fun G=>
ldI e (F.add 5) .i64 fun H=>
ldI e (G.add 6) .i64 fun I=>
fG (IntKind.u64.wrap I) fun o=>
fW (0<=o)<|
fG (lT .i64 H o) fun J=>
fG (jo .and .i64 J (4294967295:Int)) fun L=>
ptr c fun M=>
stV e (M.add 5) (.int .i64 L) fun N=>
C lM #[.pointer c] N (fun au i=>
ptr c fun O=>
ptr c fun P=>
ldI i (O.add 5) .i64 fun Q=>
ldI i (P.add 6) .i64 fun R=>
fG (IntKind.u64.wrap R) fun p=>
fW (0<=p)<|
fG (lT .i64 Q p) fun S=>
fG (jo .and .i64 S (4294967295:Int)) fun T=>
ptr c fun U=>
stV i (U.add 5) (.int .i64 T) fun V=>
C lM #[.pointer c] V (fun av a=>
ptr c fun W=>
ldS a (W.add 7) fun aw f ao=>
∃ j:List Value->Heap->Prop,(
ptr c fun X=>
ldS a (X.add 7) fun Y q ap=>
fG (IntKind.i64.wrap ((f:Int)-(1:Int))) fun k=>
fW (0<=k/\k<(q:Int))<|
ptr Y fun Z=>
ldI a (Z.add (k.toNat*1)) .u8 fun aa=>
fI (aa == (255:Int)) (
fG (IntKind.i64.wrap ((f:Int)-(1:Int))) fun ab=>
j [.int .i64 ab] a)<|
j [.int .i64 (f:Int)] a)/\∀ (l:Heap) (ax:Nat->Value) (b:Int),j [.int .i64 b] l->(
ptr c fun ac=>
ldS l (ac.add 7) fun ad aq n=>
fW (0<=b/\b<=((n:Nat):Int))<|
fW (0<=(1:Int)/\(1:Int)<=((b.toNat:Nat):Int))<|
l4 l gA 1 1 [.int .u8 0] none (0) (0) (we ad (n) ((1:Int).toNat) 1) ((b.toNat-(1:Int).toNat)) fun ae r s af=>
K (.tuple #[.slice ae r s,.int .i64 0]) af)) (Kp)) (Kp))
def tE (C:gl) (contexts:Int) (h:Heap) (K:VK) (Kp:PK):Prop :=
gE h [.slice none 0 0,.slice none 0 0,.slice none 0 0,.int .i64 0] D7 fun a m=>
(
C lx #[] m (fun br v=>
∃ (w:Option Addr) (i j:Nat),br = .slice w i j/\(
gi m v/\(
(
fW (0<=contexts/\contexts<=contexts/\contexts<=9223372036854775807/\((8:Nat):Int)*contexts<=281474976710656)<|
gE v (l9 [.int .i64 0] contexts.toNat) gQ fun bs bt=>
fW (0<=contexts/\contexts<=contexts/\contexts<=9223372036854775807/\((8:Nat):Int)*contexts<=281474976710656)<|
gE bt (l9 [.int .i64 0] contexts.toNat) gQ fun bu bv=>
stV bv (.add ⟨a,0,none⟩ 0) (.slice w i j) fun ax=>
stV ax (.add ⟨a,0,none⟩ 1) (.slice (some ⟨bs,0,none⟩) contexts.toNat contexts.toNat) fun ay=>
stV ay (.add ⟨a,0,none⟩ 2) (.slice (some ⟨bu,0,none⟩) contexts.toNat contexts.toNat) fun az=>
stV az (.add ⟨a,0,none⟩ 3) (.int .i64 0) fun b=>
ldS b (.add ⟨a,0,none⟩ 0) fun aA L M=>
ldS b (.add ⟨a,0,none⟩ 1) fun aB N O=>
ldS b (.add ⟨a,0,none⟩ 2) fun aC P Q=>
ldI b (.add ⟨a,0,none⟩ 3) .i64 fun aD=>
K (.agg #[.slice aA L M,.slice aB N O,.slice aC P Q,.int .i64 aD]) b)/\(
fW (0<=contexts/\contexts<=contexts/\contexts<=9223372036854775807/\((8:Nat):Int)*contexts<=281474976710656)<|
gE v (l9 [.int .i64 0] contexts.toNat) gQ fun aE aF=>
fW (0<=contexts/\contexts<=contexts/\contexts<=9223372036854775807/\((8:Nat):Int)*contexts<=281474976710656)<|
gE aF (l9 [.int .i64 0] contexts.toNat) gQ fun aG aH=>
stV aH (.add ⟨a,0,none⟩ 0) (.slice w i j) fun aI=>
stV aI (.add ⟨a,0,none⟩ 1) (.slice (some ⟨aG,0,none⟩) contexts.toNat contexts.toNat) fun aJ=>
stV aJ (.add ⟨a,0,none⟩ 2) (.slice (some ⟨aE,0,none⟩) contexts.toNat contexts.toNat) fun aK=>
stV aK (.add ⟨a,0,none⟩ 3) (.int .i64 0) fun c=>
ldS c (.add ⟨a,0,none⟩ 0) fun aL R S=>
ldS c (.add ⟨a,0,none⟩ 1) fun aM T U=>
ldS c (.add ⟨a,0,none⟩ 2) fun aN V W=>
ldI c (.add ⟨a,0,none⟩ 3) .i64 fun aO=>
K (.agg #[.slice aL R S,.slice aM T U,.slice aN V W,.int .i64 aO]) c)))) (Kp))/\(
(
fW (0<=contexts/\contexts<=contexts/\contexts<=9223372036854775807/\((8:Nat):Int)*contexts<=281474976710656)<|
gE m (l9 [.int .i64 0] contexts.toNat) gQ fun x k=>
(
C lx #[] k (fun aP y=>
∃ (z:Option Addr) (n o:Nat),aP = .slice z n o/\(
gi k y/\(
fW (0<=contexts/\contexts<=contexts/\contexts<=9223372036854775807/\((8:Nat):Int)*contexts<=281474976710656)<|
gE y (l9 [.int .i64 0] contexts.toNat) gQ fun aQ aR=>
stV aR (.add ⟨a,0,none⟩ 0) (.slice z n o) fun aS=>
stV aS (.add ⟨a,0,none⟩ 1) (.slice (some ⟨x,0,none⟩) contexts.toNat contexts.toNat) fun aT=>
stV aT (.add ⟨a,0,none⟩ 2) (.slice (some ⟨aQ,0,none⟩) contexts.toNat contexts.toNat) fun aU=>
stV aU (.add ⟨a,0,none⟩ 3) (.int .i64 0) fun d=>
ldS d (.add ⟨a,0,none⟩ 0) fun aV X Y=>
ldS d (.add ⟨a,0,none⟩ 1) fun aW Z aa=>
ldS d (.add ⟨a,0,none⟩ 2) fun aX ab ac=>
ldI d (.add ⟨a,0,none⟩ 3) .i64 fun aY=>
K (.agg #[.slice aV X Y,.slice aW Z aa,.slice aX ab ac,.int .i64 aY]) d))) (Kp))/\(
fW (0<=contexts/\contexts<=contexts/\contexts<=9223372036854775807/\((8:Nat):Int)*contexts<=281474976710656)<|
gE k (l9 [.int .i64 0] contexts.toNat) gQ fun aZ A=>
C lx #[] A (fun a0 B=>
∃ (D:Option Addr) (p q:Nat),a0 = .slice D p q/\(
gi A B/\(
stV B (.add ⟨a,0,none⟩ 0) (.slice D p q) fun a1=>
stV a1 (.add ⟨a,0,none⟩ 1) (.slice (some ⟨x,0,none⟩) contexts.toNat contexts.toNat) fun a2=>
stV a2 (.add ⟨a,0,none⟩ 2) (.slice (some ⟨aZ,0,none⟩) contexts.toNat contexts.toNat) fun a3=>
stV a3 (.add ⟨a,0,none⟩ 3) (.int .i64 0) fun e=>
ldS e (.add ⟨a,0,none⟩ 0) fun a4 ad ae=>
ldS e (.add ⟨a,0,none⟩ 1) fun a5 af ag=>
ldS e (.add ⟨a,0,none⟩ 2) fun a6 ah ai=>
ldI e (.add ⟨a,0,none⟩ 3) .i64 fun a7=>
K (.agg #[.slice a4 ad ae,.slice a5 af ag,.slice a6 ah ai,.int .i64 a7]) e))) (Kp)))/\(
fW (0<=contexts/\contexts<=contexts/\contexts<=9223372036854775807/\((8:Nat):Int)*contexts<=281474976710656)<|
gE m (l9 [.int .i64 0] contexts.toNat) gQ fun E l=>
(
C lx #[] l (fun a8 F=>
∃ (G:Option Addr) (r s:Nat),a8 = .slice G r s/\(
gi l F/\(
fW (0<=contexts/\contexts<=contexts/\contexts<=9223372036854775807/\((8:Nat):Int)*contexts<=281474976710656)<|
gE F (l9 [.int .i64 0] contexts.toNat) gQ fun a9 ba=>
stV ba (.add ⟨a,0,none⟩ 0) (.slice G r s) fun bb=>
stV bb (.add ⟨a,0,none⟩ 1) (.slice (some ⟨a9,0,none⟩) contexts.toNat contexts.toNat) fun bc=>
stV bc (.add ⟨a,0,none⟩ 2) (.slice (some ⟨E,0,none⟩) contexts.toNat contexts.toNat) fun bd=>
stV bd (.add ⟨a,0,none⟩ 3) (.int .i64 0) fun f=>
ldS f (.add ⟨a,0,none⟩ 0) fun be aj ak=>
ldS f (.add ⟨a,0,none⟩ 1) fun bf al am=>
ldS f (.add ⟨a,0,none⟩ 2) fun bg an ao=>
ldI f (.add ⟨a,0,none⟩ 3) .i64 fun bh=>
K (.agg #[.slice be aj ak,.slice bf al am,.slice bg an ao,.int .i64 bh]) f))) (Kp))/\(
fW (0<=contexts/\contexts<=contexts/\contexts<=9223372036854775807/\((8:Nat):Int)*contexts<=281474976710656)<|
gE l (l9 [.int .i64 0] contexts.toNat) gQ fun bi H=>
C lx #[] H (fun bj I=>
∃ (J:Option Addr) (t u:Nat),bj = .slice J t u/\(
gi H I/\(
stV I (.add ⟨a,0,none⟩ 0) (.slice J t u) fun bk=>
stV bk (.add ⟨a,0,none⟩ 1) (.slice (some ⟨bi,0,none⟩) contexts.toNat contexts.toNat) fun bl=>
stV bl (.add ⟨a,0,none⟩ 2) (.slice (some ⟨E,0,none⟩) contexts.toNat contexts.toNat) fun bm=>
stV bm (.add ⟨a,0,none⟩ 3) (.int .i64 0) fun g=>
ldS g (.add ⟨a,0,none⟩ 0) fun bn ap aq=>
ldS g (.add ⟨a,0,none⟩ 1) fun bo ar au=>
ldS g (.add ⟨a,0,none⟩ 2) fun bp av aw=>
ldI g (.add ⟨a,0,none⟩ 3) .i64 fun bq=>
K (.agg #[.slice bn ap aq,.slice bo ar au,.slice bp av aw,.int .i64 bq]) g))) (Kp))))
def po (C:gl) (c:Option Addr) (context bit:Int) (h:Heap) (K:VK) (Kp:PK):Prop :=
ptr c fun au=>
ldB h (au.add 8) fun av=>
fI av (
K (.int .i64 43) h)<|
∃ i:List Value->Heap->Prop,(
fI (bit != (0:Int)) (
fI (bit != (1:Int)) (
K (.int .i64 42) h)<|
i [] h)<|
i [] h)/\∀ (f:Heap) (aL:Nat->Value) ,i [] f->(
ptr c fun aw=>
ldI f ((aw.add 0).add 3) .i64 fun ax=>
fI (ax == (16777216:Int)) (
K (.int .i64 41) f)<|
ptr c fun ay=>
ldI f ((ay.add 0).add 3) .i64 fun az=>
fG (IntKind.i64.wrap (az+(1:Int))) fun m=>
ptr c fun n=>
stV f ((n.add 0).add 3) (.int .i64 m) fun o=>
ptr c fun p=>
C nD #[.pointer (some (p.add 0)),.int .i64 context] o (fun q e=>
∃ (b:Int),q = .int .i64 b/\(
ptr c fun r=>
ptr c fun s=>
ldS e ((r.add 0).add 0) fun t j aA=>
ldS e ((s.add 0).add 1) fun u k aB=>
fW (0<=b/\b<(k:Int))<|
ptr u fun v=>
ldI e (v.add (b.toNat*1)) .i64 fun g=>
fW (0<=g/\g<(j:Int))<|
ptr t fun w=>
ldI e ((w.add (g.toNat*4)).add 0) .i64 fun d=>
ptr c fun x=>
ldI e (x.add 4) .i64 fun y=>
fG (IntKind.i64.wrap (y-d)) fun z=>
ptr c fun A=>
stV e (A.add 4) (.int .i64 z) fun a=>
ptr c fun B=>
ldS a ((B.add 0).add 2) fun D l aC=>
fW (0<=b/\b<(l:Int))<|
ptr D fun E=>
ldI a (E.add (b.toNat*1)) .i64 fun F=>
fI (bit == F) (
ptr c fun G=>
ldI a (G.add 4) .i64 fun H=>
fI (decide (H≥(32768:Int))) (
ptr c fun I=>
ldI a (I.add 5) .i64 fun J=>
fG (IntKind.i64.wrap (J+d)) fun L=>
ptr c fun M=>
stV a (M.add 5) (.int .i64 L) fun N=>
K (.int .i64 0) N)<|
ptr c fun O=>
ldI a (O.add 4) .i64 fun P=>
fI (decide (P<d)) (
ptr c fun Q=>
stV a (Q.add 4) (.int .i64 d) fun R=>
ptr c fun S=>
C ld #[.pointer (some (S.add 0)),.int .i64 b] R (fun aD T=>
C j7 #[.pointer c] T (fun aE U=>
K (.int .i64 0) U) (Kp)) (Kp))<|
ptr c fun V=>
ldI a (V.add 5) .i64 fun W=>
fG (IntKind.i64.wrap (W+d)) fun X=>
ptr c fun Y=>
stV a (Y.add 5) (.int .i64 X) fun Z=>
ptr c fun aa=>
C ld #[.pointer (some (aa.add 0)),.int .i64 b] Z (fun aF ab=>
C j7 #[.pointer c] ab (fun aG ac=>
K (.int .i64 0) ac) (Kp)) (Kp))<|
ptr c fun ad=>
ldI a (ad.add 4) .i64 fun ae=>
fI (decide (ae<d)) (
ptr c fun af=>
ldI a (af.add 5) .i64 fun ag=>
fG (IntKind.i64.wrap (ag+d)) fun ah=>
ptr c fun ai=>
stV a (ai.add 5) (.int .i64 ah) fun aj=>
ptr c fun ak=>
C mf #[.pointer (some (ak.add 0)),.int .i64 b] aj (fun aH al=>
C j7 #[.pointer c] al (fun aI am=>
K (.int .i64 0) am) (Kp)) (Kp))<|
ptr c fun an=>
stV a (an.add 4) (.int .i64 d) fun ao=>
ptr c fun ap=>
C mf #[.pointer (some (ap.add 0)),.int .i64 b] ao (fun aJ aq=>
C j7 #[.pointer c] aq (fun aK ar=>
K (.int .i64 0) ar) (Kp)) (Kp))) (Kp))
def pn (C:gl) (c:Option Addr) (h:Heap) (K:VK) (Kp:PK):Prop :=
ptr c fun aE=>
ldS h (aE.add 7) fun aO z aK=>
fG (IntKind.i64.wrap ((z:Int)-(1:Int))) fun a=>
ptr c fun aF=>
ldS h (aF.add 7) fun aG A aL=>
fW (0<=a/\a<(A:Int))<|
ptr aG fun aH=>
ldI h (aH.add (a.toNat*1)) .u8 fun y=>
∃ j:List Value->Heap->Prop,(
∃ f:List Value->Heap->Prop,(
fI (!(y == (255:Int))) (
ptr c fun B=>
ldI h (B.add 5) .i64 fun D=>
f [.bool (decide (D≥(134217728:Int)))] h)<|
f [.bool false] h)/\∀ (b:Heap) (aM:Nat->Value) (k:Bool),f [.bool k] b->(
fI k (
ptr c fun E=>
ldS b (E.add 7) fun l i aI=>
fW (0<=a/\a<(i:Int))<|
ptr l fun F=>
ldI b (F.add (a.toNat*1)) .u8 fun G=>
fG (IntKind.u8.wrap (G+(1:Int))) fun H=>
fW (0<=a/\a<(i:Int))<|
ptr l fun I=>
stV b (I.add (a.toNat*1)) (.int .u8 H) fun m=>
ptr c fun J=>
ldI m (J.add 5) .i64 fun L=>
fG (jo .and .i64 L (134217727:Int)) fun M=>
ptr c fun N=>
stV m (N.add 5) (.int .i64 M) fun g=>
ptr c fun O=>
ldS g (O.add 7) fun P p aJ=>
fW (0<=a/\a<(p:Int))<|
ptr P fun Q=>
ldI g (Q.add (a.toNat*1)) .u8 fun R=>
j [.bool (R == (255:Int))] g)<|
j [.bool (y == (255:Int))] b))/\∀ (d:Heap) (aN:Nat->Value) (e:Bool),j [.bool e] d->(
fI e (
ptr c fun S=>
ptr c fun T=>
ldS d (S.add 7) fun U q r=>
ldI d (T.add 5) .i64 fun V=>
fG (l8 .i64 V (20:Int)) fun W=>
fG (IntKind.u8.wrap W) fun X=>
gE d [.int .u8 X] gA fun Y Z=>
l4 Z gA 1 1 [.int .u8 0] U (q) (r) (some ⟨Y,0,none⟩) (1) fun aa s t ab=>
ptr c fun ac=>
stV ab (ac.add 7) (.slice aa s t) fun n=>
ptr c fun ad=>
ldI n (ad.add 5) .i64 fun ae=>
fG (jo .and .i64 ae (1048575:Int)) fun af=>
ptr c fun ag=>
stV n (ag.add 5) (.int .i64 af) fun ah=>
ptr c fun ai=>
stV ah (ai.add 6) (.int .i64 7) fun aj=>
K (.tuple #[]) aj)<|
ptr c fun ak=>
ptr c fun al=>
ldS d (ak.add 7) fun am u v=>
ldI d (al.add 5) .i64 fun an=>
fG (l8 .i64 an (19:Int)) fun ao=>
fG (IntKind.u8.wrap ao) fun ap=>
gE d [.int .u8 ap] gA fun aq ar=>
l4 ar gA 1 1 [.int .u8 0] am (u) (v) (some ⟨aq,0,none⟩) (1) fun au w x av=>
ptr c fun aw=>
stV av (aw.add 7) (.slice au w x) fun o=>
ptr c fun ax=>
ldI o (ax.add 5) .i64 fun ay=>
fG (jo .and .i64 ay (524287:Int)) fun az=>
ptr c fun aA=>
stV o (aA.add 5) (.int .i64 az) fun aB=>
ptr c fun aC=>
stV aB (aC.add 6) (.int .i64 8) fun aD=>
K (.tuple #[]) aD)
def tD (C:gl)  (h:Heap) (K:VK) (Kp:PK):Prop :=
∃ e:Nat->List Value->Heap->Prop,(∃ c,e c [.slice none 0 0,.int .i64 0] h)/\∀ (c:Nat) (f:Heap) (w:Nat->Value) (g:Option Addr) (a b:Nat) (d:Int),e c [.slice g a b,.int .i64 d] f->(
fI (decide (d<(47:Int))) (
C tW #[.int .i64 d] f (fun u v=>
∃ (i j k:Int) (l:Bool),u = .agg #[.int .i64 i,.int .i64 j,.int .i64 k,.bool l]/\(
gE v [.int .i64 i,.int .i64 j,.int .i64 k,.bool l] kV fun p q=>
l4 q kV 4 32 [.int .i64 0,.int .i64 0,.int .i64 0,.bool false] g (a) (b) (some ⟨p,0,none⟩) (1) fun r m n s=>
fG (IntKind.i64.wrap (d+(1:Int))) fun t=>
∃ o,o<c/\e o [.slice r m n,.int .i64 t] s)) (Kp))<|
K (.slice g a b) f)
def oA (C:gl) (s:Option Addr) (context:Int) (h:Heap) (K:VK) (Kp:PK):Prop :=
ptr s fun d=>
ldS h (d.add 1) fun j a g=>
fW (IntKind.i64=IntKind.i64/\(a:Int)≠0)<|
fG (context.tmod (a:Int)) fun b=>
fI (decide (b<(0:Int))) (
ptr s fun e=>
ldS h (e.add 1) fun k c i=>
fG (IntKind.i64.wrap (b+(c:Int))) fun f=>
K (.int .i64 f) h)<|
K (.int .i64 b) h
def n4 (C:gl) (s:Option Addr) (k:Int) (h:Heap) (K:VK) (Kp:PK):Prop :=
ptr s fun i=>
ptr s fun j=>
ptr s fun l=>
ldS h (i.add 1) fun m b r=>
ldS h (j.add 0) fun n c t=>
ldS h (l.add 1) fun o d u=>
fW (0<=k/\k<(d:Int))<|
ptr o fun p=>
ldI h (p.add (k.toNat*1)) .i64 fun a=>
fW (0<=a/\a<(c:Int))<|
ptr n fun q=>
ldI h ((q.add (a.toNat*4)).add 1) .i64 fun e=>
fW (0<=k/\k<(b:Int))<|
ptr m fun f=>
stV h (f.add (k.toNat*1)) (.int .i64 e) fun g=>
K (.tuple #[]) g
def oz (C:gl) (s:Option Addr) (k:Int) (h:Heap) (K:VK) (Kp:PK):Prop :=
ptr s fun P=>
ptr s fun Q=>
ldS h (P.add 0) fun R l aa=>
ldS h (Q.add 1) fun S m ab=>
fW (0<=k/\k<(m:Int))<|
ptr S fun T=>
ldI h (T.add (k.toNat*1)) .i64 fun c=>
fW (0<=c/\c<(l:Int))<|
ptr R fun e=>
ldI h ((e.add (c.toNat*4)).add 0) .i64 fun U=>
ldI h ((e.add (c.toNat*4)).add 1) .i64 fun V=>
ldI h ((e.add (c.toNat*4)).add 2) .i64 fun n=>
ldB h ((e.add (c.toNat*4)).add 3) fun o=>
gE h [.int .i64 0,.int .i64 0,.int .i64 0,.bool false] kV fun b p=>
stV p (.add ⟨b,0,none⟩ 0) (.int .i64 U) fun q=>
stV q (.add ⟨b,0,none⟩ 1) (.int .i64 V) fun r=>
stV r (.add ⟨b,0,none⟩ 2) (.int .i64 n) fun t=>
stV t (.add ⟨b,0,none⟩ 3) (.bool o) fun a=>
ldB a (.add ⟨b,0,none⟩ 3) fun u=>
fI u (
ptr s fun v=>
ptr s fun w=>
ldS a (v.add 2) fun x f W=>
ldS a (w.add 2) fun y g X=>
fW (0<=k/\k<(g:Int))<|
ptr y fun z=>
ldI a (z.add (k.toNat*1)) .i64 fun A=>
fG (IntKind.i64.wrap ((1:Int)-A)) fun B=>
fW (0<=k/\k<(f:Int))<|
ptr x fun D=>
stV a (D.add (k.toNat*1)) (.int .i64 B) fun d=>
ptr s fun E=>
ldS d (E.add 1) fun F i Y=>
ldI d (.add ⟨b,0,none⟩ 2) .i64 fun G=>
fW (0<=k/\k<(i:Int))<|
ptr F fun H=>
stV d (H.add (k.toNat*1)) (.int .i64 G) fun I=>
K (.tuple #[]) I)<|
ptr s fun J=>
ldS a (J.add 1) fun L j Z=>
ldI a (.add ⟨b,0,none⟩ 2) .i64 fun M=>
fW (0<=k/\k<(j:Int))<|
ptr L fun N=>
stV a (N.add (k.toNat*1)) (.int .i64 M) fun O=>
K (.tuple #[]) O
def n5 (C:gl) (c:Option Addr) (h:Heap) (K:VK) (Kp:PK):Prop :=
∃ g:Nat->List Value->Heap->Prop,(∃ b,g b [.bool true] h)/\∀ (b:Nat) (d:Heap) (G:Nat->Value) (a:Bool),g b [.bool a] d->(
∃ i:List Value->Heap->Prop,(
fI a (
i [] d)<|
ptr c fun m=>
ldI d (m.add 4) .i64 fun n=>
fI (decide (n<(32768:Int))) (
i [] d)<|
K (.tuple #[]) d)/\∀ (j:Heap) (H:Nat->Value) ,i [] j->(
ptr c fun o=>
ldI j (o.add 4) .i64 fun p=>
fG (IntKind.i64.wrap ((2:Int)*p)) fun q=>
ptr c fun r=>
stV j (r.add 4) (.int .i64 q) fun k=>
ptr c fun s=>
ldI k (s.add 5) .i64 fun t=>
fG (IntKind.i64.wrap ((2:Int)*t)) fun u=>
fG (jo .and .i64 u (4294967295:Int)) fun v=>
ptr c fun w=>
stV k (w.add 5) (.int .i64 v) fun l=>
ptr c fun x=>
ldI l (x.add 6) .i64 fun y=>
fG (IntKind.i64.wrap (y-(1:Int))) fun z=>
ptr c fun A=>
stV l (A.add 6) (.int .i64 z) fun f=>
ptr c fun B=>
ldI f (B.add 6) .i64 fun D=>
fI (D == (0:Int)) (
C lM #[.pointer c] f (fun F E=>
∃ e,e<b/\g e [.bool false] E) (Kp))<|
∃ e,e<b/\g e [.bool false] f))
def wF (C:gl) (n:Int) (h:Heap) (K:VK) (Kp:PK):Prop :=
gE h [.int .i64 0,.int .i64 0,.int .i64 0,.bool false] kV fun a P=>
gE P [.int .i64 22017,.int .i64 13313,.int .i64 6145,.int .i64 2753,.int .i64 1313,.int .i64 545,.int .i64 22017,.int .i64 21505,.int .i64 18433,.int .i64 14337,.int .i64 12289,.int .i64 9217,.int .i64 7169,.int .i64 5633,.int .i64 22017,.int .i64 21505,.int .i64 20737,.int .i64 18433,.int .i64 14337,.int .i64 13313,.int .i64 12289,.int .i64 10241,.int .i64 9217,.int .i64 8705,.int .i64 7169,.int .i64 6145,.int .i64 5633,.int .i64 5121,.int .i64 4609,.int .i64 4353,.int .i64 2753,.int .i64 2497,.int .i64 2209,.int .i64 1313,.int .i64 1089,.int .i64 673,.int .i64 545,.int .i64 321,.int .i64 273,.int .i64 133,.int .i64 73,.int .i64 37,.int .i64 21,.int .i64 9,.int .i64 5,.int .i64 1,.int .i64 22017] gQ fun f Q=>
gE Q [.int .i64 1,.int .i64 2,.int .i64 3,.int .i64 4,.int .i64 5,.int .i64 38,.int .i64 7,.int .i64 8,.int .i64 9,.int .i64 10,.int .i64 11,.int .i64 12,.int .i64 13,.int .i64 29,.int .i64 15,.int .i64 16,.int .i64 17,.int .i64 18,.int .i64 19,.int .i64 20,.int .i64 21,.int .i64 22,.int .i64 23,.int .i64 24,.int .i64 25,.int .i64 26,.int .i64 27,.int .i64 28,.int .i64 29,.int .i64 30,.int .i64 31,.int .i64 32,.int .i64 33,.int .i64 34,.int .i64 35,.int .i64 36,.int .i64 37,.int .i64 38,.int .i64 39,.int .i64 40,.int .i64 41,.int .i64 42,.int .i64 43,.int .i64 44,.int .i64 45,.int .i64 45,.int .i64 46] gQ fun g R=>
gE R [.int .i64 1,.int .i64 6,.int .i64 9,.int .i64 12,.int .i64 29,.int .i64 33,.int .i64 6,.int .i64 14,.int .i64 14,.int .i64 14,.int .i64 17,.int .i64 18,.int .i64 20,.int .i64 21,.int .i64 14,.int .i64 14,.int .i64 15,.int .i64 16,.int .i64 17,.int .i64 18,.int .i64 19,.int .i64 19,.int .i64 20,.int .i64 21,.int .i64 22,.int .i64 23,.int .i64 24,.int .i64 25,.int .i64 26,.int .i64 27,.int .i64 28,.int .i64 29,.int .i64 30,.int .i64 31,.int .i64 32,.int .i64 33,.int .i64 34,.int .i64 35,.int .i64 36,.int .i64 37,.int .i64 38,.int .i64 39,.int .i64 40,.int .i64 41,.int .i64 42,.int .i64 43,.int .i64 46] gQ fun i b=>
fW (0<=n/\n<((47:Nat):Int))<|
fW (0<=n/\n<((47:Nat):Int))<|
fW (0<=n/\n<((47:Nat):Int))<|
fI (n == (0:Int)) (
ldI b ((⟨f,0,none⟩:Addr).add (n.toNat*1)) .i64 fun S=>
ldI b ((⟨g,0,none⟩:Addr).add (n.toNat*1)) .i64 fun j=>
ldI b ((⟨i,0,none⟩:Addr).add (n.toNat*1)) .i64 fun k=>
stV b (.add ⟨a,0,none⟩ 0) (.int .i64 S) fun l=>
stV l (.add ⟨a,0,none⟩ 1) (.int .i64 j) fun m=>
stV m (.add ⟨a,0,none⟩ 2) (.int .i64 k) fun o=>
stV o (.add ⟨a,0,none⟩ 3) (.bool true) fun c=>
ldI c (.add ⟨a,0,none⟩ 0) .i64 fun p=>
ldI c (.add ⟨a,0,none⟩ 1) .i64 fun q=>
ldI c (.add ⟨a,0,none⟩ 2) .i64 fun r=>
ldB c (.add ⟨a,0,none⟩ 3) fun s=>
K (.agg #[.int .i64 p,.int .i64 q,.int .i64 r,.bool s]) c)<|
fI (n == (6:Int)) (
ldI b ((⟨f,0,none⟩:Addr).add (n.toNat*1)) .i64 fun t=>
ldI b ((⟨g,0,none⟩:Addr).add (n.toNat*1)) .i64 fun u=>
ldI b ((⟨i,0,none⟩:Addr).add (n.toNat*1)) .i64 fun v=>
stV b (.add ⟨a,0,none⟩ 0) (.int .i64 t) fun w=>
stV w (.add ⟨a,0,none⟩ 1) (.int .i64 u) fun x=>
stV x (.add ⟨a,0,none⟩ 2) (.int .i64 v) fun y=>
stV y (.add ⟨a,0,none⟩ 3) (.bool true) fun d=>
ldI d (.add ⟨a,0,none⟩ 0) .i64 fun z=>
ldI d (.add ⟨a,0,none⟩ 1) .i64 fun A=>
ldI d (.add ⟨a,0,none⟩ 2) .i64 fun B=>
ldB d (.add ⟨a,0,none⟩ 3) fun D=>
K (.agg #[.int .i64 z,.int .i64 A,.int .i64 B,.bool D]) d)<|
ldI b ((⟨f,0,none⟩:Addr).add (n.toNat*1)) .i64 fun E=>
ldI b ((⟨g,0,none⟩:Addr).add (n.toNat*1)) .i64 fun F=>
ldI b ((⟨i,0,none⟩:Addr).add (n.toNat*1)) .i64 fun G=>
stV b (.add ⟨a,0,none⟩ 0) (.int .i64 E) fun H=>
stV H (.add ⟨a,0,none⟩ 1) (.int .i64 F) fun I=>
stV I (.add ⟨a,0,none⟩ 2) (.int .i64 G) fun J=>
stV J (.add ⟨a,0,none⟩ 3) (.bool (n == (14:Int))) fun e=>
ldI e (.add ⟨a,0,none⟩ 0) .i64 fun L=>
ldI e (.add ⟨a,0,none⟩ 1) .i64 fun M=>
ldI e (.add ⟨a,0,none⟩ 2) .i64 fun N=>
ldB e (.add ⟨a,0,none⟩ 3) fun O=>
K (.agg #[.int .i64 L,.int .i64 M,.int .i64 N,.bool O]) e
theorem B4 {contexts:Int} {h:Heap} {K:VK} {Kp:PK} (H:wG QP contexts h K Kp):QP tX #[.int .i64 contexts] h K Kp :=
 fJ (Hints.mk (fun i=>none) (fun i=>none) (fun i=>none) []) (by kernel_rfl) Go.Proofs.Tryz.func52 (by kernel_rfl) (fun C=>wG C contexts h K Kp) (fun C=>by kernel_rfl) H
theorem u0 {c:Option Addr} {h:Heap} {K:VK} {Kp:PK} (H:n6 QP c h K Kp):QP nb #[.pointer c] h K Kp :=
 fJ (Hints.mk (fun i=>bif Nat.beq i 4 then some ([],.take 0 <| .take 1 <| .take 2 <| .take 4 <| .take 5 <| .take 6 <| .take 3 <| .take 7 <| .take 8 <| .take 9 <| .done) else (bif Nat.beq i 8 then some ([14],.take 0 <| .take 1 <| .take 2 <| .take 3 <| .take 5 <| .take 6 <| .take 7 <| .take 4 <| .take 8 <| .take 9 <| .take 10 <| .take 11 <| .take 12 <| .take 13 <| .bar 14 [] <| .done) else (bif Nat.beq i 10 then some ([14],.take 0 <| .take 1 <| .take 2 <| .take 3 <| .take 5 <| .take 6 <| .take 7 <| .take 4 <| .take 8 <| .take 9 <| .take 10 <| .take 11 <| .take 12 <| .take 13 <| .bar 14 [] <| .done) else (none)))) (fun i=>none) (fun i=>bif Nat.beq i 8 then some ([],35182224605184) else (bif Nat.beq i 15 then some ([(5,.int .i64)],9898684611004583682494169120) else (none))) []) (by kernel_rfl) Go.Proofs.Tryz.func57 (by kernel_rfl) (fun C=>n6 C c h K Kp) (fun C=>by kernel_rfl) H
theorem zN {contexts:Int} {h:Heap} {K:VK} {Kp:PK} (H:tE QP contexts h K Kp):QP ru #[.int .i64 contexts] h K Kp :=
 fJ (Hints.mk (fun i=>bif Nat.beq i 1 then some ([6],.take 1 <| .take 3 <| .alt 0 (.alt 2 (.go 4 <| .take 5 <| .bar 6 [] <| .done) <| .go 4 <| .go 2 <| .take 5 <| .bar 6 [] <| .done) <| .alt 2 (.alt 0 (.go 4 <| .take 5 <| .bar 6 [] <| .done) <| .go 4 <| .go 0 <| .take 5 <| .bar 6 [] <| .done) <| .go 4 <| .alt 0 (.go 2 <| .take 5 <| .bar 6 [] <| .done) <| .go 2 <| .go 0 <| .take 5 <| .bar 6 [] <| .done) else (none)) (fun i=>none) (fun i=>none) []) (by kernel_rfl) Go.Proofs.Tryz.func101 (by kernel_rfl) (fun C=>tE C contexts h K Kp) (fun C=>by kernel_rfl) H
theorem wA {c:Option Addr} {context bit:Int} {h:Heap} {K:VK} {Kp:PK} (H:po QP c context bit h K Kp):QP jG #[.pointer c,.int .i64 context,.int .i64 bit] h K Kp :=
 fJ (Hints.mk (fun i=>bif Nat.beq i 9 then some ([],.take 0 <| .take 1 <| .take 2 <| .take 3 <| .take 5 <| .take 6 <| .take 7 <| .take 8 <| .take 10 <| .take 4 <| .take 9 <| .take 11 <| .take 12 <| .take 13 <| .take 14 <| .take 15 <| .take 16 <| .done) else (none)) (fun i=>none) (fun i=>bif Nat.beq i 5 then some ([],516160) else (none)) []) (by kernel_rfl) Go.Proofs.Tryz.func103 (by kernel_rfl) (fun C=>po C c context bit h K Kp) (fun C=>by kernel_rfl) H
theorem wz {c:Option Addr} {h:Heap} {K:VK} {Kp:PK} (H:pn QP c h K Kp):QP lM #[.pointer c] h K Kp :=
 fJ (Hints.mk (fun i=>bif Nat.beq i 7 then some ([12,15],.take 0 <| .take 1 <| .take 2 <| .take 3 <| .take 5 <| .take 6 <| .take 7 <| .take 4 <| .take 8 <| .take 9 <| .take 10 <| .go 11 <| .bar 12 [15] <| .take 13 <| .take 14 <| .bar 15 [] <| .done) else (bif Nat.beq i 10 then some ([12,15],.take 0 <| .take 1 <| .take 2 <| .take 3 <| .take 5 <| .take 6 <| .take 7 <| .take 4 <| .take 8 <| .take 9 <| .take 10 <| .go 11 <| .bar 12 [15] <| .take 13 <| .take 14 <| .bar 15 [] <| .done) else (none))) (fun i=>none) (fun i=>bif Nat.beq i 3 then some ([(26,.bool)],133955584) else (bif Nat.beq i 6 then some ([(3,.bool)],4503599627108360) else (none))) []) (by kernel_rfl) Go.Proofs.Tryz.func108 (by kernel_rfl) (fun C=>pn C c h K Kp) (fun C=>by kernel_rfl) H
theorem zM  {h:Heap} {K:VK} {Kp:PK} (H:tD QP  h K Kp):QP lx #[] h K Kp :=
 fJ (Hints.mk (fun i=>none) (fun i=>bif Nat.beq i 3 then some ([(1,.slc),(2,.int .i64)],4094) else (none)) (fun i=>none) []) (by kernel_rfl) Go.Proofs.Tryz.func152 (by kernel_rfl) (fun C=>tD C  h K Kp) (fun C=>by kernel_rfl) H
theorem vw {s:Option Addr} {context:Int} {h:Heap} {K:VK} {Kp:PK} (H:oA QP s context h K Kp):QP nD #[.pointer s,.int .i64 context] h K Kp :=
 fJ (Hints.mk (fun i=>none) (fun i=>none) (fun i=>none) []) (by kernel_rfl) Go.Proofs.Tryz.func153 (by kernel_rfl) (fun C=>oA C s context h K Kp) (fun C=>by kernel_rfl) H
theorem uY {s:Option Addr} {k:Int} {h:Heap} {K:VK} {Kp:PK} (H:n4 QP s k h K Kp):QP ld #[.pointer s,.int .i64 k] h K Kp :=
 fJ (Hints.mk (fun i=>bif Nat.beq i 0 then some ([20],.take 0 <| .take 1 <| .take 2 <| .take 4 <| .take 5 <| .take 6 <| .take 7 <| .take 9 <| .take 10 <| .take 11 <| .take 13 <| .take 3 <| .take 8 <| .take 12 <| .take 14 <| .take 15 <| .take 16 <| .take 17 <| .take 18 <| .take 19 <| .bar 20 [] <| .done) else (none)) (fun i=>none) (fun i=>none) []) (by kernel_rfl) Go.Proofs.Tryz.func154 (by kernel_rfl) (fun C=>n4 C s k h K Kp) (fun C=>by kernel_rfl) H
theorem vv {s:Option Addr} {k:Int} {h:Heap} {K:VK} {Kp:PK} (H:oz QP s k h K Kp):QP mf #[.pointer s,.int .i64 k] h K Kp :=
 fJ (Hints.mk (fun i=>bif Nat.beq i 0 then some ([14],.take 0 <| .take 1 <| .take 2 <| .take 4 <| .take 5 <| .take 6 <| .take 8 <| .take 3 <| .take 7 <| .take 9 <| .take 10 <| .take 11 <| .take 12 <| .go 13 <| .bar 14 [] <| .done) else (bif Nat.beq i 2 then some ([14],.take 0 <| .take 1 <| .take 2 <| .take 4 <| .take 5 <| .take 6 <| .take 7 <| .take 9 <| .take 3 <| .take 8 <| .take 10 <| .take 11 <| .take 12 <| .take 13 <| .bar 14 [] <| .done) else (bif Nat.beq i 3 then some ([8],.take 0 <| .take 1 <| .take 2 <| .take 4 <| .take 5 <| .take 3 <| .take 6 <| .take 7 <| .bar 8 [] <| .done) else (none)))) (fun i=>none) (fun i=>none) []) (by kernel_rfl) Go.Proofs.Tryz.func155 (by kernel_rfl) (fun C=>oz C s k h K Kp) (fun C=>by kernel_rfl) H
theorem uZ {c:Option Addr} {h:Heap} {K:VK} {Kp:PK} (H:n5 QP c h K Kp):QP j7 #[.pointer c] h K Kp :=
 fJ (Hints.mk (fun i=>none) (fun i=>bif Nat.beq i 1 then some ([(2,.bool)],4398046511100) else (none)) (fun i=>bif Nat.beq i 3 then some ([],2040) else (none)) []) (by kernel_rfl) Go.Proofs.Tryz.func156 (by kernel_rfl) (fun C=>n5 C c h K Kp) (fun C=>by kernel_rfl) H
theorem B3 {n:Int} {h:Heap} {K:VK} {Kp:PK} (H:wF QP n h K Kp):QP tW #[.int .i64 n] h K Kp :=
 fJ (Hints.mk (fun i=>bif Nat.beq i 4 then some ([23],.take 0 <| .take 1 <| .take 2 <| .take 4 <| .take 5 <| .take 6 <| .take 8 <| .take 9 <| .take 10 <| .take 12 <| .take 13 <| .take 14 <| .take 15 <| .take 16 <| .take 17 <| .take 18 <| .take 19 <| .take 20 <| .take 21 <| .take 3 <| .take 7 <| .take 11 <| .take 22 <| .bar 23 [] <| .done) else (none)) (fun i=>none) (fun i=>none) []) (by kernel_rfl) Go.Proofs.Tryz.func190 (by kernel_rfl) (fun C=>wF C n h K Kp) (fun C=>by kernel_rfl) H
end Go.Den.YtbknfejmdekhpaaGreat
namespace Go.Ar
open Go Go.Den Go.Den.YtbknfejmdekhpaaGreat
def xU (l:List Nat):List Value:=l.map fun x:Nat => .int .i64 (x:Int)
theorem vJ (l:List Nat):(xU l).length=l.length:=by simp [xU]
theorem w5 {l:List Nat} {i x:Nat} (h:l[i]? = some x):(xU l)[i]? = some (.int .i64 (x:Int)):=by
 unfold xU; rw [gL,h]; rfl
theorem FV (l:List Nat) (i x:Nat):xU (l.set i x)=(xU l).set i (.int .i64 (x:Int)):=by simp [xU,Ex]
theorem Ie {l:List Nat} (hl:l.length=47) {k:Nat} (hk:k<47):(xU l)[k]? = some (.int .i64 ((l.getD k 0:Nat):Int)):=by
 refine w5 ?_
 rw [fY,fP (by omega)]; rfl
def grow (k:Nat):List Value:=[.int .i64 (qOf k:Nat),.int .i64 (mOf k:Nat),.int .i64 (lOf k:Nat),.bool (cOf k == 1)]
def sa:Nat->List Value
 | 0=>[]
 | n+1=>sa n++grow n
theorem wu:∀ n,(sa n).length=4*n
 | 0=>rfl
 | n+1=>by rw [sa,fA,wu n]; show 4*n+4=_; omega
theorem F0:∀ {n r j:Nat} {v:Value},r<n->(grow r)[j]? = some v->(sa n)[r*4+j]? = some v
 | 0,r,j,v,h,_=>by omega
 | n+1,r,j,v,h,hv=>by
  rw [sa]
  have hj:j<4:=(List.getElem?_eq_some_iff.1 hv).1
  rcases gI r n with h1 | h1
  ·exact ob (F0 h1 hv)
  ·have:r=n:=by omega
   subst this
   have:=gU (wu r) (R:=sa r) j hv
   rw [gS] at this
   exact this
theorem S7 {k:Nat} (hk:k<47):(cOf k == 1)=(k == 0 || k == 6 || k == 14):=oW (p:=fun k=>(cOf k == 1)=(k == 0 || k == 6 || k == 14)) (by decide) hk
theorem Oc {h:Heap} {k:Nat} (hk:k<47) {K:VK} {Kp:PK} (hK:∀ h',gi h h'->K (.agg #[.int .i64 (qOf k:Nat),.int .i64 (mOf k:Nat),.int .i64 (lOf k:Nat),.bool (cOf k == 1)]) h') :
  CP tW #[.int .i64 (k:Nat)] h K Kp:=by
 refine B3 ?_
 unfold wF
 have H:=Hp.nil h []
 have hc:=S7 hk
 have hq:∀ X,X=xU SD->X[k]? = some (.int .i64 ((qOf k:Nat):Int)):=fun X e=>e ▸ Ie (by decide) hk
 have hm:∀ X,X=xU SJ->X[k]? = some (.int .i64 ((mOf k:Nat):Int)):=fun X e=>e ▸ Ie (by decide) hk
 have hl:∀ X,X=xU SM->X[k]? = some (.int .i64 ((lOf k:Nat):Int)):=fun X e=>e ▸ Ie (by decide) hk
 refine fV H fun r h H=>?_
 refine fV H fun a h H=>?_
 refine fV H fun b h H=>?_
 refine fV H fun c h H=>?_
 refine fH (by omega) ?_
 refine fH (by omega) ?_
 refine fH (by omega) ?_
 simp only [fD,gu]
 refine gP (fun h1=>?_) fun h1=>?_
 ·have h1:k=0:=by simp at h1; omega
  try simp only [ga,gC,fN,gr]
  refine fz (H.cell 1 rfl (hq _ (by kernel_rfl))) ?_
  refine fz (H.cell 2 rfl (hm _ (by kernel_rfl))) ?_
  refine fz (H.cell 3 rfl (hl _ (by kernel_rfl))) ?_
  refine gq H 0 rfl (by first | exact fB rfl | simp) rfl fun h hsz H=>?_
  refine gq H 0 rfl (by first | exact fB rfl | simp) rfl fun h hsz H=>?_
  refine gq H 0 rfl (by first | exact fB rfl | simp) rfl fun h hsz H=>?_
  refine gq H 0 rfl (by first | exact fB rfl | simp) rfl fun h hsz H=>?_
  refine fz (H.cell 0 rfl rfl) ?_
  refine fz (H.cell 0 rfl rfl) ?_
  refine fz (H.cell 0 rfl rfl) ?_
  refine gT (H.cell 0 rfl rfl) ?_
  have:=hK _ H.gi
  have e:(cOf k == 1)=true:=by rw [hc,h1]; rfl
  rw [e] at this
  exact this
 ·have h1:k≠0:=by simp at h1; omega
  refine gP (fun h2=>?_) fun h2=>?_
  ·have h2:k=6:=by simp at h2; omega
   try simp only [ga,gC,fN,gr]
   refine fz (H.cell 1 rfl (hq _ (by kernel_rfl))) ?_
   refine fz (H.cell 2 rfl (hm _ (by kernel_rfl))) ?_
   refine fz (H.cell 3 rfl (hl _ (by kernel_rfl))) ?_
   refine gq H 0 rfl (by first | exact fB rfl | simp) rfl fun h hsz H=>?_
   refine gq H 0 rfl (by first | exact fB rfl | simp) rfl fun h hsz H=>?_
   refine gq H 0 rfl (by first | exact fB rfl | simp) rfl fun h hsz H=>?_
   refine gq H 0 rfl (by first | exact fB rfl | simp) rfl fun h hsz H=>?_
   refine fz (H.cell 0 rfl rfl) ?_
   refine fz (H.cell 0 rfl rfl) ?_
   refine fz (H.cell 0 rfl rfl) ?_
   refine gT (H.cell 0 rfl rfl) ?_
   have:=hK _ H.gi
   have e:(cOf k == 1)=true:=by rw [hc,h2]; rfl
   rw [e] at this
   exact this
  ·have h2:k≠6:=by simp at h2; omega
   try simp only [ga,gC,fN,gr]
   refine fz (H.cell 1 rfl (hq _ (by kernel_rfl))) ?_
   refine fz (H.cell 2 rfl (hm _ (by kernel_rfl))) ?_
   refine fz (H.cell 3 rfl (hl _ (by kernel_rfl))) ?_
   refine gq H 0 rfl (by first | exact fB rfl | simp) rfl fun h hsz H=>?_
   refine gq H 0 rfl (by first | exact fB rfl | simp) rfl fun h hsz H=>?_
   refine gq H 0 rfl (by first | exact fB rfl | simp) rfl fun h hsz H=>?_
   refine gq H 0 rfl (by first | exact fB rfl | simp) rfl fun h hsz H=>?_
   refine fz (H.cell 0 rfl rfl) ?_
   refine fz (H.cell 0 rfl rfl) ?_
   refine fz (H.cell 0 rfl rfl) ?_
   refine gT (H.cell 0 rfl rfl) ?_
   have:=hK _ H.gi
   have e:(((k:Nat):Int) == 14)=(cOf k == 1):=by
    rw [hc]
    by_cases h3:k=14
    ·subst h3; rfl
    ·have e1:(((k:Nat):Int) == 14)=false:=by simp; omega
     have e2:(k == 0 || k == 6 || k == 14)=false:=by simp [h1,h2,h3]
     rw [e1,e2]
   rw [e]
   exact this
theorem zo {h:Heap} {K:VK} {Kp:PK} (hK:∀ g rest c h',Hp h [] h' [⟨g,true,kV,sa 47++rest⟩]->K (.slice (at0 g) 47 c) h') :
  CP lx #[] h K Kp:=by
 refine zM ?_
 unfold tD
 refine ⟨fun n vs h'=>∃ i:Nat,i+n=47/\((i=0/\vs=[.slice none 0 0,.int .i64 0]/\h'=h)\/∃ g rest c,1<=i/\vs=[.slice (at0 g) i c,.int .i64 (i:Int)]/\(sa i++rest).length=c*4/\Hp h [] h' [⟨g,true,kV,sa i++rest⟩]),
  ⟨47,0,rfl, .inl ⟨rfl,rfl,rfl⟩⟩,?_⟩
 rintro n h' u t tn tc x ⟨i,hin,⟨rfl,hx,rfl⟩ | ⟨g,rest,c,hi1,hx,hlen,H⟩⟩
 ·injection hx with hx1 hx
  injection hx1 with e1 e2 e3
  injection hx with hx
  injection hx with _ hx
  subst e1 e2 e3 hx
  refine gN (by rfl) ?_
  refine Oc (k:=0) (by decide) fun h2 e=>?_
  refine ⟨_,_,_,_,rfl,?_⟩
  have H:=(Hp.nil h' []).ext e
  refine fV H fun r h H=>?_
  refine D6 (sz:=4) (by_:=32) (m:=1) (z:=[.int .i64 0,.int .i64 0,.int .i64 0,.bool false]) H rfl (pf (o:=0) (n:=1*4) H 0 rfl (gg _)) rfl (gg _) (by decide) fun g rest c h3 hl hc e3 H=>?_
  refine fw (((1:Nat):Int)) (by decide) ?_
  exact ⟨n-1,by omega,1,by omega, .inr ⟨g,rest,c,gg _,rfl,hl,H.pick [1] (by decide) rfl⟩⟩
 ·injection hx with hx1 hx
  injection hx1 with e1 e2 e3
  injection hx with hx
  injection hx with _ hx
  subst e1 e2 e3 hx
  refine gP (fun h1=>?_) fun h1=>?_
  ·have h1:tn<47:=by simp at h1; omega
   refine Oc h1 fun h2 e=>?_
   refine ⟨_,_,_,_,rfl,?_⟩
   have H:=H.ext e
   refine fV H fun r h H=>?_
   refine HT (sz:=4) (by_:=32) (m:=1) (z:=[.int .i64 0,.int .i64 0,.int .i64 0,.bool false]) H 0 rfl rfl (by rw [wu]; omega) hlen (pf (o:=0) (n:=1*4) H 1 rfl (gg _)) rfl ?_ (by omega) fun g' rest' c' h3 hl hc H=>?_
   ·intro v hv
    have hv:v∈grow tn:=hv
    simp only [grow,List.mem_cons,List.not_mem_nil,or_false] at hv
    rcases hv with rfl | rfl | rfl | rfl <;> rfl
   ·refine fw (((tn+1:Nat):Int)) (by exact fO _ _ (by omega) (by omega) (by omega)) ?_
    exact ⟨n-1,by omega,tn+1,by omega, .inr ⟨g',rest',c',by omega,rfl,hl,H.take 1⟩⟩
  ·have h1:tn=47:=by simp at h1; omega
   subst h1
   exact hK g rest _ _ H
theorem Nh (n:Nat):l9 [.int .i64 0] n=xU (List.replicate n 0):=by rw [Cu]; simp [xU]
theorem Jk {α:Type} {l:List α} {k:Nat} {v:α} (h:l[k]? = some v):l.set k v=l:=by
 apply pO
 intro j
 by_cases hj:k=j
 ·subst hj
  rw [iD (List.getElem?_eq_some_iff.1 h).1,h]
 ·rw [j3 hj]
theorem PF {h:Heap} {n:Nat} (hn:n<=131072) {K:VK} {Kp:PK}
  (hK:∀ g grest gc sq bq (sp:Ent) h',sp.w=true->Hp h [] h' [⟨g,true,kV,sa 47++grest⟩,⟨sq,true,gQ,xU (List.replicate n 0)⟩,⟨bq,true,gQ,xU (List.replicate n 0)⟩,sp] ->
   K (.agg #[.slice (at0 g) 47 gc,.slice (at0 sq) n n,.slice (at0 bq) n n,.int .i64 0]) h') :
  CP ru #[.int .i64 (n:Nat)] h K Kp:=by
 refine zN ?_
 unfold tE
 have H:=Hp.nil h []
 refine fV H fun r1 h H=>?_
 simp only [fD,Nh]
 refine ⟨zo fun g grest gc h' H'=>⟨_,_,_,rfl,H'.gi,?_⟩,?_⟩
 ·replace H:=H.join H' rfl
  refine ⟨?_,?_⟩
  ·refine fH (by omega) ?_
   refine fV H fun sq h H=>?_
   refine fH (by omega) ?_
   refine fV H fun bq h H=>?_
   try simp only [ga,gC,fN,gr]
   refine gq H 0 rfl (by first | exact fB rfl | simp) rfl fun h hsz H=>?_
   refine gq H 0 rfl (by first | exact fB rfl | simp) rfl fun h hsz H=>?_
   refine gq H 0 rfl (by first | exact fB rfl | simp) rfl fun h hsz H=>?_
   refine gq H 0 rfl (by first | exact fB rfl | simp) rfl fun h hsz H=>?_
   refine fU (H.cell 0 rfl rfl) ?_
   refine fU (H.cell 0 rfl rfl) ?_
   refine fU (H.cell 0 rfl rfl) ?_
   refine fz (H.cell 0 rfl rfl) ?_
   exact hK g grest gc sq bq _ _ rfl (H.pick [1,2,3,0] (by decide) rfl)
  ·refine fH (by omega) ?_
   refine fV H fun bq h H=>?_
   refine fH (by omega) ?_
   refine fV H fun sq h H=>?_
   try simp only [ga,gC,fN,gr]
   refine gq H 0 rfl (by first | exact fB rfl | simp) rfl fun h hsz H=>?_
   refine gq H 0 rfl (by first | exact fB rfl | simp) rfl fun h hsz H=>?_
   refine gq H 0 rfl (by first | exact fB rfl | simp) rfl fun h hsz H=>?_
   refine gq H 0 rfl (by first | exact fB rfl | simp) rfl fun h hsz H=>?_
   refine fU (H.cell 0 rfl rfl) ?_
   refine fU (H.cell 0 rfl rfl) ?_
   refine fU (H.cell 0 rfl rfl) ?_
   refine fz (H.cell 0 rfl rfl) ?_
   exact hK g grest gc sq bq _ _ rfl (H.pick [1,3,2,0] (by decide) rfl)
 ·refine ⟨?_,?_⟩
  ·refine fH (by omega) ?_
   refine fV H fun sq h H=>?_
   refine ⟨zo fun g grest gc h' H'=>⟨_,_,_,rfl,H'.gi,?_⟩,?_⟩
   ·replace H:=H.join H' rfl
    refine fH (by omega) ?_
    refine fV H fun bq h H=>?_
    try simp only [ga,gC,fN,gr]
    refine gq H 0 rfl (by first | exact fB rfl | simp) rfl fun h hsz H=>?_
    refine gq H 0 rfl (by first | exact fB rfl | simp) rfl fun h hsz H=>?_
    refine gq H 0 rfl (by first | exact fB rfl | simp) rfl fun h hsz H=>?_
    refine gq H 0 rfl (by first | exact fB rfl | simp) rfl fun h hsz H=>?_
    refine fU (H.cell 0 rfl rfl) ?_
    refine fU (H.cell 0 rfl rfl) ?_
    refine fU (H.cell 0 rfl rfl) ?_
    refine fz (H.cell 0 rfl rfl) ?_
    exact hK g grest gc sq bq _ _ rfl (H.pick [2,1,3,0] (by decide) rfl)
   ·refine fH (by omega) ?_
    refine fV H fun bq h H=>?_
    refine zo fun g grest gc h' H'=>⟨_,_,_,rfl,H'.gi,?_⟩
    replace H:=H.join H' rfl
    try simp only [ga,gC,fN,gr]
    refine gq H 0 rfl (by first | exact fB rfl | simp) rfl fun h hsz H=>?_
    refine gq H 0 rfl (by first | exact fB rfl | simp) rfl fun h hsz H=>?_
    refine gq H 0 rfl (by first | exact fB rfl | simp) rfl fun h hsz H=>?_
    refine gq H 0 rfl (by first | exact fB rfl | simp) rfl fun h hsz H=>?_
    refine fU (H.cell 0 rfl rfl) ?_
    refine fU (H.cell 0 rfl rfl) ?_
    refine fU (H.cell 0 rfl rfl) ?_
    refine fz (H.cell 0 rfl rfl) ?_
    exact hK g grest gc sq bq _ _ rfl (H.pick [3,1,2,0] (by decide) rfl)
  ·refine fH (by omega) ?_
   refine fV H fun bq h H=>?_
   refine ⟨zo fun g grest gc h' H'=>⟨_,_,_,rfl,H'.gi,?_⟩,?_⟩
   ·replace H:=H.join H' rfl
    refine fH (by omega) ?_
    refine fV H fun sq h H=>?_
    try simp only [ga,gC,fN,gr]
    refine gq H 0 rfl (by first | exact fB rfl | simp) rfl fun h hsz H=>?_
    refine gq H 0 rfl (by first | exact fB rfl | simp) rfl fun h hsz H=>?_
    refine gq H 0 rfl (by first | exact fB rfl | simp) rfl fun h hsz H=>?_
    refine gq H 0 rfl (by first | exact fB rfl | simp) rfl fun h hsz H=>?_
    refine fU (H.cell 0 rfl rfl) ?_
    refine fU (H.cell 0 rfl rfl) ?_
    refine fU (H.cell 0 rfl rfl) ?_
    refine fz (H.cell 0 rfl rfl) ?_
    exact hK g grest gc sq bq _ _ rfl (H.pick [2,3,1,0] (by decide) rfl)
   ·refine fH (by omega) ?_
    refine fV H fun sq h H=>?_
    refine zo fun g grest gc h' H'=>⟨_,_,_,rfl,H'.gi,?_⟩
    replace H:=H.join H' rfl
    try simp only [ga,gC,fN,gr]
    refine gq H 0 rfl (by first | exact fB rfl | simp) rfl fun h hsz H=>?_
    refine gq H 0 rfl (by first | exact fB rfl | simp) rfl fun h hsz H=>?_
    refine gq H 0 rfl (by first | exact fB rfl | simp) rfl fun h hsz H=>?_
    refine gq H 0 rfl (by first | exact fB rfl | simp) rfl fun h hsz H=>?_
    refine fU (H.cell 0 rfl rfl) ?_
    refine fU (H.cell 0 rfl rfl) ?_
    refine fU (H.cell 0 rfl rfl) ?_
    refine fz (H.cell 0 rfl rfl) ?_
    exact hK g grest gc sq bq _ _ rfl (H.pick [3,2,1,0] (by decide) rfl)
def Bd (g gc sq bq m:Nat) (n:Nat):List Value:=[.slice (at0 g) 47 gc,.slice (at0 sq) m m,.slice (at0 bq) m m,.int .i64 (n:Nat)]
def half (st:List Nat):List Nat:=st.map (· / 2)
def low (st:List Nat):List Nat:=st.map (· % 2)
theorem FY {st:List Nat} {k x:Nat} (h:st[k]? = some x):(half st)[k]? = some (x / 2):=by unfold half; rw [gL,h]; rfl
theorem EU {st:List Nat} {k x:Nat} (h:st[k]? = some x):(low st)[k]? = some (x % 2):=by unfold low; rw [gL,h]; rfl
theorem JU (st:List Nat) (k v:Nat):half (st.set k v)=(half st).set k (v / 2):=Ex
theorem L9 (st:List Nat) (k v:Nat):low (st.set k v)=(low st).set k (v % 2):=Ex
theorem O1 {h:Heap} {p g gc sq bq m n:Nat} {F:List Nat} {h0:Heap} {L:List Ent} (H:Hp h0 F h L) (kp:Nat) {w:Bool} {t:TypeId} {T:List Value} (hp:L[kp]? = some ⟨p,w,t,Bd g gc sq bq m n++T⟩) (hm:1<=m) (hm2:m<=131072)
  {ctx:Int} {K:VK} {Kp:PK} (hk:K (.int .i64 (idx ctx m:Nat)) h):CP nD #[.pointer (at0 p),.int .i64 ctx] h K Kp:=by
 refine vw ?_
 unfold oA
 have habs:=Fe ctx hm
 have e2:=Int.tmod_eq_emod (a:=ctx) (b:=(m:Int))
 have h1:=Int.emod_nonneg ctx (b:=(m:Int)) (by omega)
 have hlt:=Int.emod_lt_of_pos ctx (b:=(m:Int)) (by omega)
 have e1:((idx ctx m:Nat):Int)=ctx % m:=by unfold idx; omega
 try simp only [ga,gC,fN,gr]
 refine fU (H.cell kp hp rfl) ?_
 refine fH (by exact ⟨trivial,by omega⟩) ?_
 refine nU fun z ez=>?_
 subst ez
 refine gP (fun h2=>?_) fun h2=>?_
 ·have h2:ctx.tmod m<0:=of_decide_eq_true h2
  refine fU (H.cell kp hp rfl) ?_
  refine fw ((idx ctx m:Nat)) (by exact fO _ _ (by split at e2 <;> omega) (by omega) (by omega)) ?_
  exact hk
 ·have h2:¬ ctx.tmod m<0:=of_decide_eq_false h2
  have e3:ctx.tmod m=((idx ctx m:Nat):Int):=by split at e2 <;> omega
  rw [e3]
  exact hk
theorem Ht {k j:Nat} {v:Value} {rest:List Value} (hk:k<47) (h:(grow k)[j]? = some v):(sa 47++rest)[k*4+j]? = some v:=ob (F0 hk h)
theorem KE {h:Heap} {p g gc sq bq n k x:Nat} {st:List Nat} {grest:List Value} {F:List Nat} {h0:Heap} {L:List Ent} (H:Hp h0 F h L) (kp kg ks:Nat) {w wg:Bool} {t:TypeId} {T:List Value} (hp:L[kp]? = some ⟨p,w,t,Bd g gc sq bq st.length n++T⟩)
  (hg:L[kg]? = some ⟨g,wg,kV,sa 47++grest⟩) (hs:L[ks]? = some ⟨sq,true,gQ,xU (half st)⟩) (hx:st[k]? = some x) (hx94:x<94)
  {K:VK} {Kp:PK} (hk:∀ h',Hp h0 F h' (L.set ks ⟨sq,true,gQ,xU (half (st.set k (upM x)))⟩)->K (.tuple #[]) h') :
  CP ld #[.pointer (at0 p),.int .i64 (k:Nat)] h K Kp:=by
 refine uY ?_
 unfold n4
 have hkl:k<st.length:=(List.getElem?_eq_some_iff.1 hx).1
 have hr:x / 2<47:=by omega
 try simp only [ga,gC,fN,gr]
 refine fU (H.cell kp hp rfl) (fU (H.cell kp hp rfl) (fU (H.cell kp hp rfl) ?_))
 refine fH (by omega) ?_
 try simp only [ga,gC,fN,fD,gu]
 refine fz (H.cell ks hs (w5 (FY hx))) ?_
 refine fH (by omega) ?_
 try simp only [ga,gC,fN,fD,gu]
 refine fz (H.cell kg hg (Ht hr (j:=1) rfl)) ?_
 refine fH (by omega) ?_
 try simp only [ga,gC,fN]
 refine gq H ks hs (by rw [vJ]; simpa [half] using hkl) rfl fun h' hsz H=>hk _ ?_
 rw [JU,FV]
 have e:upM x / 2=mOf (x / 2):=by unfold upM; omega
 rw [e]
 exact H
def uQ (p:Nat) (t:TypeId) (T:List Value) (g gc sq bq n:Nat) (st:List Nat) (grest:List Value) (e5:Ent):List Ent :=
 [⟨p,true,t,Bd g gc sq bq st.length n++T⟩,⟨g,true,kV,sa 47++grest⟩,⟨sq,true,gQ,xU (half st)⟩,⟨bq,true,gQ,xU (low st)⟩,e5]
theorem N0 {h:Heap} {p g gc sq bq n k x:Nat} {st:List Nat} {grest:List Value} {F:List Nat} {h0:Heap} {t:TypeId} {T:List Value} {e5:Ent} (H:Hp h0 F h (uQ p t T g gc sq bq n st grest e5)) (hx:st[k]? = some x) (hx94:x<94)
  {K:VK} {Kp:PK} (hk:∀ h',Hp h0 F h' (uQ p t T g gc sq bq n (st.set k (upM x)) grest e5)->K (.tuple #[]) h') :
  CP ld #[.pointer (at0 p),.int .i64 (k:Nat)] h K Kp :=
 KE H 0 1 2 rfl rfl rfl hx hx94 fun h' H'=>hk _ (H'.as (by
  have e:low (st.set k (upM x))=low st:=by
   rw [L9]
   have e2:upM x % 2=x % 2:=by unfold upM; omega
   rw [e2]
   exact Jk (EU hx)
  simp [uQ,e]))
theorem G5 {h:Heap} {p g gc sq bq n k x:Nat} {st:List Nat} {grest:List Value} {F:List Nat} {h0:Heap} {t:TypeId} {T:List Value} {e5:Ent} (H:Hp h0 F h (uQ p t T g gc sq bq n st grest e5)) (hx:st[k]? = some x) (hx94:x<94)
  {K:VK} {Kp:PK} (hk:∀ h',Hp h0 F h' (uQ p t T g gc sq bq n (st.set k (upL x)) grest e5)->K (.tuple #[]) h') :
  CP mf #[.pointer (at0 p),.int .i64 (k:Nat)] h K Kp:=by
 refine vv ?_
 unfold oz
 have hkl:k<st.length:=(List.getElem?_eq_some_iff.1 hx).1
 have hr:x / 2<47:=by omega
 have hc1:=Pw hr
 have eh:half (st.set k (upL x))=(half st).set k (lOf (x / 2)):=by
  rw [JU]; congr 1; unfold upL; omega
 have el:low (st.set k (upL x))=(low st).set k ((x % 2+cOf (x / 2)) % 2):=by
  rw [L9]; congr 1; unfold upL; omega
 try simp only [ga,gC,fN,gr]
 refine fU (H.cell 0 rfl rfl) ?_
 refine fU (H.cell 0 rfl rfl) ?_
 refine fH (by omega) ?_
 try simp only [ga,gC,fN,fD,gu]
 refine fz (H.cell 2 rfl (w5 (FY hx))) ?_
 refine fH (by omega) ?_
 try simp only [ga,gC,fN,fD,gu]
 refine fz (H.cell 1 rfl (Ht hr (j:=0) rfl)) ?_
 refine fz (H.cell 1 rfl (Ht hr (j:=1) rfl)) ?_
 refine fz (H.cell 1 rfl (Ht hr (j:=2) rfl)) ?_
 refine gT (H.cell 1 rfl (Ht hr (j:=3) rfl)) ?_
 refine fV H fun w h H=>?_
 try simp only [ga,gC,fN,gr]
 refine gq H 5 rfl (by first | exact fB rfl | simp) rfl fun h hsz H=>?_
 refine gq H 5 rfl (by first | exact fB rfl | simp) rfl fun h hsz H=>?_
 refine gq H 5 rfl (by first | exact fB rfl | simp) rfl fun h hsz H=>?_
 refine gq H 5 rfl (by first | exact fB rfl | simp) rfl fun h hsz H=>?_
 refine gT (H.cell 5 rfl rfl) ?_
 refine gP (fun h1=>?_) fun h1=>?_
 ·have h1:cOf (x / 2)=1:=by simpa using h1
  refine fU (H.cell 0 rfl rfl) ?_
  refine fU (H.cell 0 rfl rfl) ?_
  refine fH (by omega) ?_
  try simp only [ga,gC,fN,fD,gu]
  refine fz (H.cell 3 rfl (w5 (EU hx))) ?_
  refine fw (((1-x % 2:Nat):Int)) (by exact fO _ _ (by omega) (by omega) (by omega)) ?_
  refine fH (by omega) ?_
  try simp only [ga,gC,fN,fD,gu]
  refine gq H 3 rfl (by rw [vJ]; simpa [low] using hkl) rfl fun h hsz H=>?_
  refine fU (H.cell 0 rfl rfl) ?_
  refine fz (H.cell 5 rfl rfl) ?_
  refine fH (by omega) ?_
  try simp only [ga,gC,fN,fD,gu]
  refine gq H 2 rfl (by rw [vJ]; simpa [half] using hkl) rfl fun h hsz H=>?_
  refine hk _ ((H.take 5).as ?_)
  have e3:(x % 2+cOf (x / 2)) % 2=1-x % 2:=by rw [h1]; omega
  rw [e3] at el
  simp [uQ,eh,el,FV]
 ·have h1:cOf (x / 2)=0:=by
   have:cOf (x / 2)≠1:=by simpa using h1
   omega
  refine fU (H.cell 0 rfl rfl) ?_
  refine fz (H.cell 5 rfl rfl) ?_
  refine fH (by omega) ?_
  try simp only [ga,gC,fN,fD,gu]
  refine gq H 2 rfl (by rw [vJ]; simpa [half] using hkl) rfl fun h hsz H=>?_
  refine hk _ ((H.take 5).as ?_)
  have e3:(x % 2+cOf (x / 2)) % 2=x % 2:=by rw [h1]; omega
  rw [e3] at el
  have el2:low (st.set k (upL x))=low st:=el.trans (Jk (EU hx))
  simp [uQ,eh,el2,FV]
def Ed (s:Cod) (r:Nat) (rest:List Value):List Value :=
 [.int .i64 (s.a:Nat),.int .i64 (s.c:Nat),.int .i64 (s.t:Nat),.slice (at0 r) (s.bs.length+1) (s.bs.length+1+rest.length),.bool s.done]
structure RP where
 p:Nat
 g:Nat
 gc:Nat
 sq:Nat
 bq:Nat
 grest:List Value
def jI (A:RP) (r:Nat) (s:Cod) (rest:List Value):List Ent :=
 uQ A.p vQ (Ed s r rest) A.g A.gc A.sq A.bq s.n s.st A.grest ⟨r,true,gA,u8s (s.bs++[s.l])++rest⟩
theorem Qm {h:Heap} {n:Nat} (hn:n<=131072) {K:VK} {Kp:PK} (hk:∀ A r h',Hp h [] h' (jI A r (gE n) [])->K (.pointer (at0 A.p)) h'):CP tX #[.int .i64 (n:Nat)] h K Kp:=by
 refine B4 ?_
 unfold wG
 refine PF hn fun g grest gc sq bq sp h' hsp H=>?_
 refine ⟨_,_,_,_,_,_,_,_,_,_,rfl,?_⟩
 refine fV H fun r h H=>?_
 refine fV H fun p h H=>?_
 refine hk ⟨p,g,gc,sq,bq,grest⟩ r _ ?_
 exact H.pick [5,0,1,2,4] (by decide) (by simp [jI,uQ,Bd,Ed,gE,half,low,u8s])
theorem Is {h:Heap} {A:RP} {r:Nat} {s:Cod} {rest:List Value} {F:List Nat} {h0:Heap} (H:Hp h0 F h (jI A r s rest)) (hl:s.l<256) (hc:s.c<4294967296) (hb:s.bs.length<1000000000)
  {K:VK} {Kp:PK} (hk:∀ r' rest' h',Hp h0 F h' (jI A r' (ni s) rest')->K (.tuple #[]) h') :
  CP lM #[.pointer (at0 A.p)] h K Kp:=by
 refine wz ?_
 unfold pn
 try simp only [ga,gC,fN,gr]
 refine fU (H.cell 0 rfl rfl) ?_
 refine fw (((s.bs.length:Nat):Int)) (by exact fO _ _ (by omega) (by omega) (by omega)) ?_
 refine fU (H.cell 0 rfl rfl) ?_
 refine fH (by constructor <;> omega) ?_
 try simp only [ga,gC,fN,gr]
 simp only [fD,gu]
 refine fz (H.cell 4 rfl (tb _ _ _)) ?_
 refine ⟨fun vs h'=>vs=[.bool ((if s.l≠255/\134217728<=s.c then s.l+1 else s.l) == 255)]/\Hp h0 F h' (jI A r (if s.l≠255/\134217728<=s.c then { s with l:=s.l+1,c:=s.c % 134217728 } else s) rest),?_,?_⟩
 ·refine ⟨fun vs h'=>vs=[.bool (decide (s.l≠255/\134217728<=s.c))]/\h'=h,?_,?_⟩
  ·refine gP (fun h1=>?_) fun h1=>?_
   ·refine fz (H.cell 0 rfl rfl) ?_
    refine ⟨?_,rfl⟩
    have h1:s.l≠255:=by simp at h1; omega
    congr 2
    simp [h1]
    omega
   ·refine ⟨?_,rfl⟩
    have h1:s.l=255:=by simp at h1; omega
    simp [h1]
  ·rintro h' u x ⟨hx,rfl⟩
   injection hx with hx
   injection hx with hx
   subst hx
   refine gP (fun h1=>?_) fun h1=>?_
   ·have h1:s.l≠255/\134217728<=s.c:=of_decide_eq_true h1
    refine fU (H.cell 0 rfl rfl) ?_
    refine fH (by constructor <;> omega) ?_
    try simp only [ga,gC,fN,fD,gu]
    refine fz (H.cell 4 rfl (tb _ _ _)) ?_
    refine fw (((s.l+1:Nat):Int)) (by rw [<- u8_in (s.l+1) (by omega)]; rfl) ?_
    refine fH (by constructor <;> omega) ?_
    try simp only [ga,gC,fN,fD,gu]
    refine gq H 4 rfl (by simp [gO]; omega) rfl fun h hsz H=>?_
    rw [JL] at H
    refine fz (H.cell 0 rfl rfl) ?_
    refine fw (((s.c % 134217728:Nat):Int)) (by exact (Mw _ 134217727 (by omega) (by omega)).trans (by congr 1; exact jH s.c 27)) ?_
    refine gq H 0 rfl (by first | exact fB rfl | simp) rfl fun h hsz H=>?_
    refine fU (H.cell 0 rfl rfl) ?_
    refine fH (by constructor <;> omega) ?_
    try simp only [ga,gC,fN,fD,gu]
    refine fz (H.cell 4 rfl (tb _ _ _)) ?_
    rw [if_pos h1,if_pos h1]
    refine ⟨?_,H⟩
    congr 2
    rw [Bool.eq_iff_iff]
    simp
    omega
   ·have h1:¬ (s.l≠255/\134217728<=s.c):=of_decide_eq_false h1
    rw [if_neg h1,if_neg h1]
    refine ⟨?_,H⟩
    congr 2
    rw [Bool.eq_iff_iff]
    simp
    omega
 ·rintro h' u y ⟨hy,H'⟩
  injection hy with hy
  injection hy with hy
  have e:ni s=iy (if s.l≠255/\134217728<=s.c then { s with l:=s.l+1,c:=s.c % 134217728 } else s) (if s.l≠255/\134217728<=s.c then { s with l:=s.l+1,c:=s.c % 134217728 } else s).l (if s.l≠255/\134217728<=s.c then { s with l:=s.l+1,c:=s.c % 134217728 } else s).c:=by
   unfold ni; split <;> rfl
  have hs':(if s.l≠255/\134217728<=s.c then { s with l:=s.l+1,c:=s.c % 134217728 } else s).l<256/\(if s.l≠255/\134217728<=s.c then { s with l:=s.l+1,c:=s.c % 134217728 } else s).c<4294967296/\(if s.l≠255/\134217728<=s.c then { s with l:=s.l+1,c:=s.c % 134217728 } else s).bs=s.bs /\
    (if s.l≠255/\134217728<=s.c then { s with l:=s.l+1,c:=s.c % 134217728 } else s).l=(if s.l≠255/\134217728<=s.c then s.l+1 else s.l):=by
   split
   ·exact ⟨by show s.l+1<256; omega,by show s.c % 134217728<_; omega,rfl,rfl⟩
   ·exact ⟨hl,hc,rfl,rfl⟩
  generalize (if s.l≠255/\134217728<=s.c then { s with l:=s.l+1,c:=s.c % 134217728 } else s)=s' at e hs' H'
  clear H
  obtain ⟨hl',hc',hb',hll⟩:=hs'
  rw [<- hll] at hy
  subst hy
  rw [e] at hk
  rw [<- hb'] at hb
  have H:=H'
  clear H'
  refine gP (fun h1=>?_) fun h1=>?_
  ·have h1:s'.l=255:=by simpa using h1
   refine fU (H.cell 0 rfl rfl) ?_
   refine fz (H.cell 0 rfl rfl) ?_
   refine fw (((s'.c / 1048576:Nat):Int)) (by exact lG (i:=20) (by decide)) ?_
   refine fw (((s'.c / 1048576 % 256:Nat):Int)) (by rw [IntKind.wrap_u8]; omega) ?_
   refine fV H fun b h H=>?_
   refine Ai H 4 rfl (xs:=u8s (s'.bs++[s'.l])) (by rw [gO]; simp) (by rw [fA,gO]; simp) (pf (o:=0) (n:=1*1) H 5 rfl (gg _)) rfl (fun v hv=>by rw [List.mem_singleton.1 hv]; rfl) (by omega) fun r' rest' h H=>?_
   refine gq H 0 rfl (by first | exact fB rfl | simp) rfl fun h hsz H=>?_
   refine fz (H.cell 0 rfl rfl) ?_
   refine fw (((s'.c % 1048576:Nat):Int)) (by exact (Mw _ 1048575 (by omega) (by omega)).trans (by congr 1; exact jH s'.c 20)) ?_
   refine gq H 0 rfl (by first | exact fB rfl | simp) rfl fun h hsz H=>?_
   refine gq H 0 rfl (by first | exact fB rfl | simp) rfl fun h hsz H=>?_
   refine hk r' rest' _ ((H.take 5).as ?_)
   unfold iy
   rw [if_pos h1]
   simp [jI,uQ,Bd,Ed,u8s]
   omega
  ·have h1:s'.l≠255:=by simpa using h1
   refine fU (H.cell 0 rfl rfl) ?_
   refine fz (H.cell 0 rfl rfl) ?_
   refine fw (((s'.c / 524288:Nat):Int)) (by exact lG (i:=19) (by decide)) ?_
   refine fw (((s'.c / 524288 % 256:Nat):Int)) (by rw [IntKind.wrap_u8]; omega) ?_
   refine fV H fun b h H=>?_
   refine Ai H 4 rfl (xs:=u8s (s'.bs++[s'.l])) (by rw [gO]; simp) (by rw [fA,gO]; simp) (pf (o:=0) (n:=1*1) H 5 rfl (gg _)) rfl (fun v hv=>by rw [List.mem_singleton.1 hv]; rfl) (by omega) fun r' rest' h H=>?_
   refine gq H 0 rfl (by first | exact fB rfl | simp) rfl fun h hsz H=>?_
   refine fz (H.cell 0 rfl rfl) ?_
   refine fw (((s'.c % 524288:Nat):Int)) (by exact (Mw _ 524287 (by omega) (by omega)).trans (by congr 1; exact jH s'.c 19)) ?_
   refine gq H 0 rfl (by first | exact fB rfl | simp) rfl fun h hsz H=>?_
   refine gq H 0 rfl (by first | exact fB rfl | simp) rfl fun h hsz H=>?_
   refine hk r' rest' _ ((H.take 5).as ?_)
   unfold iy
   rw [if_neg h1]
   simp [jI,uQ,Bd,Ed,u8s]
   omega
theorem OJ {x:Nat} (hx:x<4294967296):jo .and .i64 (x:Int) 4294967295=((x:Nat):Int) :=
 (Mw x 4294967295 (by omega) (by omega)).trans (by congr 1; exact (jH x 32).trans (jC hx))
theorem Ay {h:Heap} {A:RP} {r:Nat} {s:Cod} {rest:List Value} {F:List Nat} {h0:Heap} (H:Hp h0 F h (jI A r s rest)) (hs:Mid s) (ha:1<=s.a) (ha':s.a<0x8000) (hb:s.bs.length<999999983)
  {K:VK} {Kp:PK} (hk:∀ r' rest' h',Hp h0 F h' (jI A r' (iU 17 s) rest')->K (.tuple #[]) h') :
  CP j7 #[.pointer (at0 A.p)] h K Kp:=by
 generalize hR:iU 17 s=R at hk
 refine uZ ?_
 unfold n5
 refine ⟨fun n vs h'=>∃ (first:Bool) (s':Cod) (r':Nat) (rest':List Value),vs=[.bool first]/\Hp h0 F h' (jI A r' s' rest')/\Mid s'/\s'.bs.length+n<1000000000 /\
   ((first=false/\0x8000<=s'.a/\s'=R)\/(s'.a<0x8000/\0x8000<=s'.a*2 ^ n/\iU n s'=R)),
  ⟨17,true,s,r,rest,rfl,H,hs,by omega, .inr ⟨ha',by have:(2:Nat) ^ 17=131072:=rfl; omega,hR⟩⟩,?_⟩
 clear H
 rintro n h u x ⟨first,s',r',rest',hx,H,hm,hbn,hc⟩
 injection hx with hx
 injection hx with hx
 subst hx
 refine ⟨fun vs h'=>h'=h/\s'.a<0x8000/\0x8000<=s'.a*2 ^ n/\iU n s'=R,?_,?_⟩
 ·refine gP (fun h1=>?_) fun h1=>?_
  ·rcases hc with ⟨h2,_⟩ | h2
   ·rw [h1] at h2; cases h2
   ·exact ⟨rfl,h2⟩
  ·have hcell0:=H.cell 0 rfl (i:=4) (v := .int .i64 (s'.a:Nat)) rfl
   rcases hc with ⟨_,h2,h5⟩ | h2
   ·have h4:¬ ((s'.a:Nat):Int)<32768:=by
     have:(32768:Int)<=((s'.a:Nat):Int):=by exact_mod_cast h2
     exact Int.not_lt.2 this
    refine fz (x:=((s'.a:Nat):Int)) hcell0 ?_
    simp only [decide_eq_false h4]
    exact hk r' rest' _ (h5 ▸ H)
   ·have h4:((s'.a:Nat):Int)<32768:=by exact_mod_cast h2.1
    refine fz (x:=((s'.a:Nat):Int)) hcell0 ?_
    simp only [decide_eq_true h4]
    exact ⟨by first | rfl | trivial,h2⟩
 ·rintro h2 u ⟨rfl,hlt,hge,he⟩
  obtain ⟨n,rfl⟩:∃ m,n=m+1:=by
   cases n with
   | zero=>simp at hge; omega
   | succ m=>exact ⟨m,rfl⟩
  have ht1:=hm.t1
  have ht2:=hm.t12
  have hca:=hm.ca
  have hcp:=Ds ht1
  obtain ⟨g1,g2,g3,g4,g5,g6⟩:=p4 hm hlt
  have hnext:0x8000<=(jK s').a*2 ^ n:=by
   rw [g2]
   rw [jA] at hge
   have:s'.a*(2 ^ n*2)=2*s'.a*2 ^ n:=by rw [gS (2 ^ n) 2,<- iG,gS s'.a 2]
   omega
  rw [Ee] at he
  have fin:∀ (r2:Nat) (rest2:List Value) (h:Heap),Hp h0 F h (jI A r2 (jK s') rest2)->∃ m,m<n+1/\∃ (first:Bool) (s':Cod) (r':Nat) (rest':List Value),[Value.bool false]=[.bool first]/\Hp h0 F h (jI A r' s' rest')/\Mid s'/\s'.bs.length+m<1000000000 /\
   ((first=false/\0x8000<=s'.a/\s'=R)\/(s'.a<0x8000/\0x8000<=s'.a*2 ^ m/\iU m s'=R)):=fun r2 rest2 h H=>by
   refine ⟨n,vq n,false,jK s',r2,rest2,rfl,H,g1,by omega,?_⟩
   by_cases h3:0x8000<=(jK s').a
   ·rw [if_pos h3] at he; exact .inl ⟨rfl,h3,he⟩
   ·rw [if_neg h3] at he; exact .inr ⟨by omega,hnext,he⟩
  try simp only [ga,gC,fN,gr]
  refine fz (H.cell 0 rfl rfl) ?_
  refine fw (((2*s'.a:Nat):Int)) (by exact fO _ _ (by omega) (by omega) (by omega)) ?_
  refine gq H 0 rfl (by first | exact fB rfl | simp) rfl fun h hsz H=>?_
  refine fz (H.cell 0 rfl rfl) ?_
  refine fw (((2*s'.c:Nat):Int)) (by exact fO _ _ (by omega) (by omega) (by omega)) ?_
  refine fw _ (OJ (by omega)) ?_
  refine gq H 0 rfl (by first | exact fB rfl | simp) rfl fun h hsz H=>?_
  refine fz (H.cell 0 rfl rfl) ?_
  refine fw (((s'.t-1:Nat):Int)) (by exact fO _ _ (by omega) (by omega) (by omega)) ?_
  refine gq H 0 rfl (by first | exact fB rfl | simp) rfl fun h hsz H=>?_
  refine fz (H.cell 0 rfl rfl) ?_
  have H2:Hp h0 F h (jI A r' { s' with a:=2*s'.a,c:=2*s'.c,t:=s'.t-1 } rest'):=H
  refine gP (fun h1=>?_) fun h1=>?_
  ·have h1:s'.t-1=0:=by simp at h1; omega
   rw [Ax,if_pos h1] at fin
   refine Is H2 hm.l (by show 2*s'.c<_; omega) (by show s'.bs.length<_; omega) fun r2 rest2 h2 H=>?_
   exact fin r2 rest2 _ H
  ·have h1:¬ s'.t-1=0:=by simp at h1; omega
   rw [Ax,if_neg h1] at fin
   exact fin r' rest' _ H2
theorem ER {h:Heap} {A:RP} {r:Nat} {s:Cod} {rest:List Value} {F:List Nat} {h0:Heap} (H:Hp h0 F h (jI A r s rest)) (hs:Wf s) (hd:s.done=false) (hn:s.n<16777216) (hl:1<=s.st.length) (hl2:s.st.length<=131072)
  {ctx:Int} {bit:Nat} (hbit:bit<=1) {K:VK} {Kp:PK} (hk:∀ r' rest' h',Hp h0 F h' (jI A r' (oo s (idx ctx s.st.length) bit) rest')->K (.int .i64 0) h') :
  CP jG #[.pointer (at0 A.p),.int .i64 ctx,.int .i64 (bit:Nat)] h K Kp:=by
 refine wA ?_
 unfold po
 try simp only [ga,gC,fN,gr]
 refine gT (H.cell 0 rfl (i:=8) (congrArg (fun b=>some (Value.bool b)) hd)) ?_
 refine fZ (by rfl) ?_
 refine ⟨fun vs h'=>h'=h,?_,?_⟩
 ·refine gP (fun h1=>?_) fun h1=>rfl
  refine gP (fun h2=>?_) fun h2=>rfl
  simp at h1 h2; omega
 ·rintro h' u rfl
  refine fz (H.cell 0 rfl rfl) ?_
  refine fZ (by simp; omega) ?_
  refine fz (H.cell 0 rfl rfl) ?_
  refine fw (((s.n+1:Nat):Int)) (by exact fO _ _ (by omega) (by omega) (by omega)) ?_
  refine gq H 0 rfl (by first | exact fB rfl | simp) rfl fun h hsz H=>?_
  have H2:Hp h0 F h (jI A r { s with n:=s.n+1 } rest):=H
  refine O1 (m:=s.st.length) (n:=s.n+1) H2 0 rfl hl hl2 ?_
  refine ⟨_,rfl,?_⟩
  have hil:=rZ ctx hl
  obtain ⟨x,hx⟩:∃ x,s.st[idx ctx s.st.length]? = some x:=⟨_,fP hil⟩
  have hx94:x<94:=hs.st x (fS hx)
  rw [LV s _ bit x hx] at hk
  have hM:=pa hs.st (k:=idx ctx s.st.length) (zd hx94)
  have hL:=pa hs.st (k:=idx ctx s.st.length) (ze hx94)
  generalize idx ctx s.st.length=k at hk hM hL hx hil ⊢
  have hr:x / 2<47:=by omega
  have hq1:=vH hr
  have hq2:=zs hr
  have hlo:=hs.lo
  have hhi:=hs.hi
  have hca:=hs.ca
  have hcp:=Ds hs.t1
  have hlen:=hs.len
  have H:=H2
  clear H2
  refine fU (H.cell 0 rfl rfl) ?_
  refine fU (H.cell 0 rfl rfl) ?_
  refine fH (by first | omega | (refine ⟨by omega,?_⟩; show ((k:Nat):Int)<((s.st.length:Nat):Int); omega)) ?_
  try simp only [ga,gC,fN,fD,gu]
  refine fz (H.cell 2 rfl (w5 (FY hx))) ?_
  refine fH (by first | omega | (refine ⟨by omega,?_⟩; show ((k:Nat):Int)<((s.st.length:Nat):Int); omega)) ?_
  try simp only [ga,gC,fN,fD,gu]
  refine fz (H.cell 1 rfl (Ht hr (j:=0) rfl)) ?_
  refine fz (H.cell 0 rfl rfl) ?_
  refine fw (((s.a-qOf (x / 2):Nat):Int)) (by exact fO _ _ (by show (s.a:Int)-((qOf (x / 2):Nat):Int)=_; omega) (by omega) (by omega)) ?_
  refine gq H 0 rfl (by first | exact fB rfl | simp) rfl fun h hsz H=>?_
  refine fU (H.cell 0 rfl rfl) ?_
  refine fH (by first | omega | (refine ⟨by omega,?_⟩; show ((k:Nat):Int)<((s.st.length:Nat):Int); omega)) ?_
  try simp only [ga,gC,fN,fD,gu]
  refine fz (H.cell 3 rfl (w5 (EU hx))) ?_
  have H2:Hp h0 F h (jI A r { s with n:=s.n+1,a:=s.a-qOf (x / 2) } rest):=H
  have H:=H2
  clear H2
  refine gP (fun h1=>?_) fun h1=>?_
  ·have h1:bit=x % 2:=by simp at h1; omega
   rw [if_pos h1] at hk
   refine fz (H.cell 0 rfl rfl) ?_
   refine gP (fun h2=>?_) fun h2=>?_
   ·have h2:0x8000<=s.a-qOf (x / 2):=by simp at h2; omega
    rw [if_pos h2] at hk
    refine fz (H.cell 0 rfl rfl) ?_
    refine fw (((s.c+qOf (x / 2):Nat):Int)) (by exact fO _ _ (by show (s.c:Int)+((qOf (x / 2):Nat):Int)=_; omega) (by omega) (by omega)) ?_
    refine gq H 0 rfl (by first | exact fB rfl | simp) rfl fun h hsz H=>?_
    exact hk r rest _ H
   ·have h2:¬ 0x8000<=s.a-qOf (x / 2):=by simp at h2; omega
    rw [if_neg h2] at hk
    refine fz (H.cell 0 rfl rfl) ?_
    refine gP (fun h3=>?_) fun h3=>?_
    ·have h3:s.a-qOf (x / 2)<qOf (x / 2):=by simp at h3; omega
     rw [if_pos h3] at hk
     refine gq H 0 rfl (by first | exact fB rfl | simp) rfl fun h hsz H=>?_
     have H2:Hp h0 F h (jI A r { s with n:=s.n+1,a:=qOf (x / 2) } rest):=H
     refine N0 H2 hx hx94 fun h H=>?_
     exact Ay (r:=r) (rest:=rest) (s:={ s with a:=qOf (x / 2),n:=s.n+1,st:=s.st.set k (upM x) }) (H.as (by simp [jI,uQ,Bd,Ed])) ⟨hs.t1,hs.t12,by show s.c+qOf _<2 ^ (28-s.t); omega,hs.l,hs.bs,hM⟩ hq1 (by show qOf _<_; omega) (by show s.bs.length<_; omega) hk
    ·have h3:¬ s.a-qOf (x / 2)<qOf (x / 2):=by simp at h3; omega
     rw [if_neg h3] at hk
     refine fz (H.cell 0 rfl rfl) ?_
     refine fw (((s.c+qOf (x / 2):Nat):Int)) (by exact fO _ _ (by show (s.c:Int)+((qOf (x / 2):Nat):Int)=_; omega) (by omega) (by omega)) ?_
     refine gq H 0 rfl (by first | exact fB rfl | simp) rfl fun h hsz H=>?_
     have H2:Hp h0 F h (jI A r { s with n:=s.n+1,a:=s.a-qOf (x / 2),c:=s.c+qOf (x / 2) } rest):=H
     refine N0 H2 hx hx94 fun h H=>?_
     exact Ay (r:=r) (rest:=rest) (s:={ s with a:=s.a-qOf (x / 2),c:=s.c+qOf (x / 2),n:=s.n+1,st:=s.st.set k (upM x) }) (H.as (by simp [jI,uQ,Bd,Ed])) ⟨hs.t1,hs.t12,by show s.c+qOf _+(s.a-qOf _)<2 ^ (28-s.t); omega,hs.l,hs.bs,hM⟩ (by show 1<=s.a-qOf _; omega) (by show s.a-qOf _<_; omega) (by show s.bs.length<_; omega) hk
  ·have h1:¬ bit=x % 2:=by simp at h1; omega
   rw [if_neg h1] at hk
   refine fz (H.cell 0 rfl rfl) ?_
   refine gP (fun h3=>?_) fun h3=>?_
   ·have h3:s.a-qOf (x / 2)<qOf (x / 2):=by simp at h3; omega
    rw [if_pos h3] at hk
    refine fz (H.cell 0 rfl rfl) ?_
    refine fw (((s.c+qOf (x / 2):Nat):Int)) (by exact fO _ _ (by show (s.c:Int)+((qOf (x / 2):Nat):Int)=_; omega) (by omega) (by omega)) ?_
    refine gq H 0 rfl (by first | exact fB rfl | simp) rfl fun h hsz H=>?_
    have H2:Hp h0 F h (jI A r { s with n:=s.n+1,a:=s.a-qOf (x / 2),c:=s.c+qOf (x / 2) } rest):=H
    refine G5 H2 hx hx94 fun h H=>?_
    exact Ay (r:=r) (rest:=rest) (s:={ s with a:=s.a-qOf (x / 2),c:=s.c+qOf (x / 2),n:=s.n+1,st:=s.st.set k (upL x) }) (H.as (by simp [jI,uQ,Bd,Ed])) ⟨hs.t1,hs.t12,by show s.c+qOf _+(s.a-qOf _)<2 ^ (28-s.t); omega,hs.l,hs.bs,hL⟩ (by show 1<=s.a-qOf _; omega) (by show s.a-qOf _<_; omega) (by show s.bs.length<_; omega) hk
   ·have h3:¬ s.a-qOf (x / 2)<qOf (x / 2):=by simp at h3; omega
    rw [if_neg h3] at hk
    refine gq H 0 rfl (by first | exact fB rfl | simp) rfl fun h hsz H=>?_
    have H2:Hp h0 F h (jI A r { s with n:=s.n+1,a:=qOf (x / 2) } rest):=H
    refine G5 H2 hx hx94 fun h H=>?_
    exact Ay (r:=r) (rest:=rest) (s:={ s with a:=qOf (x / 2),n:=s.n+1,st:=s.st.set k (upL x) }) (H.as (by simp [jI,uQ,Bd,Ed])) ⟨hs.t1,hs.t12,by show s.c+qOf _<2 ^ (28-s.t); omega,hs.l,hs.bs,hL⟩ hq1 (by show qOf _<_; omega) (by show s.bs.length<_; omega) hk
theorem Tb (a b:Nat) (ha:a<9223372036854775808) (hb:b<9223372036854775808):jo .or .i64 a b=((a ||| b:Nat):Int):=(bits_nat .i64 63 (by decide) NB a b ha hb).2
theorem MX {h:Heap} {A:RP} {r:Nat} {s:Cod} {rest:List Value} {F:List Nat} {h0:Heap} (H:Hp h0 F h (jI A r s rest)) (hs:Wf s) (hd:s.done=false)
  {K:VK} {Kp:PK} (hk:∀ r' rest' o orest h',Hp h0 F h' (jI A r' (iE s) rest'++[⟨o,true,gA,u8s (iX (iE s))++orest⟩]) ->
   K (.tuple #[.slice (at0 o) (iX (iE s)).length ((iX (iE s)).length+orest.length),.int .i64 0]) h') :
  CP nb #[.pointer (at0 A.p)] h K Kp:=by
 refine u0 ?_
 unfold n6
 have hca:=hs.ca
 have hcp:=Ds hs.t1
 have hlen:=hs.len
 have hn:=hs.n
 have hcl:jw s<2 ^ (28-s.t)+65536:=by
  unfold jw
  simp only []
  split <;> omega
 have hfl:Fl { s with c:=jw s,done:=true } 0:=by
  refine ⟨?_,hs.t12,hs.l,by show s.bs.length<=_; omega⟩
  show jw s*2 ^ s.t<4294967296
  have h2:jw s*2 ^ s.t<(2 ^ (28-s.t)+65536)*2 ^ s.t:=jk hcl (iI _)
  have h1:(2:Nat) ^ s.t<=2 ^ 12:=im (by omega) hs.t12
  have h3:2 ^ (28-s.t)*2 ^ s.t=2 ^ 28:=by rw [<- jq]; congr 1; have:=hs.t12; omega
  rw [gZ,h3] at h2
  omega
 try simp only [ga,gC,fN,gr]
 refine gT (H.cell 0 rfl (i:=8) (congrArg (fun b=>some (Value.bool b)) hd)) ?_
 refine fZ (by rfl) ?_
 refine gq H 0 rfl (by first | exact fB rfl | simp) rfl fun h hsz H=>?_
 refine fz (H.cell 0 rfl rfl) ?_
 refine fz (H.cell 0 rfl rfl) ?_
 refine fw (((s.c+s.a:Nat):Int)) (by exact fO _ _ (by omega) (by omega) (by omega)) ?_
 refine fz (H.cell 0 rfl rfl) ?_
 refine fw (((s.c / 65536*65536+65535:Nat):Int)) (by exact (Tb _ 65535 (by omega) (by omega)).trans (by rw [Hx])) ?_
 refine gq H 0 rfl (by first | exact fB rfl | simp) rfl fun h hsz H=>?_
 refine ⟨fun vs h'=>Hp h0 F h' (jI A r { s with c:=jw s,done:=true } rest),?_,?_⟩
 ·refine fz (H.cell 0 rfl rfl) ?_
  rcases gI (s.c / 65536*65536+65535) (s.c+s.a) with h1 | h1
  ·simp only [decide_eq_false (show ¬ (((s.c / 65536*65536+65535:Nat):Int)≥((s.c+s.a:Nat):Int)) by omega)]
   have e:jw s=s.c / 65536*65536+65535:=by unfold jw; simp only []; rw [if_neg (by omega)]
   rw [e]
   exact H
  ·simp only [decide_eq_true (show (((s.c / 65536*65536+65535:Nat):Int)≥((s.c+s.a:Nat):Int)) by omega)]
   refine gN rfl ?_
   refine fz (H.cell 0 rfl rfl) ?_
   refine fw (((s.c / 65536*65536+65535-0x8000:Nat):Int)) (by exact fO _ _ (by omega) (by omega) (by omega)) ?_
   refine gq H 0 rfl (by first | exact fB rfl | simp) rfl fun h hsz H=>?_
   have e:jw s=s.c / 65536*65536+65535-0x8000:=by unfold jw; simp only []; rw [if_pos h1]
   rw [e]
   exact H
 ·clear H
  intro h u H
  generalize hS:({ s with c:=jw s,done:=true }:Cod)=S at H hfl
  have hfm:iE s=lu (lu S):=by rw [<- hS]; rfl
  rw [hfm] at hk
  have step:∀ {E:Cod} {k:Nat},Fl E k->jo .and .i64 (((E.c*2 ^ E.t:Nat):Int)) 4294967295=((E.c*2 ^ E.t:Nat):Int):=fun hf=>OJ hf.c
  have hsh:∀ {E:Cod} {k:Nat},Fl E k->lT .i64 (E.c:Int) (E.t:Int)=((E.c*2 ^ E.t:Nat):Int):=fun {E k} hf=>lP (by show E.t<=64; have:=hf.t; omega) (i64_in _ (by omega) (by have:=hf.c; omega))
  obtain ⟨hf1,hb1⟩:=DA hfl
  obtain ⟨hf2,hb2⟩:=DA hf1
  have hn0:=hfl.n
  refine fz (H.cell 0 rfl rfl) ?_
  refine fz (H.cell 0 rfl rfl) ?_
  refine fw (((S.t:Nat):Int)) (by exact u64_in _ (by omega) (by have:=hfl.t; omega)) ?_
  refine fH (by omega) ?_
  refine fw _ (hsh hfl) ?_
  refine fw _ (step hfl) ?_
  refine gq H 0 rfl (by first | exact fB rfl | simp) rfl fun h hsz H=>?_
  have H2:Hp h0 F h (jI A r { S with c:=S.c*2 ^ S.t } rest):=H
  refine Is H2 hfl.l hfl.c (by show S.bs.length<_; omega) fun r2 rest2 h H=>?_
  have H2:Hp h0 F h (jI A r2 (lu S) rest2):=H
  have H:=H2
  clear H2
  try simp only [ga,gC,fN]
  generalize hE1:lu S=E1 at hf1 hf2 hb1 hb2 H hk
  refine fz (H.cell 0 rfl rfl) ?_
  refine fz (H.cell 0 rfl rfl) ?_
  refine fw (((E1.t:Nat):Int)) (by exact u64_in _ (by omega) (by have:=hf1.t; omega)) ?_
  refine fH (by omega) ?_
  refine fw _ (hsh hf1) ?_
  refine fw _ (step hf1) ?_
  refine gq H 0 rfl (by first | exact fB rfl | simp) rfl fun h hsz H=>?_
  have H2:Hp h0 F h (jI A r2 { E1 with c:=E1.c*2 ^ E1.t } rest2):=H
  refine Is H2 hf1.l hf1.c (by show E1.bs.length<_; omega) fun r' rest' h H=>?_
  have H2:Hp h0 F h (jI A r' (lu E1) rest'):=H
  have H:=H2
  clear H2
  try simp only [ga,gC,fN]
  have hEl:=hf2.l
  generalize hE:lu E1=E at hb2 H hk hEl
  have hb:iX E=if E.l=255 then ((E.bs++[E.l]).drop 1).dropLast else (E.bs++[E.l]).drop 1:=rfl
  refine fU (H.cell 0 rfl rfl) ?_
  refine ⟨fun vs h'=>vs=[.int .i64 ((if E.l=255 then E.bs.length else E.bs.length+1:Nat):Int)]/\h'=h,?_,?_⟩
  ·refine fU (H.cell 0 rfl rfl) ?_
   refine fw (((E.bs.length:Nat):Int)) (by exact fO _ _ (by omega) (by omega) (by omega)) ?_
   refine fH (by constructor <;> omega) ?_
   try simp only [ga,gC,fN,fD,gu]
   refine fz (H.cell 4 rfl (tb _ _ _)) ?_
   refine gP (fun h1=>?_) fun h1=>?_
   ·have h1:E.l=255:=by simp at h1; omega
    refine fw (((E.bs.length:Nat):Int)) (by exact fO _ _ (by omega) (by omega) (by omega)) ?_
    exact ⟨by rw [if_pos h1],by first | rfl | trivial⟩
   ·have h1:E.l≠255:=by simp at h1; omega
    exact ⟨by rw [if_neg h1],by first | rfl | trivial⟩
  ·rintro h' u y ⟨hy,rfl⟩
   injection hy with hy
   injection hy with _ hy
   have hlm:∃ m:Nat,y=((m:Nat):Int)/\1<=m/\m<=E.bs.length+1/\(iX E).length=m-1/\1<=m-1/\((u8s (E.bs++[E.l])++rest').drop 1).take ((m-1)*1)=u8s (iX E):=by
    by_cases h1:E.l=255
    ·rw [if_pos h1] at hy hb
     refine ⟨E.bs.length,hy,by omega,by omega,by rw [hb]; simp,by omega,?_⟩
     rw [hb,gu,m4 (by rw [gO]; simp),jr (by rw [kA,gO]; simp)]
     unfold u8s
     rw [<- Ch,<- GR,List.dropLast_eq_take]
     congr 2
     simp
    ·rw [if_neg h1] at hy hb
     refine ⟨E.bs.length+1,hy,by omega,by omega,by rw [hb]; simp,by omega,?_⟩
     rw [hb,gu,m4 (by rw [gO]; simp),jr (by rw [kA,gO]; simp)]
     unfold u8s
     rw [<- Ch,<- GR,gz (by simp)]
   obtain ⟨m,rfl,hm1,hm2,hbl,hm3,hlist⟩:=hlm
   refine fU (H.cell 0 rfl rfl) ?_
   refine fH (by omega) ?_
   refine fH (by simp; omega) ?_
   have e1:we (some ⟨r',0,none⟩) (E.bs.length+1+rest'.length) (1:Int).toNat 1=some ⟨r',1,none⟩:=by
    unfold we
    rw [if_neg (by simp; omega)]
    rfl
   rw [e1]
   have e2:((m:Nat):Int).toNat-(1:Int).toNat=m-1:=by simp
   rw [e2]
   have hr:=pf H 4 (o:=1) (n:=(m-1)*1) rfl (by simp [gO]; omega)
   rw [hlist] at hr
   refine vk H hr (by rw [gO,hbl]) (by omega) (by omega) fun o orest h' _ H=>?_
   have:=hk r' rest' o orest _ H
   rw [hbl] at this
   exact this
theorem qx {h:Heap} {p q n:Nat} {F:List Nat} {h0:Heap} {L:List Ent} (H:Hp h0 F h L) (kp:Nat) {w:Bool} {t:TypeId} {T:List Value} (hp:L[kp]? = some ⟨p,w,t,ub++(.slice (some ⟨q,0,none⟩) n n::T)⟩)
  {K:VK} {Kp:PK} (hk:K (.int .i64 (n:Nat)) h):CP jz #[.pointer (at0 p)] h K Kp:=by
 refine vD ?_
 unfold oK
 try simp only [ga,gC,fN,gr]
 refine fU (H.cell kp hp (gU hR 0 rfl)) ?_
 exact hk
end Go.Ar
namespace Go.Bm
open Go Go.Den Go.Den.YtbknfejmdekhpaaGreat
theorem qK {h0 h:Heap} {F:List Nat} {L:List Ent} (H:Hp h0 F h L) {t:TypeId} {cs:List Value} {K:Nat->Heap->Prop} (hk:∀ r h',gi h h'->Hp h0 F h' (L++[⟨r,true,t,cs⟩])->K r h'):gE h cs t K:=hk _ _ (gi.push h _) (H.new t cs)
theorem oa {h h':Heap} (e:gi h h') {a:Option Addr} {n:Nat} {vs:List Value} (hr:rdO h a n vs):rdO h' a n vs :=
 Fr.rdO (F:=[]) ⟨e.1,fun b hb _=>e.2 b hb⟩ (fun _ _=>by simp) hr
theorem Slot.vt {h0 h:Heap} {F:List Nat} {L D:List Ent} {t:TypeId} {sz n c:Nat} {q:Option Addr} {xs:List Value} (hd:Slot t sz D q n c xs) (H:Hp h0 F h L) (hs:∀ e∈D,e∈L):rdO h q (n*sz) xs:=by
 obtain ⟨hl,⟨rfl,rfl,rfl,rfl⟩ | ⟨b,rest,rfl,rfl,hc⟩⟩:=hd
 ·rw [kK] at hl ⊢
  rw [List.length_eq_zero_iff.1 hl]
  exact rfl
 ·exact H.n9 (hs _ (List.mem_singleton.2 rfl)) hl
theorem Ot {h:Heap} {q:Option Addr} {n c:Nat} {F:List Nat} {h0:Heap} {A D:List Ent} {xs:List Value} (H:Hp h0 F h (A++D)) (hd:Slot gj 1 D q n c xs) (hl:n<=1048577)
  {K:VK} {Kp:PK} (hk:∀ h',Hp h0 F h' A->K (.tuple #[]) h'):CP lW #[.slice q n c] h K Kp:=by
 refine xm ?_
 unfold p8
 refine ⟨fun m vs h'=>∃ (i:Nat) (D:List Ent) (xs:List Value),i+m=n/\vs=[.int .i64 (i:Int)]/\Slot gj 1 D q n c xs/\Hp h0 F h' (A++D),⟨n,0,D,xs,by omega,rfl,hd,H⟩,?_⟩
 clear H hd
 rintro m h u x ⟨i,D,xs,him,hx,hd,H⟩
 injection hx with hx
 injection hx with _ hx
 subst hx
 have hA:∀ e:Ent,(A++[e])[A.length]? = some e:=fun e=>gW
 refine fL (fun h1=>?_) fun h1=>?_
 ·have h1:i<n:=by omega
  refine fH (by omega) ?_
  obtain ⟨hxl,⟨rfl,rfl,rfl,rfl⟩ | ⟨b,rest,rfl,rfl,hc⟩⟩:=hd
  ·omega
  simp only [ga,gC,fN,fD,gu]
  refine gq H A.length (hA _) (by simp; omega) rfl fun h hsz H=>?_
  refine fw (((i+1:Nat):Int)) (by exact fO _ _ (by omega) (by omega) (by omega)) ?_
  refine ⟨m-1,by omega,i+1,[⟨b,true,gj,xs.set i (.int .u64 23130)++rest⟩],_,by omega,rfl,⟨by rw [gB]; exact hxl, .inr ⟨b,rest,rfl,rfl,by simpa using hc⟩⟩,H.as ?_⟩
  rw [jl _ _ (gg _),iH,mc _ _ (by omega)]
  rfl
 ·have h1:i=n:=by omega
  refine fV H fun t h H=>?_
  have H:=H.rot
  have hr:=pf H 0 (b:=t) (w:=true) (t:=gj) (o:=0) (n:=2*1) (cs:=[.int .u64 1,.int .u64 2]) rfl (gg _)
  have H:Hp h0 F h (([⟨t,true,gj,[.int .u64 1,.int .u64 2]⟩]++A)++(D++[])):=H.as (by simp)
  refine hd.app H rfl hr rfl (fun v hv=>by simp at hv; rcases hv with rfl | rfl <;> rfl) (by decide) (by omega) fun D' q' c' h hd' H=>?_
  refine fH (by omega) ?_
  obtain ⟨hxl,⟨rfl,rfl,h2,rfl⟩ | ⟨b,rest,rfl,rfl,hc⟩⟩:=hd'
  ·omega
  simp only [ga,gC,fN,fD,gu]
  have H:Hp h0 F h (([⟨t,true,gj,[.int .u64 1,.int .u64 2]⟩]++A)++[⟨b,true,gj,xs++[.int .u64 1,.int .u64 2]++rest⟩]):=H.as (by simp)
  refine gq H ([(⟨t,true,gj,[.int .u64 1,.int .u64 2]⟩:Ent)]++A).length gW (by
   rw [fA]
   have:(xs++[Value.int .u64 1,.int .u64 2]).length=n+2:=by rw [<- gu (n+2)]; exact hxl
   omega) rfl fun h hsz H=>?_
  rw [jl _ _ (gg _),iH] at H
  exact hk _ (Hp.suf (X:=[_]) H.pre)
structure Pg where
 W:Nat
 X:Nat
 d:Nat
 s:Nat
 ws:List Nat
 nx:Nat
 dn:Bool
structure PgOk (g:Pg):Prop where
 size:jX (g.W:Int) (g.X:Int)
 len:g.ws.length=g.X*wds g.W
 w:W64 g.ws
 nx:g.nx<=g.X
 s:g.s<=1048576
theorem PgOk.b {g:Pg} (h:PgOk g):1<=g.W/\g.W<=1048576/\1<=g.X/\g.X<=1048576/\1<=g.ws.length/\g.ws.length<=1048576:=by
 obtain ⟨W',X',e1,e2,hW1,hW2,hX1,hX2,hWX⟩:=jf h.size
 have e1:g.W=W':=by omega
 have e2:g.X=X':=by omega
 rw [h.len,e1,e2]
 have:=rR hW1 hWX
 have h1:1<=X'*wds W':=GP hX1 (Ap hW1)
 omega
theorem CA (n wd x y:Nat):pix (List.replicate n 0) wd x y=false:=by
 unfold pix
 rw [fY]
 cases h:(List.replicate n 0)[y*wd+x / 64]? with
 | none=>exact m3 _
 | some v=>rw [(List.mem_replicate.1 (fS h)).2]; exact m3 _
theorem SL {α:Type} {l:List α} (h:l.length=3):∃ a b c,l=[a,b,c]:=by
 match l,h with
 | [a,b,c],_=>exact ⟨a,b,c,rfl⟩
theorem SK {α:Type} {l:List α} (h:l.length=7):∃ a b c d e f g,l=[a,b,c,d,e,f,g]:=by
 match l,h with
 | [a,b,c,d,e,f,g],_=>exact ⟨a,b,c,d,e,f,g,rfl⟩
noncomputable abbrev TP:=Go.Proofs.Tryz.prog
theorem ot {P:Program} {h:Heap} {t:TypeId} {cs:List Value} {o:Nat} {v:Value} (k:P.cellsOf t=1) (H:WDx P h t ((cs.drop o).take (P.cellsOf t))) (hv:cs[o]? = some v):WDx P h t [v]:=by
 rw [k] at H
 have:(cs.drop o).take 1=[v]:=by
  have ho:=(List.getElem?_eq_some_iff.1 hv).1
  rw [EO ho]
  have:=(List.getElem?_eq_some_iff.1 hv).2
  simp [this]
 rw [this] at H
 exact H
theorem O2 {n:Int} (h:IntKind.i64.min<=n/\n<=IntKind.i64.max):InI n:=by
 have h1:IntKind.i64.min = -9223372036854775808:=by decide
 have h2:IntKind.i64.max=9223372036854775807:=by decide
 rw [h1,h2] at h
 unfold InI
 omega
theorem MF {l:List Int} (h:∀ x∈l,IntKind.u64.min<=x/\x<=IntKind.u64.max):(l.map fun x=>(.int .u64 x:Value))=il (l.map Int.toNat)/\W64 (l.map Int.toNat):=by
 have h1:IntKind.u64.min=0:=by decide
 have h2:IntKind.u64.max=18446744073709551615:=by decide
 rw [h1,h2] at h
 constructor
 ·unfold il
  rw [List.map_map]
  refine List.map_congr_left fun x hx=>?_
  have:=h x hx
  show Value.int .u64 x = .int .u64 ((x.toNat:Nat):Int)
  rw [qD this.1]
 ·intro y hy
  obtain ⟨x,hx,rfl⟩:=List.mem_map.1 hy
  have:=h x hx
  show x.toNat<18446744073709551616
  omega
theorem yD:TP.cellsOf gQ=1:=by kernel_rfl
theorem K6:TP.cellsOf Gu=1:=by kernel_rfl
theorem NI {h:Heap} {cs:List Value} (H:WDx TP h Gu cs) :
  ∃ q cap,∃ ws:List Nat,cs=[.slice q ws.length cap]/\ws.length<140737488351300/\rdO h q (ws.length*1) (il ws)/\W64 ws:=by
 obtain ⟨q,cap,l,rfl,h1,h2,h3,h4,h5⟩:=P4 (k := .u64) Go.Proofs.Tryz.underlying36 Go.Proofs.Tryz.underlying70 (by kernel_rfl) H
 obtain ⟨e1,e2⟩:=MF h5
 have k1:TP.bytesOf gj=8:=by kernel_rfl
 rw [k1] at h2
 have hr:reachBytes=140737488351232:=rfl
 rw [e1] at h4
 exact ⟨q,cap,l.map Int.toNat,by simp,by simp; omega,by simpa using h4,e2⟩
theorem GY {h:Heap} {cs:List Value} (H:WDx TP h fK cs) :
  ∃ w b q cap,∃ ws:List Nat,cs=[.int .i64 w,.int .i64 b,.slice q ws.length cap]/\InI w/\InI b/\ws.length<140737488351300/\rdO h q (ws.length*1) (il ws)/\W64 ws:=by
 obtain ⟨hl,hf⟩:=Aq Go.Proofs.Tryz.underlying38 H
 have k:TP.cellsOf fK=3:=by kernel_rfl
 rw [k] at hl
 obtain ⟨a,b,c,rfl⟩:=SL hl
 obtain ⟨w,ew,iw⟩:=rW Go.Proofs.Tryz.underlying3 (ot yD (hf 0 _ rfl) (v:=a) rfl)
 obtain ⟨b',eb,ib⟩:=rW Go.Proofs.Tryz.underlying3 (ot yD (hf 1 _ rfl) (v:=b) rfl)
 obtain ⟨q,cap,ws,e2,g1,g2,g3⟩:=NI (ot K6 (hf 2 _ rfl) (v:=c) rfl)
 simp only [C8,and_true] at ew eb e2
 subst ew eb e2
 exact ⟨w,b',q,cap,ws,rfl,O2 iw,O2 ib,g1,g2,g3⟩
theorem MB {hB:Heap} {W X:Nat} (hs:jX (W:Int) (X:Int)) {K:VK} {Kp:PK}
  (hk:∀ ws q h,ws.length=X*wds W->W64 ws->(∀ x y,pix ws (wds W) x y=false)->Hp hB [] h [⟨q,true,gj,il ws++[]⟩]->K (.agg #[.int .i64 (W:Nat),.int .i64 (X:Nat),.slice (at0 q) ws.length ws.length]) h) :
  CP og #[.int .i64 (W:Nat),.int .i64 (X:Nat)] hB K Kp:=by
 refine NH hs fun q h H=>?_
 have:=hk (List.replicate (X*wds W) 0) q h (by simp) (W64.zero _) (fun x y=>CA _ _ _ _) (H.as (by rw [fT]))
 rw [Ao] at this
 exact this
theorem FI {W X:Nat} {ws:List Nat} (h:sE (W:Int) (X:Int) ws) {x y:Nat} (hy:y<X) (h1:W<=x) (h2:x<64*wds W):pix ws (wds W) x y=false:=by
 have h3:=h.2.2 y (by simpa using hy)
 simp only [fD] at h3
 rw [Bg] at h3
 have hwd:wds W=(W+63) / 64:=rfl
 unfold wq at h3
 have:=h3 (63-x % 64) (by omega)
 unfold pix
 rw [show x / 64=wds W-1 by omega]
 exact this
theorem xR {W X:Nat} {ws:List Nat} (h:sE (W:Int) (X:Int) ws):ws.length=X*wds W:=by simpa using h.2.1
open Go.Ar (Cod CodOk ju oo idx qJ)
def yA (m:Nat) (base:Int) (s:Cod) (n:Nat) (bit:Bool):(Bool × Cod) ⊕ (Int × Cod) := .inl (bit,oo s (idx (base+(n:Int)) m) bit.toNat)
def SP (p q rc rb:Nat) (base:Int) (s:Cod) (M:List Ent):Prop:=∃ r rest,M=ju p q r s rest++[⟨rc,true,jW,[.pointer (at0 p)]⟩,⟨rb,true,gQ,[.int .i64 base]⟩]
theorem M6 {p q rc rb m n0 N:Nat} {base:Int} (hb:0<=base/\base<=131072) (hm1:1<=m) (hm2:m<=131072) (hN:n0+N<=16777216) :
  nh N (SP p q rc rb base) (fun k s=>CodOk m (n0+k) s) (yA m base) (.func (.func pS) #[] #[.pointer (some ⟨rc,0,none⟩),.pointer (some ⟨rb,0,none⟩)]):=by
 intro h0 h FF s n bit K Kp M k hok hk hn hM H hgood hbad
 obtain ⟨r,rest,rfl⟩:=hM
 show CP pS #[.int .i64 (n:Nat),.int .i64 (bit.toNat:Nat),.pointer (some ⟨rc,0,none⟩),.pointer (some ⟨rb,0,none⟩)] h K Kp
 refine BY (cap0:=⟨rc,0,none⟩) (cap1:=⟨rb,0,none⟩) ?_
 unfold wm
 refine ja (H.cell 3 rfl (i:=0) rfl) ?_
 refine fz (H.cell 4 rfl (i:=0) rfl) ?_
 refine fw ((base+(n:Int))) (by exact i64_in _ (by omega) (by omega)) ?_
 refine Go.Ar.BH (bit:=bit.toNat) (H.JY [0,1,2] (by decide) rfl) hok.wf hok.done (by rw [hok.n]; omega) (by rw [hok.len]; exact hm1) (by rw [hok.len]; exact hm2) (toNat_le bit) fun r' rest' h' H'=>?_
 replace H:=H.put [0,1,2] (by decide) rfl rfl H' rfl rfl
 clear H'
 refine ⟨_,rfl,?_⟩
 refine fZ (by rfl) ?_
 rw [hok.len] at H
 exact hgood bit _ _ h' rfl (qJ hok _ _ (by omega)) ⟨r',rest',rfl⟩ H
def Aj (dx dy:Int):Prop:=(-1048576<=dx/\dx<=1048576)/\-1048576<=dy/\dy<=1048576
def Rb (m:Nat) (base:Int) (W X W2 X2:Nat) (ws ws2:List Nat) (dx dy:Int) (s:Cod):((Int->Int->Bool) × Cod) ⊕ (Int × Cod):=runN W (jR ws2 W2 X2) dx dy (yA m base) (X*W) (jR ws W X,s)
theorem Hc {m:Nat} {base:Int} {W:Nat} {R:Int->Int->Bool} {dx dy:Int} (g:(Int->Int->Bool) × Cod):∀ k,∃ g',runN W R dx dy (yA m base) k g = .inl g'
 | 0=>⟨_,rfl⟩
 | k+1=>by
  obtain ⟨⟨G,s⟩,hg⟩:=Hc (m:=m) (base:=base) (W:=W) (R:=R) (dx:=dx) (dy:=dy) g k
  unfold runN
  rw [hg]
  exact ⟨_,rfl⟩
set_option maxHeartbeats 1000000 in
theorem Og {h0 h:Heap} {FF:List Nat} {p q r m n0:Nat} {s:Cod} {rest:List Value} (H:Hp h0 FF h (ju p q r s rest)) (hc:CodOk m n0 s) (hm1:1<=m) (hm2:m<=131072) {base:Int} (hbase:base<=1000000000)
  {w b w2 b2:Int} {q1 q2:Option Addr} {c1 c2:Nat} {ws ws2:List Nat} (hr1:rdO h q1 (ws.length*1) (il ws)) (hw1:W64 ws) (hl1:ws.length<140737488351300) (hr2:∀ h',gi h h'->rdO h' q2 (ws2.length*1) (il ws2)) (hw2:W64 ws2) (hl2:ws2.length<140737488351300)
  {dx dy:Int} (hN:sE w b ws->n0+b.toNat*w.toNat<=16777216) {K:VK} {Kp:PK}
  (hk62:∀ h',¬ (sE w b ws/\sE w2 b2 ws2)->Hp h0 FF h' (ju p q r s rest)->K (.int .i64 62) h')
  (hk70:∀ h',sE w b ws/\sE w2 b2 ws2->¬ Aj dx dy->Hp h0 FF h' (ju p q r s rest)->K (.int .i64 70) h')
  (hk51:∀ h',sE w b ws/\sE w2 b2 ws2->Aj dx dy->¬ (0<=base/\base<=(m:Int)-8192)->Hp h0 FF h' (ju p q r s rest)->K (.int .i64 51) h')
  (hk0:∀ s' r' rest' G h',sE w b ws/\sE w2 b2 ws2->Aj dx dy->0<=base/\base<=(m:Int)-8192->Rb m base w.toNat b.toNat w2.toNat b2.toNat ws ws2 dx dy s = .inl (G,s')->CodOk m (n0+b.toNat*w.toNat) s'->Hp h0 FF h' (ju p q r' s' rest')->K (.int .i64 0) h') :
  CP uy #[.pointer (at0 p),.int .i64 base,.agg #[.int .i64 w,.int .i64 b,.slice q1 ws.length c1],.agg #[.int .i64 w2,.int .i64 b2,.slice q2 ws2.length c2],.int .i64 dx,.int .i64 dy] h K Kp:=by
 refine EH ?_
 unfold BF
 refine qK H fun r7 h1 x1 H=>?_
 refine qK H fun r9 h2 x2 H=>?_
 refine qK H fun r11 h3 x3 H=>?_
 refine qK H fun r13 h4 x4 H=>?_
 have x:=((x1.trans x2).trans x3).trans x4
 clear x1 x2 x3 x4
 refine ja (H.cell 3 rfl (i:=0) rfl) ?_
 refine fZ (by rfl) ?_
 refine fz (Hp.kH H 5 rfl (i:=0) rfl) ?_
 refine fz (Hp.kH H 5 rfl (i:=1) rfl) ?_
 refine fU (Hp.kH H 5 rfl (i:=2) rfl) ?_
 refine CG (oa x hr1) hw1 hl1 (fun W X p1 qs srest h5 hwW hbX hm H'=>?_) fun h5 hm e5=>?_
 ·subst hwW hbX
  have x5:=x.trans H'.gi
  replace H:=H.join H' rfl
  clear H'
  refine ⟨_,_,rfl,?_⟩
  refine fz (Hp.kH H 6 rfl (i:=0) rfl) ?_
  refine fz (Hp.kH H 6 rfl (i:=1) rfl) ?_
  refine fU (Hp.kH H 6 rfl (i:=2) rfl) ?_
  refine CG (hr2 _ x5) hw2 hl2 (fun W2 X2 p2 qs2 srest2 h6 hwW2 hbX2 hm2' H'=>?_) fun h6 hm2' e6=>?_
  ·subst hwW2 hbX2
   replace H:=H.join H' rfl
   clear H'
   refine ⟨_,_,rfl,?_⟩
   refine ⟨fun vs h'=>h'=h6/\vs=[.bool false],fZ rfl ⟨rfl,rfl⟩,?_⟩
   rintro h' u xx ⟨rfl,hxx⟩
   injection hxx with hxx
   injection hxx with hxx
   subst hxx
   refine fZ (by rfl) ?_
   refine G6 fun bb hbb=>?_
   refine ⟨_,rfl,?_⟩
   refine iM (fun h1=>?_) fun h1=>?_
   ·exact hk70 _ ⟨hm,hm2'⟩ (fun hsh=>by rw [hbb.2 hsh] at h1; cases h1) (H.take 3)
   have hsh:=hbb.1 h1
   refine fz (H.cell 4 rfl (i:=0) rfl) ?_
   refine ja (H.cell 3 rfl (i:=0) rfl) ?_
   refine gv (a:=⟨p,0,none⟩) ?_
   rw [gC,fN]
   refine Go.Ar.qx (n:=s.st.length) H 0 rfl ?_
   refine ⟨_,rfl,gi.refl _,?_⟩
   rw [hc.len]
   refine J3 (by omega) fun bf hbf=>?_
   refine ⟨_,rfl,?_⟩
   refine iM (fun h2=>?_) fun h2=>?_
   ·exact hk51 _ ⟨hm,hm2'⟩ hsh (fun hh=>by rw [hbf.2 hh] at h2; cases h2) (H.take 3)
   have hft:=hbf.1 h2
   have hX:X*W<=16777216-n0/\n0+X*W<=16777216:=by have:=hN hm; simp only [fD] at this; omega
   have HH:=H.pick [7,8,9,10,0,1,2,3,4] (by decide) (L':=[ph p1 qs W X ws.length (ws.length+srest.length),⟨qs,true,gj,il ws++srest⟩,ph p2 qs2 W2 X2 ws2.length (ws2.length+srest2.length),⟨qs2,true,gj,il ws2++srest2⟩]++(ju p q r s rest++[⟨r7,true,jW,[.pointer (at0 p)]⟩,⟨r9,true,gQ,[.int .i64 base]⟩])) rfl
   refine N7 (σ:=Cod) (S:=SP p q r7 r9 base) (Ok:=fun k s=>CodOk m (n0+k) s) (step:=yA m base) (fun s M hM=>by obtain ⟨r,rest,rfl⟩:=hM; rfl) (M6 ⟨by omega,by omega⟩ hm1 hm2 hX.2) ⟨r,rest,rfl⟩ HH rfl rfl hm.1 (xR hm) hw1 (fun y hy x h1 h2=>FI hm hy h1 h2) hm2'.1 (xR hm2') hw2 hsh.1 hsh.2 hc (fun ws' s' M h' T hM hrun _ _ _ hok' H'=>?_) fun e ws' s' M h' T hM hrun _ _ H'=>?_
   ·obtain ⟨r',rest',rfl⟩:=hM
    refine ⟨_,rfl,?_⟩
    refine hk0 s' r' rest' _ h' ⟨hm,hm2'⟩ hsh hft hrun (by simpa using hok') ?_
    exact Hp.pre (Hp.suf (Hp.suf H'))
   ·obtain ⟨g',hg⟩:=Hc (m:=m) (base:=base) (W:=W) (R:=jR ws2 W2 X2) (dx:=dx) (dy:=dy) (jR ws W X,s) (X*W)
    rw [hg] at hrun
    cases hrun
  ·have H:=H.ext e6
   refine ⟨_,_,rfl,?_⟩
   refine ⟨fun vs h'=>h'=h6/\vs=[.bool true],fZ rfl ⟨rfl,rfl⟩,?_⟩
   rintro h' u xx ⟨rfl,hxx⟩
   injection hxx with hxx
   injection hxx with hxx
   subst hxx
   refine gN (by rfl) ?_
   exact hk62 _ (fun hh=>hm2' hh.2) (H.take 3)
 ·have H:=H.ext e5
  have x5:=x.trans e5
  refine ⟨_,_,rfl,?_⟩
  refine fz (Hp.kH H 6 rfl (i:=0) rfl) ?_
  refine fz (Hp.kH H 6 rfl (i:=1) rfl) ?_
  refine fU (Hp.kH H 6 rfl (i:=2) rfl) ?_
  have fin:∀ (h6:Heap) (z:Int),Hp h0 FF h6 (ju p q r s rest)->K (.int .i64 62) h6:=fun h6 z H=>hk62 _ (fun hh=>hm hh.1) H
  refine CG (hr2 _ x5) hw2 hl2 (fun W2 X2 p2 qs2 srest2 h6 hwW2 hbX2 hm2' H'=>?_) fun h6 hm2' e6=>?_
  ·replace H:=H.join H' rfl
   refine ⟨_,_,rfl,?_⟩
   refine ⟨fun vs h'=>h'=h6/\vs=[.bool true],gN rfl ⟨rfl,rfl⟩,?_⟩
   rintro h' u xx ⟨rfl,hxx⟩
   injection hxx with hxx
   injection hxx with hxx
   subst hxx
   refine gN (by rfl) ?_
   exact fin _ 0 (H.take 3)
  ·have H:=H.ext e6
   refine ⟨_,_,rfl,?_⟩
   refine ⟨fun vs h'=>h'=h6/\vs=[.bool true],gN rfl ⟨rfl,rfl⟩,?_⟩
   rintro h' u xx ⟨rfl,hxx⟩
   injection hxx with hxx
   injection hxx with hxx
   subst hxx
   refine gN (by rfl) ?_
   exact fin _ 0 (H.take 3)
end Go.Bm
namespace Go.Den.YtbknfejmdekhpaaGreat
open Go Go.Den
def wD (C:gl) (c:Option Addr) (base ab ac:Int) (ad:Option Addr) (F G:Nat) (v w:Int) (x:Option Addr) (m n:Nat) (dx dy:Int) (h:Heap) (K:VK) (Kp:PK):Prop :=
gE h [.int .i64 ab,.int .i64 ac,.slice ad F G] fK fun b ae=>
gE ae [.int .i64 v,.int .i64 w,.slice x m n] fK fun o H=>
∃ j:Nat->List Value->Heap->Prop,(∃ f,j f [.int .i64 0] H)/\∀ (f:Nat) (g:Heap) (af:Nat->Value) (d:Int),j f [.int .i64 d] g->(
ldI g (.add ⟨b,0,none⟩ 1) .i64 fun I=>
fI (decide (d<I)) (
∃ k:Nat->List Value->Heap->Prop,(∃ i,k i [.int .i64 0] g)/\∀ (i:Nat) (a:Heap) (ag:Nat->Value) (e:Int),k i [.int .i64 e] a->(
ldI a (.add ⟨b,0,none⟩ 0) .i64 fun J=>
fI (decide (e<J)) (
ldI a (.add ⟨b,0,none⟩ 0) .i64 fun L=>
ldI a (.add ⟨b,0,none⟩ 1) .i64 fun M=>
ldS a (.add ⟨b,0,none⟩ 2) fun N y z=>
ldI a (.add ⟨o,0,none⟩ 0) .i64 fun O=>
ldI a (.add ⟨o,0,none⟩ 1) .i64 fun P=>
ldS a (.add ⟨o,0,none⟩ 2) fun Q A B=>
ldI a (.add ⟨b,0,none⟩ 0) .i64 fun R=>
ldI a (.add ⟨b,0,none⟩ 1) .i64 fun S=>
ldS a (.add ⟨b,0,none⟩ 2) fun T D E=>
C vn #[.agg #[.int .i64 L,.int .i64 M,.slice N y z],.agg #[.int .i64 O,.int .i64 P,.slice Q A B],.int .i64 dx,.int .i64 dy,.int .i64 e,.int .i64 d] a (fun U p=>
∃ (q:Int),U = .int .i64 q/\(
gi a p/\(
fG (IntKind.i64.wrap (base+q)) fun V=>
C jJ #[.agg #[.int .i64 R,.int .i64 S,.slice T D E],.int .i64 e,.int .i64 d] p (fun W X=>
∃ (r:Int),W = .int .i64 r/\(
C jG #[.pointer c,.int .i64 V,.int .i64 r] X (fun Y s=>
∃ (l:Int),Y = .int .i64 l/\(
fI (l != (0:Int)) (
K (.int .i64 l) s)<|
fG (IntKind.i64.wrap (e+(1:Int))) fun Z=>
∃ t,t<i/\k t [.int .i64 Z] s)) (Kp))) (Kp)))) (Kp))<|
fG (IntKind.i64.wrap (d+(1:Int))) fun aa=>
∃ u,u<f/\j u [.int .i64 aa] a))<|
K (.int .i64 0) g)
def yk (C:gl) (aL aM:Int) (aN:Option Addr) (R S:Nat) (D E:Int) (F:Option Addr) (q r:Nat) (dx dy x y:Int) (h:Heap) (K:VK) (Kp:PK):Prop :=
gE h [.int .i64 aL,.int .i64 aM,.slice aN R S] fK fun a aO=>
gE aO [.int .i64 D,.int .i64 E,.slice F q r] fK fun s c=>
ldI c (.add ⟨a,0,none⟩ 0) .i64 fun T=>
ldI c (.add ⟨a,0,none⟩ 1) .i64 fun U=>
ldS c (.add ⟨a,0,none⟩ 2) fun V G H=>
fG (IntKind.i64.wrap (x-(1:Int))) fun W=>
fG (IntKind.i64.wrap (y-(1:Int))) fun X=>
C jJ #[.agg #[.int .i64 T,.int .i64 U,.slice V G H],.int .i64 W,.int .i64 X] c (fun Y d=>
∃ (t:Int),Y = .int .i64 t/\(
fG (IntKind.i64.wrap ((2:Int)*t)) fun Z=>
ldI d (.add ⟨a,0,none⟩ 0) .i64 fun aa=>
ldI d (.add ⟨a,0,none⟩ 1) .i64 fun ab=>
ldS d (.add ⟨a,0,none⟩ 2) fun ac I J=>
fG (IntKind.i64.wrap (y-(1:Int))) fun ad=>
C jJ #[.agg #[.int .i64 aa,.int .i64 ab,.slice ac I J],.int .i64 x,.int .i64 ad] d (fun ae e=>
∃ (u:Int),ae = .int .i64 u/\(
fG (IntKind.i64.wrap (Z+u)) fun af=>
fG (IntKind.i64.wrap ((2:Int)*af)) fun ag=>
ldI e (.add ⟨a,0,none⟩ 0) .i64 fun ah=>
ldI e (.add ⟨a,0,none⟩ 1) .i64 fun ai=>
ldS e (.add ⟨a,0,none⟩ 2) fun aj L M=>
fG (IntKind.i64.wrap (x+(1:Int))) fun ak=>
fG (IntKind.i64.wrap (y-(1:Int))) fun al=>
C jJ #[.agg #[.int .i64 ah,.int .i64 ai,.slice aj L M],.int .i64 ak,.int .i64 al] e (fun am f=>
∃ (v:Int),am = .int .i64 v/\(
fG (IntKind.i64.wrap (ag+v)) fun an=>
fG (IntKind.i64.wrap ((2:Int)*an)) fun ao=>
ldI f (.add ⟨a,0,none⟩ 0) .i64 fun ap=>
ldI f (.add ⟨a,0,none⟩ 1) .i64 fun aq=>
ldS f (.add ⟨a,0,none⟩ 2) fun ar N O=>
fG (IntKind.i64.wrap (x-(1:Int))) fun au=>
C jJ #[.agg #[.int .i64 ap,.int .i64 aq,.slice ar N O],.int .i64 au,.int .i64 y] f (fun av aw=>
∃ (w:Int),av = .int .i64 w/\(
fG (IntKind.i64.wrap (ao+w)) fun ax=>
∃ l:Nat->List Value->Heap->Prop,(∃ g,l g [.int .i64 ax,.int .i64 (-1)] aw)/\∀ (g:Nat) (m:Heap) (aP:Nat->Value) (n i:Int),l g [.int .i64 n,.int .i64 i] m->(
fI (decide (i<=(1:Int))) (
∃ o:Nat->List Value->Heap->Prop,(∃ j,o j [.int .i64 n,.int .i64 (-1)] m)/\∀ (j:Nat) (b:Heap) (aQ:Nat->Value) (p k:Int),o j [.int .i64 p,.int .i64 k] b->(
fI (decide (k<=(1:Int))) (
fG (IntKind.i64.wrap ((2:Int)*p)) fun ay=>
ldI b (.add ⟨s,0,none⟩ 0) .i64 fun az=>
ldI b (.add ⟨s,0,none⟩ 1) .i64 fun aA=>
ldS b (.add ⟨s,0,none⟩ 2) fun aB P Q=>
fG (IntKind.i64.wrap (x-dx)) fun aC=>
fG (IntKind.i64.wrap (aC+k)) fun aD=>
fG (IntKind.i64.wrap (y-dy)) fun aE=>
fG (IntKind.i64.wrap (aE+i)) fun aF=>
C jJ #[.agg #[.int .i64 az,.int .i64 aA,.slice aB P Q],.int .i64 aD,.int .i64 aF] b (fun aG aH=>
∃ (z:Int),aG = .int .i64 z/\(
fG (IntKind.i64.wrap (ay+z)) fun aI=>
fG (IntKind.i64.wrap (k+(1:Int))) fun aJ=>
∃ A,A<j/\o A [.int .i64 aI,.int .i64 aJ] aH)) (Kp))<|
fG (IntKind.i64.wrap (i+(1:Int))) fun aK=>
∃ B,B<g/\l B [.int .i64 p,.int .i64 aK] b))<|
K (.int .i64 n) m))) (Kp))) (Kp))) (Kp))) (Kp)
theorem B1 {c:Option Addr} {base k l:Int} {m:Option Addr} {g j:Nat} {d e:Int} {f:Option Addr} {a b:Nat} {dx dy:Int} {h:Heap} {K:VK} {Kp:PK} (H:wD QP c base k l m g j d e f a b dx dy h K Kp):QP pV #[.pointer c,.int .i64 base,.agg #[.int .i64 k,.int .i64 l,.slice m g j],.agg #[.int .i64 d,.int .i64 e,.slice f a b],.int .i64 dx,.int .i64 dy] h K Kp :=
 fJ (Hints.mk (fun i=>bif Nat.beq i 7 then some ([13,14],.take 0 <| .take 1 <| .take 4 <| .take 5 <| .take 6 <| .take 7 <| .take 11 <| .take 12 <| .take 2 <| .take 3 <| .take 10 <| .go 8 <| .take 9 <| .bar 13 [14] <| .bar 14 [] <| .take 15 <| .done) else (none)) (fun i=>bif Nat.beq i 2 then some ([(13,.int .i64)],70368744173568) else (bif Nat.beq i 5 then some ([(14,.int .i64)],70368740036608) else (none))) (fun i=>none) []) (by kernel_rfl) Go.Proofs.Tryz.func107 (by kernel_rfl) (fun C=>wD C c base k l m g j d e f a b dx dy h K Kp) (fun C=>by kernel_rfl) H
theorem CR {j k:Int} {l:Option Addr} {f g:Nat} {c d:Int} {e:Option Addr} {a b:Nat} {dx dy x y:Int} {h:Heap} {K:VK} {Kp:PK} (H:yk QP j k l f g c d e a b dx dy x y h K Kp):QP vn #[.agg #[.int .i64 j,.int .i64 k,.slice l f g],.agg #[.int .i64 c,.int .i64 d,.slice e a b],.int .i64 dx,.int .i64 dy,.int .i64 x,.int .i64 y] h K Kp :=
 fJ (Hints.mk (fun i=>none) (fun i=>bif Nat.beq i 6 then some ([(13,.int .i64),(14,.int .i64)],1180591479979923005440) else (bif Nat.beq i 9 then some ([(13,.int .i64),(15,.int .i64)],1180589368917597659136) else (none))) (fun i=>none) []) (by kernel_rfl) Go.Proofs.Tryz.func157 (by kernel_rfl) (fun C=>yk C j k l f g c d e a b dx dy x y h K Kp) (fun C=>by kernel_rfl) H
end Go.Den.YtbknfejmdekhpaaGreat
namespace Go.Bm
open Go Go.Den Go.Den.YtbknfejmdekhpaaGreat
def qu (B R:Int->Int->Bool) (dx dy x y:Int) (d e:Nat):List Bool:=BI B x y++m8 R dx dy x y d++(Fx R dx x (y+((d:Int)-1)-dy)).take e
theorem Oq (B R:Int->Int->Bool) (dx dy x y:Int) {d e:Nat} (hd:3*d+e<=9):mz 0 (qu B R dx dy x y d e)<8192:=by
 have:=Ac (qu B R dx dy x y d e) 0 0 (by decide)
 have hl:(qu B R dx dy x y d e).length<=4+3*d+e:=by
  unfold qu
  rw [fA,fA,Dq,iC]
  have:(BI B x y).length=4:=rfl
  omega
 exact iK this (im (n:=2) (by decide) (show 0+(qu B R dx dy x y d e).length<=13 by omega))
theorem Sq (R:Int->Int->Bool) (dx x Y:Int):∀ e,e<3->(Fx R dx x Y).take (e+1)=(Fx R dx x Y).take e++[R (x-dx+((e:Int)-1)) Y]
 | 0,_=>by rw [show x-dx+(((0:Nat):Int)-1)=x-1-dx by omega]; rfl
 | 1,_=>by rw [show x-dx+(((1:Nat):Int)-1)=x-dx by omega]; rfl
 | 2,_=>by rw [show x-dx+(((2:Nat):Int)-1)=x+1-dx by omega]; rfl
theorem KR (B R:Int->Int->Bool) (dx dy x y:Int) {d e:Nat} (he:e<3):mz 0 (qu B R dx dy x y d (e+1))=2*mz 0 (qu B R dx dy x y d e)+(R (x-dx+((e:Int)-1)) (y+((d:Int)-1)-dy)).toNat:=by
 unfold qu
 rw [Sq _ _ _ _ e he,<- fC,D0 _ [_]]
 rfl
theorem M9 (B R:Int->Int->Bool) (dx dy x y:Int) (d:Nat):qu B R dx dy x y d 3=qu B R dx dy x y (d+1) 0:=by
 unfold qu
 rw [nu,fT,m8,fC]
 rfl
set_option maxHeartbeats 1000000 in
theorem Mu {hB:Heap} {W X W2 X2:Nat} {q1 q2:Option Addr} {c1 c2:Nat} {ws ws2:List Nat} (hr1:rdO hB q1 (ws.length*1) (il ws)) (hr2:rdO hB q2 (ws2.length*1) (il ws2)) (hw:W64 ws) (hw2:W64 ws2)
  (hs:jX (W:Int) (X:Int)) (hl:ws.length=X*wds W) (hs2:jX (W2:Int) (X2:Int)) (hl2:ws2.length=X2*wds W2) {dx dy:Int} (hdx:-1048576<=dx/\dx<=1048576) (hdy:-1048576<=dy/\dy<=1048576) {x y:Nat} (hx:x<1048577) (hy:y<1048577)
  {K:VK} {Kp:PK} (hk:∀ h,gi hB h->K (.int .i64 ((CM (jR ws W X) (jR ws2 W2 X2) dx dy x y:Nat):Int)) h) :
  CP vn #[.agg #[.int .i64 (W:Nat),.int .i64 (X:Nat),.slice q1 ws.length c1],.agg #[.int .i64 (W2:Nat),.int .i64 (X2:Nat),.slice q2 ws2.length c2],.int .i64 dx,.int .i64 dy,.int .i64 (x:Nat),.int .i64 (y:Nat)] hB K Kp:=by
 refine CR ?_
 unfold yk
 have H:=Hp.nil hB []
 refine fV H fun r7 h H=>?_
 refine fV H fun r9 h H=>?_
 have g1:∀ {h:Heap},Hp hB [] h [⟨r7,true,fK,[.int .i64 (W:Nat),.int .i64 (X:Nat),.slice q1 ws.length c1]⟩,⟨r9,true,fK,[.int .i64 (W2:Nat),.int .i64 (X2:Nat),.slice q2 ws2.length c2]⟩]->∀ (a b:Int) (K:VK) (Kp:PK),
   (∀ h,Hp hB [] h [⟨r7,true,fK,[.int .i64 (W:Nat),.int .i64 (X:Nat),.slice q1 ws.length c1]⟩,⟨r9,true,fK,[.int .i64 (W2:Nat),.int .i64 (X2:Nat),.slice q2 ws2.length c2]⟩]->K (.int .i64 ((jR ws W X a b).toNat:Nat)) h) ->
   CP jJ #[.agg #[.int .i64 (W:Nat),.int .i64 (X:Nat),.slice q1 ws.length c1],.int .i64 a,.int .i64 b] h K Kp:=fun H a b K Kp hk=>wv (H.rdO hr1) hw hs hl fun h' e=>hk h' (H.ext e)
 have g2:∀ {h:Heap},Hp hB [] h [⟨r7,true,fK,[.int .i64 (W:Nat),.int .i64 (X:Nat),.slice q1 ws.length c1]⟩,⟨r9,true,fK,[.int .i64 (W2:Nat),.int .i64 (X2:Nat),.slice q2 ws2.length c2]⟩]->∀ (a b:Int) (K:VK) (Kp:PK),
   (∀ h,Hp hB [] h [⟨r7,true,fK,[.int .i64 (W:Nat),.int .i64 (X:Nat),.slice q1 ws.length c1]⟩,⟨r9,true,fK,[.int .i64 (W2:Nat),.int .i64 (X2:Nat),.slice q2 ws2.length c2]⟩]->K (.int .i64 ((jR ws2 W2 X2 a b).toNat:Nat)) h) ->
   CP jJ #[.agg #[.int .i64 (W2:Nat),.int .i64 (X2:Nat),.slice q2 ws2.length c2],.int .i64 a,.int .i64 b] h K Kp:=fun H a b K Kp hk=>wv (H.rdO hr2) hw2 hs2 hl2 fun h' e=>hk h' (H.ext e)
 have H:Hp hB [] h [⟨r7,true,fK,[.int .i64 (W:Nat),.int .i64 (X:Nat),.slice q1 ws.length c1]⟩,⟨r9,true,fK,[.int .i64 (W2:Nat),.int .i64 (X2:Nat),.slice q2 ws2.length c2]⟩]:=H
 generalize jR ws W X=GG at g1 hk
 generalize jR ws2 W2 X2=RR at g2 hk
 have t1:=toNat_le (GG ((x:Int)-1) ((y:Int) + -1))
 have t2:=toNat_le (GG (x:Int) ((y:Int) + -1))
 have t3:=toNat_le (GG ((x:Int)+1) ((y:Int) + -1))
 have t4:=toNat_le (GG ((x:Int)-1) (y:Int))
 refine fz (Hp.kH H 0 rfl (i:=0) rfl) ?_
 refine fz (Hp.kH H 0 rfl (i:=1) rfl) ?_
 refine fU (Hp.kH H 0 rfl (i:=2) rfl) ?_
 refine fw (((x:Int)-1)) (by exact i64_in _ (by omega) (by omega)) ?_
 refine fw (((y:Int) + -1)) (by exact fO _ _ (by omega) (by omega) (by omega)) ?_
 refine g1 H _ _ _ _ fun h H=>?_
 refine ⟨_,rfl,?_⟩
 refine fw (((2*(GG ((x:Int)-1) ((y:Int) + -1)).toNat:Nat):Int)) (by exact fO _ _ (by omega) (by omega) (by omega)) ?_
 refine fz (Hp.kH H 0 rfl (i:=0) rfl) ?_
 refine fz (Hp.kH H 0 rfl (i:=1) rfl) ?_
 refine fU (Hp.kH H 0 rfl (i:=2) rfl) ?_
 refine fw (((y:Int) + -1)) (by exact fO _ _ (by omega) (by omega) (by omega)) ?_
 refine g1 H _ _ _ _ fun h H=>?_
 refine ⟨_,rfl,?_⟩
 refine fw (((2*(GG ((x:Int)-1) ((y:Int) + -1)).toNat+(GG (x:Int) ((y:Int) + -1)).toNat:Nat):Int)) (by exact fO _ _ (by omega) (by omega) (by omega)) ?_
 refine fw (((2*(2*(GG ((x:Int)-1) ((y:Int) + -1)).toNat+(GG (x:Int) ((y:Int) + -1)).toNat):Nat):Int)) (by exact fO _ _ (by omega) (by omega) (by omega)) ?_
 refine fz (Hp.kH H 0 rfl (i:=0) rfl) ?_
 refine fz (Hp.kH H 0 rfl (i:=1) rfl) ?_
 refine fU (Hp.kH H 0 rfl (i:=2) rfl) ?_
 refine fw (((x:Int)+1)) (by exact i64_in _ (by omega) (by omega)) ?_
 refine fw (((y:Int) + -1)) (by exact fO _ _ (by omega) (by omega) (by omega)) ?_
 refine g1 H _ _ _ _ fun h H=>?_
 refine ⟨_,rfl,?_⟩
 refine fw (((2*(2*(GG ((x:Int)-1) ((y:Int) + -1)).toNat+(GG (x:Int) ((y:Int) + -1)).toNat)+(GG ((x:Int)+1) ((y:Int) + -1)).toNat:Nat):Int)) (by exact fO _ _ (by omega) (by omega) (by omega)) ?_
 refine fw (((2*(2*(2*(GG ((x:Int)-1) ((y:Int) + -1)).toNat+(GG (x:Int) ((y:Int) + -1)).toNat)+(GG ((x:Int)+1) ((y:Int) + -1)).toNat):Nat):Int)) (by exact fO _ _ (by omega) (by omega) (by omega)) ?_
 refine fz (Hp.kH H 0 rfl (i:=0) rfl) ?_
 refine fz (Hp.kH H 0 rfl (i:=1) rfl) ?_
 refine fU (Hp.kH H 0 rfl (i:=2) rfl) ?_
 refine fw (((x:Int)-1)) (by exact i64_in _ (by omega) (by omega)) ?_
 refine g1 H _ _ _ _ fun h H=>?_
 refine ⟨_,rfl,?_⟩
 have e0:mz 0 (qu GG RR dx dy x y 0 0)=2*(2*(2*(GG ((x:Int)-1) ((y:Int) + -1)).toNat+(GG (x:Int) ((y:Int) + -1)).toNat)+(GG ((x:Int)+1) ((y:Int) + -1)).toNat)+(GG ((x:Int)-1) (y:Int)).toNat:=by
  simp only [qu,m8,BI,nu,fT,mz,Int.add_zero]
  omega
 refine fw (((mz 0 (qu GG RR dx dy x y 0 0):Nat):Int)) (by exact fO _ _ (by rw [e0]; omega) (by omega) (by omega)) ?_
 refine ⟨fun n vs h'=>∃ d:Nat,d+n=3/\vs=[.int .i64 ((mz 0 (qu GG RR dx dy x y d 0):Nat):Int),.int .i64 ((d:Int)-1)]/\Hp hB [] h' [⟨r7,true,fK,[.int .i64 (W:Nat),.int .i64 (X:Nat),.slice q1 ws.length c1]⟩,⟨r9,true,fK,[.int .i64 (W2:Nat),.int .i64 (X2:Nat),.slice q2 ws2.length c2]⟩],⟨3,0,rfl,rfl,H⟩,?_⟩
 clear H
 rintro k h u n1 n2 ⟨d,hdk,hvs,H⟩
 injection hvs with hv1 hv2
 injection hv1 with _ hv1
 injection hv2 with hv2
 injection hv2 with _ hv2
 subst hv1 hv2
 refine fL (fun h3=>?_) fun h3=>?_
 ·refine ⟨fun n vs h'=>∃ e:Nat,e+n=3/\vs=[.int .i64 ((mz 0 (qu GG RR dx dy x y d e):Nat):Int),.int .i64 ((e:Int)-1)]/\Hp hB [] h' [⟨r7,true,fK,[.int .i64 (W:Nat),.int .i64 (X:Nat),.slice q1 ws.length c1]⟩,⟨r9,true,fK,[.int .i64 (W2:Nat),.int .i64 (X2:Nat),.slice q2 ws2.length c2]⟩],⟨3,0,rfl,rfl,H⟩,?_⟩
  clear H
  rintro k' h u n1 n2 ⟨e,hek,hvs,H⟩
  injection hvs with hv1 hv2
  injection hv1 with _ hv1
  injection hv2 with hv2
  injection hv2 with _ hv2
  subst hv1 hv2
  refine fL (fun h4=>?_) fun h4=>?_
  ·have hb:=Oq GG RR dx dy x y (d:=d) (e:=e) (by omega)
   have hb2:=toNat_le (RR ((x:Int)-dx+((e:Int)-1)) ((y:Int)+((d:Int)-1)-dy))
   have hsucc:=KR GG RR dx dy x y (d:=d) (e:=e) (by omega)
   refine fw (((2*mz 0 (qu GG RR dx dy x y d e):Nat):Int)) (by exact fO _ _ (by omega) (by omega) (by omega)) ?_
   refine fz (Hp.kH H 1 rfl (i:=0) rfl) ?_
   refine fz (Hp.kH H 1 rfl (i:=1) rfl) ?_
   refine fU (Hp.kH H 1 rfl (i:=2) rfl) ?_
   refine fw (((x:Int)-dx)) (by exact i64_in _ (by omega) (by omega)) ?_
   refine fw (((x:Int)-dx+((e:Int)-1))) (by exact i64_in _ (by omega) (by omega)) ?_
   refine fw (((y:Int)-dy)) (by exact i64_in _ (by omega) (by omega)) ?_
   refine fw (((y:Int)+((d:Int)-1)-dy)) (by exact fO _ _ (by omega) (by omega) (by omega)) ?_
   refine g2 H _ _ _ _ fun h H=>?_
   refine ⟨_,rfl,?_⟩
   refine fw (((mz 0 (qu GG RR dx dy x y d (e+1)):Nat):Int)) (by exact fO _ _ (by rw [hsucc]; omega) (by omega) (by omega)) ?_
   refine fw ((((e+1:Nat):Int)-1)) (by exact fO _ _ (by omega) (by omega) (by omega)) ?_
   exact ⟨k'-1,by omega,e+1,by omega,rfl,H⟩
  ·obtain rfl:e=3:=by omega
   refine fw ((((d+1:Nat):Int)-1)) (by exact fO _ _ (by omega) (by omega) (by omega)) ?_
   exact ⟨k-1,by omega,d+1,by omega,by rw [M9],H⟩
 ·obtain rfl:d=3:=by omega
  have e3:mz 0 (qu GG RR dx dy x y 3 0)=CM GG RR dx dy x y:=by unfold qu CM; rw [nu,fT]
  rw [e3]
  exact hk _ H.gi
theorem I9 (G:Int->Int->Bool) (a b:Int):upd G a b (G a b)=G:=by
 funext x y
 unfold upd
 by_cases h:x=a/\y=b
 ·rw [if_pos h,h.1,h.2]
 ·rw [if_neg h]
section
variable {hB:Heap} {w b w2 b2:Int} {q1 q2:Option Addr} {c1 c2:Nat} {ws ws2:List Nat} {dx dy:Int} {K:VK} {Kp:PK}
end
end Go.Bm
