/- W3: put together by wip/tools/bundle.py: ArB ArC ArD ArK Mburinkit Bburinkit ArE ArF ArG Mburinref4 Bburinref4 ArR ArS ArT ArU ArV ArW ArX ArH ArY Mpage Bpage Mburinref15 Bburinref15 PgA PgB Mlaw15x Blaw15x PgC PgD PgF RfE RfF RfG RfH RfI RfJ RfK BkA BkB BkC BkD RfL BkE RfM Au Mcontext Bcontext Mgeneric Bgeneric Mburinref6 Bburinref6 GnA. -/
import Derived.Test.YtfaclehehhgpcaaGreatW1
import Derived.Test.YtfaclehehhgpcaaGreatW2
import Derived.Test.YtfaclehehhgpcaaGreatProg
set_option linter.unusedVariables false
set_option linter.unusedSimpArgs false
set_option maxRecDepth 100000
namespace Go.Ar
open Go Go.Den Go.Den.YtfaclehehhgpcaaGreat
def u8s (l:List Nat):List Value:=l.map fun x:Nat => .int .u8 (x:Int)
theorem u8s_length (l:List Nat):(u8s l).length=l.length:=by simp [u8s]
theorem u8s_get {l:List Nat} {i x:Nat} (h:l[i]? = some x):(u8s l)[i]? = some (.int .u8 (x:Int)):=by
 unfold u8s; rw [List.getElem?_map,h]; rfl
theorem u8s_set (l:List Nat) (i x:Nat):u8s (l.set i x)=(u8s l).set i (.int .u8 (x:Int)):=by simp [u8s,List.map_set]
theorem u8s_cells (l:List Nat):∀ v∈u8s l,v.oneCell'=true:=fun v hv=>by
 obtain ⟨x,_,rfl⟩:=List.mem_map.1 hv; rfl
theorem get_app {R T:List Value} {i:Nat} {v:Value} (h:R[i]? = some v):(R++T)[i]? = some v:=by
 rw [List.getElem?_append_left (List.getElem?_eq_some_iff.1 h).1]; exact h
theorem set_app {R T:List Value} {i:Nat} {v:Value} (h:i<R.length):(R++T).set i v=R.set i v++T:=List.set_append_left _ _ h
def rowC (r:Nat):List Value:=[.int .u32 (qOf r:Nat), .int .u8 (mOf r:Nat), .int .u8 (lOf r:Nat), .int .u8 (cOf r:Nat)]
def rowsN:Nat->List Value
 | 0=>[]
 | n+1=>rowsN n++rowC n
theorem rowsN_length:∀ n,(rowsN n).length=4*n
 | 0=>rfl
 | n+1=>by rw [rowsN,List.length_append,rowsN_length n]; show 4*n+4=_; omega
theorem rowsN_get:∀ {n r j:Nat} {v:Value},r<n->(rowC r)[j]? = some v->(rowsN n)[4*r+j]? = some v
 | 0,r,j,v,h,_=>by omega
 | n+1,r,j,v,h,hv=>by
  rw [rowsN]
  have hj:j<4:=(List.getElem?_eq_some_iff.1 hv).1
  rcases Nat.lt_or_ge r n with h1 | h1
  ·exact get_app (rowsN_get h1 hv)
  ·have:r=n:=by omega
   subst this
   exact app_get (rowsN_length r) j hv
def rowsV:List Value:=rowsN 47
theorem hR:rowsV.length=188:=rowsN_length 47
def crest (q:Nat) (nst n a c:Nat) (t:Int) (r:Nat) (bl bc:Nat) (done:Bool):List Value :=
 [.slice (some ⟨q,0,none⟩) nst nst, .int .i64 (n:Nat), .int .u32 (a:Nat), .int .u32 (c:Nat), .int .i64 t, .slice (some ⟨r,0,none⟩) bl bc, .bool done]
def codE (p q r:Nat) (s:Cod) (rest:List Value):Ent :=
 ⟨p,true,T_arith_Coder,rowsV++crest q s.st.length s.n s.a s.c (s.t:Nat) r (s.bs.length+1) (s.bs.length+1+rest.length) s.done⟩
def codL (p q r:Nat) (s:Cod) (rest:List Value):List Ent :=
 [codE p q r s rest,⟨q,true,T_uint8,u8s s.st⟩,⟨r,true,T_uint8,u8s (s.bs++[s.l])++rest⟩]
abbrev CP:CallP:=CallsHP Go.Proofs.Tryz.prog
abbrev at0 (p:Nat):Option Addr:=some ⟨p,0,none⟩
theorem last_get (bs:List Nat) (l:Nat) (rest:List Value):(u8s (bs++[l])++rest)[bs.length]? = some (.int .u8 (l:Int)):=get_app (u8s_get (by simp))
theorem last_set (bs:List Nat) (l l':Nat) (rest:List Value):(u8s (bs++[l])++rest).set bs.length (.int .u8 (l':Int))=u8s (bs++[l'])++rest:=by
 rw [set_app (by rw [u8s_length]; simp),<- u8s_set]
 simp
theorem out_ok {h:Heap} {p q r:Nat} {s:Cod} {rest:List Value} {F:List Nat} {h0:Heap} (H:Hp h0 F h (codL p q r s rest)) (hl:s.l<256) (hc:s.c<4294967296) (hb:s.bs.length<1000000000)
  {K:VK} {Kp:PK} (hk:∀ r' rest' h',Hp h0 F h' (codL p q r' (outM s) rest')->K (.tuple #[]) h') :
  CP F_arith_Coder_out #[.pointer (at0 p)] h K Kp:=by
 refine call_arith_Coder_out ?_
 unfold arith_Coder_out
 try simp only [ptr_some_eq,add_mk,Nat.zero_add,Nat.add_zero]
 refine ldS_of (H.cell 0 rfl (app_get hR 5 rfl)) ?_
 refine ldS_of (H.cell 0 rfl (app_get hR 5 rfl)) ?_
 refine bindI_of (((s.bs.length:Nat):Int)) (by exact i64_at _ _ (by omega) (by omega) (by omega)) ?_
 refine needs_of (by constructor <;> omega) ?_
 try simp only [ptr_some_eq,add_mk,Nat.zero_add,Nat.add_zero]
 simp only [Int.toNat_natCast,Nat.mul_one]
 refine ⟨fun vs h'=>vs=[]/\Hp h0 F h' (codL p q r (if s.l≠255/\134217728<=s.c then { s with l:=s.l+1,c:=s.c % 134217728 } else s) rest),?_,?_⟩
 ·refine ⟨fun vs h'=>vs=[.bool (decide (s.l≠255/\134217728<=s.c))]/\h'=h,?_,?_⟩
  ·refine ldI_of (H.cell 2 rfl (last_get _ _ _)) ?_
   refine bcase_of (fun h1=>?_) fun h1=>?_
   ·refine ldI_of (H.cell 0 rfl (app_get hR 3 rfl)) ?_
    refine ⟨?_,rfl⟩
    have h1:s.l≠255:=by simp at h1; omega
    congr 2
    simp [h1]
    omega
   ·refine ⟨?_,rfl⟩
    have h1:s.l=255:=by simp at h1; omega
    simp [h1]
  ·rintro h' u x ⟨hx,rfl⟩
   injection hx with hx
   injection hx with hx
   subst hx
   refine bcase_of (fun h1=>?_) fun h1=>?_
   ·have h1:s.l≠255/\134217728<=s.c:=of_decide_eq_true h1
    refine ldI_of (H.cell 2 rfl (last_get _ _ _)) ?_
    refine bindI_of (((s.l+1:Nat):Int)) (by rw [<- u8_in (s.l+1) (by omega)]; rfl) ?_
    refine stV_hp H 2 rfl (by simp [u8s_length]; omega) rfl fun h hsz H=>?_
    rw [last_set] at H
    refine ldI_of (H.cell 0 rfl (app_get hR 3 rfl)) ?_
    refine bindI_of (((s.c % 134217728:Nat):Int)) (by exact (and32 _ 134217727 (by omega) (by omega)).trans (by congr 1; exact Nat.and_two_pow_sub_one_eq_mod s.c 27)) ?_
    refine stV_hr H 0 rfl hR 3 (Nat.le_of_ble_eq_true rfl) rfl fun h hsz H=>?_
    refine ⟨rfl,?_⟩
    rw [if_pos h1]
    exact H
   ·have h1:¬ (s.l≠255/\134217728<=s.c):=of_decide_eq_false h1
    refine ⟨rfl,?_⟩
    rw [if_neg h1]
    exact H
 ·rintro h' u ⟨_,H'⟩
  have e:outM s=outTail (if s.l≠255/\134217728<=s.c then { s with l:=s.l+1,c:=s.c % 134217728 } else s) (if s.l≠255/\134217728<=s.c then { s with l:=s.l+1,c:=s.c % 134217728 } else s).l (if s.l≠255/\134217728<=s.c then { s with l:=s.l+1,c:=s.c % 134217728 } else s).c:=by
   unfold outM; split <;> rfl
  have hs':(if s.l≠255/\134217728<=s.c then { s with l:=s.l+1,c:=s.c % 134217728 } else s).l<256/\(if s.l≠255/\134217728<=s.c then { s with l:=s.l+1,c:=s.c % 134217728 } else s).c<4294967296/\(if s.l≠255/\134217728<=s.c then { s with l:=s.l+1,c:=s.c % 134217728 } else s).bs=s.bs:=by
   split
   ·exact ⟨by show s.l+1<256; omega,by show s.c % 134217728<_; omega,rfl⟩
   ·exact ⟨hl,hc,rfl⟩
  generalize (if s.l≠255/\134217728<=s.c then { s with l:=s.l+1,c:=s.c % 134217728 } else s)=s' at e hs' H'
  clear H
  obtain ⟨hl',hc',hb'⟩:=hs'
  rw [e] at hk
  rw [<- hb'] at hb ⊢
  have H:=H'
  clear H'
  refine ⟨fun vs h''=>vs=[.int .i64 ((if s'.l=255 then 20 else 19:Nat):Int)]/\h''=h',?_,?_⟩
  ·refine ldI_of (H.cell 2 rfl (last_get _ _ _)) ?_
   refine bcase_of (fun h1=>?_) fun h1=>?_
   ·refine bindI_of ((19:Int)) (by decide) ?_
    have h1:s'.l≠255:=by simp at h1; omega
    exact ⟨by rw [if_neg h1]; rfl,rfl⟩
   ·have h1:s'.l=255:=by simp at h1; omega
    exact ⟨by rw [if_pos h1]; rfl,rfl⟩
  ·rintro h'' u x ⟨hx,rfl⟩
   injection hx with hx
   injection hx with _ hx
   have hn:∃ i:Nat,(i=20/\s'.l=255\/i=19/\s'.l≠255)/\x=((i:Nat):Int):=by
    by_cases h1:s'.l=255
    ·rw [if_pos h1] at hx; exact ⟨20, .inl ⟨rfl,h1⟩,hx⟩
    ·rw [if_neg h1] at hx; exact ⟨19, .inr ⟨rfl,h1⟩,hx⟩
   clear hx
   obtain ⟨i,hi,rfl⟩:=hn
   have hi20:i<=20:=by omega
   have hi0:19<=i:=by omega
   refine ldS_of (H.cell 0 rfl (app_get hR 5 rfl)) ?_
   refine ldI_of (H.cell 0 rfl (app_get hR 3 rfl)) ?_
   refine needs_of (by omega) ?_
   refine bindI_of (((s'.c / 2 ^ i:Nat):Int)) (by exact shr_of (by show i<=32; omega)) ?_
   refine bindI_of (((s'.c / 2 ^ i % 256:Nat):Int)) (by rw [IntKind.wrap_u8]; omega) ?_
   refine newC_hp H fun b h H=>?_
   refine appC_own H 2 rfl (xs:=u8s (s'.bs++[s'.l])) (by rw [u8s_length]; simp) (by rw [List.length_append,u8s_length]; simp) (rdO_hp (o:=0) (n:=1*1) H 3 rfl (Nat.le_refl _)) rfl (fun v hv=>by rw [List.mem_singleton.1 hv]; rfl) (by omega) fun r' rest' h H=>?_
   refine stV_hr H 0 rfl hR 5 (Nat.le_of_ble_eq_true rfl) rfl fun h hsz H=>?_
   refine needs_of (by omega) ?_
   have hp:(2:Nat) ^ i<4294967296:=by rcases hi with ⟨rfl,_⟩ | ⟨rfl,_⟩ <;> decide
   have hp0:0<(2:Nat) ^ i:=Nat.two_pow_pos i
   refine bindI_of (((2 ^ i:Nat):Int)) (by exact shl_of (x:=1) (by show i<=32; omega) (by rw [Nat.one_mul]; exact u32_in _ hp)) ?_
   refine bindI_of (((2 ^ i-1:Nat):Int)) (by exact u32_at _ _ (by omega) (by omega)) ?_
   refine ldI_of (H.cell 0 rfl (app_get hR 3 rfl)) ?_
   refine bindI_of (((s'.c % 2 ^ i:Nat):Int)) (by exact (and32 _ _ hc' (by omega)).trans (by rw [Nat.and_two_pow_sub_one_eq_mod])) ?_
   refine stV_hr H 0 rfl hR 3 (Nat.le_of_ble_eq_true rfl) rfl fun h hsz H=>?_
   refine bindI_of (((27-i:Nat):Int)) (by exact i64_at _ _ (by omega) (by omega) (by omega)) ?_
   refine stV_hr H 0 rfl hR 4 (Nat.le_of_ble_eq_true rfl) rfl fun h hsz H=>?_
   refine hk r' rest' _ ?_
   have H2:=H.take 3
   have e2:outTail s' s'.l s'.c = { s' with bs:=s'.bs++[s'.l],l:=s'.c / 2 ^ i % 256,c:=s'.c % 2 ^ i,t:=27-i }:=by
    unfold outTail
    rcases hi with ⟨rfl,h1⟩ | ⟨rfl,h1⟩
    ·rw [if_pos h1]
    ·rw [if_neg h1]
   rw [e2]
   refine H2.as ?_
   simp [codL,codE,crest,u8s]
   omega
theorem shiftM_eq (s:Cod):shiftM s=if s.t-1=0 then outM { s with a:=2*s.a,c:=2*s.c,t:=s.t-1 } else { s with a:=2*s.a,c:=2*s.c,t:=s.t-1 }:=rfl
theorem renewM_succ (n:Nat) (s:Cod):renewM (n+1) s=if 0x8000<=(shiftM s).a then shiftM s else renewM n (shiftM s):=rfl
theorem renew_ok {h:Heap} {p q r:Nat} {s:Cod} {rest:List Value} {F:List Nat} {h0:Heap} (H:Hp h0 F h (codL p q r s rest)) (hs:Mid s) (ha:1<=s.a) (ha':s.a<0x8000) (hb:s.bs.length<999999983)
  {K:VK} {Kp:PK} (hk:∀ r' rest' h',Hp h0 F h' (codL p q r' (renewM 17 s) rest')->K (.tuple #[]) h') :
  CP F_arith_Coder_renew #[.pointer (at0 p)] h K Kp:=by
 refine call_arith_Coder_renew ?_
 unfold arith_Coder_renew
 refine ⟨fun n vs h'=>∃ (s':Cod) (r':Nat) (rest':List Value),Hp h0 F h' (codL p q r' s' rest')/\Mid s'/\s'.a<0x8000/\0x8000<=s'.a*2 ^ n/\renewM n s'=renewM 17 s/\s'.bs.length+n<1000000000,
  ⟨17,s,r,rest,H,hs,ha',by have:(2:Nat) ^ 17=131072:=rfl; omega,rfl,by omega⟩,?_⟩
 clear H
 rintro n h u ⟨s',r',rest',H,hm,hlt,hge,he,hbn⟩
 obtain ⟨n,rfl⟩:∃ m,n=m+1:=by
  cases n with
  | zero=>simp at hge; omega
  | succ m=>exact ⟨m,rfl⟩
 have ht1:=hm.t1
 have ht2:=hm.t12
 have hca:=hm.ca
 have hcp:=pow_le ht1
 obtain ⟨g1,g2,g3,g4,g5,g6⟩:=shiftM_mid hm hlt
 have hnext:0x8000<=(shiftM s').a*2 ^ n:=by
  rw [g2]
  rw [Nat.pow_succ] at hge
  have:s'.a*(2 ^ n*2)=2*s'.a*2 ^ n:=by rw [Nat.mul_comm (2 ^ n) 2,<- Nat.mul_assoc,Nat.mul_comm s'.a 2]
  omega
 rw [renewM_succ] at he
 try simp only [ptr_some_eq,add_mk,Nat.zero_add,Nat.add_zero]
 refine ldI_of (H.cell 0 rfl (app_get hR 2 rfl)) ?_
 refine bindI_of (((2*s'.a:Nat):Int)) (by exact shl_of (i:=1) (by decide) ((u32_in _ (by omega)).trans (by omega))) ?_
 refine stV_hr H 0 rfl hR 2 (Nat.le_of_ble_eq_true rfl) rfl fun h hsz H=>?_
 refine ldI_of (H.cell 0 rfl (app_get hR 3 rfl)) ?_
 refine bindI_of (((2*s'.c:Nat):Int)) (by exact shl_of (i:=1) (by decide) ((u32_in _ (by omega)).trans (by omega))) ?_
 refine stV_hr H 0 rfl hR 3 (Nat.le_of_ble_eq_true rfl) rfl fun h hsz H=>?_
 refine ldI_of (H.cell 0 rfl (app_get hR 4 rfl)) ?_
 refine bindI_of (((s'.t-1:Nat):Int)) (by exact i64_at _ _ (by omega) (by omega) (by omega)) ?_
 refine stV_hr H 0 rfl hR 4 (Nat.le_of_ble_eq_true rfl) rfl fun h hsz H=>?_
 refine ldI_of (H.cell 0 rfl (app_get hR 4 rfl)) ?_
 refine bcase_of (fun h1=>?_) fun h1=>?_
 ·have h1:s'.t-1=0:=by simp at h1; omega
  rw [shiftM_eq,if_pos h1] at g1 g2 g3 g4 g5 g6 hnext he
  have H2:Hp h0 F _ (codL p q r' { s' with a:=2*s'.a,c:=2*s'.c,t:=s'.t-1 } rest'):=H
  refine out_ok H2 hm.l (by show 2*s'.c<_; omega) (by show s'.bs.length<_; omega) fun r2 rest2 h2 H=>?_
  refine ldI_of (H.cell 0 rfl (app_get hR 2 rfl)) ?_
  refine bcase_of (fun h3=>?_) fun h3=>?_
  ·have h3:0x8000<=(outM { s' with a:=2*s'.a,c:=2*s'.c,t:=s'.t-1 }).a:=by simp at h3; omega
   rw [if_pos h3] at he
   exact hk r2 rest2 _ (he ▸ H)
  ·have h3:¬ 0x8000<=(outM { s' with a:=2*s'.a,c:=2*s'.c,t:=s'.t-1 }).a:=by simp at h3; omega
   rw [if_neg h3] at he
   exact ⟨n,Nat.lt_succ_self n,_,r2,rest2,H,g1,by omega,hnext,he,by omega⟩
 ·have h1:¬ s'.t-1=0:=by simp at h1; omega
  rw [shiftM_eq,if_neg h1] at g1 g2 g3 g4 g5 g6 hnext he
  have H2:Hp h0 F _ (codL p q r' { s' with a:=2*s'.a,c:=2*s'.c,t:=s'.t-1 } rest'):=H
  refine ldI_of (H.cell 0 rfl (app_get hR 2 rfl)) ?_
  refine bcase_of (fun h3=>?_) fun h3=>?_
  ·have h3:0x8000<=2*s'.a:=by simp at h3; omega
   rw [if_pos h3] at he
   exact hk r' rest' _ (he ▸ H2)
  ·have h3:¬ 0x8000<=2*s'.a:=by simp at h3; omega
   rw [if_neg h3] at he
   exact ⟨n,Nat.lt_succ_self n,_,r',rest',H2,g1,by omega,hnext,he,by show s'.bs.length+n<_; omega⟩
theorem likely_ok {h:Heap} {q i x:Nat} {st:List Nat} {F:List Nat} {h0:Heap} {L:List Ent} (H:Hp h0 F h L) (k:Nat) (hq:L[k]? = some ⟨q,true,T_uint8,u8s st⟩) (hi:st[i]? = some x) (hx:x<94) {a b c d:Int}
  (hb:b=(mOf (x / 2):Nat)) {K:VK} {Kp:PK} (hk:∀ h',Hp h0 F h' (L.set k ⟨q,true,T_uint8,u8s (st.set i (upM x))⟩)->K (.tuple #[]) h') :
  CP F_arith_likely #[.pointer (some ⟨q,i,none⟩), .agg #[.int .u32 a, .int .u8 b, .int .u8 c, .int .u8 d]] h K Kp:=by
 refine call_arith_likely ?_
 unfold arith_likely
 have hm:=mOf_lt (r:=x / 2) (by omega)
 have hkl:k<L.length:=(List.getElem?_eq_some_iff.1 hq).1
 have hil:i<st.length:=(List.getElem?_eq_some_iff.1 hi).1
 subst hb
 refine newC_hp H fun b h H=>?_
 have hq2:(L++[(⟨b,true,T_arith_row,[.int .u32 a, .int .u8 (mOf (x / 2):Nat), .int .u8 c, .int .u8 d]⟩:Ent)])[k]? = some ⟨q,true,T_uint8,u8s st⟩:=by rw [List.getElem?_append_left hkl]; exact hq
 try simp only [ptr_some_eq,add_mk,Nat.zero_add,Nat.add_zero]
 refine ldI_of (H.cell L.length List.getElem?_concat_length rfl) ?_
 refine bindI_of (((2*mOf (x / 2):Nat):Int)) (by exact shl_of (i:=1) (by decide) ((u8_in _ (by omega)).trans (by omega))) ?_
 refine ldI_of (H.cell k hq2 (u8s_get hi)) ?_
 refine bindI_of (((x % 2:Nat):Int)) (by exact (and8 _ 1 (by omega) (by omega)).trans (by rw [Nat.and_one_is_mod])) ?_
 refine bindI_of (((upM x:Nat):Int)) (by exact (or8 _ _ (by omega) (by omega)).trans (by congr 1; exact (Nat.two_pow_add_eq_or_of_lt (i:=1) (by omega) _).symm)) ?_
 refine stV_hp H k hq2 (by rw [u8s_length]; exact hil) rfl fun h hsz H=>?_
 refine hk _ ?_
 have H2:=H.take L.length
 refine H2.as ?_
 rw [<- u8s_set,List.set_append_left _ _ hkl,List.take_left' (by simp)]
theorem unlikely_ok {h:Heap} {q i x:Nat} {st:List Nat} {F:List Nat} {h0:Heap} {L:List Ent} (H:Hp h0 F h L) (k:Nat) (hq:L[k]? = some ⟨q,true,T_uint8,u8s st⟩) (hi:st[i]? = some x) (hx:x<94) {a b c d:Int}
  (hc:c=(lOf (x / 2):Nat)) (hd:d=(cOf (x / 2):Nat)) {K:VK} {Kp:PK} (hk:∀ h',Hp h0 F h' (L.set k ⟨q,true,T_uint8,u8s (st.set i (upL x))⟩)->K (.tuple #[]) h') :
  CP F_arith_unlikely #[.pointer (some ⟨q,i,none⟩), .agg #[.int .u32 a, .int .u8 b, .int .u8 c, .int .u8 d]] h K Kp:=by
 refine call_arith_unlikely ?_
 unfold arith_unlikely
 have hm:=lOf_lt (r:=x / 2) (by omega)
 have hm2:=cOf_le (r:=x / 2) (by omega)
 have hkl:k<L.length:=(List.getElem?_eq_some_iff.1 hq).1
 have hil:i<st.length:=(List.getElem?_eq_some_iff.1 hi).1
 subst hc hd
 refine newC_hp H fun b' h H=>?_
 have hq2:(L++[(⟨b',true,T_arith_row,[.int .u32 a, .int .u8 b, .int .u8 (lOf (x / 2):Nat), .int .u8 (cOf (x / 2):Nat)]⟩:Ent)])[k]? = some ⟨q,true,T_uint8,u8s st⟩:=by rw [List.getElem?_append_left hkl]; exact hq
 try simp only [ptr_some_eq,add_mk,Nat.zero_add,Nat.add_zero]
 refine ldI_of (H.cell L.length List.getElem?_concat_length rfl) ?_
 refine bindI_of (((2*lOf (x / 2):Nat):Int)) (by exact shl_of (i:=1) (by decide) ((u8_in _ (by omega)).trans (by omega))) ?_
 refine ldI_of (H.cell k hq2 (u8s_get hi)) ?_
 refine bindI_of (((x % 2:Nat):Int)) (by exact (and8 _ 1 (by omega) (by omega)).trans (by rw [Nat.and_one_is_mod])) ?_
 refine bindI_of (((2*lOf (x / 2)+x % 2:Nat):Int)) (by exact (or8 _ _ (by omega) (by omega)).trans (by congr 1; exact (Nat.two_pow_add_eq_or_of_lt (i:=1) (by omega) _).symm)) ?_
 refine ldI_of (H.cell L.length List.getElem?_concat_length rfl) ?_
 have hxor:(2*lOf (x / 2)+x % 2) ^^^ cOf (x / 2)=upL x:=by
  have e0:x % 2<2:=Nat.mod_lt _ (by omega)
  unfold upL
  generalize lOf (x / 2)=l at hm ⊢
  generalize cOf (x / 2)=c at hm2 ⊢
  generalize x % 2=y at e0 ⊢
  have:∀ l∈List.range 47,∀ y∈List.range 2,∀ c∈List.range 2,(2*l+y) ^^^ c=2*l+(y+c) % 2:=by decide
  exact this l (List.mem_range.2 hm) y (List.mem_range.2 e0) c (List.mem_range.2 (by omega))
 refine bindI_of (((upL x:Nat):Int)) (by exact (xor8 _ _ (by omega) (by omega)).trans (by rw [hxor])) ?_
 refine stV_hp H k hq2 (by rw [u8s_length]; exact hil) rfl fun h hsz H=>?_
 refine hk _ ?_
 have H2:=H.take L.length
 refine H2.as ?_
 rw [<- u8s_set,List.set_append_left _ _ hkl,List.take_left' (by simp)]
def idx (ctx:Int) (n:Nat):Nat:=(ctx % (n:Int)).toNat
theorem idx_lt (ctx:Int) {n:Nat} (hn:1<=n):idx ctx n<n:=by
 unfold idx
 have h1:=Int.emod_nonneg ctx (b:=(n:Int)) (by omega)
 have h2:=Int.emod_lt_of_pos ctx (b:=(n:Int)) (by omega)
 omega
theorem tmod_abs (ctx:Int) {n:Nat} (hn:1<=n):-(n:Int)<ctx.tmod n/\ctx.tmod n<n:=by
 constructor
 ·have h1:=Int.lt_tmod_of_pos ctx (b:=(n:Int)) (by omega)
  exact h1
 ·exact Int.tmod_lt_of_pos ctx (by omega)
theorem idx_eq (ctx:Int) {n:Nat} (hn:1<=n):(ctx.tmod n+n).tmod n=((idx ctx n:Nat):Int):=by
 have h1:=Int.emod_nonneg ctx (b:=(n:Int)) (by omega)
 have h3:=tmod_abs ctx hn
 have e1:((idx ctx n:Nat):Int)=ctx % n:=by unfold idx; omega
 rw [e1,Int.tmod_eq_emod_of_nonneg (by omega),Int.add_emod_right,Int.tmod_eq_emod]
 split
 ·rw [show ((0:Nat):Int)=0 from rfl,Int.sub_zero,Int.emod_emod_of_dvd _ (Int.dvd_refl _)]
 ·have:((n:Int).natAbs:Int)=n:=by omega
  rw [this,Int.sub_emod_right,Int.emod_emod_of_dvd _ (Int.dvd_refl _)]
theorem at_ok {h:Heap} {p q:Nat} {st:List Nat} {F:List Nat} {h0:Heap} {L:List Ent} (H:Hp h0 F h L) (kp kq:Nat) {w:Bool} {t:TypeId} {T:List Value} (hp:L[kp]? = some ⟨p,w,t,rowsV++(.slice (some ⟨q,0,none⟩) st.length st.length::T)⟩)
  (hq:L[kq]? = some ⟨q,true,T_uint8,u8s st⟩) (hn:1<=st.length) (hn2:st.length<=131072) (hst:∀ x∈st,x<94) {ctx:Int} {K:VK} {Kp:PK}
  (hk:∀ h' x,st[idx ctx st.length]? = some x->x<94->Hp h0 F h' L->K (.tuple #[.pointer (some ⟨q,idx ctx st.length,none⟩), .agg #[.int .u32 (qOf (x / 2):Nat), .int .u8 (mOf (x / 2):Nat), .int .u8 (lOf (x / 2):Nat), .int .u8 (cOf (x / 2):Nat)]]) h') :
  CP F_arith_table_at #[.pointer (at0 p), .int .i64 ctx] h K Kp:=by
 refine call_arith_table_at ?_
 unfold arith_table_at
 have hi:=idx_lt ctx hn
 have habs:=tmod_abs ctx hn
 obtain ⟨x,hx⟩:∃ x,st[idx ctx st.length]? = some x:=⟨_,List.getElem?_eq_getElem hi⟩
 have hx94:x<94:=hst x (List.mem_of_getElem? hx)
 have hkp:kp<L.length:=(List.getElem?_eq_some_iff.1 hp).1
 have hkq:kq<L.length:=(List.getElem?_eq_some_iff.1 hq).1
 refine newC_hp H fun b h H=>?_
 have hp2:∀ e,(L++[e])[kp]? = some ⟨p,w,t,rowsV++(.slice (some ⟨q,0,none⟩) st.length st.length::T)⟩:=fun e=>by rw [List.getElem?_append_left hkp]; exact hp
 have hq2:∀ e,(L++[e])[kq]? = some ⟨q,true,T_uint8,u8s st⟩:=fun e=>by rw [List.getElem?_append_left hkq]; exact hq
 try simp only [ptr_some_eq,add_mk,Nat.zero_add,Nat.add_zero]
 refine ldS_of (H.cell kp (hp2 _) (app_get hR 0 rfl)) ?_
 refine needs_of (by exact ⟨trivial,by omega⟩) ?_
 refine bindI_gen fun z6 e6=>?_
 subst e6
 refine bindI_of (ctx.tmod st.length+st.length) (i64_in _ (by omega) (by omega)) ?_
 refine needs_of (by exact ⟨trivial,by omega⟩) ?_
 refine bindI_of _ (idx_eq ctx hn) ?_
 refine ldS_of (H.cell kp (hp2 _) (app_get hR 0 rfl)) ?_
 refine needs_of (by omega) ?_
 simp only [Int.toNat_natCast,Nat.mul_one]
 try simp only [ptr_some_eq,add_mk,Nat.zero_add,Nat.add_zero]
 refine ldI_of (H.cell kq (hq2 _) (u8s_get hx)) ?_
 refine bindI_of (((x / 2:Nat):Int)) (by exact shr_of (i:=1) (by decide)) ?_
 refine needs_of (by omega) ?_
 simp only [Int.toNat_natCast]
 have hr:x / 2<47:=by omega
 have hrow:∀ j v,(rowC (x / 2))[j]? = some v->(rowsV++(.slice (some ⟨q,0,none⟩) st.length st.length::T))[x / 2*4+j]? = some v:=fun j v hv=>get_app (by rw [Nat.mul_comm]; exact rowsN_get hr hv)
 refine ldI_of (H.cell kp (hp2 _) (hrow 0 _ rfl)) ?_
 refine ldI_of (H.cell kp (hp2 _) (hrow 1 _ rfl)) ?_
 refine ldI_of (H.cell kp (hp2 _) (hrow 2 _ rfl)) ?_
 refine ldI_of (H.cell kp (hp2 _) (hrow 3 _ rfl)) ?_
 refine stV_hp H L.length List.getElem?_concat_length (by simp) rfl fun h hsz H=>?_
 simp only [List.set_append_right _ _ (Nat.le_refl _),Nat.sub_self,List.set_cons_zero,List.set_cons_succ] at H
 refine stV_hp H L.length List.getElem?_concat_length (by simp) rfl fun h hsz H=>?_
 simp only [List.set_append_right _ _ (Nat.le_refl _),Nat.sub_self,List.set_cons_zero,List.set_cons_succ] at H
 refine stV_hp H L.length List.getElem?_concat_length (by simp) rfl fun h hsz H=>?_
 simp only [List.set_append_right _ _ (Nat.le_refl _),Nat.sub_self,List.set_cons_zero,List.set_cons_succ] at H
 refine stV_hp H L.length List.getElem?_concat_length (by simp) rfl fun h hsz H=>?_
 simp only [List.set_append_right _ _ (Nat.le_refl _),Nat.sub_self,List.set_cons_zero,List.set_cons_succ] at H
 refine ldI_of (H.cell L.length List.getElem?_concat_length rfl) ?_
 refine ldI_of (H.cell L.length List.getElem?_concat_length rfl) ?_
 refine ldI_of (H.cell L.length List.getElem?_concat_length rfl) ?_
 refine ldI_of (H.cell L.length List.getElem?_concat_length rfl) ?_
 exact hk _ x hx hx94 ((H.take L.length).as (List.take_left' rfl))
theorem getD_of {st:List Nat} {k x:Nat} (h:st[k]? = some x):st.getD k 0=x:=by rw [List.getD_eq_getElem?_getD,h]; rfl
theorem putM_at (s:Cod) (k bit x:Nat) (hx:s.st[k]? = some x):putM s k bit =
 if bit=x % 2 then
  if 0x8000<=s.a-qOf (x / 2) then { s with a:=s.a-qOf (x / 2),c:=s.c+qOf (x / 2),n:=s.n+1 }
  else if s.a-qOf (x / 2)<qOf (x / 2) then renewM 17 { s with a:=qOf (x / 2),n:=s.n+1,st:=s.st.set k (upM x) }
  else renewM 17 { s with a:=s.a-qOf (x / 2),c:=s.c+qOf (x / 2),n:=s.n+1,st:=s.st.set k (upM x) }
 else
  if s.a-qOf (x / 2)<qOf (x / 2) then renewM 17 { s with a:=s.a-qOf (x / 2),c:=s.c+qOf (x / 2),n:=s.n+1,st:=s.st.set k (upL x) }
  else renewM 17 { s with a:=qOf (x / 2),n:=s.n+1,st:=s.st.set k (upL x) }:=by
 rw [<- getD_of hx]; rfl
theorem put_ok {h:Heap} {p q r:Nat} {s:Cod} {rest:List Value} {F:List Nat} {h0:Heap} (H:Hp h0 F h (codL p q r s rest)) (hs:Wf s) (hd:s.done=false) (hn:s.n<16777216) (hl:1<=s.st.length) (hl2:s.st.length<=131072)
  {ctx:Int} {bit:Nat} (hbit:bit<=1) {K:VK} {Kp:PK} (hk:∀ r' rest' h',Hp h0 F h' (codL p q r' (putM s (idx ctx s.st.length) bit) rest')->K (.int .i64 0) h') :
  CP F_arith_Coder_Put #[.pointer (at0 p), .int .i64 ctx, .int .i64 (bit:Nat)] h K Kp:=by
 refine call_arith_Coder_Put ?_
 unfold arith_Coder_Put
 refine ⟨fun vs h'=>h'=h,?_,?_⟩
 ·try simp only [ptr_some_eq,add_mk,Nat.zero_add,Nat.add_zero]
  refine ldB_of (H.cell 0 rfl (app_get hR 6 (congrArg (fun b=>some (Value.bool b)) hd))) ?_
  refine bcase_false (by rfl) ?_
  refine bcase_of (fun h1=>?_) fun h1=>?_
  ·refine bcase_of (fun h2=>?_) fun h2=>?_
   ·simp at h1 h2; omega
   ·refine ldI_of (H.cell 0 rfl (app_get hR 1 rfl)) ?_
    refine bcase_false (by simp; omega) ?_
    trivial
  ·refine ldI_of (H.cell 0 rfl (app_get hR 1 rfl)) ?_
   refine bcase_false (by simp; omega) ?_
   trivial
 ·rintro h' u rfl
  try simp only [ptr_some_eq,add_mk,Nat.zero_add,Nat.add_zero]
  refine ldI_of (H.cell 0 rfl (app_get hR 1 rfl)) ?_
  refine bindI_of (((s.n+1:Nat):Int)) (by exact i64_at _ _ (by omega) (by omega) (by omega)) ?_
  refine stV_hr H 0 rfl hR 1 (Nat.le_of_ble_eq_true rfl) rfl fun h hsz H=>?_
  refine at_ok H 0 1 rfl rfl hl hl2 hs.st fun h x hx hx94 H=>?_
  refine ⟨_,_,_,_,_,rfl,?_⟩
  refine newC_hp H fun b h H=>?_
  try simp only [ptr_some_eq,add_mk,Nat.zero_add,Nat.add_zero]
  refine stV_hp H 3 rfl (by first | exact Nat.le_of_ble_eq_true rfl | simp) rfl fun h hsz H=>?_
  refine stV_hp H 3 rfl (by first | exact Nat.le_of_ble_eq_true rfl | simp) rfl fun h hsz H=>?_
  refine stV_hp H 3 rfl (by first | exact Nat.le_of_ble_eq_true rfl | simp) rfl fun h hsz H=>?_
  refine stV_hp H 3 rfl (by first | exact Nat.le_of_ble_eq_true rfl | simp) rfl fun h hsz H=>?_
  refine ldI_of (H.cell 0 rfl (app_get hR 2 rfl)) ?_
  refine ldI_of (H.cell 3 rfl rfl) ?_
  have hr:x / 2<47:=by omega
  have hq1:=qOf_pos hr
  have hq2:=qOf_le hr
  have hlo:=hs.lo
  have hhi:=hs.hi
  have hca:=hs.ca
  have hcp:=pow_le hs.t1
  have hlen:=hs.len
  have hM:=set_lt hs.st (k:=idx ctx s.st.length) (upM_lt hx94)
  have hL:=set_lt hs.st (k:=idx ctx s.st.length) (upL_lt hx94)
  rw [putM_at s _ bit x hx] at hk
  refine bindI_of (((s.a-qOf (x / 2):Nat):Int)) (by exact u32_at _ _ (by omega) (by omega)) ?_
  refine stV_hr H 0 rfl hR 2 (Nat.le_of_ble_eq_true rfl) rfl fun h hsz H=>?_
  refine ldI_of (H.cell 1 rfl (u8s_get hx)) ?_
  refine bindI_of (((x % 2:Nat):Int)) (by exact (and8 _ 1 (by omega) (by omega)).trans (by rw [Nat.and_one_is_mod])) ?_
  refine bindI_of (((x % 2:Nat):Int)) (by exact i64_in _ (by omega) (by omega)) ?_
  refine bcase_of (fun h1=>?_) fun h1=>?_
  ·have h1:bit=x % 2:=by simp at h1; omega
   rw [if_pos h1] at hk
   refine ldI_of (H.cell 0 rfl (app_get hR 2 rfl)) ?_
   refine bcase_of (fun h2=>?_) fun h2=>?_
   ·have h2:0x8000<=s.a-qOf (x / 2):=by simp at h2; omega
    rw [if_pos h2] at hk
    refine ldI_of (H.cell 0 rfl (app_get hR 3 rfl)) ?_
    refine ldI_of (H.cell 3 rfl rfl) ?_
    refine bindI_of (((s.c+qOf (x / 2):Nat):Int)) (by exact u32_at _ _ (by omega) (by omega)) ?_
    refine stV_hr H 0 rfl hR 3 (Nat.le_of_ble_eq_true rfl) rfl fun h hsz H=>?_
    exact hk r rest _ (H.take 3)
   ·have h2:¬ 0x8000<=s.a-qOf (x / 2):=by simp at h2; omega
    rw [if_neg h2] at hk
    refine ldI_of (H.cell 0 rfl (app_get hR 2 rfl)) ?_
    refine ldI_of (H.cell 3 rfl rfl) ?_
    refine bcase_of (fun h3=>?_) fun h3=>?_
    ·have h3:s.a-qOf (x / 2)<qOf (x / 2):=by simp at h3; omega
     rw [if_pos h3] at hk
     refine ldI_of (H.cell 3 rfl rfl) ?_
     refine stV_hr H 0 rfl hR 2 (Nat.le_of_ble_eq_true rfl) rfl fun h hsz H=>?_
     refine ldI_of (H.cell 3 rfl rfl) ?_
     refine ldI_of (H.cell 3 rfl rfl) ?_
     refine ldI_of (H.cell 3 rfl rfl) ?_
     refine ldI_of (H.cell 3 rfl rfl) ?_
     refine likely_ok H 1 rfl hx hx94 rfl fun h H=>?_
     have H2:Hp h0 F h (codL p q r { s with a:=qOf (x / 2),n:=s.n+1,st:=s.st.set (idx ctx s.st.length) (upM x) } rest):=(H.take 3).as (by simp [codL,codE,crest])
     exact renew_ok H2 ⟨hs.t1,hs.t12,by show s.c+qOf _<2 ^ (28-s.t); omega,hs.l,hs.bs,hM⟩ hq1 (by show qOf _<_; omega) (by show s.bs.length<_; omega) hk
    ·have h3:¬ s.a-qOf (x / 2)<qOf (x / 2):=by simp at h3; omega
     rw [if_neg h3] at hk
     refine ldI_of (H.cell 0 rfl (app_get hR 3 rfl)) ?_
     refine ldI_of (H.cell 3 rfl rfl) ?_
     refine bindI_of (((s.c+qOf (x / 2):Nat):Int)) (by exact u32_at _ _ (by omega) (by omega)) ?_
     refine stV_hr H 0 rfl hR 3 (Nat.le_of_ble_eq_true rfl) rfl fun h hsz H=>?_
     refine ldI_of (H.cell 3 rfl rfl) ?_
     refine ldI_of (H.cell 3 rfl rfl) ?_
     refine ldI_of (H.cell 3 rfl rfl) ?_
     refine ldI_of (H.cell 3 rfl rfl) ?_
     refine likely_ok H 1 rfl hx hx94 rfl fun h H=>?_
     have H2:Hp h0 F h (codL p q r { s with a:=s.a-qOf (x / 2),c:=s.c+qOf (x / 2),n:=s.n+1,st:=s.st.set (idx ctx s.st.length) (upM x) } rest):=(H.take 3).as (by simp [codL,codE,crest])
     exact renew_ok H2 ⟨hs.t1,hs.t12,by show s.c+qOf _+(s.a-qOf _)<2 ^ (28-s.t); omega,hs.l,hs.bs,hM⟩ (by show 1<=s.a-qOf _; omega) (by show s.a-qOf _<_; omega) (by show s.bs.length<_; omega) hk
  ·have h1:¬ bit=x % 2:=by simp at h1; omega
   rw [if_neg h1] at hk
   refine ldI_of (H.cell 0 rfl (app_get hR 2 rfl)) ?_
   refine ldI_of (H.cell 3 rfl rfl) ?_
   refine bcase_of (fun h3=>?_) fun h3=>?_
   ·have h3:s.a-qOf (x / 2)<qOf (x / 2):=by simp at h3; omega
    rw [if_pos h3] at hk
    refine ldI_of (H.cell 0 rfl (app_get hR 3 rfl)) ?_
    refine ldI_of (H.cell 3 rfl rfl) ?_
    refine bindI_of (((s.c+qOf (x / 2):Nat):Int)) (by exact u32_at _ _ (by omega) (by omega)) ?_
    refine stV_hr H 0 rfl hR 3 (Nat.le_of_ble_eq_true rfl) rfl fun h hsz H=>?_
    refine ldI_of (H.cell 3 rfl rfl) ?_
    refine ldI_of (H.cell 3 rfl rfl) ?_
    refine ldI_of (H.cell 3 rfl rfl) ?_
    refine ldI_of (H.cell 3 rfl rfl) ?_
    refine unlikely_ok H 1 rfl hx hx94 rfl rfl fun h H=>?_
    have H2:Hp h0 F h (codL p q r { s with a:=s.a-qOf (x / 2),c:=s.c+qOf (x / 2),n:=s.n+1,st:=s.st.set (idx ctx s.st.length) (upL x) } rest):=(H.take 3).as (by simp [codL,codE,crest])
    exact renew_ok H2 ⟨hs.t1,hs.t12,by show s.c+qOf _+(s.a-qOf _)<2 ^ (28-s.t); omega,hs.l,hs.bs,hL⟩ (by show 1<=s.a-qOf _; omega) (by show s.a-qOf _<_; omega) (by show s.bs.length<_; omega) hk
   ·have h3:¬ s.a-qOf (x / 2)<qOf (x / 2):=by simp at h3; omega
    rw [if_neg h3] at hk
    refine ldI_of (H.cell 3 rfl rfl) ?_
    refine stV_hr H 0 rfl hR 2 (Nat.le_of_ble_eq_true rfl) rfl fun h hsz H=>?_
    refine ldI_of (H.cell 3 rfl rfl) ?_
    refine ldI_of (H.cell 3 rfl rfl) ?_
    refine ldI_of (H.cell 3 rfl rfl) ?_
    refine ldI_of (H.cell 3 rfl rfl) ?_
    refine unlikely_ok H 1 rfl hx hx94 rfl rfl fun h H=>?_
    have H2:Hp h0 F h (codL p q r { s with a:=qOf (x / 2),n:=s.n+1,st:=s.st.set (idx ctx s.st.length) (upL x) } rest):=(H.take 3).as (by simp [codL,codE,crest])
    exact renew_ok H2 ⟨hs.t1,hs.t12,by show s.c+qOf _<2 ^ (28-s.t); omega,hs.l,hs.bs,hL⟩ hq1 (by show qOf _<_; omega) (by show s.bs.length<_; omega) hk
end Go.Ar
namespace Go.Ar
open Go Go.Den Go.Den.YtfaclehehhgpcaaGreat
theorem rows_ok {h:Heap} {K:VK} {Kp:PK} (hk:∀ h',hext h h'->K (.agg rowsV.toArray) h'):CP F_arith_rows #[] h K Kp:=by
 refine call_arith_rows ?_
 unfold arith_rows
 have H:=Hp.nil h []
 refine newC_hp H fun r h H=>?_
 refine stVs_all H 0 rfl (by kernel_rfl) (List.all_eq_true.1 (by kernel_rfl)) fun h' hsz H'=>?_
 refine ldAll_hp H' 0 rfl (by kernel_rfl) ?_
 have key:∀ X,X=rowsV->K (.agg X.toArray) h':=fun X e=>e ▸ hk _ H'.hext
 refine key _ ?_
 kernel_rfl
def tabV (q n:Nat):List Value:=rowsV++[.slice (some ⟨q,0,none⟩) n n, .int .i64 0]
theorem tab_eq (q n:Nat):putL (putL Z_arith_table 0 rowsV) 188 [.slice (some ⟨q,0,none⟩) n n]=tabV q n:=by kernel_rfl
theorem tab_length (q n:Nat):(tabV q n).length=190:=by kernel_rfl
theorem rows_cells:∀ n,(rowsN n).all Value.oneCell'=true
 | 0=>rfl
 | n+1=>by rw [rowsN,List.all_append,rows_cells n]; rfl
theorem tab_cells (q n:Nat):∀ v∈tabV q n,v.oneCell'=true:=List.all_eq_true.1 (by unfold tabV; rw [List.all_append]; unfold rowsV; rw [rows_cells]; rfl)
theorem u8s_zero (n:Nat):repZ [.int .u8 0] n=u8s (List.replicate n 0):=by rw [repZ_one]; simp [u8s]
theorem made_ok {h:Heap} {n:Nat} (h1:1<=n) (h2:n<=131072) {K:VK} {Kp:PK}
  (hk:∀ q h',Hp h [] h' [⟨q,true,T_uint8,u8s (List.replicate n 0)⟩]->K (.tuple #[.agg (tabV q n).toArray, .bool true]) h'):CP F_arith_made #[.int .i64 (n:Nat)] h K Kp:=by
 refine call_arith_made ?_
 unfold arith_made
 have H:=Hp.nil h []
 refine newC_hp H fun r h H=>?_
 refine bcase_false (by simp; omega) ?_
 refine bcase_false (by simp; omega) ?_
 refine ⟨rows_ok fun h2 e=>?_,?_⟩
 ·refine ⟨rowsV,hR,rfl,e,?_⟩
  have H:=H.ext e
  refine needs_of (by simp; omega) ?_
  simp only [Int.toNat_natCast,u8s_zero]
  refine newC_hp H fun q h H=>?_
  refine needs_of ⟨hR,by decide⟩ ?_
  refine needs_of (by exact ⟨rfl,by rw [putL_length]; decide⟩) ?_
  refine needs_of (by rw [tab_eq]; exact tab_length q n) ?_
  rw [tab_eq]
  refine stVs_all H 0 rfl (tab_length q n) (tab_cells q n) fun h' hsz H=>?_
  refine ldAll_hp H 0 rfl (tab_length q n) ?_
  exact hk q _ (H.pick [1] (by decide) rfl)
 ·refine needs_of (by simp; omega) ?_
  simp only [Int.toNat_natCast,u8s_zero]
  refine newC_hp H fun q h H=>?_
  refine rows_ok fun h2 e=>?_
  refine ⟨rowsV,hR,rfl,e,?_⟩
  have H:=H.ext e
  refine needs_of ⟨hR,by decide⟩ ?_
  refine needs_of (by exact ⟨rfl,by rw [putL_length]; decide⟩) ?_
  refine needs_of (by rw [tab_eq]; exact tab_length q n) ?_
  rw [tab_eq]
  refine stVs_all H 0 rfl (tab_length q n) (tab_cells q n) fun h' hsz H=>?_
  refine ldAll_hp H 0 rfl (tab_length q n) ?_
  exact hk q _ (H.pick [1] (by decide) rfl)
theorem new_eq (q r n:Nat):putL (putL (putL (putL Z_arith_Coder 0 (tabV q n)) 190 ([.int .u32 32768]:List Value)) 192 ([.int .i64 12]:List Value)) 193 ([.slice (some ⟨r,0,none⟩) 1 1]:List Value)=rowsV++crest q n 0 0x8000 0 12 r 1 1 false:=by kernel_rfl
theorem new_ok {h:Heap} {n:Nat} (h1:1<=n) (h2:n<=131072) {K:VK} {Kp:PK}
  (hk:∀ p q r h',Hp h [] h' (codL p q r (newC n) [])->K (.tuple #[.pointer (at0 p), .int .i64 0]) h'):CP F_arith_New #[.int .i64 (n:Nat)] h K Kp:=by
 refine call_arith_New ?_
 unfold arith_New
 refine made_ok h1 h2 fun q h' H=>?_
 refine ⟨tabV q n,tab_length q n,true,rfl,?_⟩
 refine newC_hp H fun t h H=>?_
 refine needs_of (tab_length q n) ?_
 refine stVs_all H 1 rfl (tab_length q n) (tab_cells q n) fun h' hsz H=>?_
 refine bcase_false (by rfl) ?_
 refine ldAll_hp H 1 rfl (tab_length q n) ?_
 refine newC_hp H fun r h H=>?_
 refine needs_of ⟨tab_length q n,by decide⟩ ?_
 refine needs_of (by exact ⟨rfl,by simp only [putL_length]; decide⟩) ?_
 refine needs_of (by exact ⟨rfl,by simp only [putL_length]; decide⟩) ?_
 refine needs_of (by exact ⟨rfl,by simp only [putL_length]; decide⟩) ?_
 rw [new_eq]
 refine newC_hp H fun p h H=>?_
 refine hk p q r _ ?_
 have H2:=H.pick [3,0,2] (by decide) (L':=codL p q r (newC n) []) (by simp [codL,codE,newC,u8s])
 exact H2
theorem flushC_or (c:Nat):c ||| 65535=c / 65536*65536+65535:=by
 have h1:c % 65536 ||| 65535=65535:=by
  apply Nat.eq_of_testBit_eq
  intro i
  rw [Nat.testBit_or,show 65535=2 ^ 16-1 from rfl,Nat.testBit_two_pow_sub_one]
  by_cases hi:i<16
  ·simp [hi]
  ·have:(c % 65536).testBit i=false:=Nat.testBit_lt_two_pow (Nat.lt_of_lt_of_le (Nat.mod_lt c (by decide:65536 > 0)) (by
    have:2 ^ 16<=2 ^ i:=Nat.pow_le_pow_right (by omega) (by omega)
    simpa using this))
   simp [hi,this]
 have h2:=Nat.two_pow_add_eq_or_of_lt (i:=16) (b:=c % 65536) (by omega) (c / 65536)
 have h3:=Nat.two_pow_add_eq_or_of_lt (i:=16) (b:=65535) (by omega) (c / 65536)
 calc c ||| 65535=(2 ^ 16*(c / 65536)+c % 65536) ||| 65535:=by congr 1; omega
  _=(2 ^ 16*(c / 65536)) ||| (c % 65536 ||| 65535):=by rw [h2,Nat.or_assoc]
  _=_:=by rw [h1,<- h3]; omega
def flushI:Nat->Cod->Cod
 | 0,s=>s
 | n+1,s=>flushS (flushI n s)
structure Fl (s:Cod) (k:Nat):Prop where
 c:s.c*2 ^ s.t<4294967296
 t:s.t<=12
 l:s.l<256
 n:s.bs.length<=900000000+k
theorem flushS_fl {s:Cod} {k:Nat} (h:Fl s k):Fl (flushS s) (k+1)/\(flushS s).bs.length=s.bs.length+1:=by
 have hm:∀ (s:Cod) (l c:Nat),l<256->c<4294967296->s.bs.length<=900000000+k->Fl (outTail s l c) (k+1)/\(outTail s l c).bs.length=s.bs.length+1:=fun s l c hl hc hn=>by
  unfold outTail
  split
  ·exact ⟨⟨by show c % 1048576*2 ^ 7<_; omega,by show 7<=12; omega,by show c / 1048576 % 256<256; omega,by simp; omega⟩,by simp⟩
  ·exact ⟨⟨by show c % 524288*2 ^ 8<_; omega,by show 8<=12; omega,by show c / 524288 % 256<256; omega,by simp; omega⟩,by simp⟩
 unfold flushS outM
 split
 ·rename_i h1
  have h1:s.l≠255/\_:=h1
  exact hm { s with c:=s.c*2 ^ s.t } _ _ (by show s.l+1<256; have:=h.l; omega) (by show s.c*2 ^ s.t % 134217728<_; have:=h.c; omega) h.n
 ·exact hm { s with c:=s.c*2 ^ s.t } _ _ h.l h.c h.n
theorem flush_ok {h:Heap} {p q r:Nat} {s:Cod} {rest:List Value} {F:List Nat} {h0:Heap} (H:Hp h0 F h (codL p q r s rest)) (hs:Wf s) (hd:s.done=false)
  {K:VK} {Kp:PK} (hk:∀ r' rest' o orest h',Hp h0 F h' (codL p q r' (flushM s) rest'++[⟨o,true,T_uint8,u8s (bytesM (flushM s))++orest⟩]) ->
   K (.tuple #[.slice (at0 o) (bytesM (flushM s)).length ((bytesM (flushM s)).length+orest.length), .int .i64 0]) h') :
  CP F_arith_Coder_Flush #[.pointer (at0 p)] h K Kp:=by
 refine call_arith_Coder_Flush ?_
 unfold arith_Coder_Flush
 have hca:=hs.ca
 have hcp:=pow_le hs.t1
 have hlen:=hs.len
 have hn:=hs.n
 have hcl:flushC s<2 ^ (28-s.t)+65536:=by
  unfold flushC
  simp only []
  split <;> omega
 have hfl:Fl { s with c:=flushC s,done:=true } 0:=by
  refine ⟨?_,hs.t12,hs.l,by show s.bs.length<=_; omega⟩
  show flushC s*2 ^ s.t<4294967296
  have h1:(2:Nat) ^ s.t<=2 ^ 12:=Nat.pow_le_pow_right (by omega) hs.t12
  have h2:flushC s*2 ^ s.t<(2 ^ (28-s.t)+65536)*2 ^ s.t:=Nat.mul_lt_mul_of_pos_right hcl (Nat.two_pow_pos _)
  have h3:2 ^ (28-s.t)*2 ^ s.t=2 ^ 28:=by rw [<- Nat.pow_add]; congr 1; have:=hs.t12; omega
  rw [Nat.add_mul,h3] at h2
  omega
 try simp only [ptr_some_eq,add_mk,Nat.zero_add,Nat.add_zero]
 refine ldB_of (H.cell 0 rfl (app_get hR 6 (congrArg (fun b=>some (Value.bool b)) hd))) ?_
 refine bcase_false (by rfl) ?_
 refine stV_hr H 0 rfl hR 6 (Nat.le_of_ble_eq_true rfl) rfl fun h hsz H=>?_
 refine ldI_of (H.cell 0 rfl (app_get hR 3 rfl)) ?_
 refine ldI_of (H.cell 0 rfl (app_get hR 2 rfl)) ?_
 refine bindI_of (((s.c+s.a:Nat):Int)) (by exact u32_at _ _ (by omega) (by omega)) ?_
 refine ⟨fun vs h'=>Hp h0 F h' (codL p q r { s with c:=flushC s,done:=true } rest),?_,?_⟩
 ·refine ldI_of (H.cell 0 rfl (app_get hR 3 rfl)) ?_
  refine bindI_of (((s.c / 65536*65536+65535:Nat):Int)) (by exact (or32 _ 65535 (by omega) (by omega)).trans (by rw [flushC_or])) ?_
  refine stV_hr H 0 rfl hR 3 (Nat.le_of_ble_eq_true rfl) rfl fun h hsz H=>?_
  refine ldI_of (H.cell 0 rfl (app_get hR 3 rfl)) ?_
  refine bcase_of (fun h1=>?_) fun h1=>?_
  ·have h1:s.c+s.a<=s.c / 65536*65536+65535:=by simp at h1; omega
   refine ldI_of (H.cell 0 rfl (app_get hR 3 rfl)) ?_
   refine bindI_of (((s.c / 65536*65536+65535-0x8000:Nat):Int)) (by exact u32_at _ _ (by omega) (by omega)) ?_
   refine stV_hr H 0 rfl hR 3 (Nat.le_of_ble_eq_true rfl) rfl fun h hsz H=>?_
   have e:flushC s=s.c / 65536*65536+65535-0x8000:=by unfold flushC; simp only []; rw [if_pos h1]
   rw [e]
   exact H
  ·have h1:¬ s.c+s.a<=s.c / 65536*65536+65535:=by simp at h1; omega
   have e:flushC s=s.c / 65536*65536+65535:=by unfold flushC; simp only []; rw [if_neg h1]
   rw [e]
   exact H
 ·intro h u H
  generalize hS:({ s with c:=flushC s,done:=true }:Cod)=S at H hfl
  have hfm:flushM s=flushI 2 S:=by rw [<- hS]; rfl
  rw [hfm] at hk
  refine ⟨fun n vs h'=>∃ r' rest',n<=2/\vs=[.int .i64 ((2-n:Nat):Int)]/\Hp h0 F h' (codL p q r' (flushI (2-n) S) rest')/\Fl (flushI (2-n) S) (2-n)/\(flushI (2-n) S).bs.length=S.bs.length+(2-n),⟨2,r,rest,Nat.le_refl _,rfl,H,by simpa [flushI] using hfl,rfl⟩,?_⟩
  clear H
  rintro n h u x ⟨r',rest',hn2,hx,H,hf,hbl⟩
  injection hx with hx
  injection hx with _ hx
  subst hx
  try simp only [ptr_some_eq,add_mk,Nat.zero_add,Nat.add_zero]
  refine bcase_of (fun h1=>?_) fun h1=>?_
  ·have h1:1<=n:=by simp at h1; omega
   obtain ⟨m,rfl⟩:∃ m,n=m+1:=⟨n-1,by omega⟩
   have hm1:2-m=(2-(m+1))+1:=by omega
   generalize 2-(m+1)=k at hm1 H hf hbl
   obtain ⟨hf2,hbl2⟩:=flushS_fl hf
   have hft:=hf.t
   have hfc:=hf.c
   have hfn:=hf.n
   have hc0:(flushI k S).c<4294967296:=Nat.lt_of_le_of_lt (Nat.le_mul_of_pos_right _ (Nat.two_pow_pos _)) hfc
   refine ldI_of (H.cell 0 rfl (app_get hR 3 rfl)) ?_
   refine ldI_of (H.cell 0 rfl (app_get hR 4 rfl)) ?_
   refine needs_of (by omega) ?_
   refine bindI_of ((((flushI k S).c*2 ^ (flushI k S).t:Nat):Int)) (by exact shl_of (by show (flushI k S).t<=32; omega) (u32_in _ hfc)) ?_
   refine stV_hr H 0 rfl hR 3 (Nat.le_of_ble_eq_true rfl) rfl fun h hsz H=>?_
   have H2:Hp h0 F _ (codL p q r' { flushI k S with c:=(flushI k S).c*2 ^ (flushI k S).t } rest'):=H
   refine out_ok H2 hf.l hfc (by show (flushI k S).bs.length<_; omega) fun r2 rest2 h2 H=>?_
   refine bindI_of (((k+1:Nat):Int)) (by exact i64_at _ _ (by omega) (by omega) (by omega)) ?_
   refine ⟨m,Nat.lt_succ_self m,r2,rest2,by omega,by rw [hm1],?_,?_,?_⟩
   ·rw [hm1]; exact H
   ·rw [hm1]; exact hf2
   ·rw [hm1]; show (flushS (flushI k S)).bs.length=_; omega
  ·have h1:n=0:=by simp at h1; omega
   subst h1
   have hbl:(flushI 2 S).bs.length=S.bs.length+2:=hbl
   have H:Hp h0 F h (codL p q r' (flushI 2 S) rest'):=H
   have hfn:(flushI 2 S).bs.length<=900000000+2:=hf.n
   generalize hE:flushI 2 S=E at H hbl hk
   have hEn:E.bs.length<900000005:=by rw [<- hE]; omega
   have hEl:E.l<256:=by rw [<- hE]; exact hf.l
   refine ldS_of (H.cell 0 rfl (app_get hR 5 rfl)) ?_
   refine needs_of (by omega) ?_
   have hsub:((E.bs.length+1-(1:Int).toNat:Nat):Int)=(E.bs.length:Nat):=by simp
   rw [hsub]
   refine bindI_of (((E.bs.length-1:Nat):Int)) (by exact i64_at _ _ (by omega) (by omega) (by omega)) ?_
   refine needs_of (by omega) ?_
   have e1:subA (some ⟨r',0,none⟩) (E.bs.length+1+rest'.length) (1:Int).toNat 1=some ⟨r',1,none⟩:=by
    unfold subA
    rw [if_neg (by simp; omega)]
    rfl
   rw [e1]
   try simp only [ptr_some_eq,add_mk,Nat.zero_add,Nat.add_zero]
   simp only [Int.toNat_natCast,Nat.mul_one]
   have e2:1+(E.bs.length-1)=E.bs.length:=by omega
   rw [e2]
   refine ldI_of (H.cell 2 rfl (last_get _ _ _)) ?_
   have hb:bytesM E=if E.l=255 then ((E.bs++[E.l]).drop 1).dropLast else (E.bs++[E.l]).drop 1:=rfl
   refine bcase_of (fun h1=>?_) fun h1=>?_
   ·have h1:E.l=255:=by simp at h1; omega
    rw [if_pos h1] at hb
    refine bindI_of (((E.bs.length-1:Nat):Int)) (by exact i64_at _ _ (by omega) (by omega) (by omega)) ?_
    refine needs_of (by simp; omega) ?_
    have e3:subA (some ⟨r',1,none⟩) (E.bs.length+1+rest'.length-(1:Int).toNat) 0 1=some ⟨r',1,none⟩:=by
     unfold subA
     split <;> rfl
    rw [e3]
    simp only [Int.toNat_natCast,Nat.sub_zero]
    have hlen:((u8s (E.bs++[E.l])++rest').drop 1).take ((E.bs.length-1)*1)=u8s (bytesM E):=by
     rw [hb,Nat.mul_one,List.drop_append_of_le_length (by rw [u8s_length]; simp),List.take_append_of_le_length (by rw [List.length_drop,u8s_length]; simp)]
     unfold u8s
     rw [<- List.map_drop,<- List.map_take,List.dropLast_eq_take]
     congr 2
     simp
    have hl2:(bytesM E).length=E.bs.length-1:=by rw [hb]; simp
    have hr:=rdO_hp H 2 (o:=1) (n:=(E.bs.length-1)*1) rfl (by simp [u8s_length]; omega)
    rw [hlen] at hr
    refine appC_new H hr (by rw [u8s_length,hl2]) (by omega) (by omega) fun o orest h' _ H=>?_
    have:=hk r' rest' o orest _ H
    rw [hl2] at this
    exact this
   ·have h1:¬ E.l=255:=by simp at h1; omega
    rw [if_neg h1] at hb
    have hlen:((u8s (E.bs++[E.l])++rest').drop 1).take (E.bs.length*1)=u8s (bytesM E):=by
     rw [hb,Nat.mul_one,List.drop_append_of_le_length (by rw [u8s_length]; simp),List.take_append_of_le_length (by rw [List.length_drop,u8s_length]; simp)]
     unfold u8s
     rw [<- List.map_drop,<- List.map_take,List.take_of_length_le (by simp)]
    have hl2:(bytesM E).length=E.bs.length:=by rw [hb]; simp
    have hr:=rdO_hp H 2 (o:=1) (n:=E.bs.length*1) rfl (by simp [u8s_length]; omega)
    rw [hlen] at hr
    have e4:E.bs.length+1-(1:Int).toNat=E.bs.length:=by simp
    rw [e4]
    refine appC_new H hr (by rw [u8s_length,hl2]) (by omega) (by omega) fun o orest h' _ H=>?_
    have:=hk r' rest' o orest _ H
    rw [hl2] at this
    exact this
end Go.Ar
namespace Go.Ar
open Go Go.Den Go.Den.YtfaclehehhgpcaaGreat
def BOk (e:Ent) (bp:Option Addr) (b:List Nat):Prop:=e.w=true/\(b=[]\/∃ rest,bp=some ⟨e.b,0,none⟩/\e.cs=u8s b++rest)
def drest (q nst n a c:Nat) (t:Int) (bp:Option Addr) (bl bc:Nat) (i:Nat):List Value :=
 [.slice (some ⟨q,0,none⟩) nst nst, .int .i64 (n:Nat), .int .u32 (a:Nat), .int .u32 (c:Nat), .int .i64 t, .slice bp bl bc, .int .i64 (i:Nat)]
def decE (p q:Nat) (bp:Option Addr) (bc:Nat) (s:Dec):Ent :=
 ⟨p,true,T_arith_Decoder,rowsV++drest q s.st.length s.n s.a s.c (s.t:Nat) bp s.b.length bc s.i⟩
def decL (p q:Nat) (e:Ent) (bp:Option Addr) (bc:Nat) (s:Dec):List Ent:=[decE p q bp bc s,⟨q,true,T_uint8,u8s s.st⟩,e]
theorem byte_ok {h:Heap} {p q:Nat} {e:Ent} {bp:Option Addr} {bc:Nat} {s:Dec} {F:List Nat} {h0:Heap} (H:Hp h0 F h (decL p q e bp bc s)) (hb:BOk e bp s.b) (hb8:∀ x∈s.b,x<256) {i:Nat}
  {K:VK} {Kp:PK} (hk:K (.int .u32 (byteD s i:Nat)) h):CP F_arith_Decoder_byte #[.pointer (at0 p), .int .i64 (i:Nat)] h K Kp:=by
 refine call_arith_Decoder_byte ?_
 unfold arith_Decoder_byte
 try simp only [ptr_some_eq,add_mk,Nat.zero_add,Nat.add_zero]
 refine ldS_of (H.cell 0 rfl (app_get hR 5 rfl)) ?_
 refine bcase_of (fun h1=>?_) fun h1=>?_
 ·have h1:i<s.b.length:=by simp at h1; omega
  obtain ⟨_,hb | ⟨rest,hbp,he⟩⟩:=hb
  ·rw [hb] at h1; simp at h1
  ·have hg:s.b[i]? = some (byteD s i):=by
    unfold byteD
    rw [List.getD_eq_getElem?_getD,List.getElem?_eq_getElem h1]; rfl
   have hlt:=byteD_lt hb8 (s:=s) i
   refine ldS_of (H.cell 0 rfl (app_get hR 5 rfl)) ?_
   refine needs_of (by omega) ?_
   rw [hbp]
   simp only [Int.toNat_natCast,Nat.mul_one]
   try simp only [ptr_some_eq,add_mk,Nat.zero_add,Nat.add_zero]
   refine ldI_of (H.cell 2 rfl (i:=i) (by rw [he]; exact get_app (u8s_get hg))) ?_
   refine bindI_of (((byteD s i:Nat):Int)) (by exact u32_in _ (by omega)) ?_
   exact hk
 ·have h1:s.b.length<=i:=by simp at h1; omega
  have hg:byteD s i=255:=by
   unfold byteD
   rw [List.getD_eq_getElem?_getD,List.getElem?_eq_none h1]; rfl
  rw [hg] at hk
  exact hk
theorem inD_eq (s:Dec):inD s =
 if byteD s s.i≠255 then { s with i:=s.i+1,c:=(s.c+byteD s (s.i+1)*256) % M32,t:=8 }
 else if byteD s (s.i+1) > 143 then { s with c:=(s.c+65280) % M32,t:=8 }
 else { s with i:=s.i+1,c:=(s.c+byteD s (s.i+1)*512) % M32,t:=7 }:=rfl
theorem in_ok {h:Heap} {p q:Nat} {e:Ent} {bp:Option Addr} {bc:Nat} {s:Dec} {F:List Nat} {h0:Heap} (H:Hp h0 F h (decL p q e bp bc s)) (hb:BOk e bp s.b) (hs:MidD s) (hbl:s.b.length<140737488351300)
  {K:VK} {Kp:PK} (hk:∀ h',Hp h0 F h' (decL p q e bp bc (inD s))->K (.tuple #[]) h'):CP F_arith_Decoder_in #[.pointer (at0 p)] h K Kp:=by
 refine call_arith_Decoder_in ?_
 unfold arith_Decoder_in
 have hi:=hs.i
 have hc:=hs.c
 have hM:M32=4294967296:=rfl
 have hb1:=byteD_lt hs.b (s:=s) (s.i+1)
 have hb0:=byteD_lt hs.b (s:=s) s.i
 try simp only [ptr_some_eq,add_mk,Nat.zero_add,Nat.add_zero]
 refine ldI_of (H.cell 0 rfl (app_get hR 6 rfl)) ?_
 refine byte_ok H hb hs.b ?_
 refine ⟨_,rfl,?_⟩
 rw [inD_eq] at hk
 refine bcase_of (fun h1=>?_) fun h1=>?_
 ·have h1:byteD s s.i≠255:=by simp at h1; omega
  rw [if_pos h1] at hk
  refine ldI_of (H.cell 0 rfl (app_get hR 6 rfl)) ?_
  refine bindI_of (((s.i+1:Nat):Int)) (by exact i64_at _ _ (by omega) (by omega) (by omega)) ?_
  refine stV_hr H 0 rfl hR 6 (Nat.le_of_ble_eq_true rfl) rfl fun h hsz H=>?_
  refine ldI_of (H.cell 0 rfl (app_get hR 3 rfl)) ?_
  refine ldI_of (H.cell 0 rfl (app_get hR 6 rfl)) ?_
  have H2:Hp h0 F h (decL p q e bp bc { s with i:=s.i+1 }):=H
  refine byte_ok H2 hb hs.b ?_
  refine ⟨_,rfl,hext.refl _,?_⟩
  have hb2:byteD { s with i:=s.i+1 } (s.i+1)=byteD s (s.i+1):=rfl
  rw [hb2]
  refine bindI_of (((byteD s (s.i+1)*256:Nat):Int)) (by exact shl_of (i:=8) (by decide) (u32_in _ (by omega))) ?_
  refine bindI_of ((((s.c+byteD s (s.i+1)*256) % M32:Nat):Int)) (by rw [IntKind.wrap_u32,hM]; omega) ?_
  refine stV_hr H 0 rfl hR 3 (Nat.le_of_ble_eq_true rfl) rfl fun h hsz H=>?_
  refine stV_hr H 0 rfl hR 4 (Nat.le_of_ble_eq_true rfl) rfl fun h hsz H=>?_
  exact hk _ H
 ·have h1:¬ byteD s s.i≠255:=by simp at h1; omega
  rw [if_neg h1] at hk
  refine ldI_of (H.cell 0 rfl (app_get hR 6 rfl)) ?_
  refine bindI_of (((s.i+1:Nat):Int)) (by exact i64_at _ _ (by omega) (by omega) (by omega)) ?_
  refine byte_ok H hb hs.b ?_
  refine ⟨_,rfl,?_⟩
  refine bcase_of (fun h2=>?_) fun h2=>?_
  ·have h2:byteD s (s.i+1) > 143:=by simp at h2; omega
   rw [if_pos h2] at hk
   refine ldI_of (H.cell 0 rfl (app_get hR 3 rfl)) ?_
   refine bindI_of ((((s.c+65280) % M32:Nat):Int)) (by rw [IntKind.wrap_u32,hM]; omega) ?_
   refine stV_hr H 0 rfl hR 3 (Nat.le_of_ble_eq_true rfl) rfl fun h hsz H=>?_
   refine stV_hr H 0 rfl hR 4 (Nat.le_of_ble_eq_true rfl) rfl fun h hsz H=>?_
   exact hk _ H
  ·have h2:¬ byteD s (s.i+1) > 143:=by simp at h2; omega
   rw [if_neg h2] at hk
   refine ldI_of (H.cell 0 rfl (app_get hR 6 rfl)) ?_
   refine bindI_of (((s.i+1:Nat):Int)) (by exact i64_at _ _ (by omega) (by omega) (by omega)) ?_
   refine stV_hr H 0 rfl hR 6 (Nat.le_of_ble_eq_true rfl) rfl fun h hsz H=>?_
   refine ldI_of (H.cell 0 rfl (app_get hR 3 rfl)) ?_
   refine ldI_of (H.cell 0 rfl (app_get hR 6 rfl)) ?_
   have H2:Hp h0 F h (decL p q e bp bc { s with i:=s.i+1 }):=H
   refine byte_ok H2 hb hs.b ?_
   refine ⟨_,rfl,hext.refl _,?_⟩
   have hb2:byteD { s with i:=s.i+1 } (s.i+1)=byteD s (s.i+1):=rfl
   rw [hb2]
   refine bindI_of (((byteD s (s.i+1)*512:Nat):Int)) (by exact shl_of (i:=9) (by decide) (u32_in _ (by omega))) ?_
   refine bindI_of ((((s.c+byteD s (s.i+1)*512) % M32:Nat):Int)) (by rw [IntKind.wrap_u32,hM]; omega) ?_
   refine stV_hr H 0 rfl hR 3 (Nat.le_of_ble_eq_true rfl) rfl fun h hsz H=>?_
   refine stV_hr H 0 rfl hR 4 (Nat.le_of_ble_eq_true rfl) rfl fun h hsz H=>?_
   exact hk _ H
theorem shiftD_eq (s:Dec):shiftD s = { (if s.t=0 then inD s else s) with a:=2*(if s.t=0 then inD s else s).a,c:=2*(if s.t=0 then inD s else s).c % M32,t:=(if s.t=0 then inD s else s).t-1 }:=rfl
theorem renewD_succ (n:Nat) (s:Dec):renewD (n+1) s=if 0x8000<=(shiftD s).a then shiftD s else renewD n (shiftD s):=rfl
theorem renewD_ok {h:Heap} {p q:Nat} {e:Ent} {bp:Option Addr} {bc:Nat} {s:Dec} {F:List Nat} {h0:Heap} (H:Hp h0 F h (decL p q e bp bc s)) (hb:BOk e bp s.b) (hs:MidD s) (hbl:s.b.length<140737488351300) (ha:1<=s.a) (ha':s.a<0x8000)
  {K:VK} {Kp:PK} (hk:∀ h',Hp h0 F h' (decL p q e bp bc (renewD 17 s))->K (.tuple #[]) h'):CP F_arith_Decoder_renew #[.pointer (at0 p)] h K Kp:=by
 refine call_arith_Decoder_renew ?_
 unfold arith_Decoder_renew
 refine ⟨fun n vs h'=>∃ s':Dec,Hp h0 F h' (decL p q e bp bc s')/\MidD s'/\s'.a<0x8000/\0x8000<=s'.a*2 ^ n/\renewD n s'=renewD 17 s/\s'.b=s.b,
  ⟨17,s,H,hs,ha',by have:(2:Nat) ^ 17=131072:=rfl; omega,rfl,rfl⟩,?_⟩
 clear H
 rintro n h u ⟨s',H,hm,hlt,hge,he,hbe⟩
 obtain ⟨n,rfl⟩:∃ m,n=m+1:=by
  cases n with
  | zero=>simp at hge; omega
  | succ m=>exact ⟨m,rfl⟩
 obtain ⟨g1,g2,g3,g4,g5⟩:=shiftD_mid hm
 have hnext:0x8000<=(shiftD s').a*2 ^ n:=by
  rw [g2]
  rw [Nat.pow_succ] at hge
  have:s'.a*(2 ^ n*2)=2*s'.a*2 ^ n:=by rw [Nat.mul_comm (2 ^ n) 2,<- Nat.mul_assoc,Nat.mul_comm s'.a 2]
  omega
 rw [renewD_succ] at he
 rw [<- hbe] at hb hbl
 refine ⟨fun vs h'=>Hp h0 F h' (decL p q e bp bc (if s'.t=0 then inD s' else s')),?_,?_⟩
 ·try simp only [ptr_some_eq,add_mk,Nat.zero_add,Nat.add_zero]
  refine ldI_of (H.cell 0 rfl (app_get hR 4 rfl)) ?_
  refine bcase_of (fun h1=>?_) fun h1=>?_
  ·have h1:s'.t=0:=by simp at h1; omega
   refine in_ok H hb hm hbl fun h' H=>?_
   rw [if_pos h1]
   exact H
  ·have h1:¬ s'.t=0:=by simp at h1; omega
   rw [if_neg h1]
   exact H
 ·intro h u H
  rw [shiftD_eq] at g1 g2 g5 hnext he
  have hS:MidD (if s'.t=0 then inD s' else s')/\(if s'.t=0 then inD s' else s').a=s'.a/\1<=(if s'.t=0 then inD s' else s').t:=by
   split
   ·obtain ⟨i1,i2,_,_,_,i6⟩:=inD_mid hm
    exact ⟨i1,i2,i6⟩
   ·exact ⟨hm,rfl,by omega⟩
  generalize (if s'.t=0 then inD s' else s')=S at H g1 g2 g5 hnext he hS
  obtain ⟨hS1,hS2,hS3⟩:=hS
  have hSc:=hS1.c
  have hSt:=hS1.t8
  have hM:M32=4294967296:=rfl
  try simp only [ptr_some_eq,add_mk,Nat.zero_add,Nat.add_zero]
  refine ldI_of (H.cell 0 rfl (app_get hR 2 rfl)) ?_
  refine bindI_of (((2*S.a:Nat):Int)) (by exact shl_of (i:=1) (by decide) ((u32_in _ (by omega)).trans (by omega))) ?_
  refine stV_hr H 0 rfl hR 2 (Nat.le_of_ble_eq_true rfl) rfl fun h hsz H=>?_
  refine ldI_of (H.cell 0 rfl (app_get hR 3 rfl)) ?_
  refine bindI_of (((2*S.c % M32:Nat):Int)) (by exact shl_of (i:=1) (by decide) (by rw [IntKind.wrap_u32,hM]; omega)) ?_
  refine stV_hr H 0 rfl hR 3 (Nat.le_of_ble_eq_true rfl) rfl fun h hsz H=>?_
  refine ldI_of (H.cell 0 rfl (app_get hR 4 rfl)) ?_
  refine bindI_of (((S.t-1:Nat):Int)) (by exact i64_at _ _ (by omega) (by omega) (by omega)) ?_
  refine stV_hr H 0 rfl hR 4 (Nat.le_of_ble_eq_true rfl) rfl fun h hsz H=>?_
  refine ldI_of (H.cell 0 rfl (app_get hR 2 rfl)) ?_
  have H2:Hp h0 F h (decL p q e bp bc { S with a:=2*S.a,c:=2*S.c % M32,t:=S.t-1 }):=H
  refine bcase_of (fun h3=>?_) fun h3=>?_
  ·have h3:0x8000<=2*S.a:=by simp at h3; omega
   rw [if_pos h3] at he
   exact hk _ (he ▸ H2)
  ·have h3:¬ 0x8000<=2*S.a:=by simp at h3; omega
   rw [if_neg h3] at he
   exact ⟨n,Nat.lt_succ_self n,_,H2,g1,by show 2*S.a<_; omega,hnext,he,g5.trans hbe⟩
theorem dec_eq (q n:Nat) (bp:Option Addr) (bl bc:Nat):putL (putL (putL Z_arith_Decoder 0 (tabV q n)) 190 ([.int .u32 32768]:List Value)) 193 ([.slice bp bl bc]:List Value)=rowsV++drest q n 0 0x8000 0 0 bp bl bc 0:=by kernel_rfl
def dec0 (b:List Nat) (n:Nat):Dec:={ a:=0x8000,c:=0,t:=0,n:=0,st:=List.replicate n 0,b:=b,i:=0 }
theorem appC_nil {h0 h:Heap} {F:List Nat} {L:List Ent} (H:Hp h0 F h L) {t:TypeId} {by_:Nat} {z:Value} {src:Option Addr} {new:List Value} (hr:rdO h src (0*1) new) {K:Option Addr->Nat->Nat->Heap->Prop} (hk:K none 0 0 h) :
  appC h t 1 by_ [z] none 0 0 src 0 K:=⟨new,hr,by rw [if_pos (Nat.le_refl _)]; exact hk⟩
theorem newDecoder_ok {hB:Heap} {n:Nat} (h1:1<=n) (h2:n<=131072) {b:List Nat} (hb:∀ x∈b,x<256) (hbl:b.length<140737488351300) {src:Option Addr} {bc0:Nat} (hr:rdO hB src (b.length*1) (u8s b)) {K:VK} {Kp:PK}
  (hk:∀ p q e bp bc h',BOk e bp b->Hp hB [] h' (decL p q e bp bc (newD b n))->K (.tuple #[.pointer (at0 p), .int .i64 0]) h'):CP F_arith_NewDecoder #[.slice src b.length bc0, .int .i64 (n:Nat)] hB K Kp:=by
 refine call_arith_NewDecoder ?_
 unfold arith_NewDecoder
 refine made_ok h1 h2 fun q h' H=>?_
 refine ⟨tabV q n,tab_length q n,true,rfl,?_⟩
 refine newC_hp H fun t h H=>?_
 refine needs_of (tab_length q n) ?_
 refine stVs_all H 1 rfl (tab_length q n) (tab_cells q n) fun h' hsz H=>?_
 refine bcase_false (by rfl) ?_
 refine ldAll_hp H 1 rfl (tab_length q n) ?_
 have goal:∀ (bp:Option Addr) (bc:Nat) (e:Ent) (h2:Heap),BOk e bp b->Hp hB [] h2 [⟨q,true,T_uint8,u8s (List.replicate n 0)⟩,e] ->
   needs ((tabV q n).length=190/\0+190<=(Z_arith_Decoder).length) (
   needs ((([.int .u32 32768]:List Value)).length=1/\190+1<=((putL Z_arith_Decoder 0 (tabV q n))).length) <|
   needs ((([.slice bp b.length bc]:List Value)).length=1/\193+1<=((putL (putL Z_arith_Decoder 0 (tabV q n)) 190 ([.int .u32 32768]:List Value))).length) <|
   Go.Den.newC h2 ((putL (putL (putL Z_arith_Decoder 0 (tabV q n)) 190 ([.int .u32 32768]:List Value)) 193 ([.slice bp b.length bc]:List Value))) T_arith_Decoder fun r_11 h_12 =>
   CP F_arith_Decoder_byte #[.pointer (some ⟨r_11,0,none⟩), .int .i64 0] h_12 (fun v_13 h_14 =>
   ∃ (r_15:Int),v_13 = .int .u32 r_15/\(
   bindI (shlI .u32 r_15 (16:Int)) fun z_16 =>
   stV h_14 ((⟨r_11,0,none⟩:Addr).add 191) (.int .u32 z_16) fun h_17 =>
   CP F_arith_Decoder_in #[.pointer (some ⟨r_11,0,none⟩)] h_17 (fun v_18 h_19 =>
   ldI h_19 ((⟨r_11,0,none⟩:Addr).add 191) .u32 fun x_20 =>
   bindI (shlI .u32 x_20 (7:Int)) fun z_21 =>
   stV h_19 ((⟨r_11,0,none⟩:Addr).add 191) (.int .u32 z_21) fun h_22 =>
   ldI h_22 ((⟨r_11,0,none⟩:Addr).add 192) .i64 fun x_23 =>
   bindI (IntKind.i64.wrap (x_23-(7:Int))) fun z_24 =>
   stV h_22 ((⟨r_11,0,none⟩:Addr).add 192) (.int .i64 z_24) fun h_25 =>
   K (.tuple #[.pointer (some ⟨r_11,0,none⟩), .int .i64 0]) h_25) (Kp))) (Kp)):=by
  intro bp bc e h2 hbo H
  refine needs_of ⟨tab_length q n,by decide⟩ ?_
  refine needs_of ⟨rfl,by simp only [putL_length]; decide⟩ ?_
  refine needs_of ⟨rfl,by simp only [putL_length]; decide⟩ ?_
  rw [dec_eq]
  refine newC_hp H fun p h H=>?_
  have H2:=H.pick [2,0,1] (by decide) (L':=decL p q e bp bc (dec0 b n)) (by simp [decL,decE,dec0])
  have H:=H2
  clear H2
  have hb0:=byteD_lt (s:=dec0 b n) hb 0
  refine byte_ok (i:=0) H hbo hb ?_
  refine ⟨_,rfl,?_⟩
  refine bindI_of (((byteD (dec0 b n) 0*65536:Nat):Int)) (by exact shl_of (i:=16) (by decide) (u32_in _ (by omega))) ?_
  try simp only [ptr_some_eq,add_mk,Nat.zero_add,Nat.add_zero]
  refine stV_hr H 0 rfl hR 3 (Nat.le_of_ble_eq_true rfl) rfl fun h hsz H=>?_
  have H2:Hp _ [] h (decL p q e bp bc { dec0 b n with c:=byteD (dec0 b n) 0*65536 }):=H
  have hm:MidD { dec0 b n with c:=byteD (dec0 b n) 0*65536 }:=⟨Nat.zero_le _,by show byteD (dec0 b n) 0*65536<4294967296; omega,hb,fun x hx=>by simp only [dec0,List.mem_replicate] at hx; omega,Nat.zero_le _⟩
  obtain ⟨i1,i2,i3,i4,i5,i6⟩:=inD_mid hm
  refine in_ok H2 hbo hm hbl fun h H=>?_
  have hn:newD b n = { inD { dec0 b n with c:=byteD (dec0 b n) 0*65536 } with c:=(inD { dec0 b n with c:=byteD (dec0 b n) 0*65536 }).c*128 % M32,t:=(inD { dec0 b n with c:=byteD (dec0 b n) 0*65536 }).t-7 }:=rfl
  have ht7:7<=(inD { dec0 b n with c:=byteD (dec0 b n) 0*65536 }).t:=by
   unfold inD
   split
   ·show 7<=8; omega
   ·split
    ·show 7<=8; omega
    ·show 7<=7; omega
  generalize inD { dec0 b n with c:=byteD (dec0 b n) 0*65536 }=S at H hn i1 ht7
  have hSc:=i1.c
  have hSt:=i1.t8
  have hM:M32=4294967296:=rfl
  refine ldI_of (H.cell 0 rfl (app_get hR 3 rfl)) ?_
  refine bindI_of (((S.c*128 % M32:Nat):Int)) (by exact shl_of (i:=7) (by decide) (by rw [IntKind.wrap_u32,hM]; omega)) ?_
  refine stV_hr H 0 rfl hR 3 (Nat.le_of_ble_eq_true rfl) rfl fun h hsz H=>?_
  refine ldI_of (H.cell 0 rfl (app_get hR 4 rfl)) ?_
  refine bindI_of (((S.t-7:Nat):Int)) (by exact i64_at _ _ (by omega) (by omega) (by omega)) ?_
  refine stV_hr H 0 rfl hR 4 (Nat.le_of_ble_eq_true rfl) rfl fun h hsz H=>?_
  refine hk p q e bp bc _ hbo ?_
  rw [hn]
  exact H
 have hr2:=H.rdO hr
 rcases Nat.eq_zero_or_pos b.length with hz | hpos
 ·have hbn:b=[]:=List.length_eq_zero_iff.1 hz
  rw [hz] at hr2 goal ⊢
  refine appC_nil H hr2 ⟨hext.refl _,?_⟩
  exact goal none 0 ⟨t,true,T_arith_table,tabV q n⟩ _ ⟨rfl, .inl hbn⟩ H
 ·refine appC_new H hr2 (u8s_length b) hpos (by omega) fun o rest h' he H'=>⟨he,?_⟩
  ·exact goal (some ⟨o,0,none⟩) _ ⟨o,true,T_uint8,u8s b++rest⟩ _ ⟨rfl, .inr ⟨rest,rfl,rfl⟩⟩ (H'.pick [0,2] (by decide) rfl)
theorem getD_at (s:Dec) (k x:Nat) (hx:s.st[k]? = some x):getD s k =
 if s.c / 65536<qOf (x / 2) then
  if s.a-qOf (x / 2)<qOf (x / 2) then (renewD 17 { s with a:=qOf (x / 2),n:=s.n+1,st:=s.st.set k (upM x) },x % 2)
  else (renewD 17 { s with a:=qOf (x / 2),n:=s.n+1,st:=s.st.set k (upL x) },1-x % 2)
 else
  if 0x8000<=s.a-qOf (x / 2) then ({ s with a:=s.a-qOf (x / 2),c:=s.c-qOf (x / 2)*65536,n:=s.n+1 },x % 2)
  else if s.a-qOf (x / 2)<qOf (x / 2) then (renewD 17 { s with a:=s.a-qOf (x / 2),c:=s.c-qOf (x / 2)*65536,n:=s.n+1,st:=s.st.set k (upL x) },1-x % 2)
  else (renewD 17 { s with a:=s.a-qOf (x / 2),c:=s.c-qOf (x / 2)*65536,n:=s.n+1,st:=s.st.set k (upM x) },x % 2):=by
 rw [<- getD_of hx]; rfl
theorem xor_one {y:Nat} (hy:y<2):y ^^^ 1=1-y:=by
 have:∀ y∈List.range 2,y ^^^ 1=1-y:=by decide
 exact this y (List.mem_range.2 hy)
theorem get_ok {h:Heap} {p q:Nat} {e:Ent} {bp:Option Addr} {bc:Nat} {s:Dec} {F:List Nat} {h0:Heap} (H:Hp h0 F h (decL p q e bp bc s)) (hb:BOk e bp s.b) (hs:WfD s) (hbl:s.b.length<140737488351300) (hn:s.n<16777216) (hl:1<=s.st.length) (hl2:s.st.length<=131072)
  {ctx:Int} {K:VK} {Kp:PK} (hk:∀ h',Hp h0 F h' (decL p q e bp bc (getD s (idx ctx s.st.length)).1)->K (.tuple #[.int .i64 ((getD s (idx ctx s.st.length)).2:Nat), .int .i64 0]) h') :
  CP F_arith_Decoder_Get #[.pointer (at0 p), .int .i64 ctx] h K Kp:=by
 refine call_arith_Decoder_Get ?_
 unfold arith_Decoder_Get
 try simp only [ptr_some_eq,add_mk,Nat.zero_add,Nat.add_zero]
 refine ldI_of (H.cell 0 rfl (app_get hR 1 rfl)) ?_
 refine bcase_false (by simp; omega) ?_
 refine ldI_of (H.cell 0 rfl (app_get hR 1 rfl)) ?_
 refine bindI_of (((s.n+1:Nat):Int)) (by exact i64_at _ _ (by omega) (by omega) (by omega)) ?_
 refine stV_hr H 0 rfl hR 1 (Nat.le_of_ble_eq_true rfl) rfl fun h hsz H=>?_
 refine at_ok H 0 1 rfl rfl hl hl2 hs.st fun h x hx hx94 H=>?_
 refine ⟨_,_,_,_,_,rfl,?_⟩
 refine newC_hp H fun w h H=>?_
 try simp only [ptr_some_eq,add_mk,Nat.zero_add,Nat.add_zero]
 refine stV_hp H 3 rfl (by first | exact Nat.le_of_ble_eq_true rfl | simp) rfl fun h hsz H=>?_
 refine stV_hp H 3 rfl (by first | exact Nat.le_of_ble_eq_true rfl | simp) rfl fun h hsz H=>?_
 refine stV_hp H 3 rfl (by first | exact Nat.le_of_ble_eq_true rfl | simp) rfl fun h hsz H=>?_
 refine stV_hp H 3 rfl (by first | exact Nat.le_of_ble_eq_true rfl | simp) rfl fun h hsz H=>?_
 refine ldI_of (H.cell 1 rfl (u8s_get hx)) ?_
 refine bindI_of (((x % 2:Nat):Int)) (by exact (and8 _ 1 (by omega) (by omega)).trans (by rw [Nat.and_one_is_mod])) ?_
 refine bindI_of (((x % 2:Nat):Int)) (by exact i64_in _ (by omega) (by omega)) ?_
 refine ldI_of (H.cell 0 rfl (app_get hR 2 rfl)) ?_
 refine ldI_of (H.cell 3 rfl rfl) ?_
 have hr:x / 2<47:=by omega
 have hq1:=qOf_pos hr
 have hq2:=qOf_le hr
 have hlo:=hs.lo
 have hhi:=hs.hi
 have hc:=hs.c
 have hM32:M32=4294967296:=rfl
 have hM:=set_lt hs.st (k:=idx ctx s.st.length) (upM_lt hx94)
 have hL:=set_lt hs.st (k:=idx ctx s.st.length) (upL_lt hx94)
 have hil:idx ctx s.st.length<s.st.length:=idx_lt ctx hl
 rw [getD_at s _ x hx] at hk
 generalize idx ctx s.st.length=k at hk hM hL hx hil H ⊢
 refine bindI_of (((s.a-qOf (x / 2):Nat):Int)) (by exact u32_at _ _ (by omega) (by omega)) ?_
 refine stV_hr H 0 rfl hR 2 (Nat.le_of_ble_eq_true rfl) rfl fun h hsz H=>?_
 refine ldI_of (H.cell 0 rfl (app_get hR 3 rfl)) ?_
 refine bindI_of (((s.c / 65536:Nat):Int)) (by exact shr_of (i:=16) (by decide)) ?_
 refine ldI_of (H.cell 3 rfl rfl) ?_
 have hcmp:decide (((s.c / 65536:Nat):Int)<((qOf (x / 2):Nat):Int))=decide (s.c / 65536<qOf (x / 2)):=by
  by_cases h1:s.c / 65536<qOf (x / 2)
  ·rw [decide_eq_true h1]; exact decide_eq_true (by omega)
  ·rw [decide_eq_false h1]; exact decide_eq_false (by omega)
 rw [hcmp]
 have H2:Hp h0 F h (decL p q e bp bc { s with a:=s.a-qOf (x / 2),n:=s.n+1 }++[⟨w,true,T_arith_row,[.int .u32 (qOf (x / 2):Nat), .int .u8 (mOf (x / 2):Nat), .int .u8 (lOf (x / 2):Nat), .int .u8 (cOf (x / 2):Nat)]⟩]):=H
 have H:=H2
 clear H2
 refine ⟨fun vs h'=>(s.c / 65536<qOf (x / 2)/\h'=h)\/(¬ s.c / 65536<qOf (x / 2)/\¬ 0x8000<=s.a-qOf (x / 2)/\Hp h0 F h' (decL p q e bp bc { s with a:=s.a-qOf (x / 2),c:=s.c-qOf (x / 2)*65536,n:=s.n+1 }++[⟨w,true,T_arith_row,[.int .u32 (qOf (x / 2):Nat), .int .u8 (mOf (x / 2):Nat), .int .u8 (lOf (x / 2):Nat), .int .u8 (cOf (x / 2):Nat)]⟩])),?_,?_⟩
 ·refine bcase_of (fun h1=>?_) fun h1=>?_
  ·have h1:¬ s.c / 65536<qOf (x / 2):=by simpa using h1
   refine ldI_of (H.cell 0 rfl (app_get hR 3 rfl)) ?_
   refine ldI_of (H.cell 3 rfl rfl) ?_
   refine bindI_of (((qOf (x / 2)*65536:Nat):Int)) (by exact shl_of (i:=16) (by decide) (u32_in _ (by omega))) ?_
   refine bindI_of (((s.c-qOf (x / 2)*65536:Nat):Int)) (by exact u32_at _ _ (by show (s.c:Int)-((qOf (x / 2)*65536:Nat):Int)=_; omega) (by omega)) ?_
   refine stV_hr H 0 rfl hR 3 (Nat.le_of_ble_eq_true rfl) rfl fun h hsz H=>?_
   refine ldI_of (H.cell 0 rfl (app_get hR 2 rfl)) ?_
   refine bcase_of (fun h2=>?_) fun h2=>?_
   ·have h2:0x8000<=s.a-qOf (x / 2):=by simp at h2; omega
    rw [if_neg h1,if_pos h2] at hk
    exact hk _ (H.take 3)
   ·have h2:¬ 0x8000<=s.a-qOf (x / 2):=by simp at h2; omega
    exact .inr ⟨h1,h2,H⟩
  ·have h1:s.c / 65536<qOf (x / 2):=by simpa using h1
   exact .inl ⟨h1,rfl⟩
 ·rintro h' u (⟨h1,rfl⟩ | ⟨h1,h2,H'⟩)
  ·rw [decide_eq_true h1]
   rw [if_pos h1] at hk
   refine ⟨fun vs h''=>(s.a-qOf (x / 2)<qOf (x / 2)/\vs=[.int .i64 ((x % 2:Nat):Int)]/\Hp h0 F h'' (decL p q e bp bc { s with a:=s.a-qOf (x / 2),n:=s.n+1,st:=s.st.set k (upM x) }++[⟨w,true,T_arith_row,[.int .u32 (qOf (x / 2):Nat), .int .u8 (mOf (x / 2):Nat), .int .u8 (lOf (x / 2):Nat), .int .u8 (cOf (x / 2):Nat)]⟩])) \/
    (¬ s.a-qOf (x / 2)<qOf (x / 2)/\vs=[.int .i64 ((1-x % 2:Nat):Int)]/\Hp h0 F h'' (decL p q e bp bc { s with a:=s.a-qOf (x / 2),n:=s.n+1,st:=s.st.set k (upL x) }++[⟨w,true,T_arith_row,[.int .u32 (qOf (x / 2):Nat), .int .u8 (mOf (x / 2):Nat), .int .u8 (lOf (x / 2):Nat), .int .u8 (cOf (x / 2):Nat)]⟩])),?_,?_⟩
   ·refine ldI_of (H.cell 0 rfl (app_get hR 2 rfl)) ?_
    refine ldI_of (H.cell 3 rfl rfl) ?_
    refine bcase_of (fun h3=>?_) fun h3=>?_
    ·have h3:s.a-qOf (x / 2)<qOf (x / 2):=by simp at h3; omega
     refine ldI_of (H.cell 3 rfl rfl) ?_
     refine ldI_of (H.cell 3 rfl rfl) ?_
     refine ldI_of (H.cell 3 rfl rfl) ?_
     refine ldI_of (H.cell 3 rfl rfl) ?_
     refine likely_ok H 1 rfl hx hx94 rfl fun h H=>?_
     exact .inl ⟨h3,rfl,H.as (by simp [decL,decE,drest])⟩
    ·have h3:¬ s.a-qOf (x / 2)<qOf (x / 2):=by simp at h3; omega
     refine bindI_of (((1-x % 2:Nat):Int)) (by exact (xor63 _ 1 (by omega) (by omega)).trans (by rw [xor_one (by omega)])) ?_
     refine ldI_of (H.cell 3 rfl rfl) ?_
     refine ldI_of (H.cell 3 rfl rfl) ?_
     refine ldI_of (H.cell 3 rfl rfl) ?_
     refine ldI_of (H.cell 3 rfl rfl) ?_
     refine unlikely_ok H 1 rfl hx hx94 rfl rfl fun h H=>?_
     exact .inr ⟨h3,rfl,H.as (by simp [decL,decE,drest])⟩
   ·rintro h'' u y (⟨h3,hy,H⟩ | ⟨h3,hy,H⟩)
    ·injection hy with hy
     injection hy with _ hy
     subst hy
     rw [if_pos h3] at hk
     refine bcase_true (by rfl) ?_
     refine ldI_of (H.cell 3 rfl rfl) ?_
     refine stV_hr H 0 rfl hR 2 (Nat.le_of_ble_eq_true rfl) rfl fun h hsz H=>?_
     exact renewD_ok (s:={ s with a:=qOf (x / 2),n:=s.n+1,st:=s.st.set k (upM x) }) (H.take 3) hb ⟨hs.t8,hc,hs.b,hM,hs.i⟩ hbl hq1 (by show qOf _<_; omega) hk
    ·injection hy with hy
     injection hy with _ hy
     subst hy
     rw [if_neg h3] at hk
     refine bcase_true (by rfl) ?_
     refine ldI_of (H.cell 3 rfl rfl) ?_
     refine stV_hr H 0 rfl hR 2 (Nat.le_of_ble_eq_true rfl) rfl fun h hsz H=>?_
     exact renewD_ok (s:={ s with a:=qOf (x / 2),n:=s.n+1,st:=s.st.set k (upL x) }) (H.take 3) hb ⟨hs.t8,hc,hs.b,hL,hs.i⟩ hbl hq1 (by show qOf _<_; omega) hk
  ·have H:=H'
   clear H'
   rw [decide_eq_false h1]
   rw [if_neg h1,if_neg h2] at hk
   have hc':s.c-qOf (x / 2)*65536<M32:=by omega
   refine ⟨fun vs h''=>(s.a-qOf (x / 2)<qOf (x / 2)/\vs=[.int .i64 ((1-x % 2:Nat):Int)]/\Hp h0 F h'' (decL p q e bp bc { s with a:=s.a-qOf (x / 2),c:=s.c-qOf (x / 2)*65536,n:=s.n+1,st:=s.st.set k (upL x) }++[⟨w,true,T_arith_row,[.int .u32 (qOf (x / 2):Nat), .int .u8 (mOf (x / 2):Nat), .int .u8 (lOf (x / 2):Nat), .int .u8 (cOf (x / 2):Nat)]⟩])) \/
    (¬ s.a-qOf (x / 2)<qOf (x / 2)/\vs=[.int .i64 ((x % 2:Nat):Int)]/\Hp h0 F h'' (decL p q e bp bc { s with a:=s.a-qOf (x / 2),c:=s.c-qOf (x / 2)*65536,n:=s.n+1,st:=s.st.set k (upM x) }++[⟨w,true,T_arith_row,[.int .u32 (qOf (x / 2):Nat), .int .u8 (mOf (x / 2):Nat), .int .u8 (lOf (x / 2):Nat), .int .u8 (cOf (x / 2):Nat)]⟩])),?_,?_⟩
   ·refine ldI_of (H.cell 0 rfl (app_get hR 2 rfl)) ?_
    refine ldI_of (H.cell 3 rfl rfl) ?_
    refine bcase_of (fun h3=>?_) fun h3=>?_
    ·have h3:¬ s.a-qOf (x / 2)<qOf (x / 2):=by simp at h3; omega
     refine ldI_of (H.cell 3 rfl rfl) ?_
     refine ldI_of (H.cell 3 rfl rfl) ?_
     refine ldI_of (H.cell 3 rfl rfl) ?_
     refine ldI_of (H.cell 3 rfl rfl) ?_
     refine likely_ok H 1 rfl hx hx94 rfl fun h H=>?_
     exact .inr ⟨h3,rfl,H.as (by simp [decL,decE,drest])⟩
    ·have h3:s.a-qOf (x / 2)<qOf (x / 2):=by simp at h3; omega
     refine bindI_of (((1-x % 2:Nat):Int)) (by exact (xor63 _ 1 (by omega) (by omega)).trans (by rw [xor_one (by omega)])) ?_
     refine ldI_of (H.cell 3 rfl rfl) ?_
     refine ldI_of (H.cell 3 rfl rfl) ?_
     refine ldI_of (H.cell 3 rfl rfl) ?_
     refine ldI_of (H.cell 3 rfl rfl) ?_
     refine unlikely_ok H 1 rfl hx hx94 rfl rfl fun h H=>?_
     exact .inl ⟨h3,rfl,H.as (by simp [decL,decE,drest])⟩
   ·rintro h'' u y (⟨h3,hy,H⟩ | ⟨h3,hy,H⟩)
    ·injection hy with hy
     injection hy with _ hy
     subst hy
     rw [if_pos h3] at hk
     refine bcase_false (by rfl) ?_
     exact renewD_ok (s:={ s with a:=s.a-qOf (x / 2),c:=s.c-qOf (x / 2)*65536,n:=s.n+1,st:=s.st.set k (upL x) }) (H.take 3) hb ⟨hs.t8,hc',hs.b,hL,hs.i⟩ hbl (by show 1<=s.a-_; omega) (by show s.a-_<_; omega) hk
    ·injection hy with hy
     injection hy with _ hy
     subst hy
     rw [if_neg h3] at hk
     refine bcase_false (by rfl) ?_
     exact renewD_ok (s:={ s with a:=s.a-qOf (x / 2),c:=s.c-qOf (x / 2)*65536,n:=s.n+1,st:=s.st.set k (upM x) }) (H.take 3) hb ⟨hs.t8,hc',hs.b,hM,hs.i⟩ hbl (by show 1<=s.a-_; omega) (by show s.a-_<_; omega) hk
end Go.Ar
namespace Go.Ar
def codN (k b:Nat->Nat) (m:Nat):Nat->Cod
 | 0=>newC m
 | n+1=>putM (codN k b m n) (k n) (b n)
def decN (k:Nat->Nat) (bytes:List Nat) (m:Nat):Nat->Dec
 | 0=>newD bytes m
 | n+1=>(getD (decN k bytes m n) (k n)).1
end Go.Ar
namespace Go.Den.YtfaclehehhgpcaaGreat
open Go Go.Den
end Go.Den.YtfaclehehhgpcaaGreat
namespace Go.Den.YtfaclehehhgpcaaGreat
open Go Go.Den
end Go.Den.YtfaclehehhgpcaaGreat
namespace Go.Ar
open Go Go.Den Go.Den.YtfaclehehhgpcaaGreat
structure CodOk (m n:Nat) (s:Cod):Prop where
 wf:Wf s
 n:s.n=n
 len:s.st.length=m
 done:s.done=false
theorem newC_ok (m:Nat):CodOk m 0 (newC m):=⟨newC_wf m,rfl,by simp [newC],rfl⟩
theorem putM_ok {m n:Nat} {s:Cod} (h:CodOk m n s) (k b:Nat) (hn:n<16777216):CodOk m (n+1) (putM s k b):=by
 obtain ⟨h1,h2,h3⟩:=putM_n s k b
 exact ⟨putM_wf h.wf k b (by rw [h.n]; exact hn),by rw [h1,h.n],by rw [h2,h.len],by rw [h3,h.done]⟩
theorem renewD_st:∀ (k:Nat) (s:Dec),(renewD k s).st=s.st/\(renewD k s).n=s.n/\(renewD k s).b=s.b:=by
 have hi:∀ s:Dec,(inD s).st=s.st/\(inD s).n=s.n/\(inD s).b=s.b:=fun s=>by
  unfold inD
  split
  ·exact ⟨rfl,rfl,rfl⟩
  ·split <;> exact ⟨rfl,rfl,rfl⟩
 have hs:∀ s:Dec,(shiftD s).st=s.st/\(shiftD s).n=s.n/\(shiftD s).b=s.b:=fun s=>by
  rw [shiftD_eq]
  split
  ·exact hi s
  ·exact ⟨rfl,rfl,rfl⟩
 intro k
 induction k with
 | zero=>intro s; exact ⟨rfl,rfl,rfl⟩
 | succ k ih =>
  intro s
  obtain ⟨h1,h2,h3⟩:=hs s
  rw [renewD_succ]
  split
  ·exact ⟨h1,h2,h3⟩
  ·obtain ⟨g1,g2,g3⟩:=ih (shiftD s)
   exact ⟨g1.trans h1,g2.trans h2,g3.trans h3⟩
theorem getD_n (s:Dec) (k:Nat):(getD s k).1.n=s.n+1/\(getD s k).1.st.length=s.st.length/\(getD s k).1.b=s.b:=by
 have hr:∀ S:Dec,S.n=s.n+1->S.st.length=s.st.length->S.b=s.b->(renewD 17 S).n=s.n+1/\(renewD 17 S).st.length=s.st.length/\(renewD 17 S).b=s.b:=fun S e1 e2 e3=>by
  obtain ⟨h1,h2,h3⟩:=renewD_st 17 S
  exact ⟨h2.trans e1,by rw [h1,e2],h3.trans e3⟩
 unfold getD
 simp only []
 split
 ·split
  ·exact hr _ rfl (List.length_set ..) rfl
  ·exact hr _ rfl (List.length_set ..) rfl
 ·split
  ·exact ⟨rfl,rfl,rfl⟩
  ·split
   ·exact hr _ rfl (List.length_set ..) rfl
   ·exact hr _ rfl (List.length_set ..) rfl
theorem getD_bit {s:Dec} (k:Nat):(getD s k).2<=1:=by
 have:s.st.getD k 0 % 2<2:=Nat.mod_lt _ (by omega)
 unfold getD
 simp only []
 split
 ·split
  ·show s.st.getD k 0 % 2<=1; omega
  ·show 1-s.st.getD k 0 % 2<=1; omega
 ·split
  ·show s.st.getD k 0 % 2<=1; omega
  ·split
   ·show 1-s.st.getD k 0 % 2<=1; omega
   ·show s.st.getD k 0 % 2<=1; omega
theorem newD_wf {b:List Nat} (hb:∀ x∈b,x<256) (n:Nat):WfD (newD b n)/\(newD b n).n=0/\(newD b n).st.length=n/\(newD b n).b=b:=by
 have hm:MidD { dec0 b n with c:=byteD (dec0 b n) 0*65536 }:=⟨Nat.zero_le _,by
  show byteD (dec0 b n) 0*65536<4294967296
  have:=byteD_lt (s:=dec0 b n) hb 0
  omega,hb,fun x hx=>by simp only [dec0,List.mem_replicate] at hx; omega,Nat.zero_le _⟩
 obtain ⟨i1,i2,i3,i4,i5,i6⟩:=inD_mid hm
 have hn:newD b n = { inD { dec0 b n with c:=byteD (dec0 b n) 0*65536 } with c:=(inD { dec0 b n with c:=byteD (dec0 b n) 0*65536 }).c*128 % M32,t:=(inD { dec0 b n with c:=byteD (dec0 b n) 0*65536 }).t-7 }:=rfl
 generalize inD { dec0 b n with c:=byteD (dec0 b n) 0*65536 }=S at hn i1 i2 i3 i4 i5
 rw [hn]
 have e2:S.a=0x8000:=i2
 have e3:S.n=0:=i3
 have e4:S.st=List.replicate n 0:=i4
 have e5:S.b=b:=i5
 refine ⟨⟨⟨by show S.t-7<=8; have:=i1.t8; omega,Nat.mod_lt _ (by decide),i1.b,i1.st,i1.i⟩,by show S.n<=_; omega,by show _<=S.a; omega,by show S.a<_; omega⟩,e3,?_,e5⟩
 show S.st.length=n
 rw [e4]
 simp
structure DecOk (bytes:List Nat) (m n:Nat) (s:Dec):Prop where
 wf:WfD s
 n:s.n=n
 len:s.st.length=m
 b:s.b=bytes
theorem newD_ok {b:List Nat} (hb:∀ x∈b,x<256) (m:Nat):DecOk b m 0 (newD b m):=by
 obtain ⟨h1,h2,h3,h4⟩:=newD_wf hb m
 exact ⟨h1,h2,h3,h4⟩
theorem getD_ok {b:List Nat} {m n:Nat} {s:Dec} (h:DecOk b m n s) (k:Nat) (hn:n<16777216):DecOk b m (n+1) (getD s k).1:=by
 obtain ⟨h1,h2,h3⟩:=getD_n s k
 exact ⟨getD_wf h.wf k (by rw [h.n]; exact hn),by rw [h1,h.n],by rw [h2,h.len],by rw [h3,h.b]⟩
theorem outM_lt {s:Cod} (hl:s.l<256) (hb:∀ x∈s.bs,x<256):(outM s).l<256/\∀ x∈(outM s).bs,x<256:=by
 have hm:∀ (l c:Nat),l<256->(outTail s l c).l<256/\∀ x∈(outTail s l c).bs,x<256:=fun l c h=>by
  have h2:∀ x∈s.bs++[l],x<256:=fun x hx=>by
   rcases List.mem_append.1 hx with h3 | h3
   ·exact hb x h3
   ·rw [List.mem_singleton.1 h3]; exact h
  unfold outTail
  split
  ·exact ⟨Nat.mod_lt _ (by omega),h2⟩
  ·exact ⟨Nat.mod_lt _ (by omega),h2⟩
 unfold outM
 split
 ·exact hm _ _ (by omega)
 ·exact hm _ _ hl
theorem flushM_lt {s:Cod} (h:Wf s):∀ x∈bytesM (flushM s),x<256:=by
 have h1:(flushS { s with c:=flushC s,done:=true }).l<256/\∀ x∈(flushS { s with c:=flushC s,done:=true }).bs,x<256:=outM_lt (s:={ s with c:=flushC s*2 ^ s.t,done:=true }) h.l h.bs
 have h2:(flushM s).l<256/\∀ x∈(flushM s).bs,x<256:=outM_lt (s:={ flushS { s with c:=flushC s,done:=true } with c:=(flushS { s with c:=flushC s,done:=true }).c*2 ^ (flushS { s with c:=flushC s,done:=true }).t }) h1.1 h1.2
 have h3:∀ x∈(flushM s).bs++[(flushM s).l],x<256:=fun x hx=>by
  rcases List.mem_append.1 hx with h4 | h4
  ·exact h2.2 x h4
  ·rw [List.mem_singleton.1 h4]; exact h2.1
 intro x hx
 unfold bytesM at hx
 simp only [] at hx
 split at hx
 ·exact h3 x (List.mem_of_mem_drop ((List.dropLast_sublist _).subset hx))
 ·exact h3 x (List.mem_of_mem_drop hx)
theorem flushM_len (s:Cod):(bytesM (flushM s)).length<=s.bs.length+3:=by
 have h1:(flushS { s with c:=flushC s,done:=true }).bs.length=s.bs.length+1:=(outM_same _).2.2.2.2
 have h2:(flushM s).bs.length=(flushS { s with c:=flushC s,done:=true }).bs.length+1:=(outM_same _).2.2.2.2
 unfold bytesM
 simp only []
 split
 ·simp; omega
 ·simp; omega
end Go.Ar
namespace Go.Ar
open Go Go.Den Go.Den.YtfaclehehhgpcaaGreat
end Go.Ar
namespace Go.Ar
open Go Go.Den Go.Den.YtfaclehehhgpcaaGreat
theorem add_add' (a:Addr) (m n:Nat):(a.add m).add n=a.add (m+n):=by
 unfold Addr.add
 by_cases h1:m=0
 ·subst h1; simp
 ·by_cases h2:n=0
  ·subst h2; simp
  ·rw [if_neg h1,if_neg h2,if_neg (by omega)]
   simp [Nat.add_assoc]
end Go.Ar
namespace Go.Den.YtfaclehehhgpcaaGreat
open Go Go.Den
end Go.Den.YtfaclehehhgpcaaGreat
namespace Go.Den.YtfaclehehhgpcaaGreat
open Go Go.Den
end Go.Den.YtfaclehehhgpcaaGreat
namespace Go.Ar
open Go Go.Den Go.Den.YtfaclehehhgpcaaGreat
end Go.Ar
namespace Go.Ar
open Go Go.Den Go.Den.YtfaclehehhgpcaaGreat
end Go.Ar
namespace Go.Ar
open Go Go.Den Go.Den.YtfaclehehhgpcaaGreat
structure RP where
 p:Nat
 g:Nat
 gc:Nat
 sq:Nat
 bq:Nat
 grest:List Value
end Go.Ar
namespace Go.Ar
open Go Go.Den Go.Den.YtfaclehehhgpcaaGreat
end Go.Ar
namespace Go.Ar
open Go Go.Den Go.Den.YtfaclehehhgpcaaGreat
end Go.Ar
namespace Go.Ar
open Go Go.Den Go.Den.YtfaclehehhgpcaaGreat
end Go.Ar
namespace Go.Ar
open Go Go.Den Go.Den.YtfaclehehhgpcaaGreat
end Go.Ar
namespace Go.Ar
open Go Go.Den Go.Den.YtfaclehehhgpcaaGreat
theorem contexts_ok {h:Heap} {p q n:Nat} {F:List Nat} {h0:Heap} {L:List Ent} (H:Hp h0 F h L) (kp:Nat) {w:Bool} {t:TypeId} {T:List Value} (hp:L[kp]? = some ⟨p,w,t,rowsV++(.slice (some ⟨q,0,none⟩) n n::T)⟩)
  {K:VK} {Kp:PK} (hk:K (.int .i64 (n:Nat)) h):CP F_arith_table_Contexts #[.pointer (at0 p)] h K Kp:=by
 refine call_arith_table_Contexts ?_
 unfold arith_table_Contexts
 try simp only [ptr_some_eq,add_mk,Nat.zero_add,Nat.add_zero]
 refine ldS_of (H.cell kp hp (app_get hR 0 rfl)) ?_
 exact hk
end Go.Ar
namespace Go.Ar
open Go Go.Den Go.Den.YtfaclehehhgpcaaGreat
end Go.Ar
namespace Go.Den.YtfaclehehhgpcaaGreat
open Go Go.Den
end Go.Den.YtfaclehehhgpcaaGreat
namespace Go.Den.YtfaclehehhgpcaaGreat
open Go Go.Den
end Go.Den.YtfaclehehhgpcaaGreat
namespace Go.Den.YtfaclehehhgpcaaGreat
open Go Go.Den
end Go.Den.YtfaclehehhgpcaaGreat
namespace Go.Den.YtfaclehehhgpcaaGreat
open Go Go.Den
end Go.Den.YtfaclehehhgpcaaGreat
namespace Go.Bm
open Go Go.Den Go.Den.YtfaclehehhgpcaaGreat
theorem rdO_ext {h h':Heap} (e:hext h h') {a:Option Addr} {n:Nat} {vs:List Value} (hr:rdO h a n vs):rdO h' a n vs :=
 Fr.rdO (F:=[]) ⟨e.1,fun b hb _=>e.2 b hb⟩ (fun _ _=>by simp) hr
theorem setAll_app:∀ (B0:List Ent) (ix:List Nat) (L D:List Ent),B0.length=ix.length->setAll L ix (B0++D)=setL L ix B0++D
 | [],[],L,D,_=>by rw [List.nil_append,setAll_nil]; unfold setL; rfl
 | b::B0,i::ix,L,D,h=>by
  show setAll L (i::ix) (b::(B0++D))=setL L (i::ix) (b::B0)++D
  unfold setAll setL
  exact setAll_app B0 ix _ D (by simpa using h)
 | [],_::_,_,_,h=>by cases h
 | _::_,[],_,_,h=>by cases h
theorem Hp.backD {h0 h h':Heap} {F:List Nat} {L A B0 D:List Ent} (H:Hp h0 F h L) (ix:List Nat) (hnd:ix.Nodup) (hA:ix.map (fun k=>L[k]?)=A.map some) (hw:A.all Ent.w=true) (H':Hp h (A.map Ent.b) h' (B0++D)) (hB:B0.all Ent.w=true) (hD:D.all Ent.w=true) (hl:B0.length=ix.length) :
  Hp h0 F h' (setL L ix B0++D):=(H.back ix hnd hA hw H' (by rw [List.all_append,hB,hD]; rfl) (by rw [List.length_append]; omega)).as (setAll_app B0 ix L D hl)
theorem Slot.rdO' {h0 h:Heap} {F:List Nat} {L D:List Ent} {t:TypeId} {sz n c:Nat} {q:Option Addr} {xs:List Value} (hd:Slot t sz D q n c xs) (H:Hp h0 F h L) (hs:∀ e∈D,e∈L):rdO h q (n*sz) xs:=by
 obtain ⟨hl,⟨rfl,rfl,rfl,rfl⟩ | ⟨b,rest,rfl,rfl,hc⟩⟩:=hd
 ·rw [Nat.zero_mul] at hl ⊢
  rw [List.length_eq_zero_iff.1 hl]
  exact rfl
 ·exact H.rdO_mem (hs _ (List.mem_singleton.2 rfl)) hl
structure Pg where
 W:Nat
 X:Nat
 d:Nat
 s:Nat
 ws:List Nat
 nx:Nat
 dn:Bool
structure PgOk (g:Pg):Prop where
 size:SizeP (g.W:Int) (g.X:Int)
 len:g.ws.length=g.X*wds g.W
 w:W64 g.ws
 nx:g.nx<=g.X
 s:g.s<=1048576
theorem PgOk.b {g:Pg} (h:PgOk g):1<=g.W/\g.W<=1048576/\1<=g.X/\g.X<=1048576/\1<=g.ws.length/\g.ws.length<=1048576:=by
 obtain ⟨W',X',e1,e2,hW1,hW2,hX1,hX2,hWX⟩:=size_nat h.size
 have e1:g.W=W':=by omega
 have e2:g.X=X':=by omega
 rw [h.len,e1,e2]
 have:=hw_le hW1 hWX
 have h1:1<=X'*wds W':=Nat.mul_pos hX1 (wds_pos hW1)
 omega
theorem pix_zero (n wd x y:Nat):pix (List.replicate n 0) wd x y=false:=by
 unfold pix
 rw [List.getD_eq_getElem?_getD]
 cases h:(List.replicate n 0)[y*wd+x / 64]? with
 | none=>exact Nat.zero_testBit _
 | some v=>rw [(List.mem_replicate.1 (List.mem_of_getElem? h)).2]; exact Nat.zero_testBit _
end Go.Bm
namespace Go.Bm
open Go Go.Den Go.Den.YtfaclehehhgpcaaGreat
end Go.Bm
namespace Go.Den.YtfaclehehhgpcaaGreat
open Go Go.Den
end Go.Den.YtfaclehehhgpcaaGreat
namespace Go.Den.YtfaclehehhgpcaaGreat
open Go Go.Den
end Go.Den.YtfaclehehhgpcaaGreat
namespace Go.Bm
open Go Go.Den Go.Den.YtfaclehehhgpcaaGreat
end Go.Bm
namespace Go.Bm
open Go Go.Den Go.Den.YtfaclehehhgpcaaGreat
end Go.Bm
namespace Go.Bm
open Go Go.Den Go.Den.YtfaclehehhgpcaaGreat
theorem white_ok' {hB:Heap} {W X:Nat} (hs:SizeP (W:Int) (X:Int)) {K:VK} {Kp:PK}
  (hk:∀ ws q h,ws.length=X*wds W->W64 ws->(∀ x y,pix ws (wds W) x y=false)->Hp hB [] h [⟨q,true,T_uint64,u64s ws++[]⟩]->K (.agg #[.int .i64 (W:Nat), .int .i64 (X:Nat), .slice (at0 q) ws.length ws.length]) h) :
  CP F_burinref0_White #[.int .i64 (W:Nat), .int .i64 (X:Nat)] hB K Kp:=by
 refine white_ok hs fun q h H=>?_
 have:=hk (List.replicate (X*wds W) 0) q h (by simp) (W64.zero _) (fun x y=>pix_zero _ _ _ _) (H.as (by rw [List.append_nil]))
 rw [List.length_replicate] at this
 exact this
theorem may_of_pix {W X:Nat} {ws:List Nat} (hs:SizeP (W:Int) (X:Int)) (hl:ws.length=X*wds W) (hw:W64 ws) (hp:∀ y,y<X->∀ x,W<=x->x<64*wds W->pix ws (wds W) x y=false):MayP (W:Int) (X:Int) ws:=by
 obtain ⟨W',X',e1,e2,hW1,hW2,hX1,hX2,hWX⟩:=size_nat hs
 obtain rfl:W=W':=by omega
 refine ⟨hs,by simpa using hl,fun y hy=>?_⟩
 simp only [Int.toNat_natCast] at hy ⊢
 rw [mod_zero_bits]
 intro j hj
 unfold padn at hj
 have hwd:wds W=(W+63) / 64:=rfl
 have:=hp y hy (64*(wds W-1)+(63-j)) (by omega) (by omega)
 unfold pix at this
 rw [show (64*(wds W-1)+(63-j)) / 64=wds W-1 by omega,show 63-(64*(wds W-1)+(63-j)) % 64=j by omega] at this
 exact this
theorem pix_of_may {W X:Nat} {ws:List Nat} (h:MayP (W:Int) (X:Int) ws) {x y:Nat} (hy:y<X) (h1:W<=x) (h2:x<64*wds W):pix ws (wds W) x y=false:=by
 have h3:=h.2.2 y (by simpa using hy)
 simp only [Int.toNat_natCast] at h3
 rw [mod_zero_bits] at h3
 have hwd:wds W=(W+63) / 64:=rfl
 unfold padn at h3
 have:=h3 (63-x % 64) (by omega)
 unfold pix
 rw [show x / 64=wds W-1 by omega]
 exact this
theorem may_len {W X:Nat} {ws:List Nat} (h:MayP (W:Int) (X:Int) ws):ws.length=X*wds W:=by simpa using h.2.1
end Go.Bm
namespace Go.Bm
open Go Go.Den Go.Den.YtfaclehehhgpcaaGreat
open Go.Ar (Cod putM idx)
def stepP (m:Nat) (base:Int) (s:Cod) (n:Nat) (bit:Bool):(Bool × Cod) ⊕ (Int × Cod) := .inl (bit,putM s (idx (base+(n:Int)) m) bit.toNat)
end Go.Bm
namespace Go.Bm
open Go Go.Den Go.Den.YtfaclehehhgpcaaGreat
end Go.Bm
namespace Go.Bm
open Go Go.Den Go.Den.YtfaclehehhgpcaaGreat
theorem upd_self (G:Int->Int->Bool) (a b:Int):upd G a b (G a b)=G:=by
 funext x y
 unfold upd
 by_cases h:x=a/\y=b
 ·rw [if_pos h,h.1,h.2]
 ·rw [if_neg h]
end Go.Bm
namespace Go.Bm
open Go Go.Den Go.Den.YtfaclehehhgpcaaGreat
section
variable {hB:Heap} {w b w2 b2:Int} {q1 q2:Option Addr} {c1 c2:Nat} {ws ws2:List Nat} {dx dy:Int} {K:VK} {Kp:PK}
end
end Go.Bm
namespace Go.Bm
open Go Go.Den Go.Den.YtfaclehehhgpcaaGreat
open Go.Ar (Dec decL idx BOk)
def stepG (m:Nat) (base:Int) (s:Dec) (n:Nat) (_:Bool):(Bool × Dec) ⊕ (Int × Dec) := .inl (decide ((Go.Ar.getD s (idx (base+(n:Int)) m)).2=1),(Go.Ar.getD s (idx (base+(n:Int)) m)).1)
def SG (p q rc rb:Nat) (base:Int) (e:Ent) (bp:Option Addr) (bc:Nat) (s:Dec) (M:List Ent):Prop:=BOk e bp s.b/\M=decL p q e bp bc s++[⟨rc,true,T_p_arith_Decoder,[.pointer (at0 p)]⟩,⟨rb,true,T_int,[.int .i64 base]⟩]
theorem SG.w {p q rc rb:Nat} {base:Int} {e:Ent} {bp:Option Addr} {bc:Nat} {s:Dec} {M:List Ent} (h:SG p q rc rb base e bp bc s M):M.all Ent.w=true:=by
 obtain ⟨h1,rfl⟩:=h
 simp [decL,Go.Ar.decE,h1.1]
end Go.Bm
namespace Go.Bm
open Go Go.Den Go.Den.YtfaclehehhgpcaaGreat
theorem getP_zero (n W X:Nat):getP (List.replicate n 0) W X=fun _ _=>false:=by
 funext x y
 unfold getP
 rw [pix_zero,Bool.and_false]
end Go.Bm
namespace Go.Bm
open Go Go.Den Go.Den.YtfaclehehhgpcaaGreat
end Go.Bm
namespace Go.Ar
def valR:List Nat->Nat
 | []=>0
 | x::r=>valR r*(if r.head? = some 255 then 128 else 256)+x
def valL (l:List Nat):Nat:=valR l.reverse
theorem valL_snoc (l:List Nat) (x:Nat):valL (l++[x])=valL l*(if l.getLast? = some 255 then 128 else 256)+x:=by
 unfold valL
 rw [List.reverse_append,List.reverse_singleton,List.singleton_append,valR,List.head?_reverse]
section
variable (E:List Nat)
def fE (k:Nat):Nat:=E.getD k 255
def lenE (k:Nat):Nat:=if k<E.length/\fE E (k-1)=255 then 7 else 8
def XE:Nat->Nat
 | 0=>fE E 0
 | k+1=>XE k*2 ^ lenE E (k+1)+fE E (k+1)
def BE:Nat->Nat
 | 0=>0
 | k+1=>BE k+lenE E (k+1)
end
theorem lenE_le (E:List Nat) (k:Nat):lenE E k<=8/\7<=lenE E k:=by unfold lenE; split <;> omega
theorem BE_mono (E:List Nat) {j k:Nat} (h:j<=k):BE E j<=BE E k:=by
 induction k with
 | zero=>have:j=0:=by omega
         subst this; exact Nat.le_refl _
 | succ k ih =>
  rcases Nat.lt_or_ge k j with h1 | h1
  ·have:j=k+1:=by omega
   subst this; exact Nat.le_refl _
  ·exact Nat.le_trans (ih h1) (Nat.le_add_right _ _)
theorem XE_mono (E:List Nat) {j k:Nat} (h:j<=k):XE E j*2 ^ BE E k<=XE E k*2 ^ BE E j:=by
 induction k with
 | zero=>have:j=0:=by omega
         subst this; exact Nat.le_refl _
 | succ k ih =>
  rcases Nat.lt_or_ge k j with h1 | h1
  ·have:j=k+1:=by omega
   subst this; exact Nat.le_refl _
  ·have h2:=ih h1
   show XE E j*2 ^ (BE E k+lenE E (k+1))<=(XE E k*2 ^ lenE E (k+1)+fE E (k+1))*2 ^ BE E j
   rw [Nat.pow_add,<- Nat.mul_assoc,Nat.add_mul]
   have h3:=Nat.mul_le_mul_right (2 ^ lenE E (k+1)) h2
   have e:XE E k*2 ^ BE E j*2 ^ lenE E (k+1)=XE E k*2 ^ lenE E (k+1)*2 ^ BE E j:=Nat.mul_right_comm _ _ _
   omega
theorem XE_end (E:List Nat) {m:Nat} (hm:m+1=E.length):∀ d,XE E (m+d)+1=(XE E m+1)*2 ^ (8*d)/\BE E (m+d)=BE E m+8*d
 | 0=>by simp
 | d+1=>by
  obtain ⟨h1,h2⟩:=XE_end E hm d
  have hl:lenE E (m+d+1)=8:=by unfold lenE; rw [if_neg (by omega)]
  have hf:fE E (m+d+1)=255:=by unfold fE; rw [List.getD_eq_getElem?_getD,List.getElem?_eq_none (by omega)]; rfl
  constructor
  ·show XE E (m+d)*2 ^ lenE E (m+d+1)+fE E (m+d+1)+1=_
   rw [hl,hf,show 8*(d+1)=8*d+8 by omega,Nat.pow_add,<- Nat.mul_assoc,<- h1]
   omega
  ·show BE E (m+d)+lenE E (m+d+1)=_
   rw [hl,h2]; omega
theorem valL_XE (E:List Nat):∀ (p:List Nat) (x:Nat),p.length<E.length->(∀ j v,p[j]? = some v->fE E j=v)->valL (p++[x])+fE E p.length=XE E p.length+x:=by
 intro p
 have key:∀ (n:Nat) (p:List Nat) (x:Nat),p.length=n->p.length<E.length->(∀ j v,p[j]? = some v->fE E j=v)->valL (p++[x])+fE E p.length=XE E p.length+x:=by
  intro n
  induction n with
  | zero =>
   intro p x hn hl hp
   have:p=[]:=List.length_eq_zero_iff.1 hn
   subst this
   rw [valL_snoc]
   show valL []*_+x+fE E 0=fE E 0+x
   simp [valL,valR]; omega
  | succ n ih =>
   intro p x hn hl hp
   obtain ⟨q,y,rfl⟩:∃ q y,p=q++[y]:=by
    rcases List.eq_nil_or_concat p with rfl | ⟨q,y,rfl⟩
    ·simp at hn
    ·exact ⟨q,y,by simp⟩
   have hq:q.length=n:=by simp at hn; exact hn
   have hy:fE E q.length=y:=hp q.length y (by simp)
   have h1:=ih q y hq (by omega) (fun j v hv=>hp j v (by rw [List.getElem?_append_left (List.getElem?_eq_some_iff.1 hv).1]; exact hv))
   have h2:valL (q++[y])=XE E q.length:=by omega
   rw [valL_snoc,h2,hn]
   have hlen:(if (q++[y]).getLast? = some 255 then 128 else 256)=2 ^ lenE E (n+1):=by
    unfold lenE
    rw [List.getLast?_concat,Nat.add_sub_cancel,<- hq,hy]
    by_cases h3:y=255
    ·rw [if_pos (by rw [h3]),if_pos ⟨by rw [hn] at hl; omega,h3⟩]
    ·rw [if_neg (by simpa using h3),if_neg (by simp [h3])]
   rw [hlen,<- hq]
   show _=XE E q.length*2 ^ lenE E (q.length+1)+fE E (q.length+1)+x
   omega
 exact fun x=>key p.length p x rfl
def lowC (s:Cod):Nat:=valL (s.bs++[s.l])*2 ^ (27-s.t)+s.c
structure Fut (E:List Nat) (s:Cod) (A:Nat):Prop where
 len:s.bs.length<E.length
 pre:∀ j v,s.bs[j]? = some v->fE E j=v
 last:fE E s.bs.length=s.l\/fE E s.bs.length=s.l+1/\s.l≠255
 lo:∀ k,s.bs.length<k->lowC s*2 ^ BE E k<(XE E k+1)*2 ^ (BE E s.bs.length+(27-s.t))
 hi:∀ k,XE E k*2 ^ (BE E s.bs.length+(27-s.t))<(lowC s+A)*2 ^ BE E k
theorem Fut.part {E:List Nat} {s:Cod} {A a' c' n':Nat} {st':List Nat} {d':Bool} (h:Fut E { s with a:=a',c:=c',n:=n',st:=st',done:=d' } A) {A0:Nat} (h1:s.c<=c') (h2:c'+A<=s.c+A0):Fut E s A0:=by
 have hl:lowC { s with a:=a',c:=c',n:=n',st:=st',done:=d' }=lowC s+(c'-s.c):=by
  show valL (s.bs++[s.l])*2 ^ (27-s.t)+c'=valL (s.bs++[s.l])*2 ^ (27-s.t)+s.c+(c'-s.c)
  omega
 refine ⟨h.len,h.pre,h.last,fun k hk=>?_,fun k=>?_⟩
 ·have:=h.lo k hk
  rw [hl,Nat.add_mul] at this
  exact Nat.lt_of_le_of_lt (Nat.le_add_right _ _) this
 ·have:=h.hi k
  rw [hl] at this
  exact Nat.lt_of_lt_of_le this (Nat.mul_le_mul_right _ (by omega))
theorem Fut.near {E:List Nat} {s:Cod} {A j a':Nat} (h:Fut E { s with a:=a',c:=s.c*2 ^ j,t:=s.t-j } (A*2 ^ j)) (hj:j<=s.t) (ht:s.t<=27):Fut E s A:=by
 have hl:lowC { s with a:=a',c:=s.c*2 ^ j,t:=s.t-j }=lowC s*2 ^ j:=by
  show valL (s.bs++[s.l])*2 ^ (27-(s.t-j))+s.c*2 ^ j=(valL (s.bs++[s.l])*2 ^ (27-s.t)+s.c)*2 ^ j
  rw [Nat.add_mul,Nat.mul_assoc,<- Nat.pow_add]
  congr 3; omega
 have he:BE E s.bs.length+(27-(s.t-j))=BE E s.bs.length+(27-s.t)+j:=by omega
 have hp:0<2 ^ j:=Nat.two_pow_pos j
 refine ⟨h.len,h.pre,h.last,fun k hk=>?_,fun k=>?_⟩
 ·have h1:_<(XE E k+1)*2 ^ (BE E s.bs.length+(27-(s.t-j))):=h.lo k hk
  rw [hl,he,Nat.pow_add _ _ j,<- Nat.mul_assoc,Nat.mul_right_comm] at h1
  exact Nat.lt_of_mul_lt_mul_right h1
 ·have h1:XE E k*2 ^ (BE E s.bs.length+(27-(s.t-j)))<_:=h.hi k
  rw [hl,he,Nat.pow_add _ _ j,<- Nat.mul_assoc,<- Nat.add_mul,Nat.mul_right_comm (lowC s+A)] at h1
  exact Nat.lt_of_mul_lt_mul_right h1
theorem outTail_low (s:Cod) (l c:Nat) (hc:c<2 ^ 28) (hc2:l≠255->c<2 ^ 27):lowC (outTail s l c)=valL (s.bs++[l])*2 ^ 27+c:=by
 unfold outTail lowC
 split
 ·rename_i h
  show valL ((s.bs++[l])++[c / 1048576 % 256])*2 ^ (27-7)+c % 1048576=_
  rw [valL_snoc,List.getLast?_concat,if_pos (by rw [h])]
  generalize valL (s.bs++[l])=v
  omega
 ·rename_i h
  have:=hc2 h
  show valL ((s.bs++[l])++[c / 524288 % 256])*2 ^ (27-8)+c % 524288=_
  rw [valL_snoc,List.getLast?_concat,if_neg (by simpa using h)]
  generalize valL (s.bs++[l])=v
  omega
theorem Fut.tail {E:List Nat} {s:Cod} {A l c:Nat} (h:Fut E (outTail s l c) A) (hc:c<2 ^ 28) (hc2:l≠255->c<2 ^ 27) (ht:s.t=0) (hl:l=s.l/\c=s.c\/l=s.l+1/\s.l≠255/\c+2 ^ 27=s.c):Fut E s A:=by
 have hlow:lowC (outTail s l c)=lowC s:=by
  rw [outTail_low s l c hc hc2]
  unfold lowC
  rw [ht,valL_snoc,valL_snoc]
  rcases hl with ⟨rfl,rfl⟩ | ⟨rfl,_,h2⟩
  ·rfl
  ·generalize (valL s.bs*if s.bs.getLast? = some 255 then 128 else 256)=v
   omega
 have hbs:(outTail s l c).bs=s.bs++[l]:=by unfold outTail; split <;> rfl
 have hpre:=h.pre
 have hlen:=h.len
 rw [hbs] at hpre hlen
 have hfl:fE E s.bs.length=l:=hpre s.bs.length l (by simp)
 have hlen':s.bs.length+1<E.length:=by simpa using hlen
 have hB:BE E (s.bs.length+1)+(27-(outTail s l c).t)=BE E s.bs.length+27:=by
  show BE E s.bs.length+lenE E (s.bs.length+1)+_=_
  have:lenE E (s.bs.length+1)+(27-(outTail s l c).t)=27:=by
   unfold lenE outTail
   rw [Nat.add_sub_cancel,hfl]
   by_cases h3:l=255
   ·simp only [if_pos h3]; rw [if_pos ⟨hlen',h3⟩]
   ·simp only [if_neg h3]; rw [if_neg (by simp [h3])]
  omega
 have hsl:(outTail s l c).bs.length=s.bs.length+1:=by rw [hbs]; simp
 have hlo:=h.lo
 have hhi:=h.hi
 rw [hsl,hB,hlow] at hlo hhi
 refine ⟨by omega,fun j v hv=>hpre j v (by rw [List.getElem?_append_left (List.getElem?_eq_some_iff.1 hv).1]; exact hv),?_,fun k hk=>?_,fun k=>?_⟩
 ·rw [hfl]
  rcases hl with ⟨rfl,rfl⟩ | ⟨rfl,h1,_⟩
  ·exact .inl rfl
  ·exact .inr ⟨rfl,h1⟩
 ·rw [ht]
  rcases Nat.lt_or_ge (s.bs.length+1) k with h1 | h1
  ·exact hlo k h1
  ·have hk:k=s.bs.length+1:=by omega
   subst hk
   rw [<- hlow,Nat.sub_zero,<- hB,Nat.pow_add,<- Nat.mul_assoc,Nat.mul_right_comm]
   refine Nat.mul_lt_mul_of_pos_right ?_ (Nat.two_pow_pos _)
   have hX:=valL_XE E (s.bs++[l]) (outTail s l c).l (by simpa using hlen') hpre
   have hle:(outTail s l c).l<=fE E (s.bs.length+1):=by
    have:=h.last
    rw [hsl] at this
    omega
   rw [List.length_append,List.length_singleton] at hX
   have hcl:(outTail s l c).c<2 ^ (27-(outTail s l c).t):=by
    unfold outTail
    split
    ·exact Nat.mod_lt _ (by decide)
    ·exact Nat.mod_lt _ (by decide)
   unfold lowC
   rw [hbs]
   have h4:valL (s.bs++[l]++[(outTail s l c).l])<=XE E (s.bs.length+1):=by omega
   have h5:=Nat.mul_le_mul_right (2 ^ (27-(outTail s l c).t)) h4
   rw [Nat.add_mul]
   omega
 ·rw [ht]; exact hhi k
theorem Fut.out {E:List Nat} {s:Cod} {A:Nat} (h:Fut E (outM s) A) (ht:s.t=0) (hc:s.c<2 ^ 28):Fut E s A:=by
 unfold outM at h
 split at h
 ·rename_i h1
  refine h.tail (by omega) (fun _=>by omega) ht (.inr ⟨rfl,h1.1,by omega⟩)
 ·rename_i h1
  exact h.tail hc (fun h2=>by
   rcases Nat.lt_or_ge s.c 134217728 with h3 | h3
   ·exact h3
   ·exact absurd ⟨h2,h3⟩ h1) ht (.inl ⟨rfl,rfl⟩)
end Go.Ar
namespace Go.Ar
theorem outM_t (s:Cod) (t:Nat):outM { s with t:=t }=outM s:=rfl
theorem outM_ct (s:Cod):(outM s).c=s.c % 2 ^ (27-(outM s).t)/\((outM s).t=7\/(outM s).t=8):=by
 unfold outM outTail
 split
 ·split
  ·refine ⟨?_, .inl rfl⟩; show s.c % 134217728 % 1048576=s.c % 1048576; omega
  ·refine ⟨?_, .inr rfl⟩; show s.c % 134217728 % 524288=s.c % 524288; omega
 ·split
  ·exact ⟨rfl, .inl rfl⟩
  ·exact ⟨rfl, .inr rfl⟩
theorem Fut.shift {E:List Nat} {s:Cod} {A:Nat} (h:Fut E (shiftM s) (2*A)) (ht:1<=s.t) (ht2:s.t<=12) (hc:s.c<2 ^ (28-s.t)):Fut E s A:=by
 have key:Fut E { s with a:=2*s.a,c:=s.c*2 ^ 1,t:=s.t-1 } (A*2 ^ 1):=by
  rw [Nat.pow_one,Nat.mul_comm s.c 2,Nat.mul_comm A 2]
  unfold shiftM at h
  simp only [] at h
  split at h
  ·rename_i h1
   have h1:s.t-1=0:=h1
   have:s.t=1:=by omega
   rw [this] at hc
   exact h.out h1 (by show 2*s.c<2 ^ 28; omega)
  ·exact h
 exact key.near ht (by omega)
theorem Fut.renew {E:List Nat}:∀ (k:Nat) {s:Cod},Mid s->s.a<0x8000->0x8000<=s.a*2 ^ k->Fut E (renewM k s) (renewM k s).a->Fut E s s.a
 | 0,s,h,ha,hk,_=>by simp at hk; omega
 | k+1,s,h,ha,hk,hF=>by
  obtain ⟨h1,h2,h3,h4,h5,h6⟩:=shiftM_mid h ha
  have hc:=h.ca
  unfold renewM at hF
  simp only [] at hF
  split at hF
  ·rw [h2] at hF
   exact hF.shift h.t1 h.t12 (by omega)
  ·rename_i hlt
   have hk':0x8000<=(shiftM s).a*2 ^ k:=by
    rw [h2]
    rw [Nat.pow_succ] at hk
    have:s.a*(2 ^ k*2)=2*s.a*2 ^ k:=by rw [Nat.mul_comm (2 ^ k) 2,<- Nat.mul_assoc,Nat.mul_comm s.a 2]
    omega
   have:=Fut.renew k h1 (by omega) hk' hF
   rw [h2] at this
   exact this.shift h.t1 h.t12 (by omega)
def codeE (s:Cod):List Nat:=s.bs++[s.l]
theorem flushC_mod (s:Cod):32768 ∣ flushC s+1:=by
 unfold flushC
 simp only []
 split <;> omega
theorem fut_flush {s:Cod} (hs:Wf s):Fut (codeE (flushM s)) s s.a:=by
 have hca:=hs.ca
 have ht1:=hs.t1
 have ht2:=hs.t12
 have hlo:=hs.lo
 have hhi:=hs.hi
 have hf1:s.c<=flushC s/\flushC s+1<=s.c+s.a:=by
  unfold flushC
  simp only []
  split <;> omega
 have hmod:=flushC_mod s
 generalize hcf:flushC s=cf at hf1 hmod
 have hF:flushM s=flushS (flushS { s with c:=cf,done:=true }):=by unfold flushM; rw [hcf]
 generalize hS0:({ s with c:=cf,done:=true }:Cod)=S0 at hF
 have hS0t:S0.t=s.t:=by rw [<- hS0]
 have hS0c:S0.c=cf:=by rw [<- hS0]
 have hS1:flushS S0=outM { S0 with c:=S0.c*2 ^ S0.t,t:=S0.t-S0.t }:=(outM_t { S0 with c:=S0.c*2 ^ S0.t } _).symm
 generalize hG1:flushS S0=S1 at hF hS1
 have hS2:flushM s=outM { S1 with c:=S1.c*2 ^ S1.t,t:=S1.t-S1.t }:=hF.trans (outM_t { S1 with c:=S1.c*2 ^ S1.t } _).symm
 generalize hG2:flushM s=F at hS2
 obtain ⟨hc1,ht1'⟩:=outM_ct { S0 with c:=S0.c*2 ^ S0.t,t:=S0.t-S0.t }
 obtain ⟨hc2,ht2'⟩:=outM_ct { S1 with c:=S1.c*2 ^ S1.t,t:=S1.t-S1.t }
 rw [<- hS1] at hc1 ht1'
 rw [<- hS2] at hc2 ht2'
 have hc1:S1.c=cf*2 ^ s.t % 2 ^ (27-S1.t):=by rw [hc1,<- hS0c,<- hS0t]
 have hc2:F.c=S1.c*2 ^ S1.t % 2 ^ (27-F.t):=hc2
 have hdv:2 ^ (27-F.t)<=F.c+2 ^ (s.t+S1.t):=by
  have e1:F.c=cf*2 ^ (s.t+S1.t) % 2 ^ (27-F.t):=by
   rw [hc2,hc1,<- Nat.mul_mod_mul_right,<- Nat.pow_add,Nat.mul_assoc,<- Nat.pow_add,Nat.mod_mod_of_dvd]
   exact Nat.pow_dvd_pow 2 (by omega)
  have e2:(F.c+2 ^ (s.t+S1.t)) % 2 ^ (27-F.t)=0:=by
   rw [e1,Nat.mod_add_mod,<- Nat.succ_mul]
   refine Nat.mod_eq_zero_of_dvd (Nat.dvd_trans (Nat.pow_dvd_pow 2 (show 27-F.t<=15+(s.t+S1.t) by omega)) ?_)
   rw [Nat.pow_add]
   exact Nat.mul_dvd_mul_right hmod _
  have e3:=Nat.two_pow_pos (s.t+S1.t)
  exact Nat.le_of_dvd (by omega) (Nat.dvd_of_mod_eq_zero e2)
 have hclt:F.c<2 ^ (27-F.t):=by rw [hc2]; exact Nat.mod_lt _ (Nat.two_pow_pos _)
 have hEl:F.bs.length+1=(codeE F).length:=by simp [codeE]
 have hpre:∀ j v,F.bs[j]? = some v->fE (codeE F) j=v:=fun j v hj=>by
  unfold fE codeE
  rw [List.getD_eq_getElem?_getD,List.getElem?_append_left (List.getElem?_eq_some_iff.1 hj).1,hj]; rfl
 have hlast:fE (codeE F) F.bs.length=F.l:=by
  unfold fE codeE
  rw [List.getD_eq_getElem?_getD]; simp
 have hX:valL (F.bs++[F.l])=XE (codeE F) F.bs.length:=by
  have:=valL_XE (codeE F) F.bs F.l (by omega) hpre
  rw [hlast] at this
  omega
 have hlow:lowC F=XE (codeE F) F.bs.length*2 ^ (27-F.t)+F.c:=by unfold lowC; rw [hX]
 have fF:Fut (codeE F) F (2 ^ (s.t+S1.t)):=by
  refine ⟨by omega,hpre, .inl hlast,fun k hk=>?_,fun k=>?_⟩
  ·obtain ⟨d,rfl⟩:∃ d,k=F.bs.length+d:=⟨k-F.bs.length,by omega⟩
   obtain ⟨h1,h2⟩:=XE_end (codeE F) hEl d
   rw [h1,h2,hlow,Nat.pow_add,Nat.pow_add]
   have h3:XE (codeE F) F.bs.length*2 ^ (27-F.t)+F.c<(XE (codeE F) F.bs.length+1)*2 ^ (27-F.t):=by rw [Nat.add_mul]; omega
   have h4:=Nat.mul_lt_mul_of_pos_right h3 (show 0<2 ^ BE (codeE F) F.bs.length*2 ^ (8*d) from Nat.mul_pos (Nat.two_pow_pos _) (Nat.two_pow_pos _))
   have e:(XE (codeE F) F.bs.length+1)*2 ^ (8*d)*(2 ^ BE (codeE F) F.bs.length*2 ^ (27-F.t))=(XE (codeE F) F.bs.length+1)*2 ^ (27-F.t)*(2 ^ BE (codeE F) F.bs.length*2 ^ (8*d)):=by
    simp only [Nat.mul_assoc,Nat.mul_comm,Nat.mul_left_comm]
   rw [e]
   exact h4
  ·rcases Nat.lt_or_ge k F.bs.length with hk | hk
   ·have h1:=XE_mono (codeE F) (Nat.le_of_lt hk)
    have h2:=Nat.mul_le_mul_right (2 ^ (27-F.t)) h1
    rw [hlow,Nat.pow_add,<- Nat.mul_assoc]
    refine Nat.lt_of_le_of_lt h2 ?_
    rw [Nat.mul_right_comm]
    refine Nat.mul_lt_mul_of_pos_right ?_ (Nat.two_pow_pos _)
    have:=Nat.two_pow_pos (s.t+S1.t)
    omega
   ·obtain ⟨d,rfl⟩:∃ d,k=F.bs.length+d:=⟨k-F.bs.length,by omega⟩
    obtain ⟨h1,h2⟩:=XE_end (codeE F) hEl d
    have h3:XE (codeE F) (F.bs.length+d)<(XE (codeE F) F.bs.length+1)*2 ^ (8*d):=by omega
    rw [h2,hlow]
    have h4:=Nat.mul_lt_mul_of_pos_right h3 (Nat.two_pow_pos (BE (codeE F) F.bs.length+(27-F.t)))
    refine Nat.lt_of_lt_of_le h4 ?_
    have h5:(XE (codeE F) F.bs.length+1)*2 ^ (27-F.t)<=XE (codeE F) F.bs.length*2 ^ (27-F.t)+F.c+2 ^ (s.t+S1.t):=by rw [Nat.add_mul]; omega
    have h6:=Nat.mul_le_mul_right (2 ^ (BE (codeE F) F.bs.length+8*d)) h5
    refine Nat.le_trans (Nat.le_of_eq ?_) h6
    rw [Nat.pow_add,Nat.pow_add]
    simp only [Nat.mul_assoc,Nat.mul_comm,Nat.mul_left_comm]
 generalize codeE F=E at fF ⊢
 rw [hS2] at fF
 have hp1:(2:Nat) ^ (27-S1.t)*2 ^ S1.t=2 ^ 27:=by rw [<- Nat.pow_add]; congr 1; omega
 have hc1lt:S1.c<2 ^ (27-S1.t):=by rw [hc1]; exact Nat.mod_lt _ (Nat.two_pow_pos _)
 have f1:=fF.out (Nat.sub_self _) (by
  show S1.c*2 ^ S1.t<2 ^ 28
  have:=Nat.mul_lt_mul_of_pos_right hc1lt (Nat.two_pow_pos S1.t)
  omega)
 rw [Nat.pow_add] at f1
 have f2:Fut E S1 (2 ^ s.t):=f1.near (a':=S1.a) (Nat.le_refl _) (by omega)
 rw [hS1] at f2
 have f3:=f2.out (Nat.sub_self _) (by
  show S0.c*2 ^ S0.t<2 ^ 28
  rw [hS0c,hS0t]
  have h1:cf<2 ^ (28-s.t):=by omega
  have h2:=Nat.mul_lt_mul_of_pos_right h1 (Nat.two_pow_pos s.t)
  have h3:(2:Nat) ^ (28-s.t)*2 ^ s.t=2 ^ 28:=by rw [<- Nat.pow_add]; congr 1; omega
  omega)
 rw [<- hS0t] at f3
 have f3':Fut E { S0 with c:=S0.c*2 ^ S0.t,t:=S0.t-S0.t } (1*2 ^ S0.t):=by rw [Nat.one_mul]; exact f3
 have f4:Fut E S0 1:=f3'.near (a':=S0.a) (Nat.le_refl _) (by omega)
 rw [<- hS0] at f4
 exact Fut.part (s:=s) (a':=s.a) (n':=s.n) (st':=s.st) f4 hf1.1 hf1.2
end Go.Ar
namespace Go.Ar
structure Pos (E:List Nat) (d:Dec) (k:Nat):Prop where
 by_:∀ j,byteD d j=fE E (j+1)
 at_:k=d.i+1\/d.i+1<=k/\E.length<=d.i+2/\fE E (d.i+1)=255
def Stuffed (E:List Nat):Prop:=∀ j,fE E j=255->j+1<E.length->fE E (j+1)<=143
theorem fE_end (E:List Nat) {k:Nat} (h:E.length<=k):fE E k=255:=by unfold fE; rw [List.getD_eq_getElem?_getD,List.getElem?_eq_none h]; rfl
theorem inD_pos {E:List Nat} {d:Dec} {k:Nat} (hE:Stuffed E) (h:Pos E d k) :
  Pos E (inD d) (k+1)/\(inD d).t=lenE E (k+1)/\(inD d).c=(d.c+fE E (k+1)*2 ^ (16-lenE E (k+1))) % M32:=by
 have hb0:=h.by_ d.i
 have hb1:=h.by_ (d.i+1)
 have hb:∀ d':Dec,d'.b=d.b->∀ j,byteD d' j=fE E (j+1):=fun d' e j=>by rw [<- h.by_ j]; unfold byteD; rw [e]
 unfold inD
 split
 ·rename_i h1
  rw [hb0] at h1
  have hlt:d.i+1<E.length:=by
   rcases Nat.lt_or_ge (d.i+1) E.length with h2 | h2
   ·exact h2
   ·exact absurd (fE_end E h2) h1
  have hk:k=d.i+1:=by
   rcases h.at_ with h2 | ⟨_,h2,h3⟩
   ·exact h2
   ·exact absurd h3 h1
  have hl:lenE E (k+1)=8:=by
   unfold lenE
   rw [Nat.add_sub_cancel,if_neg]
   rintro ⟨_,h3⟩
   rw [hk] at h3
   exact h1 h3
  refine ⟨⟨hb _ rfl, .inl (by rw [hk])⟩,by rw [hl],?_⟩
  rw [hb1,hl,hk]
 ·rename_i h1
  rw [hb0] at h1
  have h1:fE E (d.i+1)=255:=by simpa using h1
  split
  ·rename_i h2
   rw [hb1] at h2
   have hge:E.length<=d.i+2:=by
    rcases Nat.lt_or_ge (d.i+1+1) E.length with h3 | h3
    ·have:=hE _ h1 h3; omega
    ·exact h3
   have hkge:d.i+1<=k:=by rcases h.at_ with h3 | ⟨h3,_⟩ <;> omega
   have hl:lenE E (k+1)=8:=by unfold lenE; rw [if_neg (by omega)]
   have hf:fE E (k+1)=255:=fE_end E (by omega)
   exact ⟨⟨hb _ rfl, .inr ⟨by show d.i+1<=k+1; omega,hge,h1⟩⟩,by rw [hl],by rw [hl,hf]⟩
  ·rename_i h2
   rw [hb1] at h2
   have hlt:d.i+2<E.length:=by
    rcases Nat.lt_or_ge (d.i+2) E.length with h3 | h3
    ·exact h3
    ·have:=fE_end E h3
     rw [show d.i+1+1=d.i+2 from rfl] at h2
     omega
   have hk:k=d.i+1:=by
    rcases h.at_ with h3 | ⟨_,h3,_⟩
    ·exact h3
    ·omega
   have hl:lenE E (k+1)=7:=by
    unfold lenE
    rw [Nat.add_sub_cancel,if_pos ⟨by omega,by rw [hk]; exact h1⟩]
   refine ⟨⟨hb _ rfl, .inl (by rw [hk])⟩,by rw [hl],?_⟩
   rw [hb1,hl,hk]
structure Num (E:List Nat) (s:Cod) (d:Dec) (k:Nat):Prop extends Pos E d k where
 pos:BE E k=BE E s.bs.length+(27-s.t)+d.t
 num:d.c+lowC s*65536=XE E k*2 ^ (16-d.t)
structure Sync (E:List Nat) (s:Cod) (d:Dec):Prop where
 a:d.a=s.a
 st:d.st=s.st
 n:d.n=s.n
 num:∃ k,Num E s d k
section
variable {E:List Nat} {s:Cod} {d:Dec} {k A t:Nat}
theorem XE_split (x:Nat) (h:t<=16):x*2 ^ (16-t)*2 ^ t=x*65536:=by
 rw [Nat.mul_assoc,<- Nat.pow_add]
 congr 1
 have:16-t+t=16:=by omega
 rw [this]
theorem Fut.lt (h:Fut E s A) (hp:BE E k=BE E s.bs.length+(27-s.t)+t) (ht:t<=16):XE E k*2 ^ (16-t)<(lowC s+A)*65536:=by
 have h1:=h.hi k
 rw [hp,Nat.pow_add _ _ t,<- Nat.mul_assoc,Nat.mul_right_comm (lowC s+A)] at h1
 have h2:XE E k<(lowC s+A)*2 ^ t:=Nat.lt_of_mul_lt_mul_right h1
 refine Nat.lt_of_mul_lt_mul_right (a:=2 ^ t) ?_
 rw [XE_split _ ht,Nat.mul_right_comm]
 exact Nat.mul_lt_mul_of_pos_right h2 (by decide)
theorem Fut.ge (h:Fut E s A) (hp:BE E k=BE E s.bs.length+(27-s.t)+t) (ht:t<=16) (hk:s.bs.length<k):lowC s*65536<=XE E k*2 ^ (16-t):=by
 have h1:=h.lo k hk
 rw [hp,Nat.pow_add _ _ t,<- Nat.mul_assoc,Nat.mul_right_comm] at h1
 have h2:lowC s*2 ^ t<XE E k+1:=Nat.lt_of_mul_lt_mul_right h1
 refine Nat.le_of_mul_le_mul_right (c:=2 ^ t) ?_ (Nat.two_pow_pos t)
 rw [XE_split _ ht,Nat.mul_right_comm]
 exact Nat.mul_le_mul_right _ (by omega)
theorem ahead (hp:BE E k=BE E s.bs.length+(27-s.t)+t) (ht:s.t<=12):s.bs.length<k:=by
 rcases Nat.lt_or_ge s.bs.length k with h1 | h1
 ·exact h1
 ·have:=BE_mono E h1; omega
theorem shiftM_pos (h:Fut E (shiftM s) A) (ht1:1<=s.t) (ht2:s.t<=12) (hc:s.c<2 ^ (28-s.t)):lowC (shiftM s)=2*lowC s/\BE E (shiftM s).bs.length+(27-(shiftM s).t)=BE E s.bs.length+(27-s.t)+1:=by
 have e0:lowC { s with a:=2*s.a,c:=2*s.c,t:=s.t-1 }=2*lowC s:=by
  show valL (s.bs++[s.l])*2 ^ (27-(s.t-1))+2*s.c=2*(valL (s.bs++[s.l])*2 ^ (27-s.t)+s.c)
  rw [show 27-(s.t-1)=(27-s.t)+1 by omega,Nat.pow_succ,<- Nat.mul_assoc]
  omega
 unfold shiftM at h ⊢
 simp only [] at h ⊢
 split
 ·rename_i h1
  rw [if_pos h1] at h
  have h1:s.t-1=0:=h1
  have ht:s.t=1:=by omega
  rw [ht] at hc
  have tail:∀ {l c:Nat},Fut E (outTail { s with a:=2*s.a,c:=2*s.c,t:=s.t-1 } l c) A->c<2 ^ 28->(l≠255->c<2 ^ 27)->(l=s.l/\c=2*s.c\/l=s.l+1/\s.l≠255/\c+2 ^ 27=2*s.c) ->
    lowC (outTail { s with a:=2*s.a,c:=2*s.c,t:=s.t-1 } l c)=2*lowC s/\BE E (outTail { s with a:=2*s.a,c:=2*s.c,t:=s.t-1 } l c).bs.length+(27-(outTail { s with a:=2*s.a,c:=2*s.c,t:=s.t-1 } l c).t)=BE E s.bs.length+(27-s.t)+1:=by
   intro l c hF hc hc2 hl
   constructor
   ·rw [outTail_low _ l c hc hc2,<- e0]
    unfold lowC
    show valL (s.bs++[l])*2 ^ 27+c=valL (s.bs++[s.l])*2 ^ (27-(s.t-1))+2*s.c
    rw [h1,valL_snoc,valL_snoc]
    rcases hl with ⟨rfl,rfl⟩ | ⟨rfl,_,h2⟩
    ·rfl
    ·generalize (valL s.bs*if s.bs.getLast? = some 255 then 128 else 256)=v
     omega
   ·have hbs:(outTail { s with a:=2*s.a,c:=2*s.c,t:=s.t-1 } l c).bs=s.bs++[l]:=by unfold outTail; split <;> rfl
    have hpre:=hF.pre
    have hlen:=hF.len
    rw [hbs] at hpre hlen
    have hfl:fE E s.bs.length=l:=hpre s.bs.length l (by simp)
    have hlen':s.bs.length+1<E.length:=by simpa using hlen
    rw [hbs,List.length_append,List.length_singleton]
    show BE E s.bs.length+lenE E (s.bs.length+1)+_=_
    have:lenE E (s.bs.length+1)+(27-(outTail { s with a:=2*s.a,c:=2*s.c,t:=s.t-1 } l c).t)=27:=by
     unfold lenE outTail
     rw [Nat.add_sub_cancel,hfl]
     by_cases h3:l=255
     ·simp only [if_pos h3]; rw [if_pos ⟨hlen',h3⟩]
     ·simp only [if_neg h3]; rw [if_neg (by simp [h3])]
    omega
  unfold outM at h ⊢
  split
  ·rename_i h2
   rw [if_pos h2] at h
   exact tail h (by show 2*s.c % 134217728<_; omega) (fun _=>by show 2*s.c % 134217728<_; omega) (.inr ⟨rfl,h2.1,by
    have:134217728<=2*s.c:=h2.2
    show 2*s.c % 134217728+_=_
    omega⟩)
  ·rename_i h2
   rw [if_neg h2] at h
   exact tail h (by show 2*s.c<_; omega) (fun h3=>by
    rcases Nat.lt_or_ge (2*s.c) 134217728 with h4 | h4
    ·exact h4
    ·exact absurd ⟨h3,h4⟩ h2) (.inl ⟨rfl,rfl⟩)
 ·exact ⟨e0,by show BE E s.bs.length+(27-(s.t-1))=_; omega⟩
theorem sync_shift (hE:Stuffed E) (hm:Mid s) (hd:MidD d) (S:Sync E s d) (ha:s.a<0x8000) (F:Fut E (shiftM s) (shiftM s).a):Sync E (shiftM s) (shiftD d):=by
 obtain ⟨hm1,hma,hmn,hmst,_,_⟩:=shiftM_mid hm ha
 have hc:=hm.ca
 rw [hma] at F
 have hF:Fut E s s.a:=F.shift hm.t1 hm.t12 (by omega)
 obtain ⟨p1,p2⟩:=shiftM_pos F hm.t1 hm.t12 (by omega)
 obtain ⟨k,hN⟩:=S.num
 have key:∃ (k:Nat) (d1:Dec),(if d.t=0 then inD d else d)=d1/\Num E s d1 k/\1<=d1.t/\d1.t<=8/\d1.a=d.a/\d1.st=d.st/\d1.n=d.n:=by
  by_cases h0:d.t=0
  ·obtain ⟨q1,q2,q3⟩:=inD_pos hE hN.toPos
   obtain ⟨i1,i2,i3,i4,i5,i6⟩:=inD_mid hd
   obtain ⟨l1,l2⟩:=lenE_le E (k+1)
   rw [if_pos h0]
   have hpos:BE E (k+1)=BE E s.bs.length+(27-s.t)+lenE E (k+1):=by
    have:=hN.pos
    show BE E k+lenE E (k+1)=_
    omega
   have hlt:=hF.lt hpos (by omega)
   have e1:XE E (k+1)*2 ^ (16-lenE E (k+1))=XE E k*65536+fE E (k+1)*2 ^ (16-lenE E (k+1)):=by
    show (XE E k*2 ^ lenE E (k+1)+fE E (k+1))*_=_
    rw [Nat.add_mul,<- XE_split (t:=lenE E (k+1)) (XE E k) (by omega),Nat.mul_right_comm]
   have e2:=hN.num
   rw [h0,Nat.sub_zero] at e2
   have hcl:(inD d).c+lowC s*65536=XE E (k+1)*2 ^ (16-lenE E (k+1)):=by
    rw [q3,Nat.mod_eq_of_lt]
    ·omega
    ·show _<4294967296
     rw [Nat.add_mul] at hlt
     have e3:XE E k*2 ^ 16=XE E k*65536:=rfl
     omega
   exact ⟨k+1,_,rfl,⟨q1,by rw [q2]; exact hpos,by rw [q2]; exact hcl⟩,by omega,by omega,i2,i4,i3⟩
  ·rw [if_neg h0]
   exact ⟨k,d,rfl,hN,by omega,hd.t8,rfl,rfl,rfl⟩
 obtain ⟨k1,d1,hd1,hN1,t1,t8,ea,est,en⟩:=key
 have hlt:=hF.lt hN1.pos (by omega)
 rw [<- hN1.num] at hlt
 rw [Nat.add_mul] at hlt
 have hsd:shiftD d = { d1 with a:=2*d1.a,c:=2*d1.c % M32,t:=d1.t-1 }:=by rw [<- hd1]; rfl
 rw [hsd]
 have hc2:2*d1.c % M32=2*d1.c:=Nat.mod_eq_of_lt (by show 2*d1.c<4294967296; omega)
 rw [hc2]
 refine ⟨by show 2*d1.a=_; rw [hma,ea,S.a],by show d1.st=_; rw [hmst,est,S.st],by show d1.n=_; rw [hmn,en,S.n],k1,⟨⟨hN1.by_,hN1.at_⟩,?_,?_⟩⟩
 ·show BE E k1=_+(d1.t-1)
  have:=hN1.pos
  omega
 ·show 2*d1.c+lowC (shiftM s)*65536=XE E k1*2 ^ (16-(d1.t-1))
  have:=hN1.num
  rw [p1,show 16-(d1.t-1)=(16-d1.t)+1 by omega,Nat.pow_succ,<- Nat.mul_assoc]
  omega
end
theorem sync_renew {E:List Nat} (hE:Stuffed E):∀ (k:Nat) {s:Cod} {d:Dec},Mid s->MidD d->Sync E s d->s.a<0x8000->0x8000<=s.a*2 ^ k->Fut E (renewM k s) (renewM k s).a->Sync E (renewM k s) (renewD k d)
 | 0,s,d,h,_,_,ha,hk,_=>by simp at hk; omega
 | k+1,s,d,h,hd,S,ha,hk,hF=>by
  obtain ⟨h1,h2,h3,h4,h5,h6⟩:=shiftM_mid h ha
  obtain ⟨g1,g2,g3,g4,g5⟩:=shiftD_mid hd
  have ea:(shiftD d).a=(shiftM s).a:=by rw [g2,h2,S.a]
  unfold renewM at hF ⊢
  unfold renewD
  simp only [] at hF ⊢
  rw [ea]
  by_cases hge:0x8000<=(shiftM s).a
  ·rw [if_pos hge] at hF ⊢
   rw [if_pos hge]
   exact sync_shift hE h hd S ha hF
  ·rw [if_neg hge] at hF ⊢
   rw [if_neg hge]
   have hk':0x8000<=(shiftM s).a*2 ^ k:=by
    rw [h2]
    rw [Nat.pow_succ] at hk
    have:s.a*(2 ^ k*2)=2*s.a*2 ^ k:=by rw [Nat.mul_comm (2 ^ k) 2,<- Nat.mul_assoc,Nat.mul_comm s.a 2]
    omega
   exact sync_renew hE k h1 g1 (sync_shift hE h hd S ha (Fut.renew k h1 (by omega) hk' hF)) (by omega) hk' hF
theorem sync_put {E:List Nat} (hE:Stuffed E) {s:Cod} {d:Dec} (hs:Wf s) (hd:WfD d) (S:Sync E s d) {k bit:Nat} (hb:bit<=1) (hF:Fut E (putM s k bit) (putM s k bit).a) :
  Sync E (putM s k bit) (getD d k).1/\(getD d k).2=bit/\Fut E s s.a:=by
 have hx:=getD_lt hs.st k
 have hr:s.st.getD k 0 / 2<47:=by omega
 have hq1:=qOf_pos hr
 have hq2:=qOf_le hr
 have hM:=set_lt hs.st (k:=k) (upM_lt hx)
 have hL:=set_lt hs.st (k:=k) (upL_lt hx)
 have hlo:=hs.lo
 have hhi:=hs.hi
 have hca:=hs.ca
 have ht1:=hs.t1
 have ht2:=hs.t12
 have hdc:=hd.c
 have h17:(2:Nat) ^ 17=131072:=rfl
 obtain ⟨kk,hN⟩:=S.num
 have hdt:=hd.t8
 have up:∀ {a' n':Nat} {st':List Nat},Fut E { s with a:=a',c:=s.c+qOf (s.st.getD k 0 / 2),n:=n',st:=st' } (s.a-qOf (s.st.getD k 0 / 2))->¬ d.c / 65536<qOf (s.st.getD k 0 / 2)/\Fut E s s.a:=by
  intro a' n' st' h
  have hl:lowC { s with a:=a',c:=s.c+qOf (s.st.getD k 0 / 2),n:=n',st:=st' }=lowC s+qOf (s.st.getD k 0 / 2):=(Nat.add_assoc _ _ _).symm
  have h1:=h.ge (k:=kk) (t:=d.t) hN.pos (by omega) (ahead (s:=s) hN.pos ht2)
  rw [hl,<- hN.num,Nat.add_mul] at h1
  refine ⟨by omega,Fut.part (s:=s) (d':=s.done) h (by omega) (by omega)⟩
 have lw:∀ {a' n':Nat} {st':List Nat},Fut E { s with a:=a',n:=n',st:=st' } (qOf (s.st.getD k 0 / 2))->d.c / 65536<qOf (s.st.getD k 0 / 2)/\Fut E s s.a:=by
  intro a' n' st' h
  have h1:=h.lt (k:=kk) (t:=d.t) hN.pos (by omega)
  rw [<- hN.num] at h1
  have hl:lowC { s with a:=a',n:=n',st:=st' }=lowC s:=rfl
  rw [hl,Nat.add_mul] at h1
  refine ⟨by omega,Fut.part (s:=s) (c':=s.c) (d':=s.done) h (by omega) (by omega)⟩
 have hbit:s.st.getD k 0 % 2<2:=Nat.mod_lt _ (by omega)
 have nup:¬ d.c / 65536<qOf (s.st.getD k 0 / 2)->∀ {a' n':Nat} {st':List Nat},Sync E { s with a:=a',c:=s.c+qOf (s.st.getD k 0 / 2),n:=n',st:=st' } { d with a:=a',c:=d.c-qOf (s.st.getD k 0 / 2)*65536,n:=n',st:=st' }:=by
  intro h a' n' st'
  refine ⟨rfl,rfl,rfl,kk,⟨hN.by_,hN.at_⟩,hN.pos,?_⟩
  have:=hN.num
  have hl:lowC { s with a:=a',c:=s.c+qOf (s.st.getD k 0 / 2),n:=n',st:=st' }=lowC s+qOf (s.st.getD k 0 / 2):=(Nat.add_assoc _ _ _).symm
  show d.c-qOf (s.st.getD k 0 / 2)*65536+lowC { s with a:=a',c:=s.c+qOf (s.st.getD k 0 / 2),n:=n',st:=st' }*65536=XE E kk*2 ^ (16-d.t)
  rw [hl,Nat.add_mul]
  omega
 have nlw:∀ {a' n':Nat} {st':List Nat},Sync E { s with a:=a',n:=n',st:=st' } { d with a:=a',n:=n',st:=st' }:=by
  intro a' n' st'
  exact ⟨rfl,rfl,rfl,kk,⟨hN.by_,hN.at_⟩,hN.pos,hN.num⟩
 have hget:getD d k=(if d.c / 65536<qOf (s.st.getD k 0 / 2) then
  if s.a-qOf (s.st.getD k 0 / 2)<qOf (s.st.getD k 0 / 2) then (renewD 17 { d with a:=qOf (s.st.getD k 0 / 2),n:=s.n+1,st:=s.st.set k (upM (s.st.getD k 0)) },s.st.getD k 0 % 2)
  else (renewD 17 { d with a:=qOf (s.st.getD k 0 / 2),n:=s.n+1,st:=s.st.set k (upL (s.st.getD k 0)) },1-s.st.getD k 0 % 2)
 else
  if 0x8000<=s.a-qOf (s.st.getD k 0 / 2) then ({ d with a:=s.a-qOf (s.st.getD k 0 / 2),c:=d.c-qOf (s.st.getD k 0 / 2)*65536,n:=s.n+1,st:=s.st },s.st.getD k 0 % 2)
  else if s.a-qOf (s.st.getD k 0 / 2)<qOf (s.st.getD k 0 / 2) then (renewD 17 { d with a:=s.a-qOf (s.st.getD k 0 / 2),c:=d.c-qOf (s.st.getD k 0 / 2)*65536,n:=s.n+1,st:=s.st.set k (upL (s.st.getD k 0)) },1-s.st.getD k 0 % 2)
  else (renewD 17 { d with a:=s.a-qOf (s.st.getD k 0 / 2),c:=d.c-qOf (s.st.getD k 0 / 2)*65536,n:=s.n+1,st:=s.st.set k (upM (s.st.getD k 0)) },s.st.getD k 0 % 2)):=by
  have e1:=S.a
  have e2:=S.st
  have e3:=S.n
  obtain ⟨da,dc,dt,dn,dst,db,di⟩:=d
  simp only at e1 e2 e3
  subst e1 e2 e3
  rfl
 have hdm:∀ {a' c' n':Nat} {st':List Nat},c'<=d.c->(∀ x∈st',x<94)->MidD { d with a:=a',c:=c',n:=n',st:=st' }:=fun hc hst=>⟨hd.t8,Nat.lt_of_le_of_lt hc hdc,hd.b,hst,hd.i⟩
 rw [hget]
 unfold putM at hF ⊢
 simp only [] at hF ⊢
 generalize s.st.getD k 0=x at *
 generalize qOf (x / 2)=q at *
 have mlw:∀ {n':Nat} {st':List Nat},(∀ x∈st',x<94)->Mid { s with a:=q,n:=n',st:=st' }:=fun hst=>⟨ht1,ht2,by show s.c+q<2 ^ (28-s.t); omega,hs.l,hs.bs,hst⟩
 have mup:∀ {n':Nat} {st':List Nat},(∀ x∈st',x<94)->Mid { s with a:=s.a-q,c:=s.c+q,n:=n',st:=st' }:=fun hst=>⟨ht1,ht2,by show s.c+q+(s.a-q)<2 ^ (28-s.t); omega,hs.l,hs.bs,hst⟩
 have flw:∀ {n':Nat} {st':List Nat},(∀ x∈st',x<94)->Fut E (renewM 17 { s with a:=q,n:=n',st:=st' }) (renewM 17 { s with a:=q,n:=n',st:=st' }).a ->
   d.c / 65536<q/\Fut E s s.a/\Sync E (renewM 17 { s with a:=q,n:=n',st:=st' }) (renewD 17 { d with a:=q,n:=n',st:=st' }):=by
  intro n' st' hst h
  have h0:=Fut.renew 17 (mlw (n':=n') hst) (by show q<_; omega) (by show _<=q*_; omega) h
  obtain ⟨h1,h2⟩:=lw h0
  exact ⟨h1,h2,sync_renew hE 17 (mlw hst) (hdm (Nat.le_refl _) hst) nlw (by show q<_; omega) (by show _<=q*_; omega) h⟩
 have fup:∀ {n':Nat} {st':List Nat},s.a-q<0x8000->1<=s.a-q->(∀ x∈st',x<94)->Fut E (renewM 17 { s with a:=s.a-q,c:=s.c+q,n:=n',st:=st' }) (renewM 17 { s with a:=s.a-q,c:=s.c+q,n:=n',st:=st' }).a ->
   ¬ d.c / 65536<q/\Fut E s s.a/\Sync E (renewM 17 { s with a:=s.a-q,c:=s.c+q,n:=n',st:=st' }) (renewD 17 { d with a:=s.a-q,c:=d.c-q*65536,n:=n',st:=st' }):=by
  intro n' st' h3 h4 hst h
  have h0:=Fut.renew 17 (mup (n':=n') hst) h3 (by show _<=(s.a-q)*_; omega) h
  obtain ⟨h1,h2⟩:=up h0
  exact ⟨h1,h2,sync_renew hE 17 (mup hst) (hdm (Nat.sub_le _ _) hst) (nup h1) h3 (by show _<=(s.a-q)*_; omega) h⟩
 by_cases hbx:bit=x % 2
 ·rw [if_pos hbx] at hF ⊢
  by_cases h8:0x8000<=s.a-q
  ·rw [if_pos h8] at hF ⊢
   obtain ⟨h1,h2⟩:=up (a':=s.a-q) (n':=s.n+1) (st':=s.st) hF
   rw [if_neg h1,if_pos h8]
   exact ⟨nup h1,hbx.symm,h2⟩
  ·rw [if_neg h8] at hF ⊢
   by_cases hq:s.a-q<q
   ·rw [if_pos hq] at hF ⊢
    obtain ⟨h1,h2,h3⟩:=flw hM hF
    rw [if_pos h1,if_pos hq]
    exact ⟨h3,hbx.symm,h2⟩
   ·rw [if_neg hq] at hF ⊢
    obtain ⟨h1,h2,h3⟩:=fup (by omega) (by omega) hM hF
    rw [if_neg h1,if_neg h8,if_neg hq]
    exact ⟨h3,hbx.symm,h2⟩
 ·rw [if_neg hbx] at hF ⊢
  by_cases hq:s.a-q<q
  ·rw [if_pos hq] at hF ⊢
   obtain ⟨h1,h2,h3⟩:=fup (by omega) (by omega) hL hF
   rw [if_neg h1,if_neg (by omega),if_pos hq]
   exact ⟨h3,by show 1-x % 2=bit; omega,h2⟩
  ·rw [if_neg hq] at hF ⊢
   obtain ⟨h1,h2,h3⟩:=flw hL hF
   rw [if_pos h1,if_neg hq]
   exact ⟨h3,by show 1-x % 2=bit; omega,h2⟩
end Go.Ar
namespace Go.Ar
structure Stf0 (s:Cod) (A:Nat):Prop where
 bs:∀ j,s.bs[j]? = some 255->∀ y,s.bs[j+1]? = some y->y<=143
 last:s.bs.getLast? = some 255->s.l*2 ^ (27-s.t)+s.c+A<=144*2 ^ (27-s.t)
structure Stf (s:Cod) (A:Nat):Prop extends Stf0 s A where
 ff:s.l=255->s.t<=8/\s.c+A<=589824*2 ^ (8-s.t)
section
variable {s:Cod} {A:Nat}
theorem Stf.part (h:Stf s A) {A' a' c' n':Nat} {st':List Nat} {d':Bool} (hc:c'+A'<=s.c+A):Stf { s with a:=a',c:=c',n:=n',st:=st',done:=d' } A':=by
 refine ⟨⟨h.bs,fun hl=>?_⟩,fun hl=>?_⟩
 ·have:=h.last hl
  show s.l*2 ^ (27-s.t)+c'+A'<=144*2 ^ (27-s.t)
  omega
 ·have:=h.ff hl
  exact ⟨this.1,Nat.le_trans hc this.2⟩
theorem Stf.near (h:Stf s A) {j a':Nat} (hj:j<=s.t) (ht:s.t<=27):Stf { s with a:=a',c:=s.c*2 ^ j,t:=s.t-j } (A*2 ^ j):=by
 refine ⟨⟨h.bs,fun hl=>?_⟩,fun hl=>?_⟩
 ·have h1:=Nat.mul_le_mul_right (2 ^ j) (h.last hl)
  show s.l*2 ^ (27-(s.t-j))+s.c*2 ^ j+A*2 ^ j<=144*2 ^ (27-(s.t-j))
  have e:27-(s.t-j)=27-s.t+j:=by omega
  rw [e,Nat.pow_add,<- Nat.mul_assoc,<- Nat.mul_assoc]
  rw [Nat.add_mul,Nat.add_mul] at h1
  exact h1
 ·obtain ⟨h1,h2⟩:=h.ff hl
  have h3:=Nat.mul_le_mul_right (2 ^ j) h2
  refine ⟨by show s.t-j<=8; omega,?_⟩
  show s.c*2 ^ j+A*2 ^ j<=589824*2 ^ (8-(s.t-j))
  have e:8-(s.t-j)=8-s.t+j:=by omega
  rw [e,Nat.pow_add,<- Nat.mul_assoc,<- Nat.add_mul]
  exact h3
theorem Stf.out (h:Stf s A) (ht:s.t=0) (hc:s.c+A<=2 ^ 28) (hA:1<=A):Stf0 (outM s) A/\(A<=65536->Stf (outM s) A):=by
 have key:∀ l c,(l=s.l/\c=s.c/\(l≠255->c<2 ^ 27)\/l=s.l+1/\s.l≠255/\c+2 ^ 27=s.c)->Stf0 (outTail s l c) A/\(A<=65536->Stf (outTail s l c) A):=by
  intro l c hl
  have hbs:(outTail s l c).bs=s.bs++[l]:=by unfold outTail; split <;> rfl
  have hchain:∀ j,(s.bs++[l])[j]? = some 255->∀ y,(s.bs++[l])[j+1]? = some y->y<=143:=by
   intro j hj y hy
   have hlt:=(List.getElem?_eq_some_iff.1 hy).1
   rw [List.length_append,List.length_singleton] at hlt
   rw [List.getElem?_append_left (by omega)] at hj
   rcases Nat.lt_or_ge (j+1) s.bs.length with h1 | h1
   ·rw [List.getElem?_append_left h1] at hy
    exact h.bs j hj y hy
   ·have e:j+1=s.bs.length:=by omega
    rw [e] at hy
    simp at hy
    subst hy
    have hg:s.bs.getLast? = some 255:=by rw [List.getLast?_eq_getElem?,<- e,Nat.add_sub_cancel]; exact hj
    have:=h.last hg
    rw [ht] at this
    omega
  have hlast:(s.bs++[l]).getLast? = some 255->l=255/\c+A<=144*2 ^ 20:=by
   intro hg
   rw [List.getLast?_concat] at hg
   have hl2:l=255:=Option.some.inj hg
   refine ⟨hl2,?_⟩
   rcases hl with ⟨h1,h2,_⟩ | ⟨h1,h2,h3⟩
   ·have:=(h.ff (by omega)).2
    rw [ht] at this
    omega
   ·omega
  have hclt:c<2 ^ 28:=by omega
  have h0:Stf0 (outTail s l c) A:=by
   refine ⟨by rw [hbs]; exact hchain,fun hg=>?_⟩
   rw [hbs] at hg
   obtain ⟨h1,h2⟩:=hlast hg
   unfold outTail
   rw [if_pos h1]
   show c / 1048576 % 256*2 ^ 20+c % 1048576+A<=144*2 ^ 20
   omega
  refine ⟨h0,fun hA2=>⟨h0,fun hl2=>?_⟩⟩
  by_cases h3:l=255
  ·have:=h0.last (by rw [hbs,List.getLast?_concat,h3])
   rw [hl2] at this
   omega
  ·unfold outTail
   rw [if_neg h3]
   refine ⟨Nat.le_refl _,?_⟩
   show c % 524288+A<=589824
   omega
 unfold outM
 split
 ·rename_i h1
  exact key _ _ (.inr ⟨rfl,h1.1,by omega⟩)
 ·rename_i h1
  exact key _ _ (.inl ⟨rfl,rfl,fun h2=>by
   rcases Nat.lt_or_ge s.c 134217728 with h3 | h3
   ·exact h3
   ·exact absurd ⟨h2,h3⟩ h1⟩)
theorem stf_shift (h:Stf s s.a) (hm:Mid s) (ha:s.a<0x8000) (ha1:1<=s.a):Stf (shiftM s) (shiftM s).a:=by
 have ht1:=hm.t1
 have ht2:=hm.t12
 have hca:=hm.ca
 have h1:=h.near (j:=1) (a':=2*s.a) ht1 (by omega)
 rw [Nat.pow_one,Nat.mul_comm s.c 2,Nat.mul_comm s.a 2] at h1
 unfold shiftM
 simp only []
 split
 ·rename_i h0
  have h0:s.t-1=0:=h0
  have ht:s.t=1:=by omega
  rw [ht] at hca
  rw [(outM_same _).1]
  exact (h1.out h0 (by show 2*s.c+2*s.a<=_; omega) (by omega)).2 (by omega)
 ·exact h1
theorem stf_renew:∀ (k:Nat) {s:Cod},Stf s s.a->Mid s->s.a<0x8000->1<=s.a->Stf (renewM k s) (renewM k s).a
 | 0,s,h,_,_,_=>h
 | k+1,s,h,hm,ha,ha1=>by
  obtain ⟨g1,g2,_⟩:=shiftM_mid hm ha
  unfold renewM
  simp only []
  split
  ·exact stf_shift h hm ha ha1
  ·exact stf_renew k (stf_shift h hm ha ha1) g1 (by omega) (by omega)
theorem stf_put (h:Stf s s.a) (hs:Wf s) (k bit:Nat):Stf (putM s k bit) (putM s k bit).a:=by
 have hx:=getD_lt hs.st k
 have hr:s.st.getD k 0 / 2<47:=by omega
 have hq1:=qOf_pos hr
 have hq2:=qOf_le hr
 have hM:=set_lt hs.st (k:=k) (upM_lt hx)
 have hL:=set_lt hs.st (k:=k) (upL_lt hx)
 have hlo:=hs.lo
 have hhi:=hs.hi
 have hca:=hs.ca
 unfold putM
 simp only []
 generalize s.st.getD k 0=x at *
 generalize qOf (x / 2)=q at *
 have lw:∀ {n':Nat} {st':List Nat},(∀ x∈st',x<94)->Stf (renewM 17 { s with a:=q,n:=n',st:=st' }) (renewM 17 { s with a:=q,n:=n',st:=st' }).a:=fun {n' st'} hst =>
  stf_renew 17 (h.part (c':=s.c) (A':=q) (d':=s.done) (by omega)) ⟨hs.t1,hs.t12,by show s.c+q<2 ^ (28-s.t); omega,hs.l,hs.bs,hst⟩ (by show q<_; omega) hq1
 have up:∀ {n':Nat} {st':List Nat},s.a-q<0x8000->1<=s.a-q->(∀ x∈st',x<94)->Stf (renewM 17 { s with a:=s.a-q,c:=s.c+q,n:=n',st:=st' }) (renewM 17 { s with a:=s.a-q,c:=s.c+q,n:=n',st:=st' }).a:=fun {n' st'} h1 h2 hst =>
  stf_renew 17 (h.part (c':=s.c+q) (A':=s.a-q) (d':=s.done) (by omega)) ⟨hs.t1,hs.t12,by show s.c+q+(s.a-q)<2 ^ (28-s.t); omega,hs.l,hs.bs,hst⟩ h1 h2
 split
 ·split
  ·exact h.part (a':=s.a-q) (c':=s.c+q) (A':=s.a-q) (n':=s.n+1) (st':=s.st) (d':=s.done) (by omega)
  ·split
   ·exact lw hM
   ·exact up (by omega) (by omega) hM
 ·split
  ·exact up (by omega) (by omega) hL
  ·exact lw hL
theorem stf_new (m:Nat):Stf (newC m) (newC m).a:=⟨⟨fun j hj=>by simp [newC] at hj,fun hl=>by simp [newC] at hl⟩,fun hl=>by simp [newC] at hl⟩
theorem stf_flush (h:Stf s s.a) (hs:Wf s):Stf0 (flushM s) 1:=by
 have hca:=hs.ca
 have ht1:=hs.t1
 have ht2:=hs.t12
 have hlo:=hs.lo
 have hf1:s.c<=flushC s/\flushC s+1<=s.c+s.a:=by
  unfold flushC
  simp only []
  split <;> omega
 have h0:Stf { s with c:=flushC s,done:=true } 1:=h.part (a':=s.a) (n':=s.n) (st':=s.st) (by omega)
 have hS:flushM s=flushS (flushS { s with c:=flushC s,done:=true }):=rfl
 rw [hS]
 generalize hS0:({ s with c:=flushC s,done:=true }:Cod)=S0 at h0
 have hS0t:S0.t=s.t:=by rw [<- hS0]
 have hS0c:S0.c=flushC s:=by rw [<- hS0]
 have h1:=h0.near (j:=S0.t) (a':=S0.a) (Nat.le_refl _) (by omega)
 have hp:(2:Nat) ^ (28-s.t)*2 ^ s.t=2 ^ 28:=by rw [<- Nat.pow_add]; congr 1; omega
 have hp12:(2:Nat) ^ s.t<=2 ^ 12:=Nat.pow_le_pow_right (by omega) ht2
 have h2:=(h1.out (Nat.sub_self _) (by
  show S0.c*2 ^ S0.t+1*2 ^ S0.t<=2 ^ 28
  rw [<- Nat.add_mul,hS0c,hS0t,<- hp]
  exact Nat.mul_le_mul_right _ (by omega)) (by have:=Nat.two_pow_pos S0.t; omega)).2 (by rw [hS0t]; omega)
 have e1:outM { S0 with c:=S0.c*2 ^ S0.t,t:=S0.t-S0.t }=flushS S0:=outM_t { S0 with c:=S0.c*2 ^ S0.t } _
 rw [e1] at h2
 obtain ⟨hc1,ht1'⟩:=outM_ct { S0 with c:=S0.c*2 ^ S0.t,t:=S0.t-S0.t }
 rw [e1] at hc1 ht1'
 generalize flushS S0=S1 at *
 rw [hS0t,Nat.one_mul] at h2
 have h3:=h2.near (j:=S1.t) (a':=S1.a) (Nat.le_refl _) (by omega)
 have hp1:(2:Nat) ^ (27-S1.t)*2 ^ S1.t=2 ^ 27:=by rw [<- Nat.pow_add]; congr 1; omega
 have hc1lt:S1.c<2 ^ (27-S1.t):=by rw [hc1]; exact Nat.mod_lt _ (Nat.two_pow_pos _)
 have hp8:(2:Nat) ^ S1.t<=2 ^ 8:=Nat.pow_le_pow_right (by omega) (by omega)
 have hpp:2 ^ s.t*2 ^ S1.t<=2 ^ 12*2 ^ 8:=Nat.mul_le_mul hp12 hp8
 have hpz:0<2 ^ s.t*2 ^ S1.t:=Nat.mul_pos (Nat.two_pow_pos _) (Nat.two_pow_pos _)
 have h4:=(h3.out (Nat.sub_self _) (by
  show S1.c*2 ^ S1.t+2 ^ s.t*2 ^ S1.t<=2 ^ 28
  have:=Nat.mul_lt_mul_of_pos_right hc1lt (Nat.two_pow_pos S1.t)
  omega) hpz).1
 have e2:outM { S1 with c:=S1.c*2 ^ S1.t,t:=S1.t-S1.t }=flushS S1:=outM_t { S1 with c:=S1.c*2 ^ S1.t } _
 rw [e2] at h4
 exact ⟨h4.bs,fun hl=>by have:=h4.last hl; omega⟩
end
theorem codeE_get {F:Cod} (j:Nat) (h:j<F.bs.length):fE (codeE F) j=F.bs.getD j 0/\F.bs[j]? = some (fE (codeE F) j):=by
 unfold fE codeE
 rw [List.getD_eq_getElem?_getD,List.getD_eq_getElem?_getD,List.getElem?_append_left h,List.getElem?_eq_getElem h]
 exact ⟨rfl,rfl⟩
theorem codeE_last {F:Cod}:fE (codeE F) F.bs.length=F.l:=by
 unfold fE codeE
 rw [List.getD_eq_getElem?_getD]; simp
theorem codeE_len {F:Cod}:(codeE F).length=F.bs.length+1:=by simp [codeE]
theorem Stf0.prev {F:Cod} (h:Stf0 F 1) (hl:F.bs.getLast? = some 255):F.l<=143:=by
 have h1:=h.last hl
 have h2:=Nat.two_pow_pos (27-F.t)
 have h3:F.l*2 ^ (27-F.t)<144*2 ^ (27-F.t):=by omega
 have:=Nat.lt_of_mul_lt_mul_right h3
 omega
theorem Stf0.stuffed {F:Cod} (h:Stf0 F 1):Stuffed (codeE F):=by
 intro j hj hlt
 rw [codeE_len] at hlt
 have hjl:j<F.bs.length:=by omega
 have h1:=(codeE_get j hjl).2
 rw [hj] at h1
 rcases Nat.lt_or_ge (j+1) F.bs.length with h2 | h2
 ·exact h.bs j h1 _ (codeE_get (j+1) h2).2
 ·have e:j+1=F.bs.length:=by omega
  rw [e,codeE_last]
  refine h.prev ?_
  rw [List.getLast?_eq_getElem?,<- e,Nat.add_sub_cancel]
  exact h1
theorem bytes_code {F:Cod} (j:Nat):(bytesM F).getD j 255=fE (codeE F) (j+1):=by
 have hc:bytesM F=if F.l=255 then ((codeE F).drop 1).dropLast else (codeE F).drop 1:=rfl
 have hd:((codeE F).drop 1).getD j 255=fE (codeE F) (j+1):=by
  unfold fE
  rw [List.getD_eq_getElem?_getD,List.getD_eq_getElem?_getD,List.getElem?_drop,Nat.add_comm 1 j]
 rw [hc]
 split
 ·rename_i hl
  have hlen:=codeE_len (F:=F)
  have hdl:((codeE F).drop 1).length=F.bs.length:=by rw [List.length_drop,hlen]; omega
  rcases Nat.lt_trichotomy (j+1) F.bs.length with h1 | h1 | h1
  ·rw [<- hd,List.getD_eq_getElem?_getD,List.getD_eq_getElem?_getD,List.dropLast_eq_take,List.getElem?_take_of_lt (by omega)]
  ·have e:fE (codeE F) (j+1)=255:=by rw [h1,codeE_last,hl]
   rw [e,List.getD_eq_getElem?_getD,List.getElem?_eq_none (by rw [List.length_dropLast]; omega)]
   rfl
  ·rw [fE_end _ (by omega),List.getD_eq_getElem?_getD,List.getElem?_eq_none (by rw [List.length_dropLast]; omega)]
   rfl
 ·exact hd
theorem fut_put {E:List Nat} {s:Cod} (hs:Wf s) {k bit:Nat} (hF:Fut E (putM s k bit) (putM s k bit).a):Fut E s s.a:=by
 have hx:=getD_lt hs.st k
 have hr:s.st.getD k 0 / 2<47:=by omega
 have hq1:=qOf_pos hr
 have hq2:=qOf_le hr
 have hM:=set_lt hs.st (k:=k) (upM_lt hx)
 have hL:=set_lt hs.st (k:=k) (upL_lt hx)
 have hlo:=hs.lo
 have hhi:=hs.hi
 have hca:=hs.ca
 have h17:(2:Nat) ^ 17=131072:=rfl
 unfold putM at hF
 simp only [] at hF
 generalize s.st.getD k 0=x at *
 generalize qOf (x / 2)=q at *
 have lw:∀ {n':Nat} {st':List Nat},(∀ x∈st',x<94)->Fut E (renewM 17 { s with a:=q,n:=n',st:=st' }) (renewM 17 { s with a:=q,n:=n',st:=st' }).a->Fut E s s.a:=fun {n' st'} hst h =>
  Fut.part (s:=s) (c':=s.c) (d':=s.done) (Fut.renew 17 (s:={ s with a:=q,n:=n',st:=st' }) ⟨hs.t1,hs.t12,by show s.c+q<2 ^ (28-s.t); omega,hs.l,hs.bs,hst⟩ (by show q<_; omega) (by show _<=q*_; omega) h) (by omega) (by show s.c+q<=_; omega)
 have up:∀ {n':Nat} {st':List Nat},s.a-q<0x8000->1<=s.a-q->(∀ x∈st',x<94)->Fut E (renewM 17 { s with a:=s.a-q,c:=s.c+q,n:=n',st:=st' }) (renewM 17 { s with a:=s.a-q,c:=s.c+q,n:=n',st:=st' }).a->Fut E s s.a:=fun {n' st'} h1 h2 hst h =>
  Fut.part (s:=s) (d':=s.done) (Fut.renew 17 (s:={ s with a:=s.a-q,c:=s.c+q,n:=n',st:=st' }) ⟨hs.t1,hs.t12,by show s.c+q+(s.a-q)<2 ^ (28-s.t); omega,hs.l,hs.bs,hst⟩ h1 (by show _<=(s.a-q)*_; omega) h) (by omega) (by show s.c+q+(s.a-q)<=_; omega)
 split at hF
 ·split at hF
  ·exact Fut.part (s:=s) (A:=s.a-q) (d':=s.done) hF (by omega) (by omega)
  ·split at hF
   ·exact lw hM hF
   ·exact up (by omega) (by omega) hM hF
 ·split at hF
  ·exact up (by omega) (by omega) hL hF
  ·exact lw hL hF
theorem sync_new {E:List Nat} {m:Nat} {b:List Nat} (hE:Stuffed E) (hb:∀ j,b.getD j 255=fE E (j+1)) (hlt:∀ x∈b,x<256) (hF:Fut E (newC m) (newC m).a):Sync E (newC m) (newD b m):=by
 have hX0:fE E 0=0:=by
  have:=hF.hi 0
  have e:lowC (newC m)=0:=by simp [lowC,newC,valL,valR]
  rw [e] at this
  have e2:XE E 0=fE E 0:=rfl
  rw [e2] at this
  simp [newC,BE] at this
  omega
 have hb0:∀ d:Dec,d.b=b->∀ j,byteD d j=fE E (j+1):=fun d e j=>by unfold byteD; rw [e]; exact hb j
 have hl1:lenE E 1=8:=by
  unfold lenE
  rw [if_neg]
  rintro ⟨_,h⟩
  rw [show 1-1=0 from rfl,hX0] at h
  omega
 have hX1:XE E 1=fE E 1:=by
  show XE E 0*2 ^ lenE E 1+fE E 1=_
  have:XE E 0=0:=hX0
  rw [this]; omega
 have hf1:fE E 1<256:=by rw [<- hb0 { a:=0,c:=0,t:=0,n:=0,st:=[],b:=b,i:=0 } rfl 0]; exact byteD_lt (s:={ a:=0,c:=0,t:=0,n:=0,st:=[],b:=b,i:=0 }) hlt 0
 have hf2:fE E 2<256:=by rw [<- hb0 { a:=0,c:=0,t:=0,n:=0,st:=[],b:=b,i:=0 } rfl 1]; exact byteD_lt (s:={ a:=0,c:=0,t:=0,n:=0,st:=[],b:=b,i:=0 }) hlt 1
 have hc0:b.getD 0 255=fE E 1:=hb 0
 generalize hd:({ a:=0x8000,c:=b.getD 0 255*65536,t:=0,n:=0,st:=List.replicate m 0,b:=b,i:=0 }:Dec)=d
 have hdc:d.c=fE E 1*65536:=by rw [<- hd]; show b.getD 0 255*65536=_; rw [hc0]
 have hP:Pos E d 1:=⟨hb0 d (by rw [<- hd]), .inl (by rw [<- hd])⟩
 obtain ⟨q1,q2,q3⟩:=inD_pos hE hP
 have hnew:newD b m = { inD d with c:=(inD d).c*128 % M32,t:=(inD d).t-7 }:=by rw [<- hd]; rfl
 have hst:(inD d).a=0x8000/\(inD d).n=0/\(inD d).st=List.replicate m 0:=by
  rw [<- hd]; unfold inD; split
  ·exact ⟨rfl,rfl,rfl⟩
  ·split <;> exact ⟨rfl,rfl,rfl⟩
 obtain ⟨l1,l2⟩:=lenE_le E 2
 have hXX:XE E 2=fE E 1*2 ^ lenE E 2+fE E 2:=by show XE E 1*_+_=_; rw [hX1]
 have hBB:BE E 2=8+lenE E 2:=by show 0+lenE E 1+lenE E 2=_; rw [hl1]
 have q2:(inD d).t=lenE E 2:=q2
 have q3:(inD d).c=(d.c+fE E 2*2 ^ (16-lenE E 2)) % M32:=q3
 rw [hnew]
 refine ⟨hst.1,hst.2.2,hst.2.1,2,⟨⟨q1.by_,q1.at_⟩,?_,?_⟩⟩
 ·show BE E 2=0+(27-12)+((inD d).t-7)
  omega
 ·have e:lowC (newC m)=0:=by simp [lowC,newC,valL,valR]
  show (inD d).c*128 % M32+lowC (newC m)*65536=XE E 2*2 ^ (16-((inD d).t-7))
  have hM:M32=4294967296:=rfl
  rw [e,q3,q2,hXX,hdc,hM]
  rcases (show lenE E 2=7\/lenE E 2=8 by omega) with h | h <;> rw [h] <;> simp only [show (16-7)=9 from rfl,show 16-8=8 from rfl,show 16-(7-7)=16 from rfl,show 16-(8-7)=15 from rfl] <;> omega
section
variable (k b:Nat->Nat) (m cnt:Nat)
theorem codN_wf (h:∀ i,i<cnt->b i<=1):∀ i,i<=cnt->i<=16777216->Wf (codN k b m i)/\(codN k b m i).n=i
 | 0,_,_=>⟨newC_wf m,rfl⟩
 | i+1,hi,h2=>by
  obtain ⟨g1,g2⟩:=codN_wf h i (by omega) (by omega)
  exact ⟨putM_wf g1 _ _ (by omega),by show (putM _ _ _).n=_; rw [(putM_n _ _ _).1,g2]⟩
theorem codN_stf (h:∀ i,i<cnt->b i<=1):∀ i,i<=cnt->i<=16777216->Stf (codN k b m i) (codN k b m i).a
 | 0,_,_=>stf_new m
 | i+1,hi,h2=>stf_put (codN_stf h i (by omega) (by omega)) (codN_wf k b m cnt h i (by omega) (by omega)).1 _ _
theorem fut_run (h:∀ i,i<cnt->b i<=1) (hc:cnt<=16777216):∀ d,d<=cnt->Fut (codeE (flushM (codN k b m cnt))) (codN k b m (cnt-d)) (codN k b m (cnt-d)).a
 | 0,_=>fut_flush (codN_wf k b m cnt h cnt (Nat.le_refl _) hc).1
 | d+1,hd=>by
  have h1:=fut_run h hc d (by omega)
  have e:cnt-d=(cnt-(d+1))+1:=by omega
  rw [e] at h1
  exact fut_put (codN_wf k b m cnt h _ (by omega) (by omega)).1 h1
theorem decN_wfD {bytes:List Nat} (hb:∀ x∈bytes,x<256):∀ i,i<=16777216->WfD (decN k bytes m i)/\(decN k bytes m i).n=i
 | 0,_=>by
  have hnew:∀ d:Dec,MidD d->d.a=0x8000->d.n=0->WfD { inD d with c:=(inD d).c*128 % M32,t:=(inD d).t-7 }/\({ inD d with c:=(inD d).c*128 % M32,t:=(inD d).t-7 }:Dec).n=0:=fun d hd ha hn=>by
   obtain ⟨i1,i2,i3,i4,i5,i6⟩:=inD_mid hd
   have:=i1.t8
   exact ⟨⟨⟨by show (inD d).t-7<=8; omega,Nat.mod_lt _ (by decide),i1.b,i1.st,i1.i⟩,by show (inD d).n<=_; omega,by show _<=(inD d).a; omega,by show (inD d).a<_; omega⟩,by show (inD d).n=0; omega⟩
  refine hnew { a:=0x8000,c:=bytes.getD 0 255*65536,t:=0,n:=0,st:=List.replicate m 0,b:=bytes,i:=0 } ⟨Nat.zero_le _,?_,hb,fun x hx=>by simp only [List.mem_replicate] at hx; omega,Nat.zero_le _⟩ rfl rfl
  have:=byteD_lt (s:={ a:=0,c:=0,t:=0,n:=0,st:=[],b:=bytes,i:=0 }) hb 0
  have e:byteD { a:=0,c:=0,t:=0,n:=0,st:=[],b:=bytes,i:=0 } 0=bytes.getD 0 255:=rfl
  show bytes.getD 0 255*65536<4294967296
  omega
 | i+1,h=>by
  obtain ⟨g1,g2⟩:=decN_wfD hb i (by omega)
  refine ⟨getD_wf g1 _ (by omega),?_⟩
  have hrn:∀ (j:Nat) (s:Dec),(renewD j s).n=s.n:=by
   have hi:∀ s:Dec,(inD s).n=s.n:=fun s=>by unfold inD; split; rfl; split <;> rfl
   have hs:∀ s:Dec,(shiftD s).n=s.n:=fun s=>by unfold shiftD; simp only []; split; exact hi s; rfl
   intro j
   induction j with
   | zero=>intro s; rfl
   | succ j ih=>intro s; unfold renewD; simp only []; split; exact hs s; exact (ih _).trans (hs s)
  show (getD (decN k bytes m i) (k i)).1.n=i+1
  unfold getD
  simp only []
  split
  ·split <;> (rw [hrn]; exact congrArg (· + 1) g2)
  ·split
   ·exact congrArg (· + 1) g2
   ·split <;> (rw [hrn]; exact congrArg (· + 1) g2)
theorem back_run (h:∀ i,i<cnt->b i<=1) (hc:cnt<=16777216) (hlt:∀ x∈bytesM (flushM (codN k b m cnt)),x<256):∀ i,i<=cnt ->
  Sync (codeE (flushM (codN k b m cnt))) (codN k b m i) (decN k (bytesM (flushM (codN k b m cnt))) m i)
 | 0,_=>by
  have hE:=(stf_flush (codN_stf k b m cnt h cnt (Nat.le_refl _) hc) (codN_wf k b m cnt h cnt (Nat.le_refl _) hc).1).stuffed
  have hF:=fut_run k b m cnt h hc cnt (Nat.le_refl _)
  rw [Nat.sub_self] at hF
  exact sync_new hE bytes_code hlt hF
 | i+1,hi=>by
  have hE:=(stf_flush (codN_stf k b m cnt h cnt (Nat.le_refl _) hc) (codN_wf k b m cnt h cnt (Nat.le_refl _) hc).1).stuffed
  have hF:=fut_run k b m cnt h hc (cnt-(i+1)) (by omega)
  rw [show cnt-(cnt-(i+1))=i+1 by omega] at hF
  exact (sync_put hE (codN_wf k b m cnt h i (by omega) (by omega)).1 (decN_wfD k m hlt i (by omega)).1 (back_run h hc hlt i (by omega)) (h i (by omega)) hF).1
theorem back_bit (h:∀ i,i<cnt->b i<=1) (hc:cnt<=16777216) (hlt:∀ x∈bytesM (flushM (codN k b m cnt)),x<256) {i:Nat} (hi:i<cnt) :
  (getD (decN k (bytesM (flushM (codN k b m cnt))) m i) (k i)).2=b i:=by
 have hE:=(stf_flush (codN_stf k b m cnt h cnt (Nat.le_refl _) hc) (codN_wf k b m cnt h cnt (Nat.le_refl _) hc).1).stuffed
 have hF:=fut_run k b m cnt h hc (cnt-(i+1)) (by omega)
 rw [show cnt-(cnt-(i+1))=i+1 by omega] at hF
 exact (sync_put hE (codN_wf k b m cnt h i (by omega) (by omega)).1 (decN_wfD k m hlt i (by omega)).1 (back_run k b m cnt h hc hlt i (by omega)) (h i hi) hF).2.1
end
end Go.Ar
namespace Go.Bm
open Go Go.Den Go.Den.YtfaclehehhgpcaaGreat
section
variable (G R:Int->Int->Bool) (W m:Nat) (dx dy base:Int)
def partG (i:Nat):Int->Int->Bool:=fun x y=>decide (0<=x/\x<W/\0<=y/\y.toNat*W+x.toNat<i) && G x y
variable (hG:∀ x y:Int,¬ (0<=x/\x<W/\0<=y)->G x y=false)
include hG
theorem partG_eq {i:Nat} {x y:Int} (h:0<=x->x<W->0<=y->y.toNat*W+x.toNat<i):partG G W i x y=G x y:=by
 unfold partG
 by_cases h1:0<=x/\x<W/\0<=y
 ·rw [decide_eq_true ⟨h1.1,h1.2.1,h1.2.2,h h1.1 h1.2.1 h1.2.2⟩,Bool.true_and]
 ·rw [hG _ _ h1,Bool.and_false]
theorem partG_next {x y:Nat} (hx:x<W):upd (partG G W (y*W+x)) (x:Int) (y:Int) (G (x:Int) (y:Int))=partG G W (y*W+x+1):=by
 have _:=hG
 funext a b
 unfold upd
 by_cases h1:a=x/\b=y
 ·obtain ⟨rfl,rfl⟩:=h1
  rw [if_pos ⟨rfl,rfl⟩]
  unfold partG
  rw [decide_eq_true ⟨by omega,by omega,by omega,by simp⟩,Bool.true_and]
 ·rw [if_neg h1]
  unfold partG
  congr 1
  rw [decide_eq_decide]
  constructor
  ·rintro ⟨h2,h3,h4,h5⟩; exact ⟨h2,h3,h4,by omega⟩
  ·rintro ⟨h2,h3,h4,h5⟩
   refine ⟨h2,h3,h4,?_⟩
   rcases Nat.lt_or_ge (b.toNat*W+a.toNat) (y*W+x) with h6 | h6
   ·exact h6
   ·exfalso
    have h7:b.toNat*W+a.toNat=y*W+x:=by omega
    have:=idx_inj (wd:=W) (c:=a.toNat) (c':=x) (y:=b.toNat) (y':=y) (by omega) hx h7
    exact h1 ⟨by omega,by omega⟩
end
end Go.Bm
namespace Go.Ar
open Go Go.Den Go.Den.YtfaclehehhgpcaaGreat
end Go.Ar
namespace Go.Bm
open Go Go.Den Go.Den.YtfaclehehhgpcaaGreat
theorem getP_out (ws:List Nat) (W X:Nat) (x y:Int) (h:¬ (0<=x/\x<W/\0<=y)):getP ws W X x y=false:=by
 unfold getP
 rw [decide_eq_false (by omega),Bool.false_and]
theorem getP_ext {W X:Nat} {a b:List Nat} (ha:a.length=X*wds W) (hb:b.length=X*wds W) (wa:W64 a) (wb:W64 b) (za:PadZ W X a) (zb:PadZ W X b) (h:getP a W X=getP b W X):a=b:=by
 refine pix_ext ha hb wa wb fun y hy x hx=>?_
 rcases Nat.lt_or_ge x W with h1 | h1
 ·have:=congrFun (congrFun h (x:Int)) (y:Int)
  unfold getP at this
  rw [decide_eq_true (by omega),Bool.true_and,Bool.true_and,Int.toNat_natCast,Int.toNat_natCast] at this
  exact this
 ·rw [za y hy x h1 hx,zb y hy x h1 hx]
theorem part_all (ws:List Nat) (W X:Nat):partG (getP ws W X) W (X*W)=getP ws W X:=by
 funext x y
 unfold partG
 by_cases h:0<=x/\0<=y/\x<W/\y<X
 ·have h2:y.toNat*W+x.toNat<X*W:=by
   have:(y.toNat+1)*W<=X*W:=Nat.mul_le_mul_right _ (by omega)
   rw [Nat.add_mul,Nat.one_mul] at this
   omega
  rw [decide_eq_true ⟨h.1,h.2.2.1,h.2.1,h2⟩,Bool.true_and]
 ·unfold getP
  rw [decide_eq_false h,Bool.false_and,Bool.and_false]
end Go.Bm
namespace Go.Den
open Go
section
variable {h0 h:Heap} {FF:List Nat} {L:List Ent}
theorem hpA (H:Hp h0 FF h L) (k:Nat) {b o i:Nat} {w:Bool} {t:TypeId} {cs:List Value} {v:Value} (he:L[k]? = some ⟨b,w,t,cs⟩) (hv:cs[o+i]? = some v):hcell h ((⟨b,o,none⟩:Addr).add i)=some v:=by
 rw [add_mk]
 exact H.cell k he hv
theorem hpB (H:Hp h0 FF h L) (k:Nat) {b o i j:Nat} {w:Bool} {t:TypeId} {cs:List Value} {v:Value} (he:L[k]? = some ⟨b,w,t,cs⟩) (hv:cs[o+i+j]? = some v):hcell h (((⟨b,o,none⟩:Addr).add i).add j)=some v:=by
 rw [add_mk,add_mk]
 exact H.cell k he hv
theorem hpC (H:Hp h0 FF h L) (k:Nat) {b o i j l:Nat} {w:Bool} {t:TypeId} {cs:List Value} {v:Value} (he:L[k]? = some ⟨b,w,t,cs⟩) (hv:cs[o+i+j+l]? = some v):hcell h ((((⟨b,o,none⟩:Addr).add i).add j).add l)=some v:=by
 rw [add_mk,add_mk,add_mk]
 exact H.cell k he hv
theorem stA (H:Hp h0 FF h L) (k:Nat) {b o i:Nat} {t:TypeId} {cs:List Value} {v:Value} {K:Heap->Prop} (he:L[k]? = some ⟨b,true,t,cs⟩) (hi:Nat.ble (o+i+1) cs.length=true) (hv:v.oneCell'=true)
  (hk:∀ h',Hp h0 FF h' (L.set k ⟨b,true,t,cs.set (o+i) v⟩)->K h'):stV h ((⟨b,o,none⟩:Addr).add i) v K:=by
 rw [add_mk]
 exact stV_hp H k he (Nat.le_of_ble_eq_true hi) hv fun h' _ H'=>hk h' H'
theorem stB (H:Hp h0 FF h L) (k:Nat) {b o i j:Nat} {t:TypeId} {cs:List Value} {v:Value} {K:Heap->Prop} (he:L[k]? = some ⟨b,true,t,cs⟩) (hi:Nat.ble (o+i+j+1) cs.length=true) (hv:v.oneCell'=true)
  (hk:∀ h',Hp h0 FF h' (L.set k ⟨b,true,t,cs.set (o+i+j) v⟩)->K h'):stV h (((⟨b,o,none⟩:Addr).add i).add j) v K:=by
 rw [add_mk,add_mk]
 exact stV_hp H k he (Nat.le_of_ble_eq_true hi) hv fun h' _ H'=>hk h' H'
theorem st0 (H:Hp h0 FF h L) (k:Nat) {b i:Nat} {t:TypeId} {cs:List Value} {v:Value} {K:Heap->Prop} (he:L[k]? = some ⟨b,true,t,cs⟩) (hi:Nat.ble (i+1) cs.length=true) (hv:v.oneCell'=true)
  (hk:∀ h',Hp h0 FF h' (L.set k ⟨b,true,t,cs.set i v⟩)->K h'):stV h ⟨b,i,none⟩ v K :=
 stV_hp H k he (Nat.le_of_ble_eq_true hi) hv fun h' _ H'=>hk h' H'
end
end Go.Den
namespace Go.Den.YtfaclehehhgpcaaGreat
open Go Go.Den
def context_Size (C:CallP) (template:Int) (h:Heap) (K:VK) (Kp:PK):Prop :=
C F_context_spans #[.int .i64 template] h (fun v_1 h_2 =>
∃ (r_3:Option Addr) (r_3n:Nat) (r_3c:Nat),v_1 = .slice r_3 r_3n r_3c/\(
bcase (Option.isNone r_3) (
K (.tuple #[.int .i64 0, .int .i64 60]) h_2) <|
∃ J_4:Nat->List Value->Heap->Prop,(∃ n_6,J_4 n_6 [.int .i64 0, .int .i64 0] h_2)/\∀ (n_6:Nat) (h_7:Heap) (u_8:Nat->Value) (n_9:Int) (x_10:Int),J_4 n_6 [.int .i64 n_9, .int .i64 x_10] h_7->(
bcase (decide (x_10<(r_3n:Int))) (
needs (0<=x_10/\x_10<(r_3n:Int)) <|
ptr r_3 fun a_11 =>
ldI h_7 ((a_11.add (x_10.toNat*3)).add 0) .i64 fun x_12 =>
ldI h_7 ((a_11.add (x_10.toNat*3)).add 1) .i64 fun x_13 =>
ldI h_7 ((a_11.add (x_10.toNat*3)).add 2) .i64 fun x_14 =>
newC h_7 [.int .i64 0, .int .i64 0, .int .i64 0] T_context_span fun r_15 h_16 =>
stV h_16 ((⟨r_15,0,none⟩:Addr).add 0) (.int .i64 x_12) fun h_17 =>
stV h_17 ((⟨r_15,0,none⟩:Addr).add 1) (.int .i64 x_13) fun h_18 =>
stV h_18 ((⟨r_15,0,none⟩:Addr).add 2) (.int .i64 x_14) fun h_19 =>
ldI h_19 ((⟨r_15,0,none⟩:Addr).add 2) .i64 fun x_20 =>
ldI h_19 ((⟨r_15,0,none⟩:Addr).add 1) .i64 fun x_21 =>
bindI (IntKind.i64.wrap (x_20-x_21)) fun z_22 =>
bindI (IntKind.i64.wrap (z_22+(1:Int))) fun z_23 =>
bindI (IntKind.i64.wrap (n_9+z_23)) fun z_24 =>
bindI (IntKind.i64.wrap (x_10+(1:Int))) fun z_25 =>
∃ m_5,m_5<n_6/\J_4 m_5 [.int .i64 z_24, .int .i64 z_25] h_19) <|
needs (0<=n_9) <|
bindI (shlI .i64 (1:Int) n_9) fun z_26 =>
K (.tuple #[.int .i64 z_26, .int .i64 0]) h_7))) (Kp)
def context_spans (C:CallP) (template:Int) (h:Heap) (K:VK) (Kp:PK):Prop :=
bcase (template == (0:Int)) (
newC h [.int .i64 (-2), .int .i64 (-2), .int .i64 2, .int .i64 (-1), .int .i64 (-3), .int .i64 3, .int .i64 0, .int .i64 (-4), .int .i64 (-1)] T_context_span fun r_1 h_2 =>
K (.slice (some ⟨r_1,0,none⟩) 3 3) h_2) <|
bcase (template == (1:Int)) (
newC h [.int .i64 (-2), .int .i64 (-1), .int .i64 2, .int .i64 (-1), .int .i64 (-2), .int .i64 3, .int .i64 0, .int .i64 (-3), .int .i64 (-1)] T_context_span fun r_3 h_4 =>
K (.slice (some ⟨r_3,0,none⟩) 3 3) h_4) <|
bcase (template == (2:Int)) (
newC h [.int .i64 (-2), .int .i64 (-1), .int .i64 1, .int .i64 (-1), .int .i64 (-2), .int .i64 2, .int .i64 0, .int .i64 (-2), .int .i64 (-1)] T_context_span fun r_5 h_6 =>
K (.slice (some ⟨r_5,0,none⟩) 3 3) h_6) <|
bcase (template == (3:Int)) (
newC h [.int .i64 (-1), .int .i64 (-3), .int .i64 2, .int .i64 0, .int .i64 (-4), .int .i64 (-1)] T_context_span fun r_7 h_8 =>
K (.slice (some ⟨r_7,0,none⟩) 2 2) h_8) <|
K (.slice none 0 0) h
end Go.Den.YtfaclehehhgpcaaGreat
namespace Go.Den.YtfaclehehhgpcaaGreat
open Go Go.Den
theorem call_context_Size {template:Int} {h:Heap} {K:VK} {Kp:PK} (H:context_Size (CallsHP Go.Proofs.Tryz.prog) template h K Kp):CallsHP Go.Proofs.Tryz.prog F_context_Size #[.int .i64 template] h K Kp :=
 callsHP_ofE (Hints.mk (fun i=>none) (fun i=>bif Nat.beq i 6 then some ([(5, .int .i64),(14, .int .i64)],134201504) else (none)) (fun i=>none) []) (by kernel_rfl) Go.Proofs.Tryz.func88 (by kernel_rfl) (fun C=>context_Size C template h K Kp) (fun C=>by kernel_rfl) H
theorem call_context_spans {template:Int} {h:Heap} {K:VK} {Kp:PK} (H:context_spans (CallsHP Go.Proofs.Tryz.prog) template h K Kp):CallsHP Go.Proofs.Tryz.prog F_context_spans #[.int .i64 template] h K Kp :=
 callsHP_ofE (Hints.mk (fun i=>none) (fun i=>none) (fun i=>none) []) (by kernel_rfl) Go.Proofs.Tryz.func140 (by kernel_rfl) (fun C=>context_spans C template h K Kp) (fun C=>by kernel_rfl) H
end Go.Den.YtfaclehehhgpcaaGreat
namespace Go.Den.YtfaclehehhgpcaaGreat
open Go Go.Den
def generic_Put (C:CallP) (c:Option Addr) (base:Int) (b_1:Int) (b_2:Int) (b_3:Option Addr) (b_3n:Nat) (b_3c:Nat) (template:Int) (skip:Bool) (h:Heap) (K:VK) (Kp:PK):Prop :=
newC h [.int .i64 b_1, .int .i64 b_2, .slice b_3 b_3n b_3c] T_api_Bitmap fun r_4 h_5 =>
bcase c.isNone (
K (.int .i64 53) h_5) <|
C F_context_Size #[.int .i64 template] h_5 (fun v_6 h_7 =>
∃ (r_8:Int),∃ (r_9:Int),v_6 = .tuple #[.int .i64 r_8, .int .i64 r_9]/\(
newC h_7 [.int .i64 0] T_int fun r_10 h_11 =>
stV h_11 (⟨r_10,0,none⟩:Addr) (.int .i64 r_8) fun h_12 =>
bcase (r_9 != (0:Int)) (
K (.int .i64 r_9) h_12) <|
ldI h_12 ((⟨r_4,0,none⟩:Addr).add 0) .i64 fun x_13 =>
ldI h_12 ((⟨r_4,0,none⟩:Addr).add 1) .i64 fun x_14 =>
ldS h_12 ((⟨r_4,0,none⟩:Addr).add 2) fun x_15 x_15n x_15c =>
C F_bitmap_From #[.agg #[.int .i64 x_13, .int .i64 x_14, .slice x_15 x_15n x_15c]] h_12 (fun v_16 h_17 =>
∃ (r_18:Option Addr),∃ (r_19:Int),v_16 = .tuple #[.pointer r_18, .int .i64 r_19]/\(
bcase (r_19 != (0:Int)) (
K (.int .i64 62) h_17) <|
ptr c fun a_20 =>
ldI h_17 (⟨r_10,0,none⟩:Addr) .i64 fun x_21 =>
bindI (IntKind.i64.wrap (x_21+(1:Int))) fun z_22 =>
C F_arith_table_Contexts #[.pointer (some (a_20.add 0))] h_17 (fun v_23 h_24 =>
∃ (r_25:Int),v_23 = .int .i64 r_25/\(
hext h_17 h_24/\(
C F_generic_fits #[.int .i64 base, .int .i64 z_22, .int .i64 r_25] h_24 (fun v_26 h_27 =>
∃ (r_28:Bool),v_26 = .bool r_28/\(
bcase (!r_28) (
K (.int .i64 51) h_27) <|
newC h_27 [.iface T_generic_coding (.agg #[.pointer c]), .pointer r_18, .int .i64 base, .int .i64 template, .bool skip] T_generic_procedure fun r_29 h_30 =>
newC h_30 [.pointer none] T_p_generic_procedure fun r_31 h_32 =>
stV h_32 (⟨r_31,0,none⟩:Addr) (.pointer (some ⟨r_29,0,none⟩)) fun h_33 =>
C F_generic_caught #[.func (.func F_generic_Put_c1) #[] #[.pointer (some ⟨r_31,0,none⟩), .pointer (some ⟨r_10,0,none⟩)]] h_33 (fun v_34 h_35 =>
∃ (r_36:Int),v_34 = .int .i64 r_36/\(
K (.int .i64 r_36) h_35)) (Kp))) (Kp)))) (Kp))) (Kp))) (Kp)
def generic_Get (C:CallP) (a0:Option Addr) (a1:Int) (a2:Int) (a3:Int) (a4:Int) (a5:Bool) (h:Heap) (K:VK) (Kp:PK):Prop :=
newC h [.int .i64 0, .int .i64 0, .slice none 0 0] T_api_Bitmap fun r_1 h_2 =>
bcase a0.isNone (
stV h_2 ((⟨r_1,0,none⟩:Addr).add 0) (.int .i64 0) fun h_3 =>
stV h_3 ((⟨r_1,0,none⟩:Addr).add 1) (.int .i64 0) fun h_4 =>
stV h_4 ((⟨r_1,0,none⟩:Addr).add 2) (.slice none 0 0) fun h_5 =>
ldI h_5 ((⟨r_1,0,none⟩:Addr).add 0) .i64 fun r_6 =>
ldI h_5 ((⟨r_1,0,none⟩:Addr).add 1) .i64 fun r_7 =>
ldS h_5 ((⟨r_1,0,none⟩:Addr).add 2) fun r_8 r_8n r_8c =>
K (.tuple #[.agg #[.int .i64 r_6, .int .i64 r_7, .slice r_8 r_8n r_8c], .int .i64 53]) h_5) <|
C F_context_Size #[.int .i64 a4] h_2 (fun v_9 h_10 =>
∃ (r_11:Int),∃ (r_12:Int),v_9 = .tuple #[.int .i64 r_11, .int .i64 r_12]/\(
newC h_10 [.int .i64 0] T_int fun r_13 h_14 =>
stV h_14 (⟨r_13,0,none⟩:Addr) (.int .i64 r_11) fun h_15 =>
bcase (r_12 != (0:Int)) (
stV h_15 ((⟨r_1,0,none⟩:Addr).add 0) (.int .i64 0) fun h_16 =>
stV h_16 ((⟨r_1,0,none⟩:Addr).add 1) (.int .i64 0) fun h_17 =>
stV h_17 ((⟨r_1,0,none⟩:Addr).add 2) (.slice none 0 0) fun h_18 =>
ldI h_18 ((⟨r_1,0,none⟩:Addr).add 0) .i64 fun r_19 =>
ldI h_18 ((⟨r_1,0,none⟩:Addr).add 1) .i64 fun r_20 =>
ldS h_18 ((⟨r_1,0,none⟩:Addr).add 2) fun r_21 r_21n r_21c =>
K (.tuple #[.agg #[.int .i64 r_19, .int .i64 r_20, .slice r_21 r_21n r_21c], .int .i64 r_12]) h_18) <|
C F_bitmap_New #[.int .i64 a2, .int .i64 a3] h_15 (fun v_22 h_23 =>
∃ (r_24:Option Addr),∃ (r_25:Int),v_22 = .tuple #[.pointer r_24, .int .i64 r_25]/\(
bcase (r_25 != (0:Int)) (
stV h_23 ((⟨r_1,0,none⟩:Addr).add 0) (.int .i64 0) fun h_26 =>
stV h_26 ((⟨r_1,0,none⟩:Addr).add 1) (.int .i64 0) fun h_27 =>
stV h_27 ((⟨r_1,0,none⟩:Addr).add 2) (.slice none 0 0) fun h_28 =>
ldI h_28 ((⟨r_1,0,none⟩:Addr).add 0) .i64 fun r_29 =>
ldI h_28 ((⟨r_1,0,none⟩:Addr).add 1) .i64 fun r_30 =>
ldS h_28 ((⟨r_1,0,none⟩:Addr).add 2) fun r_31 r_31n r_31c =>
K (.tuple #[.agg #[.int .i64 r_29, .int .i64 r_30, .slice r_31 r_31n r_31c], .int .i64 63]) h_28) <|
ptr a0 fun a_32 =>
ldI h_23 (⟨r_13,0,none⟩:Addr) .i64 fun x_33 =>
bindI (IntKind.i64.wrap (x_33+(1:Int))) fun z_34 =>
C F_arith_table_Contexts #[.pointer (some (a_32.add 0))] h_23 (fun v_35 h_36 =>
∃ (r_37:Int),v_35 = .int .i64 r_37/\(
hext h_23 h_36/\(
C F_generic_fits #[.int .i64 a1, .int .i64 z_34, .int .i64 r_37] h_36 (fun v_38 h_39 =>
∃ (r_40:Bool),v_38 = .bool r_40/\(
bcase (!r_40) (
stV h_39 ((⟨r_1,0,none⟩:Addr).add 0) (.int .i64 0) fun h_41 =>
stV h_41 ((⟨r_1,0,none⟩:Addr).add 1) (.int .i64 0) fun h_42 =>
stV h_42 ((⟨r_1,0,none⟩:Addr).add 2) (.slice none 0 0) fun h_43 =>
ldI h_43 ((⟨r_1,0,none⟩:Addr).add 0) .i64 fun r_44 =>
ldI h_43 ((⟨r_1,0,none⟩:Addr).add 1) .i64 fun r_45 =>
ldS h_43 ((⟨r_1,0,none⟩:Addr).add 2) fun r_46 r_46n r_46c =>
K (.tuple #[.agg #[.int .i64 r_44, .int .i64 r_45, .slice r_46 r_46n r_46c], .int .i64 51]) h_43) <|
newC h_39 [.iface T_generic_decoding (.agg #[.pointer a0]), .pointer r_24, .int .i64 a1, .int .i64 a4, .bool a5] T_generic_procedure fun r_47 h_48 =>
newC h_48 [.pointer none] T_p_generic_procedure fun r_49 h_50 =>
stV h_50 (⟨r_49,0,none⟩:Addr) (.pointer (some ⟨r_47,0,none⟩)) fun h_51 =>
C F_generic_caught #[.func (.func F_generic_Get_c1) #[] #[.pointer (some ⟨r_49,0,none⟩), .pointer (some ⟨r_13,0,none⟩)]] h_51 (fun v_52 h_53 =>
∃ (r_54:Int),v_52 = .int .i64 r_54/\(
bcase (r_54 != (0:Int)) (
stV h_53 ((⟨r_1,0,none⟩:Addr).add 0) (.int .i64 0) fun h_55 =>
stV h_55 ((⟨r_1,0,none⟩:Addr).add 1) (.int .i64 0) fun h_56 =>
stV h_56 ((⟨r_1,0,none⟩:Addr).add 2) (.slice none 0 0) fun h_57 =>
ldI h_57 ((⟨r_1,0,none⟩:Addr).add 0) .i64 fun r_58 =>
ldI h_57 ((⟨r_1,0,none⟩:Addr).add 1) .i64 fun r_59 =>
ldS h_57 ((⟨r_1,0,none⟩:Addr).add 2) fun r_60 r_60n r_60c =>
K (.tuple #[.agg #[.int .i64 r_58, .int .i64 r_59, .slice r_60 r_60n r_60c], .int .i64 r_54]) h_57) <|
C F_bitmap_Map_Plain #[.pointer r_24] h_53 (fun v_61 h_62 =>
∃ (r_63:Int) (r_64:Int) (r_65:Option Addr) (r_65n:Nat) (r_65c:Nat),v_61 = .agg #[.int .i64 r_63, .int .i64 r_64, .slice r_65 r_65n r_65c]/\(
stV h_62 ((⟨r_1,0,none⟩:Addr).add 0) (.int .i64 r_63) fun h_66 =>
stV h_66 ((⟨r_1,0,none⟩:Addr).add 1) (.int .i64 r_64) fun h_67 =>
stV h_67 ((⟨r_1,0,none⟩:Addr).add 2) (.slice r_65 r_65n r_65c) fun h_68 =>
ldI h_68 ((⟨r_1,0,none⟩:Addr).add 0) .i64 fun r_69 =>
ldI h_68 ((⟨r_1,0,none⟩:Addr).add 1) .i64 fun r_70 =>
ldS h_68 ((⟨r_1,0,none⟩:Addr).add 2) fun r_71 r_71n r_71c =>
K (.tuple #[.agg #[.int .i64 r_69, .int .i64 r_70, .slice r_71 r_71n r_71c], .int .i64 0]) h_68)) (Kp))) (Kp))) (Kp)))) (Kp))) (Kp))) (Kp)
def generic_fits (C:CallP) (base:Int) (many:Int) (all:Int) (h:Heap) (K:VK) (Kp:PK):Prop :=
bcase (decide (base≥(0:Int))) (
bindI (IntKind.i64.wrap (all-many)) fun z_1 =>
K (.bool (decide (base<=z_1))) h) <|
K (.bool false) h
def generic_caught (C:CallP) (D:CallDP) (run:Value) (h:Heap) (K:VK) (Kp:PK):Prop :=
newC h [.int .i64 0] T_api_Errno fun r_1 h_2 =>
callD C (fun c_10 h_11=>leaveD D (fun h_8 =>
ldI h_8 (⟨r_1,0,none⟩:Addr) .i64 fun r_9 =>
K (.int .i64 r_9) h_8) Kp [{ target := .fn (.func F_generic_caught_c1) #[.pointer (some ⟨r_1,0,none⟩)],args:=#[] }] (.panicking c_10) h_11) run [] h_2 fun v_3 h_4 =>
stV h_4 (⟨r_1,0,none⟩:Addr) (.int .i64 0) fun h_5 =>
leaveD D (fun h_6 =>
ldI h_6 (⟨r_1,0,none⟩:Addr) .i64 fun r_7 =>
K (.int .i64 r_7) h_6) Kp [{ target := .fn (.func F_generic_caught_c1) #[.pointer (some ⟨r_1,0,none⟩)],args:=#[] }] .returning h_5
def generic_Put_c1 (C:CallP) (cap0:Addr) (cap1:Addr) (h:Heap) (K:VK) (Kp:PK):Prop :=
ldP h cap0 fun x_1 =>
ldI h cap1 .i64 fun x_2 =>
C F_generic_procedure_run #[.pointer x_1, .int .i64 x_2] h (fun v_3 h_4 =>
K (.tuple #[]) h_4) (Kp)
def generic_procedure_run (C:CallP) (I:InvP) (p:Option Addr) (size:Int) (h:Heap) (K:VK) (Kp:PK):Prop :=
ptr p fun a_1 =>
ldP h (a_1.add 1) fun x_2 =>
C F_bitmap_Map_Size #[.pointer x_2] h (fun v_3 h_4 =>
∃ (r_5:Int),∃ (r_6:Int),v_3 = .tuple #[.int .i64 r_5, .int .i64 r_6]/\(
∃ J_7:Nat->List Value->Heap->Prop,(∃ n_9,J_7 n_9 [.int .i64 0] h_4)/\∀ (n_9:Nat) (h_10:Heap) (u_11:Nat->Value) (x_12:Int),J_7 n_9 [.int .i64 x_12] h_10->(
bcase (decide (x_12<r_6)) (
ptr p fun a_13 =>
ldB h_10 (a_13.add 4) fun x_14 =>
bcase x_14 (
∃ K_15:List Value->Heap->Prop,(
C F_generic_procedure_same #[.pointer p, .int .i64 r_5, .int .i64 x_12] h_10 (fun v_18 h_19 =>
∃ (r_20:Bool),v_18 = .bool r_20/\(
bcase r_20 (
K_15 [.int .i64 1] h_19) <|
K_15 [.int .i64 0] h_19)) (Kp))/\∀ (h_16:Heap) (u_17:Nat->Value) (bit_21:Int),K_15 [.int .i64 bit_21] h_16->(
ptr p fun a_22 =>
ptr p fun a_23 =>
ldV h_16 (a_22.add 0) fun x_24 =>
nilD x_24 fun w_25 =>
ldI h_16 (a_23.add 2) .i64 fun x_26 =>
bindI (IntKind.i64.wrap (x_26+size)) fun z_27 =>
I (x_24) "burin/generic.decide" ([.int .i64 z_27, .int .i64 bit_21] : List Value) h_16 (fun v_28 h_29 =>
∃ (r_30:Int),v_28 = .int .i64 r_30/\(
bcase (r_30 == (1:Int)) (
ptr p fun a_31 =>
ptr p fun a_32 =>
bindI (IntKind.i64.wrap (x_12-(1:Int))) fun z_33 =>
ldP h_29 (a_31.add 1) fun x_34 =>
ldP h_29 (a_32.add 1) fun x_35 =>
C F_bitmap_Map_Blit #[.pointer x_34, .pointer x_35, .int .i64 0, .int .i64 z_33, .int .i64 r_5, .int .i64 1, .int .i64 0, .int .i64 x_12, .int .i64 4] h_29 (fun v_36 h_37 =>
∃ (r_38:Int),v_36 = .int .i64 r_38/\(
bindI (IntKind.i64.wrap (x_12+(1:Int))) fun z_39 =>
∃ m_8,m_8<n_9/\J_7 m_8 [.int .i64 z_39] h_37)) (Kp)) <|
C F_generic_procedure_row #[.pointer p, .int .i64 r_5, .int .i64 x_12] h_29 (fun v_40 h_41 =>
bindI (IntKind.i64.wrap (x_12+(1:Int))) fun z_42 =>
∃ m_8,m_8<n_9/\J_7 m_8 [.int .i64 z_42] h_41) (Kp))) (Kp))) <|
C F_generic_procedure_row #[.pointer p, .int .i64 r_5, .int .i64 x_12] h_10 (fun v_43 h_44 =>
bindI (IntKind.i64.wrap (x_12+(1:Int))) fun z_45 =>
∃ m_8,m_8<n_9/\J_7 m_8 [.int .i64 z_45] h_44) (Kp)) <|
K (.tuple #[]) h_10))) (Kp)
def generic_Get_c1 (C:CallP) (cap0:Addr) (cap1:Addr) (h:Heap) (K:VK) (Kp:PK):Prop :=
ldP h cap0 fun x_1 =>
ldI h cap1 .i64 fun x_2 =>
C F_generic_procedure_run #[.pointer x_1, .int .i64 x_2] h (fun v_3 h_4 =>
K (.tuple #[]) h_4) (Kp)
def generic_caught_c1 (C:CallP) (cap0:Addr) (u:FrameMode) (h:Heap) (Kd:FrameMode->Heap->Prop) (Kdp:FrameMode->PK):Prop :=
recD u (fun u_1 =>
Kd u_1 h) (fun t_2 x_3 u_4 =>
bcase (Nat.beq t_2 T_generic_fault) (
∃ (r_5:Int),x_3 = .agg #[.int .i64 r_5]/\(
newC h [.int .i64 0] T_generic_fault fun r_6 h_7 =>
stV h_7 ((⟨r_6,0,none⟩:Addr).add 0) (.int .i64 r_5) fun h_8 =>
ldI h_8 ((⟨r_6,0,none⟩:Addr).add 0) .i64 fun x_9 =>
stV h_8 cap0 (.int .i64 x_9) fun h_10 =>
Kd u_4 h_10)) <|
newC h [.int .i64 0] T_generic_fault fun r_11 h_12 =>
stV h_12 ((⟨r_11,0,none⟩:Addr).add 0) (.int .i64 0) fun h_13 =>
Kdp u_4 [{ v := .iface t_2 (x_3),recovered:=false }] h_13)
def generic_procedure_same (C:CallP) (p:Option Addr) (w:Int) (y:Int) (h:Heap) (K:VK) (Kp:PK):Prop :=
∃ J_1:Nat->List Value->Heap->Prop,(∃ n_3,J_1 n_3 [.int .i64 0] h)/\∀ (n_3:Nat) (h_4:Heap) (u_5:Nat->Value) (x_6:Int),J_1 n_3 [.int .i64 x_6] h_4->(
bcase (decide (x_6<w)) (
ptr p fun a_7 =>
ptr p fun a_8 =>
bindI (IntKind.i64.wrap (y-(1:Int))) fun z_9 =>
ldP h_4 (a_7.add 1) fun x_10 =>
ldP h_4 (a_8.add 1) fun x_11 =>
C F_bitmap_Map_Get #[.pointer x_10, .int .i64 x_6, .int .i64 y] h_4 (fun v_12 h_13 =>
∃ (r_14:Int),v_12 = .int .i64 r_14/\(
hext h_4 h_13/\(
C F_bitmap_Map_Get #[.pointer x_11, .int .i64 x_6, .int .i64 z_9] h_13 (fun v_15 h_16 =>
∃ (r_17:Int),v_15 = .int .i64 r_17/\(
bcase (r_14 != r_17) (
K (.bool false) h_16) <|
bindI (IntKind.i64.wrap (x_6+(1:Int))) fun z_18 =>
∃ m_2,m_2<n_3/\J_1 m_2 [.int .i64 z_18] h_16)) (Kp)))) (Kp)) <|
K (.bool true) h_4)
def generic_procedure_row (C:CallP) (I:InvP) (a0:Option Addr) (a1:Int) (a2:Int) (h:Heap) (K:VK) (Kp:PK):Prop :=
ptr a0 fun a_1 =>
ldI h (a_1.add 3) .i64 fun x_2 =>
C F_generic_spans #[.int .i64 x_2] h (fun v_3 h_4 =>
∃ (r_5:Option Addr) (r_5n:Nat) (r_5c:Nat),v_3 = .slice r_5 r_5n r_5c/\(
∃ J_6:Nat->List Value->Heap->Prop,(∃ n_8,J_6 n_8 [.slice none 0 0, .int .i64 0] h_4)/\∀ (n_8:Nat) (h_9:Heap) (u_10:Nat->Value) (x_11:Option Addr) (x_11n:Nat) (x_11c:Nat) (x_12:Int),J_6 n_8 [.slice x_11 x_11n x_11c, .int .i64 x_12] h_9->(
bcase (decide (x_12<(r_5n:Int))) (
needs (0<=x_12/\x_12<(r_5n:Int)) <|
ptr r_5 fun a_13 =>
ldI h_9 ((a_13.add (x_12.toNat*3)).add 0) .i64 fun x_14 =>
ldI h_9 ((a_13.add (x_12.toNat*3)).add 1) .i64 fun x_15 =>
ldI h_9 ((a_13.add (x_12.toNat*3)).add 2) .i64 fun x_16 =>
newC h_9 [.int .i64 0, .int .i64 0, .int .i64 0] T_generic_span fun r_17 h_18 =>
stV h_18 ((⟨r_17,0,none⟩:Addr).add 0) (.int .i64 x_14) fun h_19 =>
stV h_19 ((⟨r_17,0,none⟩:Addr).add 1) (.int .i64 x_15) fun h_20 =>
stV h_20 ((⟨r_17,0,none⟩:Addr).add 2) (.int .i64 x_16) fun h_21 =>
ldI h_21 ((⟨r_17,0,none⟩:Addr).add 0) .i64 fun x_22 =>
ldI h_21 ((⟨r_17,0,none⟩:Addr).add 1) .i64 fun x_23 =>
ldI h_21 ((⟨r_17,0,none⟩:Addr).add 2) .i64 fun x_24 =>
ldI h_21 ((⟨r_17,0,none⟩:Addr).add 2) .i64 fun x_25 =>
ldI h_21 ((⟨r_17,0,none⟩:Addr).add 1) .i64 fun x_26 =>
bindI (IntKind.i64.wrap (x_25-x_26)) fun z_27 =>
bindI (IntKind.i64.wrap (z_27+(1:Int))) fun z_28 =>
needs (0<=z_28) <|
bindI (shlI .i64 (1:Int) z_28) fun z_29 =>
bindI (IntKind.i64.wrap (z_29-(1:Int))) fun z_30 =>
newC h_21 [.int .i64 0, .int .i64 0, .int .i64 0, .int .i64 0, .int .i64 0] T_generic_window fun r_31 h_32 =>
stV h_32 ((⟨r_31,0,none⟩:Addr).add 0) (.int .i64 x_22) fun h_33 =>
stV h_33 ((⟨r_31,0,none⟩:Addr).add 1) (.int .i64 x_23) fun h_34 =>
stV h_34 ((⟨r_31,0,none⟩:Addr).add 2) (.int .i64 x_24) fun h_35 =>
stV h_35 ((⟨r_31,0,none⟩:Addr).add 3) (.int .i64 0) fun h_36 =>
stV h_36 ((⟨r_31,0,none⟩:Addr).add 4) (.int .i64 z_30) fun h_37 =>
ldI h_37 ((⟨r_17,0,none⟩:Addr).add 1) .i64 fun x_38 =>
∃ J_39:Nat->List Value->Heap->Prop,(∃ n_41,J_39 n_41 [.int .i64 x_38] h_37)/\∀ (n_41:Nat) (h_42:Heap) (u_43:Nat->Value) (x_44:Int),J_39 n_41 [.int .i64 x_44] h_42->(
ldI h_42 ((⟨r_17,0,none⟩:Addr).add 2) .i64 fun x_45 =>
bcase (decide (x_44<x_45)) (
∃ R_46:Nat->Prop,(
ptr a0 fun a_47 =>
ldI h_42 ((⟨r_31,0,none⟩:Addr).add 3) .i64 fun x_48 =>
R_46 (((⟨r_31,0,none⟩:Addr).add 3):Addr).block/\(
bindI (shlI .i64 x_48 (1:Int)) fun z_49 =>
ldP h_42 (a_47.add 1) fun x_50 =>
R_46 ((a_47.add 1):Addr).block/\(
ldI h_42 ((⟨r_17,0,none⟩:Addr).add 0) .i64 fun x_51 =>
R_46 (((⟨r_17,0,none⟩:Addr).add 0):Addr).block/\(
bindI (IntKind.i64.wrap (a2+x_51)) fun z_52 =>
C F_bitmap_Map_Get #[.pointer x_50, .int .i64 x_44, .int .i64 z_52] h_42 (fun v_53 h_54 =>
∃ (r_55:Int),v_53 = .int .i64 r_55/\(
hkeep R_46 h_42 h_54/\(
bindI (bitI .or .i64 z_49 r_55) fun z_56 =>
stV h_54 ((⟨r_31,0,none⟩:Addr).add 3) (.int .i64 z_56) fun h_57 =>
bindI (IntKind.i64.wrap (x_44+(1:Int))) fun z_58 =>
∃ m_40,m_40<n_41/\J_39 m_40 [.int .i64 z_58] h_57))) (Kp)))))) <|
ldI h_42 ((⟨r_31,0,none⟩:Addr).add 0) .i64 fun x_59 =>
ldI h_42 ((⟨r_31,0,none⟩:Addr).add 1) .i64 fun x_60 =>
ldI h_42 ((⟨r_31,0,none⟩:Addr).add 2) .i64 fun x_61 =>
ldI h_42 ((⟨r_31,0,none⟩:Addr).add 3) .i64 fun x_62 =>
ldI h_42 ((⟨r_31,0,none⟩:Addr).add 4) .i64 fun x_63 =>
newC h_42 [.int .i64 x_59, .int .i64 x_60, .int .i64 x_61, .int .i64 x_62, .int .i64 x_63] T_generic_window fun r_64 h_65 =>
appC h_65 T_generic_window 5 40 [.int .i64 0, .int .i64 0, .int .i64 0, .int .i64 0, .int .i64 0] x_11 (x_11n) (x_11c) (some ⟨r_64,0,none⟩) (1) fun q_66 q_66n q_66c h_67 =>
bindI (IntKind.i64.wrap (x_12+(1:Int))) fun z_68 =>
∃ m_7,m_7<n_8/\J_6 m_7 [.slice q_66 q_66n q_66c, .int .i64 z_68] h_67)) <|
∃ J_69:Nat->List Value->Heap->Prop,(∃ n_71,J_69 n_71 [.int .i64 0] h_9)/\∀ (n_71:Nat) (h_72:Heap) (u_73:Nat->Value) (x_74:Int),J_69 n_71 [.int .i64 x_74] h_72->(
bcase (decide (x_74<a1)) (
∃ J_75:Nat->List Value->Heap->Prop,(∃ n_77,J_75 n_77 [.int .i64 0, .int .i64 0] h_72)/\∀ (n_77:Nat) (h_78:Heap) (u_79:Nat->Value) (x_80:Int) (x_81:Int),J_75 n_77 [.int .i64 x_80, .int .i64 x_81] h_78->(
bcase (decide (x_81<(x_11n:Int))) (
needs (0<=x_81/\x_81<(x_11n:Int)) <|
ptr x_11 fun a_82 =>
∃ R_83:Nat->Prop,(
ptr a0 fun a_84 =>
ldI h_78 ((a_82.add (x_81.toNat*5)).add 3) .i64 fun x_85 =>
R_83 (((a_82.add (x_81.toNat*5)).add 3):Addr).block/\(
bindI (shlI .i64 x_85 (1:Int)) fun z_86 =>
ldP h_78 (a_84.add 1) fun x_87 =>
R_83 ((a_84.add 1):Addr).block/\(
ldI h_78 (((a_82.add (x_81.toNat*5)).add 0).add 2) .i64 fun x_88 =>
R_83 ((((a_82.add (x_81.toNat*5)).add 0).add 2):Addr).block/\(
bindI (IntKind.i64.wrap (x_74+x_88)) fun z_89 =>
ldI h_78 (((a_82.add (x_81.toNat*5)).add 0).add 0) .i64 fun x_90 =>
R_83 ((((a_82.add (x_81.toNat*5)).add 0).add 0):Addr).block/\(
bindI (IntKind.i64.wrap (a2+x_90)) fun z_91 =>
ldI h_78 ((a_82.add (x_81.toNat*5)).add 4) .i64 fun x_92 =>
R_83 (((a_82.add (x_81.toNat*5)).add 4):Addr).block/\(
C F_bitmap_Map_Get #[.pointer x_87, .int .i64 z_89, .int .i64 z_91] h_78 (fun v_93 h_94 =>
∃ (r_95:Int),v_93 = .int .i64 r_95/\(
hkeep R_83 h_78 h_94/\(
bindI (bitI .or .i64 z_86 r_95) fun z_96 =>
bindI (bitI .and .i64 z_96 x_92) fun z_97 =>
stV h_94 ((a_82.add (x_81.toNat*5)).add 3) (.int .i64 z_97) fun h_98 =>
ldI h_98 ((a_82.add (x_81.toNat*5)).add 4) .i64 fun x_99 =>
bindI (IntKind.i64.wrap (x_99+(1:Int))) fun z_100 =>
bindI (IntKind.i64.wrap (x_80*z_100)) fun z_101 =>
ldI h_98 ((a_82.add (x_81.toNat*5)).add 3) .i64 fun x_102 =>
bindI (IntKind.i64.wrap (z_101+x_102)) fun z_103 =>
bindI (IntKind.i64.wrap (x_81+(1:Int))) fun z_104 =>
∃ m_76,m_76<n_77/\J_75 m_76 [.int .i64 z_103, .int .i64 z_104] h_98))) (Kp)))))))) <|
∃ R_105:Nat->Prop,(
ptr a0 fun a_106 =>
ptr a0 fun a_107 =>
ptr a0 fun a_108 =>
ptr a0 fun a_109 =>
ldP h_78 (a_106.add 1) fun x_110 =>
R_105 ((a_106.add 1):Addr).block/\(
ldV h_78 (a_107.add 0) fun x_111 =>
R_105 ((a_107.add 0):Addr).block/\(
nilD x_111 fun w_112 =>
ldI h_78 (a_108.add 2) .i64 fun x_113 =>
R_105 ((a_108.add 2):Addr).block/\(
bindI (IntKind.i64.wrap (x_113+x_80)) fun z_114 =>
ldP h_78 (a_109.add 1) fun x_115 =>
R_105 ((a_109.add 1):Addr).block/\(
C F_bitmap_Map_Get #[.pointer x_115, .int .i64 x_74, .int .i64 a2] h_78 (fun v_116 h_117 =>
∃ (r_118:Int),v_116 = .int .i64 r_118/\(
hkeep R_105 h_78 h_117/\(
I (x_111) "burin/generic.decide" ([.int .i64 z_114, .int .i64 r_118] : List Value) h_117 (fun v_119 h_120 =>
∃ (r_121:Int),v_119 = .int .i64 r_121/\(
hkeep R_105 h_117 h_120/\(
C F_bitmap_Map_Set #[.pointer x_110, .int .i64 x_74, .int .i64 a2, .int .i64 r_121] h_120 (fun v_122 h_123 =>
∃ (r_124:Int),v_122 = .int .i64 r_124/\(
bindI (IntKind.i64.wrap (x_74+(1:Int))) fun z_125 =>
∃ m_70,m_70<n_71/\J_69 m_70 [.int .i64 z_125] h_123)) (Kp)))) (Kp)))) (Kp)))))))) <|
K (.tuple #[]) h_72)))) (Kp)
def generic_spans (C:CallP) (template:Int) (h:Heap) (K:VK) (Kp:PK):Prop :=
bcase (template == (0:Int)) (
newC h [.int .i64 (-2), .int .i64 (-2), .int .i64 2, .int .i64 (-1), .int .i64 (-3), .int .i64 3, .int .i64 0, .int .i64 (-4), .int .i64 (-1)] T_generic_span fun r_1 h_2 =>
K (.slice (some ⟨r_1,0,none⟩) 3 3) h_2) <|
bcase (template == (1:Int)) (
newC h [.int .i64 (-2), .int .i64 (-1), .int .i64 2, .int .i64 (-1), .int .i64 (-2), .int .i64 3, .int .i64 0, .int .i64 (-3), .int .i64 (-1)] T_generic_span fun r_3 h_4 =>
K (.slice (some ⟨r_3,0,none⟩) 3 3) h_4) <|
bcase (template == (2:Int)) (
newC h [.int .i64 (-2), .int .i64 (-1), .int .i64 1, .int .i64 (-1), .int .i64 (-2), .int .i64 2, .int .i64 0, .int .i64 (-2), .int .i64 (-1)] T_generic_span fun r_5 h_6 =>
K (.slice (some ⟨r_5,0,none⟩) 3 3) h_6) <|
newC h [.int .i64 (-1), .int .i64 (-3), .int .i64 2, .int .i64 0, .int .i64 (-4), .int .i64 (-1)] T_generic_span fun r_7 h_8 =>
K (.slice (some ⟨r_7,0,none⟩) 2 2) h_8
def generic_coding_decide (C:CallP) (x_1:Option Addr) (context:Int) (bit:Int) (h:Heap) (K:VK) (Kp:PK):Prop :=
newC h [.pointer x_1] T_generic_coding fun r_2 h_3 =>
ldP h_3 ((⟨r_2,0,none⟩:Addr).add 0) fun x_4 =>
C F_arith_Coder_Put #[.pointer x_4, .int .i64 context, .int .i64 bit] h_3 (fun v_5 h_6 =>
∃ (r_7:Int),v_5 = .int .i64 r_7/\(
bcase (r_7 != (0:Int)) (
Kp [{ v := .iface T_generic_fault (.agg #[.int .i64 r_7]),recovered:=false }] h_6) <|
K (.int .i64 bit) h_6)) (Kp)
def generic_decoding_decide (C:CallP) (x_1:Option Addr) (context:Int) (a2:Int) (h:Heap) (K:VK) (Kp:PK):Prop :=
newC h [.pointer x_1] T_generic_decoding fun r_2 h_3 =>
ldP h_3 ((⟨r_2,0,none⟩:Addr).add 0) fun x_4 =>
C F_arith_Decoder_Get #[.pointer x_4, .int .i64 context] h_3 (fun v_5 h_6 =>
∃ (r_7:Int),∃ (r_8:Int),v_5 = .tuple #[.int .i64 r_7, .int .i64 r_8]/\(
bcase (r_8 != (0:Int)) (
Kp [{ v := .iface T_generic_fault (.agg #[.int .i64 r_8]),recovered:=false }] h_6) <|
K (.int .i64 r_7) h_6)) (Kp)
end Go.Den.YtfaclehehhgpcaaGreat
namespace Go.Den.YtfaclehehhgpcaaGreat
open Go Go.Den
theorem call_generic_Put {c:Option Addr} {base:Int} {b_1:Int} {b_2:Int} {b_3:Option Addr} {b_3n:Nat} {b_3c:Nat} {template:Int} {skip:Bool} {h:Heap} {K:VK} {Kp:PK} (H:generic_Put (CallsHP Go.Proofs.Tryz.prog) c base b_1 b_2 b_3 b_3n b_3c template skip h K Kp):CallsHP Go.Proofs.Tryz.prog F_generic_Put #[.pointer c, .int .i64 base, .agg #[.int .i64 b_1, .int .i64 b_2, .slice b_3 b_3n b_3c], .int .i64 template, .bool skip] h K Kp :=
 callsHP_ofE (Hints.mk (fun i=>bif Nat.beq i 9 then some ([7], .take 0 <| .take 3 <| .take 4 <| .take 5 <| .take 1 <| .take 2 <| .go 6 <| .bar 7 [] <| .take 8 <| .take 9 <| .done) else (none)) (fun i=>none) (fun i=>none) []) (by kernel_rfl) Go.Proofs.Tryz.func123 (by kernel_rfl) (fun C=>generic_Put C c base b_1 b_2 b_3 b_3n b_3c template skip h K Kp) (fun C=>by kernel_rfl) H
theorem call_generic_Get {a0:Option Addr} {a1:Int} {a2:Int} {a3:Int} {a4:Int} {a5:Bool} {h:Heap} {K:VK} {Kp:PK} (H:generic_Get (CallsHP Go.Proofs.Tryz.prog) a0 a1 a2 a3 a4 a5 h K Kp):CallsHP Go.Proofs.Tryz.prog F_generic_Get #[.pointer a0, .int .i64 a1, .int .i64 a2, .int .i64 a3, .int .i64 a4, .bool a5] h K Kp :=
 callsHP_ofE (Hints.mk (fun i=>bif Nat.beq i 9 then some ([7], .take 0 <| .take 3 <| .take 4 <| .take 5 <| .take 1 <| .take 2 <| .go 6 <| .bar 7 [] <| .take 8 <| .take 9 <| .done) else (none)) (fun i=>none) (fun i=>none) []) (by kernel_rfl) Go.Proofs.Tryz.func135 (by kernel_rfl) (fun C=>generic_Get C a0 a1 a2 a3 a4 a5 h K Kp) (fun C=>by kernel_rfl) H
theorem call_generic_fits {base:Int} {many:Int} {all:Int} {h:Heap} {K:VK} {Kp:PK} (H:generic_fits (CallsHP Go.Proofs.Tryz.prog) base many all h K Kp):CallsHP Go.Proofs.Tryz.prog F_generic_fits #[.int .i64 base, .int .i64 many, .int .i64 all] h K Kp :=
 callsHP_ofE (Hints.mk (fun i=>none) (fun i=>none) (fun i=>none) []) (by kernel_rfl) Go.Proofs.Tryz.func169 (by kernel_rfl) (fun C=>generic_fits C base many all h K Kp) (fun C=>by kernel_rfl) H
noncomputable def hints_generic_caught:Hints:=Hints.mk (fun i=>none)
 (fun i=>none)
 (fun i=>none) []
theorem eq_generic_caught (C:CallP) (D:CallDP) (run:Value) (h:Heap) (K:VK) (Kp:PK) :
  fnDD Go.Proofs.Tryz.prog C D hints_generic_caught Go.Proofs.Tryz.f171 [run] h K Kp=generic_caught C D run h K Kp:=by kernel_rfl
theorem call_generic_caught {run:Value} {h:Heap} {K:VK} {Kp:PK} (H:generic_caught (CallsHP Go.Proofs.Tryz.prog) (DCalls Go.Proofs.Tryz.prog) run h K Kp):CallsHP Go.Proofs.Tryz.prog F_generic_caught #[run] h K Kp :=
 callsHP_ofD hints_generic_caught (by kernel_rfl) Go.Proofs.Tryz.func171 (by kernel_rfl) (by rw [eq_generic_caught]; exact H)
theorem call_generic_Put_c1 {cap0:Addr} {cap1:Addr} {h:Heap} {K:VK} {Kp:PK} (H:generic_Put_c1 (CallsHP Go.Proofs.Tryz.prog) cap0 cap1 h K Kp):CallsHP Go.Proofs.Tryz.prog F_generic_Put_c1 #[.pointer (some cap0), .pointer (some cap1)] h K Kp :=
 callsHP_ofE (Hints.mk (fun i=>none) (fun i=>none) (fun i=>none) []) (by kernel_rfl) Go.Proofs.Tryz.func172 (by kernel_rfl) (fun C=>generic_Put_c1 C cap0 cap1 h K Kp) (fun C=>by kernel_rfl) H
theorem call_generic_procedure_run {p:Option Addr} {size:Int} {h:Heap} {K:VK} {Kp:PK} (H:generic_procedure_run (CallsHP Go.Proofs.Tryz.prog) (invokeD Go.Proofs.Tryz.prog (CallsHP Go.Proofs.Tryz.prog)) p size h K Kp):CallsHP Go.Proofs.Tryz.prog F_generic_procedure_run #[.pointer p, .int .i64 size] h K Kp :=
 callsHP_ofE (Hints.mk (fun i=>bif Nat.beq i 8 then some ([13], .take 0 <| .take 1 <| .take 2 <| .take 4 <| .take 5 <| .take 6 <| .take 8 <| .take 10 <| .take 3 <| .take 11 <| .take 12 <| .take 7 <| .take 9 <| .bar 13 [] <| .take 14 <| .done) else (bif Nat.beq i 9 then some ([12], .take 0 <| .take 1 <| .take 2 <| .take 4 <| .take 5 <| .take 6 <| .take 8 <| .take 9 <| .take 10 <| .take 11 <| .take 3 <| .take 7 <| .bar 12 [] <| .done) else (none))) (fun i=>bif Nat.beq i 2 then some ([(17, .int .i64)],2305843009213563072) else (none)) (fun i=>bif Nat.beq i 8 then some ([(7, .int .i64)],251658368) else (none)) []) (by kernel_rfl) Go.Proofs.Tryz.func173 (by kernel_rfl) (fun C=>generic_procedure_run C (invokeD Go.Proofs.Tryz.prog C) p size h K Kp) (fun C=>by kernel_rfl) H
theorem call_generic_Get_c1 {cap0:Addr} {cap1:Addr} {h:Heap} {K:VK} {Kp:PK} (H:generic_Get_c1 (CallsHP Go.Proofs.Tryz.prog) cap0 cap1 h K Kp):CallsHP Go.Proofs.Tryz.prog F_generic_Get_c1 #[.pointer (some cap0), .pointer (some cap1)] h K Kp :=
 callsHP_ofE (Hints.mk (fun i=>none) (fun i=>none) (fun i=>none) []) (by kernel_rfl) Go.Proofs.Tryz.func179 (by kernel_rfl) (fun C=>generic_Get_c1 C cap0 cap1 h K Kp) (fun C=>by kernel_rfl) H
noncomputable def hints_generic_caught_c1:Hints:=Hints.mk (fun i=>none)
 (fun i=>none)
 (fun i=>none) []
theorem eq_generic_caught_c1 (C:CallP) (cap0:Addr) (u:FrameMode) (h:Heap) (Kd:FrameMode->Heap->Prop) (Kdp:FrameMode->PK) :
  dfnD Go.Proofs.Tryz.prog C hints_generic_caught_c1 Go.Proofs.Tryz.f199 [.pointer (some cap0)] u h Kd Kdp=generic_caught_c1 C cap0 u h Kd Kdp:=by kernel_rfl
theorem dcall_generic_caught_c1 {cap0:Addr} {u:FrameMode} {h:Heap} {Kd:FrameMode->Heap->Prop} {Kdp:FrameMode->PK} (H:generic_caught_c1 (CallsHP Go.Proofs.Tryz.prog) cap0 u h Kd Kdp):DCalls Go.Proofs.Tryz.prog F_generic_caught_c1 #[.pointer (some cap0)] u h Kd Kdp :=
 dcalls_of hints_generic_caught_c1 (by kernel_rfl) Go.Proofs.Tryz.func199 (by kernel_rfl) (by rw [eq_generic_caught_c1]; exact H)
theorem call_generic_procedure_same {p:Option Addr} {w:Int} {y:Int} {h:Heap} {K:VK} {Kp:PK} (H:generic_procedure_same (CallsHP Go.Proofs.Tryz.prog) p w y h K Kp):CallsHP Go.Proofs.Tryz.prog F_generic_procedure_same #[.pointer p, .int .i64 w, .int .i64 y] h K Kp :=
 callsHP_ofE (Hints.mk (fun i=>bif Nat.beq i 4 then some ([14], .take 0 <| .take 1 <| .take 2 <| .take 4 <| .take 5 <| .take 7 <| .take 8 <| .take 9 <| .take 11 <| .take 12 <| .take 13 <| .take 3 <| .take 10 <| .go 6 <| .bar 14 [] <| .take 15 <| .done) else (none)) (fun i=>bif Nat.beq i 2 then some ([(9, .int .i64)],536870592) else (none)) (fun i=>none) []) (by kernel_rfl) Go.Proofs.Tryz.func201 (by kernel_rfl) (fun C=>generic_procedure_same C p w y h K Kp) (fun C=>by kernel_rfl) H
theorem call_generic_procedure_row {a0:Option Addr} {a1:Int} {a2:Int} {h:Heap} {K:VK} {Kp:PK} (H:generic_procedure_row (CallsHP Go.Proofs.Tryz.prog) (invokeD Go.Proofs.Tryz.prog (CallsHP Go.Proofs.Tryz.prog)) a0 a1 a2 h K Kp):CallsHP Go.Proofs.Tryz.prog F_generic_procedure_row #[.pointer a0, .int .i64 a1, .int .i64 a2] h K Kp :=
 callsHP_ofE (Hints.mk (fun i=>bif Nat.beq i 4 then some ([11], .take 1 <| .take 3 <| .take 0 <| .take 2 <| .take 4 <| .take 5 <| .take 6 <| .take 7 <| .take 8 <| .take 9 <| .go 10 <| .bar 11 [] <| .done) else (bif Nat.beq i 8 then some ([15], .keep <| .take 0 <| .take 3 <| .take 4 <| .take 5 <| .take 7 <| .take 8 <| .take 9 <| .take 1 <| .take 2 <| .take 6 <| .take 10 <| .take 11 <| .go 12 <| .take 13 <| .take 14 <| .bar 15 [] <| .done) else (bif Nat.beq i 19 then some ([33], .keep <| .take 0 <| .take 1 <| .take 2 <| .take 3 <| .take 6 <| .take 7 <| .take 8 <| .take 10 <| .take 11 <| .take 12 <| .take 13 <| .take 14 <| .take 17 <| .take 18 <| .take 19 <| .take 20 <| .take 21 <| .take 26 <| .take 27 <| .take 28 <| .take 4 <| .take 5 <| .take 9 <| .take 15 <| .take 16 <| .take 22 <| .take 23 <| .take 29 <| .go 24 <| .take 25 <| .take 30 <| .take 31 <| .take 32 <| .bar 33 [] <| .done) else (bif Nat.beq i 20 then some ([], .take 0 <| .take 1 <| .take 2 <| .take 3 <| .take 7 <| .take 8 <| .take 9 <| .take 4 <| .take 5 <| .take 6 <| .take 10 <| .take 11 <| .take 12 <| .done) else (bif Nat.beq i 22 then some ([26], .keep <| .take 0 <| .take 1 <| .take 2 <| .take 4 <| .take 5 <| .take 6 <| .take 7 <| .take 8 <| .take 10 <| .take 11 <| .take 12 <| .take 14 <| .take 16 <| .take 17 <| .take 18 <| .take 20 <| .take 21 <| .take 3 <| .take 9 <| .take 23 <| .take 24 <| .take 13 <| .take 15 <| .take 19 <| .go 22 <| .go 25 <| .bar 26 [] <| .done) else (none)))))) (fun i=>bif Nat.beq i 2 then some ([(6, .slc),(21, .int .i64)],9223372036852680512) else (bif Nat.beq i 6 then some ([(10, .int .i64)],288230238712759296) else (bif Nat.beq i 12 then some ([(64, .int .i64)],713623846352979940529142966278003494481852416) else (bif Nat.beq i 16 then some ([(12, .int .i64),(69, .int .i64)],2658455991569831155511803761855066112) else (none))))) (fun i=>none) []) (by kernel_rfl) Go.Proofs.Tryz.func202 (by kernel_rfl) (fun C=>generic_procedure_row C (invokeD Go.Proofs.Tryz.prog C) a0 a1 a2 h K Kp) (fun C=>by kernel_rfl) H
theorem call_generic_spans {template:Int} {h:Heap} {K:VK} {Kp:PK} (H:generic_spans (CallsHP Go.Proofs.Tryz.prog) template h K Kp):CallsHP Go.Proofs.Tryz.prog F_generic_spans #[.int .i64 template] h K Kp :=
 callsHP_ofE (Hints.mk (fun i=>none) (fun i=>none) (fun i=>none) []) (by kernel_rfl) Go.Proofs.Tryz.func218 (by kernel_rfl) (fun C=>generic_spans C template h K Kp) (fun C=>by kernel_rfl) H
theorem call_generic_coding_decide {x_1:Option Addr} {context:Int} {bit:Int} {h:Heap} {K:VK} {Kp:PK} (H:generic_coding_decide (CallsHP Go.Proofs.Tryz.prog) x_1 context bit h K Kp):CallsHP Go.Proofs.Tryz.prog F_generic_coding_decide #[.agg #[.pointer x_1], .int .i64 context, .int .i64 bit] h K Kp :=
 callsHP_ofE (Hints.mk (fun i=>none) (fun i=>none) (fun i=>none) []) (by kernel_rfl) Go.Proofs.Tryz.func240 (by kernel_rfl) (fun C=>generic_coding_decide C x_1 context bit h K Kp) (fun C=>by kernel_rfl) H
theorem call_generic_decoding_decide {x_1:Option Addr} {context:Int} {a2:Int} {h:Heap} {K:VK} {Kp:PK} (H:generic_decoding_decide (CallsHP Go.Proofs.Tryz.prog) x_1 context a2 h K Kp):CallsHP Go.Proofs.Tryz.prog F_generic_decoding_decide #[.agg #[.pointer x_1], .int .i64 context, .int .i64 a2] h K Kp :=
 callsHP_ofE (Hints.mk (fun i=>none) (fun i=>none) (fun i=>none) []) (by kernel_rfl) Go.Proofs.Tryz.func241 (by kernel_rfl) (fun C=>generic_decoding_decide C x_1 context a2 h K Kp) (fun C=>by kernel_rfl) H
end Go.Den.YtfaclehehhgpcaaGreat
namespace Go.Den.YtfaclehehhgpcaaGreat
open Go Go.Den
end Go.Den.YtfaclehehhgpcaaGreat
namespace Go.Den.YtfaclehehhgpcaaGreat
open Go Go.Den
end Go.Den.YtfaclehehhgpcaaGreat
namespace Go.Bm
open Go Go.Den Go.Den.YtfaclehehhgpcaaGreat
abbrev Sp:=Int × Int × Int
def spanL:Nat->List Sp
 | 0=>[(-2,-2,2),(-1,-3,3),(0,-4,-1)]
 | 1=>[(-2,-1,2),(-1,-2,3),(0,-3,-1)]
 | 2=>[(-2,-1,1),(-1,-2,2),(0,-2,-1)]
 | _=>[(-1,-3,2),(0,-4,-1)]
def spanW (s:Sp):Nat:=(s.2.2-s.2.1+1).toNat
def spl (s:Sp) (k:Nat):List (Int × Int):=(List.range k).map fun (j:Nat)=>(s.2.1+(j:Int),s.1)
def plcs (l:List Sp):List (Int × Int):=l.flatMap fun s=>spl s (spanW s)
def pb (G:Int->Int->Bool) (x y:Int) (l:List (Int × Int)):List Bool:=l.map fun p=>G (x+p.1) (y+p.2)
def gctx (t:Nat) (G:Int->Int->Bool) (x y:Int):Nat:=bitsN 0 (pb G x y (plcs (spanL t)))
def gsize (t:Nat):Nat:=2 ^ (plcs (spanL t)).length
theorem gsize_le {t:Nat} (h:t<4):1024<=gsize t/\gsize t<=65536:=by
 have:t=0\/t=1\/t=2\/t=3:=by omega
 rcases this with rfl | rfl | rfl | rfl <;> decide
theorem gctx_lt (t:Nat) (G:Int->Int->Bool) (x y:Int):gctx t G x y<gsize t:=by
 unfold gctx gsize
 have:=bitsN_lt (pb G x y (plcs (spanL t))) 0 0 (by decide)
 rw [Nat.zero_add] at this
 simpa [pb] using this
structure SpOk (s:Sp):Prop where
 d:-2<=s.1/\s.1<=0
 f:-4<=s.2.1/\s.2.1<=s.2.2
 t:s.2.2<=3
 z:s.1=0->s.2.2<=-1
theorem spanL_ok {t:Nat} (h:t<4):∀ s∈spanL t,SpOk s:=by
 have:t=0\/t=1\/t=2\/t=3:=by omega
 rcases this with rfl | rfl | rfl | rfl <;> (intro s hs; simp [spanL] at hs; rcases hs with rfl | rfl | rfl <;> exact ⟨by decide,by decide,by decide,by decide⟩)
theorem spanL_len {t:Nat} (h:t<4):2<=(spanL t).length/\(spanL t).length<=3:=by
 have:t=0\/t=1\/t=2\/t=3:=by omega
 rcases this with rfl | rfl | rfl | rfl <;> decide
def spC:List Sp->List Value
 | []=>[]
 | s::l => .int .i64 s.1 :: .int .i64 s.2.1 :: .int .i64 s.2.2::spC l
theorem spC_get:∀ {l:List Sp} {i:Nat} {s:Sp},l[i]? = some s->(spC l)[i*3]? = some (.int .i64 s.1)/\(spC l)[i*3+1]? = some (.int .i64 s.2.1)/\(spC l)[i*3+2]? = some (.int .i64 s.2.2)
 | [],i,s,h=>by simp at h
 | a::l,0,s,h=>by
  simp at h
  subst h
  exact ⟨rfl,rfl,rfl⟩
 | a::l,i+1,s,h=>by
  have:=spC_get (l:=l) (i:=i) (s:=s) (by simpa using h)
  rw [show (i+1)*3=i*3+3 by omega]
  exact this
section
variable {hB:Heap} {K:VK} {Kp:PK}
theorem cspans_ok {template:Int} (hg:∀ t:Nat,t<4->template=(t:Int)->∀ r h',Hp hB [] h' [⟨r,true,T_context_span,spC (spanL t)⟩]->K (.slice (at0 r) (spanL t).length (spanL t).length) h')
  (hbad:¬ (0<=template/\template<4)->K (.slice none 0 0) hB):CP F_context_spans #[.int .i64 template] hB K Kp:=by
 refine call_context_spans ?_
 unfold context_spans
 have H:=Hp.nil hB []
 refine bcase_eq (fun h0=>?_) fun h0=>bcase_eq (fun h1=>?_) fun h1=>bcase_eq (fun h2=>?_) fun h2=>bcase_eq (fun h3=>?_) fun h3=>hbad (by omega)
 ·exact newC_hp H fun r h H=>hg 0 (by decide) h0 r h H
 ·exact newC_hp H fun r h H=>hg 1 (by decide) h1 r h H
 ·exact newC_hp H fun r h H=>hg 2 (by decide) h2 r h H
 ·exact newC_hp H fun r h H=>hg 3 (by decide) h3 r h H
theorem gspans_ok {t:Nat} (ht:t<4) (hk:∀ r h',Hp hB [] h' [⟨r,true,T_generic_span,spC (spanL t)⟩]->K (.slice (at0 r) (spanL t).length (spanL t).length) h'):CP F_generic_spans #[.int .i64 (t:Nat)] hB K Kp:=by
 refine call_generic_spans ?_
 unfold generic_spans
 have H:=Hp.nil hB []
 have:t=0\/t=1\/t=2\/t=3:=by omega
 rcases this with rfl | rfl | rfl | rfl
 ·refine bcase_true (by decide) ?_
  exact newC_hp H fun r h H=>hk r h H
 ·refine bcase_false (by decide) (bcase_true (by decide) ?_)
  exact newC_hp H fun r h H=>hk r h H
 ·refine bcase_false (by decide) (bcase_false (by decide) (bcase_true (by decide) ?_))
  exact newC_hp H fun r h H=>hk r h H
 ·refine bcase_false (by decide) (bcase_false (by decide) (bcase_false (by decide) ?_))
  exact newC_hp H fun r h H=>hk r h H
theorem plcs_take {l:List Sp} {i:Nat} {s:Sp} (h:l[i]? = some s):(plcs (l.take (i+1))).length=(plcs (l.take i)).length+spanW s:=by
 have hi:=(List.getElem?_eq_some_iff.1 h).1
 have e:=(List.getElem?_eq_some_iff.1 h).2
 rw [List.take_succ_eq_append_getElem hi,e]
 unfold plcs
 rw [List.flatMap_append,List.length_append]
 simp [spl]
theorem plcs_small {t i:Nat} (ht:t<4):(plcs ((spanL t).take i)).length<=16:=by
 have:t=0\/t=1\/t=2\/t=3:=by omega
 have hi:i=0\/i=1\/i=2\/3<=i:=by omega
 rcases hi with rfl | rfl | rfl | hi
 ·rcases this with rfl | rfl | rfl | rfl <;> decide
 ·rcases this with rfl | rfl | rfl | rfl <;> decide
 ·rcases this with rfl | rfl | rfl | rfl <;> decide
 ·rw [List.take_of_length_le (Nat.le_trans (spanL_len ht).2 hi)]
  rcases this with rfl | rfl | rfl | rfl <;> decide
theorem csize_ok {template:Int} (hg:∀ t:Nat,t<4->template=(t:Int)->∀ h',hext hB h'->K (.tuple #[.int .i64 (gsize t:Nat), .int .i64 0]) h')
  (hbad:¬ (0<=template/\template<4)->∀ h',hext hB h'->K (.tuple #[.int .i64 0, .int .i64 60]) h'):CP F_context_Size #[.int .i64 template] hB K Kp:=by
 refine call_context_Size ?_
 unfold context_Size
 refine cspans_ok (fun t ht et r h H=>?_) fun hn=>?_
 ·refine ⟨_,_,_,rfl,?_⟩
  refine bcase_false (by rfl) ?_
  have hlen:=spanL_len ht
  refine ⟨fun n vs h'=>∃ i:Nat,i+n=(spanL t).length/\vs=[.int .i64 ((plcs ((spanL t).take i)).length:Nat), .int .i64 (i:Nat)]/\Hp hB [] h' [⟨r,true,T_context_span,spC (spanL t)⟩],⟨(spanL t).length,0,by omega,rfl,H⟩,?_⟩
  clear H
  rintro n h u a b ⟨i,hin,hxx,H⟩
  injection hxx with h1 hxx
  injection hxx with h2 hxx
  injection h1 with _ h1
  injection h2 with _ h2
  subst h1 h2
  refine bcase_dec (fun h3=>?_) fun h3=>?_
  ·have hi:i<(spanL t).length:=by omega
   obtain ⟨s,hs⟩:∃ s,(spanL t)[i]? = some s:=⟨_,List.getElem?_eq_getElem hi⟩
   have hok:=spanL_ok ht s (List.mem_of_getElem? hs)
   obtain ⟨k0,k1,k2⟩:=spC_get hs
   have o1:=hok.d
   have o2:=hok.f
   have o3:=hok.t
   refine needs_of (by omega) (ptr_of (a:=⟨r,0,none⟩) ?_)
   rw [Int.toNat_natCast]
   refine ldI_of (hpB H 0 rfl (by rw [Nat.zero_add,Nat.add_zero]; exact k0)) (ldI_of (hpB H 0 rfl (by rw [Nat.zero_add]; exact k1)) (ldI_of (hpB H 0 rfl (by rw [Nat.zero_add]; exact k2)) ?_))
   refine newC_hp H fun r15 h H=>?_
   repeat first | with_reducible refine ldI_of (by with_unfolding_all first | exact hpA H 0 rfl rfl | exact hpA H 1 rfl rfl | exact Hp.cell H 0 rfl rfl | exact Hp.cell H 1 rfl rfl | exact hpB H 0 rfl rfl | exact hpB H 1 rfl rfl | exact hpC H 0 rfl rfl | exact hpC H 1 rfl rfl) ?_ | with_reducible refine ldS_of (by with_unfolding_all first | exact hpA H 0 rfl rfl | exact hpA H 1 rfl rfl | exact Hp.cell H 0 rfl rfl | exact Hp.cell H 1 rfl rfl | exact hpB H 0 rfl rfl | exact hpB H 1 rfl rfl | exact hpC H 0 rfl rfl | exact hpC H 1 rfl rfl) ?_ | with_reducible refine ldP_of (by with_unfolding_all first | exact hpA H 0 rfl rfl | exact hpA H 1 rfl rfl | exact Hp.cell H 0 rfl rfl | exact Hp.cell H 1 rfl rfl | exact hpB H 0 rfl rfl | exact hpB H 1 rfl rfl | exact hpC H 0 rfl rfl | exact hpC H 1 rfl rfl) ?_ | with_reducible refine ldB_of (by with_unfolding_all first | exact hpA H 0 rfl rfl | exact hpA H 1 rfl rfl | exact Hp.cell H 0 rfl rfl | exact Hp.cell H 1 rfl rfl | exact hpB H 0 rfl rfl | exact hpB H 1 rfl rfl | exact hpC H 0 rfl rfl | exact hpC H 1 rfl rfl) ?_ | with_reducible refine ldT_of (by with_unfolding_all first | exact hpA H 0 rfl rfl | exact hpA H 1 rfl rfl | exact Hp.cell H 0 rfl rfl | exact Hp.cell H 1 rfl rfl | exact hpB H 0 rfl rfl | exact hpB H 1 rfl rfl | exact hpC H 0 rfl rfl | exact hpC H 1 rfl rfl) ?_ | with_reducible refine stA H 0 (by with_unfolding_all exact rfl) (by with_unfolding_all exact rfl) (by with_unfolding_all exact rfl) fun h H=>?_ | with_reducible refine stA H 1 (by with_unfolding_all exact rfl) (by with_unfolding_all exact rfl) (by with_unfolding_all exact rfl) fun h H=>?_ | with_reducible refine st0 H 0 (by with_unfolding_all exact rfl) (by with_unfolding_all exact rfl) (by with_unfolding_all exact rfl) fun h H=>?_ | with_reducible refine st0 H 1 (by with_unfolding_all exact rfl) (by with_unfolding_all exact rfl) (by with_unfolding_all exact rfl) fun h H=>?_ | with_reducible refine stB H 0 (by with_unfolding_all exact rfl) (by with_unfolding_all exact rfl) (by with_unfolding_all exact rfl) fun h H=>?_ | with_reducible refine stB H 1 (by with_unfolding_all exact rfl) (by with_unfolding_all exact rfl) (by with_unfolding_all exact rfl) fun h H=>?_
   have hw:((spanW s:Nat):Int)=s.2.2-s.2.1+1:=by unfold spanW; omega
   have hsm:=plcs_small (i:=i+1) ht
   have htk:=plcs_take hs
   refine bindI_of ((s.2.2-s.2.1)) (by exact i64_in _ (by omega) (by omega)) ?_
   refine bindI_of (((spanW s:Nat):Int)) (by exact i64_at _ _ (by omega) (by omega) (by omega)) ?_
   refine bindI_of ((((plcs ((spanL t).take (i+1))).length:Nat):Int)) (by exact i64_at _ _ (by omega) (by omega) (by omega)) ?_
   refine bindI_of (((i+1:Nat):Int)) (by exact i64_at _ _ (by omega) (by omega) (by omega)) ?_
   exact ⟨n-1,by omega,i+1,by omega,rfl,H.take 1⟩
  ·have hi:(spanL t).length<=i:=by omega
   have hsm:=plcs_small (i:=i) ht
   rw [List.take_of_length_le hi] at hsm ⊢
   refine needs_of (by omega) ?_
   refine bindI_of (((gsize t:Nat):Int)) (by exact (shlI_of (a:=1) (i:=(plcs (spanL t)).length) (by omega) (by rw [Nat.one_mul]; exact Nat.lt_of_le_of_lt (gsize_le ht).2 (by decide))).trans (by rw [Nat.one_mul]; rfl)) ?_
   exact hg t ht et _ H.hext
 ·refine ⟨_,_,_,rfl,?_⟩
  refine bcase_true (by rfl) ?_
  exact hbad hn _ (hext.refl _)
end
end Go.Bm
