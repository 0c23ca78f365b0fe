/- The given statement DictHurtSaid is proved of the given program; there are no further conditions. W7: put together by wip/tools/bundle.py: DcN DcO DcP DcQ DcS Mlaw13DictEncodes Blaw13DictEncodes DcT DcR Mlaw13DictBack Blaw13DictBack DcV Mlaw13DictHurt Blaw13DictHurt DcX ArLink2 DcHurt. -/
import Derived.Test.YtfaclehehhgpcaaGreatW1
import Derived.Test.YtfaclehehhgpcaaGreatW2
import Derived.Test.YtfaclehehhgpcaaGreatW3
import Derived.Test.YtfaclehehhgpcaaGreatW4
import Derived.Test.YtfaclehehhgpcaaGreatW5
import Derived.Test.YtfaclehehhgpcaaGreatW6
import Derived.Test.YtfaclehehhgpcaaGreatProg
import Derived.WalkKit
import Derived.ProofKit
import Derived.OpenShut
import Derived.Carry
import Derived.Deep.SlicePairs
import Derived.Lib.SmallJoins
import Derived.Test.YtfaclehehhgpcaaGreatRows
set_option linter.unusedVariables false
set_option linter.unusedSimpArgs false
set_option maxRecDepth 100000
namespace Go.Bm
open Go Go.Den Go.Den.YtfaclehehhgpcaaGreat
open Go.Ar (Dec newD decL BOk u8s)
theorem bls_app (l l':List Bool):bls (l++l')=bls l++bls l':=by simp [bls]
section
variable {hB h:Heap} {K:VK} {Kp:PK}
variable {r p q m t n bc nn cn left area c0:Nat} {qn bp:Option Addr} {e:Ent} {s:Dec} {bytes:List Nat} {X:List Ent} {Rz:Except Int (List Bool)}
set_option maxHeartbeats 8000000 in
theorem rflags_ok (H:Hp hB [] h (RdS r p t qn nn cn none 0 0 left area::(decL p q e bp bc s++X))) (hXw:X.all Ent.w=true) (hb:BOk e bp bytes) (hok:Go.Ar.DecOk bytes m c0 s) (hbl:bytes.length<140737488351300)
  (hm1:2561<=m) (hm2:m<=131072) (hn:n<=8192) (hc0:c0+64*(n+2)<=16777216) (hres:flF m n (n+2) [] false true s=Rz)
  (hk:∀ ex RE qe ce s' h',Rz = .ok ex->Slot T_bool 1 RE qe ex.length ce (bls ex)->Hp hB [] h' ((RdS r p t qn nn cn qe ex.length ce left area::(decL p q e bp bc s'++X))++RE)->K (.tuple #[]) h')
  (hp:∀ er J h',Rz = .error er->Hp hB [] h' (X++J)->Kp (dflt er) h') :
  CP F_dict_reader_flags #[.pointer (some ⟨r,0,none⟩), .int .i64 (n:Nat)] h K Kp:=by
 refine call_dict_reader_flags ?_
 unfold dict_reader_flags
 refine ⟨fun f vs h'=>∃ (ex:List Bool) (v first:Bool) (s:Dec) (cnt:Nat) (RE:List Ent) (qe:Option Addr) (ce:Nat),flF m n f ex v first s=Rz/\ex.length<=n/\f<=n+2/\n-ex.length+(if first=true then 2 else 1)<=f/\cnt<=c0+64*(n+2-f)/\vs=[.bool v, .bool first]/\Go.Ar.DecOk bytes m cnt s /\
   Slot T_bool 1 RE qe ex.length ce (bls ex)/\Hp hB [] h' ((RdS r p t qn nn cn qe ex.length ce left area::(decL p q e bp bc s++X))++RE),
  ⟨n+2,[],false,true,s,c0,[],none,0,hres,Nat.zero_le _,Nat.le_refl _,by simp,by omega,rfl,hok,Slot.nil _ _,by rw [List.append_nil]; exact H⟩,?_⟩
 clear H hok hres
 rintro f h u xv xf ⟨ex,v,first,s,cnt,RE,qe,ce,hres,hln,hf2,hf1,hcnt,hxx,hok,hs,H⟩
 injection hxx with hx1 hxx
 injection hxx with hx2 hxx
 injection hx1 with hx1
 injection hx2 with hx2
 subst xv xf
 obtain ⟨f,rfl⟩:∃ f',f=f'+1:=⟨f-1,by split at hf1 <;> omega⟩
 refine ptr_of (a:=⟨r,0,none⟩) (ldS_of (hpB H 0 rfl rfl) ?_)
 unfold flF at hres
 refine bcase_dec (fun h1=>?_) fun h1=>?_
 rotate_left
 ·rw [if_pos (by omega)] at hres
  exact hk ex RE qe ce s h hres.symm hs H
 have h1:ex.length<n:=by omega
 rw [if_neg (by omega)] at hres
 have H:Hp hB [] h (RdS r p t qn nn cn qe ex.length ce left area::(decL p q e bp bc s++(X++RE))):=H.as (by simp only [List.cons_append,List.append_assoc])
 have hXR:(X++RE).all Ent.w=true:=by rw [List.all_append,hXw,hs.w]; rfl
 have hdv:=decW_v m 1024 s
 refine rnum_ok H hXR hb hok hbl (by omega) (by omega) (by omega) (by omega) (fun h c1 he hc1 hok1 H=>?_) fun J h he H=>?_
 rotate_left
 ·rw [if_pos he] at hres
  exact hp 130 (RE++J) h hres.symm (H.asc)
 rw [if_neg (by rw [he]; decide)] at hres
 clear he
 generalize decW m 1024 s=dw at *
 obtain ⟨⟨ee,x,nn'⟩,s1⟩:=dw
 dsimp only at *
 refine ⟨_,_,rfl,?_⟩
 refine newC_hp H fun r14 h H=>?_
 have H:=H.rot
 refine stA H 0 rfl rfl rfl fun h H=>?_
 refine stA H 0 rfl rfl rfl fun h H=>?_
 have H:Hp hB [] h (⟨r14,true,T_api_Whole,[.int .i64 x, .bool nn']⟩::RdS r p t qn nn cn qe ex.length ce left area::(decL p q e bp bc s1++(X++RE))):=H
 have pan:∀ {h},Hp hB [] h (⟨r14,true,T_api_Whole,[.int .i64 x, .bool nn']⟩::RdS r p t qn nn cn qe ex.length ce left area::(decL p q e bp bc s1++(X++RE)))->Hp hB [] h (X++RE):=fun H=>H.sub (((List.sublist_append_right _ _).cons _).cons _)
 have last:∀ {Q:List Value->Heap->Prop},Rz=(if nn'=true\/x<0\/(x=0/\first=false)\/(n:Int)-(ex.length:Int)<x then .error 130 else flF m n f (ex++List.replicate x.toNat v) (!v) false s1)->¬ (nn'=true\/x<0\/(x=0/\first=false))->(¬ (nn'=true\/x<0\/(x=0/\first=false)\/(n:Int)-(ex.length:Int)<x)->Q [] h) ->
   ptr (some ⟨r,0,none⟩) fun a_30=>ldI h ((⟨r14,0,none⟩:Addr).add 0) .i64 fun x_31=>ldS h ((a_30.add 1).add 2) fun x_32 x_32n x_32c=>bindI (IntKind.i64.wrap ((n:Nat)-(x_32n:Int))) fun z_33=>CP F_dict_wrong #[.bool (decide (x_31 > z_33))] h (fun v_34 h_35=>Q [] h_35) (Kp):=fun {Q} hr h2 hQ=>by
  refine ptr_of (a:=⟨r,0,none⟩) (ldI_of (hpA H 0 rfl rfl) (ldS_of (hpA H 1 rfl rfl) ?_))
  refine bindI_of (((n:Int)-(ex.length:Int))) (by exact i64_in _ (by omega) (by omega)) ?_
  refine dwrong_ok (fun h3=>?_) fun h3=>?_
  ·have h3:¬ (x > (n:Int)-(ex.length:Int)):=of_decide_eq_false h3
   exact hQ (fun hh=>by
    rcases hh with hh | hh | hh | hh
    ·exact h2 (.inl hh)
    ·exact h2 (.inr (.inl hh))
    ·exact h2 (.inr (.inr hh))
    ·omega)
  ·have h3:x > (n:Int)-(ex.length:Int):=of_decide_eq_true h3
   rw [if_pos (.inr (.inr (.inr (by omega))))] at hr
   exact hp 130 RE h hr (pan H)
 refine ⟨fun _ h'=>¬ (nn'=true\/x<0\/(x=0/\first=false)\/(n:Int)-(ex.length:Int)<x)/\h'=h,?_,?_⟩
 ·refine ldB_of (hpA H 0 rfl rfl) ?_
  refine bcase_of (fun h2=>?_) fun h2=>?_
  ·rw [if_pos (.inl h2)] at hres
   exact dwrong_ok (fun hh=>by cases hh) fun _=>hp 130 RE h hres.symm (pan H)
  refine ldI_of (hpA H 0 rfl rfl) ?_
  refine bcase_dec (fun h3=>?_) fun h3=>?_
  ·rw [if_pos (.inr (.inl h3))] at hres
   exact dwrong_ok (fun hh=>by cases hh) fun _=>hp 130 RE h hres.symm (pan H)
  refine ldI_of (hpA H 0 rfl rfl) ?_
  refine bcase_eq (fun h4=>?_) fun h4=>?_
  ·refine bcase_not (fun h5=>?_) fun h5=>?_
   ·rw [if_pos (.inr (.inr (.inl ⟨h4,h5⟩)))] at hres
    exact dwrong_ok (fun hh=>by cases hh) fun _=>hp 130 RE h hres.symm (pan H)
   ·exact last (Q:=fun _ h'=>¬ (nn'=true\/x<0\/(x=0/\first=false)\/(n:Int)-(ex.length:Int)<x)/\h'=h) hres.symm (fun hh=>by
     rcases hh with hh | hh | hh
     ·rw [h2] at hh; cases hh
     ·omega
     ·rw [h5] at hh; cases hh.2) fun hh=>⟨hh,rfl⟩
  ·exact last (Q:=fun _ h'=>¬ (nn'=true\/x<0\/(x=0/\first=false)\/(n:Int)-(ex.length:Int)<x)/\h'=h) hres.symm (fun hh=>by
    rcases hh with hh | hh | hh
    ·rw [h2] at hh; cases hh
    ·omega
    ·omega) fun hh=>⟨hh,rfl⟩
 rintro h' u ⟨hc,rfl⟩
 rw [if_neg hc] at hres
 obtain ⟨V,rfl⟩:∃ V:Nat,x=(V:Int):=⟨x.toNat,by omega⟩
 rw [Int.toNat_natCast] at hres
 refine ldI_of (hpA H 0 rfl rfl) ?_
 have H:Hp hB [] h' ((RdS r p t qn nn cn qe ex.length ce left area::(decL p q e bp bc s1++X))++RE):=(Hp.suf (X:=[_]) H).as (by simp only [List.cons_append,List.append_assoc])
 refine ⟨fun f vs h'=>∃ (k:Nat) (RE:List Ent) (qe:Option Addr) (ce:Nat),k+f=V/\vs=[.int .i64 (k:Nat)]/\Slot T_bool 1 RE qe (ex++List.replicate k v).length ce (bls (ex++List.replicate k v)) /\
  Hp hB [] h' ((RdS r p t qn nn cn qe (ex++List.replicate k v).length ce left area::(decL p q e bp bc s1++X))++RE),⟨V,0,RE,qe,ce,by omega,rfl,by rw [List.replicate_zero,List.append_nil]; exact hs,by rw [List.replicate_zero,List.append_nil]; exact H⟩,?_⟩
 clear H hs last pan
 rintro g h u xk ⟨k,RE,qe,ce,hkg,hxx,hs2,H2⟩
 injection hxx with hxx
 injection hxx with _ hxx
 subst xk
 have hlk:(ex++List.replicate k v).length=ex.length+k:=by simp
 refine bcase_dec (fun h2=>?_) fun h2=>?_
 ·refine ptr_of (a:=⟨r,0,none⟩) (ldS_of (hpB H2 0 rfl rfl) ?_)
  refine newC_hp H2 fun r51 h H=>?_
  have H:=H.asc
  have hrep:ex++List.replicate (k+1) v=(ex++List.replicate k v)++[v]:=by rw [List.replicate_succ',List.append_assoc]
  refine Slot.app (m:=1) (new:=[.bool v]) hs2 H rfl (Hp.rdO_mem (rest:=[]) (cs:=[.bool v]) H (by rw [List.append_nil]; exact List.mem_append_right _ (List.mem_append_right _ (List.mem_singleton.2 rfl))) rfl) rfl (fun w hw=>by rw [List.mem_singleton.1 hw]; rfl) (by decide) (by omega) fun RE' q' c' h hs H=>?_
  have H:=Hp.pre H.asc'
  refine ptr_of (a:=⟨r,0,none⟩) ?_
  refine stB H 0 rfl rfl rfl fun h H=>?_
  refine bindI_of (((k+1:Nat):Int)) (by exact i64_at _ _ (by omega) (by omega) (by omega)) ?_
  refine ⟨g-1,by omega,k+1,RE',q',c',by omega,rfl,?_,?_⟩
  ·rw [hrep,bls_app,List.length_append]
   exact hs
  ·rw [hrep,List.length_append]
   exact H
 ·obtain rfl:k=V:=by omega
  refine ⟨f,by omega,ex++List.replicate k v,!v,false,s1,c1,RE,qe,ce,hres,by rw [hlk]; omega,by omega,?_,by omega,rfl,hok1,hs2,H2⟩
  rw [hlk]
  cases first with
  | true=>simp at hf1 ⊢; omega
  | false =>
   have:k≠0:=fun hh=>hc (.inr (.inr (.inl ⟨by omega,rfl⟩)))
   simp at hf1 ⊢; omega
end
section
variable {hB:Heap} {K:VK} {Kp:PK} {q qi:Option Addr} {c ci:Nat} {b:List Nat} {imp:List Bmp}
set_option maxHeartbeats 16000000 in
theorem dDec_ok (hb:RdB b) (hr:rdO hB q (b.length*1) (u8s b)) (hcap:b.length<=c) (hi:BmsV hB qi imp) (hil:imp.length<=1000000000000)
  (hk:∀ (t:Nat) new ex RN qn cn RE qe ce h',decD b imp = .ok (t,new,ex)->MayL new->ListO RN qn cn new->Slot T_bool 1 RE qe ex.length ce (bls ex)->Hp hB [] h' (RN++RE)->K (.tuple #[.agg #[.int .i64 (t:Nat), .slice qn new.length cn, .slice qe ex.length ce], .int .i64 0]) h')
  (hkb:∀ er h',decD b imp = .error er->er=130\/er=120->hext hB h'->K (.tuple #[.agg #[.int .i64 0, .slice none 0 0, .slice none 0 0], .int .i64 er]) h') :
  CP F_dict_Decode #[.slice q b.length c, .slice qi imp.length ci] hB K Kp:=by
 refine call_dict_Decode ?_
 unfold dict_Decode
 have hbl:=hb.bl
 have H:=Hp.nil hB []
 refine newC_hp H fun r1 h H=>?_
 refine newC_hp H fun r3 h H=>?_
 refine newC_hp H fun r5 h H=>?_
 refine newC_hp H fun r7 h H=>?_
 refine newC_hp H fun r9 h H=>?_
 refine st0 H 4 rfl rfl rfl fun h H=>?_
 obtain ⟨Z5,hZ5⟩:∃ Z5:List Value->Ent,Z5=fun cs=>⟨r5,true,T_api_Dict,cs⟩:=⟨_,rfl⟩
 have H:Hp hB [] h [⟨r1,true,T_s_uint8,[.slice q b.length c]⟩,⟨r3,true,T_s_api_Bitmap,[.slice qi imp.length ci]⟩,⟨r5,true,T_api_Dict,[.int .i64 0, .slice none 0 0, .slice none 0 0]⟩,⟨r7,true,T_dict_reader,[.pointer none, .int .i64 0, .slice none 0 0, .slice none 0 0, .int .i64 0, .int .i64 0]⟩,⟨r9,true,T_p_dict_reader,[.pointer (some ⟨r7,0,none⟩)]⟩]:=H
 have H:=H.pick [3,2,4,0,1] (by decide) (L':=[⟨r7,true,T_dict_reader,[.pointer none, .int .i64 0, .slice none 0 0, .slice none 0 0, .int .i64 0, .int .i64 0]⟩,⟨r5,true,T_api_Dict,[.int .i64 0, .slice none 0 0, .slice none 0 0]⟩,⟨r9,true,T_p_dict_reader,[.pointer (some ⟨r7,0,none⟩)]⟩,⟨r1,true,T_s_uint8,[.slice q b.length c]⟩,⟨r3,true,T_s_api_Bitmap,[.slice qi imp.length ci]⟩]) rfl
 refine dcaught_ok (fun L2=>∃ (t:Nat) (new:List Bmp) (ex:List Bool) (RN:List Ent) (qn:Option Addr) (cn:Nat) (RE:List Ent) (qe:Option Addr) (ce p left area:Nat) (M Y:List Ent),decD b imp = .ok (t,new,ex)/\MayL new/\ListO RN qn cn new/\Slot T_bool 1 RE qe ex.length ce (bls ex) /\
   L2=⟨r5,true,T_api_Dict,[.int .i64 0, .slice none 0 0, .slice none 0 0]⟩::⟨r9,true,T_p_dict_reader,[.pointer (some ⟨r7,0,none⟩)]⟩::(M++((RN++RE)++(RdS r7 p t qn new.length cn qe ex.length ce left area::Y))))
  (fun er L2=>decD b imp = .error er/\(er=130\/er=120)/\∃ Y,L2=⟨r5,true,T_api_Dict,[.int .i64 0, .slice none 0 0, .slice none 0 0]⟩::Y) H (fun {re h1 K1 Kp1} H hK1 hKp1=>?_) (fun h' L' hp H=>?_) fun er h' L' hp H=>?_
 rotate_left
 ·obtain ⟨t,new,ex,RN,qn,cn,RE,qe,ce,p,left,area,M,Y,hd,hM,hL,hs,rfl⟩:=hp
  refine ⟨_,rfl,?_⟩
  refine bcase_false (by rfl) ?_
  refine ldP_of (H.cell 1 rfl rfl) (ptr_of (a:=⟨r7,0,none⟩) ?_)
  obtain ⟨k,hk9⟩:=List.getElem?_of_mem (show RdS r7 p t qn new.length cn qe ex.length ce left area∈(⟨r5,true,T_api_Dict,[.int .i64 0, .slice none 0 0, .slice none 0 0]⟩:Ent)::⟨r9,true,T_p_dict_reader,[.pointer (some ⟨r7,0,none⟩)]⟩::(M++((RN++RE)++(RdS r7 p t qn new.length cn qe ex.length ce left area::Y))) by simp)
  refine ldI_of (hpB H k hk9 rfl) (ldS_of (hpB H k hk9 rfl) (ldS_of (hpB H k hk9 rfl) ?_))
  refine stA H 0 rfl rfl rfl fun h H=>?_
  refine stA H 0 rfl rfl rfl fun h H=>?_
  refine stA H 0 rfl rfl rfl fun h H=>?_
  refine ldI_of (hpA H 0 rfl rfl) (ldS_of (hpA H 0 rfl rfl) (ldS_of (hpA H 0 rfl rfl) ?_))
  have H:Hp hB [] h ([⟨r5,true,T_api_Dict,[.int .i64 (t:Nat), .slice qn new.length cn, .slice qe ex.length ce]⟩,⟨r9,true,T_p_dict_reader,[.pointer (some ⟨r7,0,none⟩)]⟩]++(M++((RN++RE)++(RdS r7 p t qn new.length cn qe ex.length ce left area::Y)))):=H
  exact hk t new ex RN qn cn RE qe ce h hd hM hL hs (Hp.pre (Hp.suf (X:=M) (Hp.suf H)))
 ·obtain ⟨hd,her,Y,rfl⟩:=hp
  refine ⟨_,rfl,?_⟩
  refine bcase_ne (fun _=>?_) fun hh=>absurd hh (by omega)
  refine stA H 0 rfl rfl rfl fun h H=>?_
  refine stA H 0 rfl rfl rfl fun h H=>?_
  refine stA H 0 rfl rfl rfl fun h H=>?_
  refine ldI_of (hpA H 0 rfl rfl) (ldS_of (hpA H 0 rfl rfl) (ldS_of (hpA H 0 rfl rfl) ?_))
  exact hkb er h hd her H.hext
 unfold callD
 simp only
 refine call_dict_Decode_c1 (cap0:=⟨r3,0,none⟩) (cap1:=⟨r1,0,none⟩) (cap2:=⟨r9,0,none⟩) ?_
 unfold dict_Decode_c1
 obtain ⟨X,hX⟩:∃ X:List Ent,X=[⟨re,true,T_api_Errno,[.int .i64 0]⟩,⟨r5,true,T_api_Dict,[.int .i64 0, .slice none 0 0, .slice none 0 0]⟩,⟨r9,true,T_p_dict_reader,[.pointer (some ⟨r7,0,none⟩)]⟩,⟨r1,true,T_s_uint8,[.slice q b.length c]⟩,⟨r3,true,T_s_api_Bitmap,[.slice qi imp.length ci]⟩]:=⟨_,rfl⟩
 have hXw:X.all Ent.w=true:=by rw [hX]; rfl
 have bad:∀ {er:Int} {h:Heap} {J:List Ent},decD b imp = .error er->er=130\/er=120->Hp hB [] h (X++J)->Kp1 (dflt er) h:=fun {er h J} hd her H=>by
  rw [hX] at H
  exact hKp1 er h _ ⟨hd,her,_,rfl⟩ H
 obtain ⟨R7,hR7⟩:∃ R7:List Value->Ent,R7=fun cs=>⟨r7,true,T_dict_reader,cs⟩:=⟨_,rfl⟩
 have H:Hp hB [] h1 (X++[⟨r7,true,T_dict_reader,[.pointer none, .int .i64 0, .slice none 0 0, .slice none 0 0, .int .i64 0, .int .i64 0]⟩]):=by
  have H:Hp hB [] h1 ([⟨re,true,T_api_Errno,[.int .i64 0]⟩]++[⟨r7,true,T_dict_reader,[.pointer none, .int .i64 0, .slice none 0 0, .slice none 0 0, .int .i64 0, .int .i64 0]⟩]++[⟨r5,true,T_api_Dict,[.int .i64 0, .slice none 0 0, .slice none 0 0]⟩,⟨r9,true,T_p_dict_reader,[.pointer (some ⟨r7,0,none⟩)]⟩,⟨r1,true,T_s_uint8,[.slice q b.length c]⟩,⟨r3,true,T_s_api_Bitmap,[.slice qi imp.length ci]⟩]):=H
  rw [hX]
  exact Hp.swap H
 have rdI:∀ {h:Heap} {J:List Ent} {K2:Option Addr->Nat->Nat->Prop},Hp hB [] h (X++J)->K2 qi imp.length ci->ldS h ⟨r3,0,none⟩ K2:=fun H hK=>by
  rw [hX] at H
  exact ldS_of (H.cell 4 rfl rfl) hK
 have rdF:∀ {h:Heap} {J:List Ent} {K2:Option Addr->Nat->Nat->Prop},Hp hB [] h (X++J)->K2 q b.length c->ldS h ⟨r1,0,none⟩ K2:=fun H hK=>by
  rw [hX] at H
  exact ldS_of (H.cell 3 rfl rfl) hK
 have rdP:∀ {h:Heap} {J:List Ent} {K2:Option Addr->Prop},Hp hB [] h (X++J)->K2 (some ⟨r7,0,none⟩)->ldP h ⟨r9,0,none⟩ K2:=fun H hK=>by
  rw [hX] at H
  exact ldP_of (H.cell 2 rfl rfl) hK
 refine rdI H ?_
 refine right_ok (hi.ext H.hext) hil fun rg h' hrg e=>?_
 have H:=H.ext e
 refine ⟨_,rfl,?_⟩
 refine dwrong_ok (fun h2=>?_) fun h2=>?_
 rotate_left
 ·exact bad (er:=130) (by unfold decD; rw [if_pos (fun hh=>by rw [hrg.2 hh] at h2; cases h2)]) (.inl rfl) H
 have hmay:MayL imp:=hrg.1 (by cases rg with | true=>rfl | false=>cases h2)
 refine rdI H ?_
 refine dbig_ok (fun h3=>?_) fun h3=>?_
 rotate_left
 ·have h3:((imp.length:Nat):Int) > 4096:=of_decide_eq_true h3
  exact bad (er:=120) (by unfold decD; rw [if_neg (fun hh=>hh hmay),if_pos (by omega)]) (.inr rfl) H
 have h3:¬ ((imp.length:Nat):Int) > 4096:=of_decide_eq_false h3
 have hi4:imp.length<=4096:=by omega
 have hdec:decD b imp=match b[0]? with
  | none => .error 130
  | some t=>if 3<t then .error 130
   else if (varP b 1).1≠0 then .error 130
   else if 4096-imp.length<(varP b 1).2.1 then .error 120
   else match symF (szD t) t (varP b 1).2.1 ((varP b 1).2.1+1) [] 0 0 (newD (b.drop (varP b 1).2.2) (szD t)) with
    | .error e => .error e
    | .ok (new,s)=>match flF (szD t) (imp.length+(varP b 1).2.1) (imp.length+(varP b 1).2.1+2) [] false true s with
     | .error e => .error e
     | .ok ex => .ok (t,new,ex):=by
  unfold decD
  rw [if_neg (fun hh=>hh hmay),if_neg (by omega)]
  all_goals rfl
 refine rdF H ?_
 refine newReader_ok (H.rdO hr) hb fun rr q' c' D h hsD H'=>?_
 have H:=H.join H' (by rw [List.all_cons,hsD.w]; rfl)
 clear H'
 refine ⟨_,rfl,?_⟩
 have hDw:∀ i,(rdE rr q' b.length c' i::D).all Ent.w=true:=fun i=>by rw [List.all_cons,hsD.w]; rfl
 refine rtake8_ok (Hp.giveS H) hsD hb (Nat.zero_le _) (fun hnone=>?_) fun t h hb0 H'=>?_
 ·refine ⟨_,_,rfl,?_⟩
  refine ⟨fun _ _=>False,?_,fun _ _ hh=>hh.elim⟩
  refine bcase_true (by rfl) ?_
  refine dwrong_ok (fun hh=>by cases hh) fun _=>?_
  exact bad (er:=130) (by rw [hdec,hnone]) (.inl rfl) H.asc
 have H:=Hp.putS H (hDw _) H' (hDw _)
 clear H'
 have hb1:1<=b.length:=by
  have:=(List.getElem?_eq_some_iff.1 hb0).1
  omega
 rw [hb0] at hdec
 dsimp only at hdec
 refine ⟨_,_,rfl,?_⟩
 refine ⟨fun _ h'=>¬ 3<t/\h'=h,?_,?_⟩
 ·refine bcase_false (by rfl) ?_
  refine dwrong_ok (fun h4=>?_) fun h4=>?_
  ·have h4:¬ ((t:Nat):Int) > 3:=of_decide_eq_false h4
   exact ⟨by omega,rfl⟩
  ·have h4:((t:Nat):Int) > 3:=of_decide_eq_true h4
   exact bad (er:=130) (by rw [hdec,if_pos (by omega)]) (.inl rfl) H.asc
 rintro h' u ⟨ht3,rfl⟩
 rw [if_neg ht3] at hdec
 have ht4:t<4:=by omega
 have H:=H.asc
 refine rdP H ?_
 refine bindI_of (((t:Nat):Int)) (by exact i64_in _ (by omega) (by omega)) ?_
 refine ptr_of (a:=⟨r7,0,none⟩) ?_
 have H:=H.rot
 refine stB H 0 rfl rfl rfl fun h H=>?_
 have H:Hp hB [] h ((⟨r7,true,T_dict_reader,[.pointer none, .int .i64 (t:Nat), .slice none 0 0, .slice none 0 0, .int .i64 0, .int .i64 0]⟩::(rdE rr q' b.length c' 1::D))++X):=H
 have H:Hp hB [] h ((X++[⟨r7,true,T_dict_reader,[.pointer none, .int .i64 (t:Nat), .slice none 0 0, .slice none 0 0, .int .i64 0, .int .i64 0]⟩])++(rdE rr q' b.length c' 1::D)):=H.rot.asc'
 refine rvar_ok (Hp.giveS H) hsD hb hb1 fun h H'=>?_
 have H:=Hp.putS H (hDw _) H' (hDw _)
 clear H'
 refine ⟨_,_,rfl,?_⟩
 have hve:=varP_le (b:=b) (i:=1) hb1
 obtain ⟨N,hN⟩:∃ N,N=(varP b 1).2.1:=⟨_,rfl⟩
 obtain ⟨i,hii⟩:∃ i,i=(varP b 1).2.2:=⟨_,rfl⟩
 rw [<- hN,<- hii] at hdec
 rw [<- hii] at H hve
 rw [<- hN]
 refine dwrong_ok (fun h4=>?_) fun h4=>?_
 rotate_left
 ·have h4:(varP b 1).1≠0:=by simpa using h4
  exact bad (er:=130) (by rw [hdec,if_pos h4]) (.inl rfl) H.asc
 have hv0:(varP b 1).1=0:=by simpa using h4
 rw [if_neg (fun hh=>hh hv0)] at hdec
 refine rdI H.asc ?_
 refine bindI_of (((4096-imp.length:Nat):Int)) (by exact i64_at _ _ (by omega) (by omega) (by omega)) ?_
 refine bindI_of (((4096-imp.length:Nat):Int)) (by exact u64_in _ (by omega) (by omega)) ?_
 refine dbig_ok (fun h5=>?_) fun h5=>?_
 rotate_left
 ·have h5:((N:Nat):Int) > ((4096-imp.length:Nat):Int):=of_decide_eq_true h5
  exact bad (er:=120) (by rw [hdec,if_pos (by omega)]) (.inr rfl) H.asc
 have h5:¬ ((N:Nat):Int) > ((4096-imp.length:Nat):Int):=of_decide_eq_false h5
 have hN4:N<=4096-imp.length:=by omega
 rw [if_neg (by omega)] at hdec
 refine rdP H.asc ?_
 refine bindI_of (((N:Nat):Int)) (by exact i64_in _ (by omega) (by omega)) ?_
 refine ptr_of (a:=⟨r7,0,none⟩) ?_
 have H:=H.asc.rot
 refine stA H 0 rfl rfl rfl fun h H=>?_
 have H:Hp hB [] h ((⟨r7,true,T_dict_reader,[.pointer none, .int .i64 (t:Nat), .slice none 0 0, .slice none 0 0, .int .i64 (N:Nat), .int .i64 0]⟩::(rdE rr q' b.length c' i::D))++X):=H
 have H:=H.rot
 refine rdP H (ptr_of (a:=⟨r7,0,none⟩) ?_)
 refine ldI_of (hpB H.rot 0 rfl rfl) ?_
 refine csize_ok (fun t' ht' htt h' e=>?_) fun hn=>absurd ⟨by omega,by omega⟩ hn
 obtain rfl:t=t':=by omega
 have H:=H.ext e
 refine ⟨_,_,rfl,?_⟩
 refine need0_ok ?_
 have hgs:=gsize_le ht4
 refine bindI_of (((1536+gsize t:Nat):Int)) (by exact i64_at _ _ (by omega) (by omega) (by omega)) ?_
 refine bindI_of (((szD t:Nat):Int)) (by exact i64_at _ _ (by unfold szD; omega) (by omega) (by unfold szD; omega)) ?_
 refine rdP H (rdF H (rdF H ?_))
 refine rleft_ok (Hp.suf (X:=X++[⟨r7,true,T_dict_reader,[.pointer none, .int .i64 (t:Nat), .slice none 0 0, .slice none 0 0, .int .i64 (N:Nat), .int .i64 0]⟩]) H.asc') hb hve ?_
 refine ⟨_,rfl,hext.refl _,?_⟩
 refine bindI_of (((b.length-i:Nat):Int)) (by exact i64_at _ _ (by rw [show ((8*(b.length-i):Nat):Int).tdiv 8=((8*(b.length-i) / 8:Nat):Int) from rfl]; omega) (by omega) (by omega)) ?_
 refine bindI_of (((i:Nat):Int)) (by exact i64_at _ _ (by omega) (by omega) (by omega)) ?_
 refine needs_of (by omega) ?_
 rw [Int.toNat_natCast]
 have hdl:(b.drop i).length=b.length-i:=List.length_drop
 have hsz:=szD_le ht4
 have hd8:∀ z∈b.drop i,z<256:=fun z hz=>hb.b8 z (List.mem_of_mem_drop hz)
 rw [<- hdl]
 refine Go.Ar.newDecoder_ok (n:=szD t) (b:=b.drop i) (by omega) (by omega) hd8 (by omega) (H.rdO (rdO_drop hr hve hcap)) fun p qq e0 bp bc h hbok H'=>?_
 have hdw:∀ s,(decL p qq e0 bp bc s).all Ent.w=true:=fun s=>by simp [decL,Go.Ar.decE,hbok.1]
 have hx:=H'.hext
 have H:=H.join H' (hdw _)
 clear H'
 refine ⟨_,_,rfl,hx,?_⟩
 refine ptr_of (a:=⟨r7,0,none⟩) ?_
 have H:=H.asc.rot
 have H:Hp hB [] h (⟨r7,true,T_dict_reader,[.pointer none, .int .i64 (t:Nat), .slice none 0 0, .slice none 0 0, .int .i64 (N:Nat), .int .i64 0]⟩::((rdE rr q' b.length c' i::D)++decL p qq e0 bp bc (newD (b.drop i) (szD t))++X)):=H.as (by simp only [List.cons_append,List.append_assoc])
 refine stA H 0 rfl rfl rfl fun h H=>?_
 refine need0_ok ?_
 obtain ⟨XX,hXX⟩:∃ XX:List Ent,XX=X++(rdE rr q' b.length c' i::D):=⟨_,rfl⟩
 have hXXw:XX.all Ent.w=true:=by rw [hXX,List.all_append,hXw,hDw]; rfl
 have H:Hp hB [] h (RdS r7 p t none 0 0 none 0 0 N 0::(decL p qq e0 bp bc (newD (b.drop i) (szD t))++XX)):=by
  have H:Hp hB [] h ([RdS r7 p t none 0 0 none 0 0 N 0]++(rdE rr q' b.length c' i::D)++(decL p qq e0 bp bc (newD (b.drop i) (szD t))++X)):=H.as (by simp only [RdS,List.cons_append,List.nil_append,List.append_assoc,List.set]; rfl)
  have H:=Hp.swap H
  rw [hXX]
  exact H.as (by simp only [List.cons_append,List.nil_append,List.append_assoc])
 have rdX:∀ {h:Heap} {A J:List Ent},Hp hB [] h (A++(XX++J))->Hp hB [] h (X++((rdE rr q' b.length c' i::D)++J)):=fun {h A J} H=>(Hp.suf H).as (by rw [hXX,List.append_assoc])
 have badX:∀ {er:Int} {h:Heap} {J:List Ent},decD b imp = .error er->er=130\/er=120->Hp hB [] h (XX++J)->Kp1 (dflt er) h:=fun {er h J} hd her H=>bad hd her (rdX (A:=[]) H)
 clear bad
 have H0:Hp hB [] h (RdS r7 p t none 0 0 none 0 0 N 0::(decL p qq e0 bp bc (newD (b.drop i) (szD t))++(XX++[]))):=H.as (by rw [List.append_nil])
 have rd0:∀ {h:Heap} {E:Ent} {s:Dec} {J:List Ent},Hp hB [] h (E::(decL p qq e0 bp bc s++(XX++J)))->Hp hB [] h (X++((rdE rr q' b.length c' i::D)++J)):=fun {h E s J} H=>rdX (A:=E::decL p qq e0 bp bc s) H
 refine rdI (rd0 H0) (rdP (rd0 H0) (ptr_of (a:=⟨r7,0,none⟩) (ldI_of (hpA H0 0 rfl rfl) ?_)))
 clear H0
 refine bindI_of (((imp.length+N:Nat):Int)) (by exact i64_at _ _ (by omega) (by omega) (by omega)) ?_
 have hok0:=Go.Ar.newD_ok hd8 (szD t)
 have herr:∀ (f:Nat) (new:List Bmp) (area:Nat) (hh:Int) (s:Dec),True:=fun _ _ _ _ _=>trivial
 obtain ⟨Rs,hRs⟩:∃ Rs,symF (szD t) t N (N+1) [] 0 0 (newD (b.drop i) (szD t))=Rs:=⟨_,rfl⟩
 rw [hRs] at hdec
 refine ⟨fun f vs h'=>∃ (new:List Bmp) (area cnt ah:Nat) (s:Dec) (RN:List Ent) (qn:Option Addr) (cn:Nat),symF (szD t) t N f new area (ah:Nat) s=Rs/\new.length<=N/\N-new.length+1<=f/\area<=1048576/\ah<=1048576/\cnt<=192*new.length+2*area/\vs=[.int .i64 (ah:Nat)] /\
   Go.Ar.DecOk (b.drop i) (szD t) cnt s/\ListO RN qn cn new/\MayL new/\Hp hB [] h' ((RdS r7 p t qn new.length cn none 0 0 (N-new.length) area::(decL p qq e0 bp bc s++XX))++RN),
  ⟨N+1,[],0,0,0,newD (b.drop i) (szD t),[],none,0,hRs,Nat.zero_le _,by simp,by decide,by decide,Nat.zero_le _,rfl,hok0,ListO.nil,(fun x hx=>by cases hx),by rw [List.append_nil]; exact H⟩,?_⟩
 clear H hRs hok0
 rintro f h u xa ⟨new,area,cnt,ah,s,RN,qn,cn,hsym,hln,hf,har,hah,hcnt,hxx,hok,hL,hM,H⟩
 injection hxx with hxx
 injection hxx with _ hxx
 subst xa
 obtain ⟨f,rfl⟩:∃ f',f=f'+1:=⟨f-1,by omega⟩
 unfold symF at hsym
 have H:Hp hB [] h (RdS r7 p t qn new.length cn none 0 0 (N-new.length) area::(decL p qq e0 bp bc s++(XX++RN))):=H.as (by simp only [List.cons_append,List.append_assoc])
 have hXRw:(XX++RN).all Ent.w=true:=by rw [List.all_append,hXXw,hL.w]; rfl
 refine rdP (rd0 H) (ptr_of (a:=⟨r7,0,none⟩) (ldI_of (hpA H 0 rfl rfl) ?_))
 refine bcase_dec (fun h6=>?_) fun h6=>?_
 rotate_left
 ·rw [if_pos (by omega)] at hsym
  rw [<- hsym] at hdec
  dsimp only at hdec
  have hNl:new.length=N:=by omega
  refine rdP (rd0 H) ?_
  obtain ⟨Rf,hRf⟩:∃ Rf,flF (szD t) (imp.length+N) (imp.length+N+2) [] false true s=Rf:=⟨_,rfl⟩
  rw [hRf] at hdec
  refine rflags_ok H hXRw hbok hok (by omega) (by omega) (by omega) (by omega) (by omega) hRf (fun ex RE qe ce s' h hex hsE H=>?_) fun er J h her H=>?_
  ·rw [hex] at hdec
   have hmid:Hp hB [] h (([RdS r7 p t qn new.length cn qe ex.length ce (N-new.length) area]++decL p qq e0 bp bc s')++(X++((rdE rr q' b.length c' i::D)++(RN++RE)))):=H.as (by rw [hXX]; simp only [List.cons_append,List.nil_append,List.append_assoc])
   have H:=hmid.rot
   refine hK1 h (⟨r5,true,T_api_Dict,[.int .i64 0, .slice none 0 0, .slice none 0 0]⟩::⟨r9,true,T_p_dict_reader,[.pointer (some ⟨r7,0,none⟩)]⟩::((⟨r1,true,T_s_uint8,[.slice q b.length c]⟩::⟨r3,true,T_s_api_Bitmap,[.slice qi imp.length ci]⟩::(rdE rr q' b.length c' i::D))++((RN++RE)++(RdS r7 p t qn new.length cn qe ex.length ce (N-new.length) area::decL p qq e0 bp bc s'))))
    ⟨t,new,ex,RN,qn,cn,RE,qe,ce,p,N-new.length,area,_,_,hdec,hM,hL,hsE,rfl⟩ ?_
   exact H.as (by rw [hX]; simp only [List.cons_append,List.nil_append,List.append_assoc])
  ·rw [her] at hdec
   have hflE:er=130:=by
    have key:∀ (f:Nat) (ex:List Bool) (v first:Bool) (s:Dec),ex.length<=imp.length+N->imp.length+N-ex.length+(if first=true then 2 else 1)<=f->flF (szD t) (imp.length+N) f ex v first s = .error er->er=130:=by
     intro f
     induction f with
     | zero=>exact fun ex v first s _ hz=>by split at hz <;> omega
     | succ f ih =>
      intro ex v first s hle hz he
      unfold flF at he
      split at he
      ·cases he
      ·split at he
       ·injection he with he; exact he.symm
       ·split at he
        ·injection he with he; exact he.symm
        ·rename_i h7 h8 h9
         refine ih _ _ _ _ ?_ ?_ he
         ·rw [List.length_append,List.length_replicate]; omega
         ·rw [List.length_append,List.length_replicate,if_neg (by decide)]
          cases first with
          | true=>rw [if_pos rfl] at hz; omega
          | false =>
           rw [if_neg (by decide)] at hz
           have:(decW (szD t) 1024 s).1.2.1≠0:=fun hh=>h9 (.inr (.inr (.inl ⟨hh,rfl⟩)))
           omega
    exact key _ _ _ _ _ (Nat.zero_le _) (by simp) (hRf.trans her)
   exact badX hdec (.inl hflE) H.asc
 rw [if_neg (by omega)] at hsym
 refine rdP (rd0 H) ?_
 have hdv:=decW_v (szD t) 0 s
 refine rnum_ok H hXRw hbok hok (by omega) (by omega) (by omega) (by omega) (by omega) (fun h c1 he hc1 hok1 H=>?_) fun J h he H=>?_
 rotate_left
 ·rw [if_pos he] at hsym
  rw [<- hsym] at hdec
  exact badX hdec (.inl rfl) H.asc
 rw [if_neg (by rw [he]; decide)] at hsym
 clear he
 generalize decW (szD t) 0 s=dw at *
 obtain ⟨⟨ee,v,nn'⟩,s1⟩:=dw
 dsimp only at *
 refine ⟨_,_,rfl,?_⟩
 refine newC_hp H fun r90 h H=>?_
 have H:=H.rot
 refine stA H 0 rfl rfl rfl fun h H=>?_
 refine stA H 0 rfl rfl rfl fun h H=>?_
 have H:Hp hB [] h ((⟨r90,true,T_api_Whole,[.int .i64 v, .bool nn']⟩::RdS r7 p t qn new.length cn none 0 0 (N-new.length) area::decL p qq e0 bp bc s1)++(XX++RN)):=H
 have rd9:∀ {h:Heap} {A:List Ent},Hp hB [] h (A++(XX++RN))->Hp hB [] h (X++((rdE rr q' b.length c' i::D)++RN)):=fun {h A} H=>rdX (A:=A) H
 refine ⟨fun _ h'=>¬ (nn'=true\/v<1)/\h'=h,?_,?_⟩
 ·refine ldB_of (hpA H 0 rfl rfl) ?_
  refine bcase_of (fun h7=>?_) fun h7=>?_
  ·rw [if_pos (.inl h7)] at hsym
   rw [<- hsym] at hdec
   exact dwrong_ok (fun hh=>by cases hh) fun _=>badX hdec (.inl rfl) (Hp.suf H)
  ·refine ldI_of (hpA H 0 rfl rfl) ?_
   refine dwrong_ok (fun h8=>?_) fun h8=>?_
   ·have h8:¬ v<1:=of_decide_eq_false h8
    exact ⟨fun hh=>by
     rcases hh with hh | hh
     ·rw [h7] at hh; cases hh
     ·exact h8 hh,rfl⟩
   ·have h8:v<1:=of_decide_eq_true h8
    rw [if_pos (.inr h8)] at hsym
    rw [<- hsym] at hdec
    exact badX hdec (.inl rfl) (Hp.suf H)
 rintro h' u ⟨hc7,rfl⟩
 rw [if_neg hc7] at hsym
 refine ldI_of (hpA H 0 rfl rfl) ?_
 obtain ⟨V,hV⟩:∃ V:Nat,((V:Nat):Int)=(ah:Int)+v:=⟨((ah:Int)+v).toNat,by omega⟩
 rw [<- hV] at hsym
 refine bindI_of (((V:Nat):Int)) (by (rw [hV]; exact i64_in _ (by omega) (by omega))) ?_
 refine dbig_ok (fun h8=>?_) fun h8=>?_
 rotate_left
 ·have h8:((V:Nat):Int) > 1048576:=of_decide_eq_true h8
  rw [if_pos (by omega)] at hsym
  rw [<- hsym] at hdec
  exact badX hdec (.inr rfl) (Hp.suf H)
 have h8:¬ ((V:Nat):Int) > 1048576:=of_decide_eq_false h8
 rw [if_neg (by omega)] at hsym
 refine rdP (rd9 H) ?_
 obtain ⟨Rc,hRc⟩:∃ Rc,clsF (szD t) t N (V:Nat) (N-new.length+2) new area 0 true s1=Rc:=⟨_,rfl⟩
 rw [hRc] at hsym
 have H:Hp hB [] h' ((RdS r7 p t qn new.length cn none 0 0 (N-new.length) area::(decL p qq e0 bp bc s1++XX))++RN):=(Hp.suf (X:=[⟨r90,true,T_api_Whole,[.int .i64 v, .bool nn']⟩]) (H.as (by simp only [List.cons_append,List.nil_append,List.append_assoc]):Hp hB [] h' ([⟨r90,true,T_api_Whole,[.int .i64 v, .bool nn']⟩]++(RdS r7 p t qn new.length cn none 0 0 (N-new.length) area::(decL p qq e0 bp bc s1++(XX++RN)))))).as (by simp only [List.cons_append,List.append_assoc])
 refine class_ok H hL hXXw hbok hok1 (by omega) ht4 rfl ⟨by omega,by omega⟩ (by omega) hln har (by omega) hM hRc (fun new' area' s' c2 RN' qn' cn' h hRc2 hlt hln' har' hc2 hok2 hL' hM' H=>?_) fun er J h her H=>?_
 ·rw [hRc2] at hsym
  dsimp only at hsym
  exact ⟨f,by omega,new',area',c2,V,s',RN',qn',cn',hsym,hln',by omega,har',by omega,hc2,rfl,hok2,hL',hM',H⟩
 ·rw [her] at hsym
  dsimp only at hsym
  rw [<- hsym] at hdec
  have hcE:er=130\/er=120:=by
   have key:∀ (f:Nat) (new:List Bmp) (area:Nat) (w:Int) (first:Bool) (s:Dec),new.length<=N->N-new.length+1<=f->clsF (szD t) t N (V:Nat) f new area w first s = .error er->er=130\/er=120:=by
    intro f
    induction f with
    | zero=>exact fun _ _ _ _ _ _ hz=>by omega
    | succ f ih =>
     intro new area w first s hle hz he
     unfold clsF at he
     split at he
     ·injection he with he; exact .inl he.symm
     ·split at he
      ·split at he
       ·injection he with he; exact .inl he.symm
       ·cases he
      ·split at he
       ·injection he with he; exact .inl he.symm
       ·split at he
        ·injection he with he; exact .inr he.symm
        ·rename_i h7 h8 h9 h10
         have hne:new.length≠N:=fun hh=>h9 (.inl hh)
         exact ih _ _ _ _ _ (by rw [List.length_append,List.length_singleton]; omega) (by rw [List.length_append,List.length_singleton]; omega) he
   exact key _ _ _ _ _ _ hln (by omega) (hRc.trans her)
  exact badX hdec hcE H
end
end Go.Bm
namespace Go.Bm
open Go Go.Den Go.Den.YtfaclehehhgpcaaGreat
open Go.Ar (Dec RP)
section
variable {hB h:Heap} {K:VK} {Kp:PK}
variable {x m t n bc nn cn ne ce area n0:Nat} {A:RP} {qn qe bp:Option Addr} {e0:Ent} {s:Dec} {bytes:List Nat} {X L:List Ent} {er e:Int}
variable {Rs:Except Int (List Bmp × Dec)}
variable {Rz:Except Int (List Bool)}
end
section
variable {hB:Heap} {K:VK} {Kp:PK} {q qi:Option Addr} {c ci:Nat} {b:List Nat} {imp:List Bmp}
end
end Go.Bm
namespace Go.Bm
open Go Go.Den Go.Den.YtfaclehehhgpcaaGreat
open Go.Ar (Dec decN newD bytesM flushM getD)
theorem bool_ne:∀ z v:Bool,z≠v->z = !v:=by decide
theorem nxF_stop (l:List Bmp) (i:Nat):∀ f j,l.length<=j+f->nxF l i f j<l.length->(sy l (nxF l i f j)).h≠(sy l i).h
 | 0,j,h1,h2=>by have h2:j<l.length:=h2; omega
 | f+1,j,h1,h2=>by
  unfold nxF at h2 ⊢
  by_cases hj:j<l.length
  ·rw [if_pos hj] at h2 ⊢
   by_cases hh:(sy l j).h=(sy l i).h
   ·rw [if_pos hh] at h2 ⊢
    exact nxF_stop l i f (j+1) (by omega) h2
   ·rw [if_neg hh]
    exact hh
  ·rw [if_neg hj] at h2
   omega
theorem nxt_stop {l:List Bmp} {i:Nat} (h:i<=l.length) (h2:nxt l i<l.length):(sy l (nxt l i)).h≠(sy l i).h:=nxF_stop l i _ i (by omega) h2
theorem sy_get {l:List Bmp} {i:Nat} (h:i<l.length):l[i]? = some (sy l i):=by
 rw [sy_at (List.getElem?_eq_getElem h)]
 exact List.getElem?_eq_getElem h
theorem sorted_sy {l:List Bmp} (hs:SortedTo l l.length) {i:Nat} (h:i+1<l.length):¬ (sy l (i+1)).below (sy l i):=hs i _ _ h (sy_get (by omega)) (sy_get h)
theorem midL_split {m t:Nat} {l:List Bmp} {A:List (Nat × Nat)} {ah:Int} {i k:Nat}:∀ d,∃ C,midL m t l A ah i (k+d)=midL m t l A ah i k++C
 | 0=>⟨[],by rw [List.append_nil]; rfl⟩
 | d+1=>by
  obtain ⟨C,hC⟩:=midL_split (m:=m) (t:=t) (l:=l) (A:=A) (ah:=ah) (i:=i) (k:=k) d
  refine ⟨C++bodyD m t (if k+d=0 then 0 else (sy l (i+(k+d)-1)).w) (sy l (i+(k+d))),?_⟩
  rw [<- Nat.add_assoc]
  show midL m t l A ah i (k+d)++_=_
  rw [hC,List.append_assoc]
theorem hisF_split {m t:Nat} {l:List Bmp}:∀ (f i:Nat) (ah:Int) (A:List (Nat × Nat)),∃ C,hisF m t l f i ah A=A++C
 | 0,_,_,A=>⟨[],by rw [List.append_nil]; rfl⟩
 | f+1,i,ah,A=>by
  unfold hisF
  split
  ·obtain ⟨C,hC⟩:=hisF_split (m:=m) (t:=t) (l:=l) f (nxt l i) (sy l i).h (midL m t l A ah i (nxt l i-i)++noneD m)
   obtain ⟨C2,hC2⟩:=midL_split (m:=m) (t:=t) (l:=l) (A:=A) (ah:=ah) (i:=i) (k:=0) (nxt l i-i)
   rw [Nat.zero_add] at hC2
   refine ⟨dsWh m 0 ((sy l i).h-ah) false++C2++noneD m++C,?_⟩
   rw [hC,hC2]
   show (A++dsWh m 0 ((sy l i).h-ah) false++C2++noneD m)++C=_
   simp only [List.append_assoc]
  ·exact ⟨[],by rw [List.append_nil]⟩
theorem flgF_split {m:Nat} {l:List Bool}:∀ (f:Nat) (v:Bool) (i:Nat) (A:List (Nat × Nat)),∃ C,flgF m l f v i A=A++C
 | 0,_,_,A=>⟨[],by rw [List.append_nil]; rfl⟩
 | f+1,v,i,A=>by
  unfold flgF
  split
  ·obtain ⟨C,hC⟩:=flgF_split (m:=m) (l:=l) f (!v) (rnt l v i) (A++dsWh m 1024 ((rnt l v i-i:Nat):Int) false)
   exact ⟨_,by rw [hC,List.append_assoc]⟩
  ·exact ⟨[],by rw [List.append_nil]⟩
section
variable {L:List (Nat × Nat)} {D:Nat->Dec} (hW:Walk L D) {m t:Nat} {l:List Bmp}
include hW
theorem get_v {A B:List (Nat × Nat)} {base v:Int} (hr:-2147483648<=v/\v<=2147483648) (e:L=A++(dsWh m base v false++B)):decW m base (D A.length)=((0,v,false),D (A++dsWh m base v false).length):=get_wh hW (.inr hr) e
theorem get_n {A B:List (Nat × Nat)} {base:Int} (e:L=A++(dsWh m base 0 true++B)):decW m base (D A.length)=((0,0,true),D (A++dsWh m base 0 true).length):=get_wh hW (.inl rfl) e
theorem gr_back {A C:List (Nat × Nat)} {b:Bmp} (ht:t<4) (hm:b.may) (hw:W64 b.ws) (hL:L=A++(dsG (getP b.ws b.w.toNat b.h.toNat) b.w.toNat m t false 1536 b.h.toNat++C)) :
  gGet m t b.w.toNat b.h.toNat (D A.length)=(b.ws,D (A++dsG (getP b.ws b.w.toNat b.h.toNat) b.w.toNat m t false 1536 b.h.toNat).length):=by
 have h1:=dec_g (getP b.ws b.w.toNat b.h.toNat) b.w.toNat m t false 1536 (getP_out _ _ _) hW ht hL b.h.toNat (Nat.le_refl _)
 rw [part_all] at h1
 refine gGet_eq ⟨h1,hm.2.1,hw,?_⟩
 obtain ⟨W,X,e1,e2,_⟩:=size_nat hm.1
 obtain ⟨bw,bh,ws⟩:=b
 have e1:bw=W:=e1
 have e2:bh=X:=e2
 subst e1 e2
 exact fun y hy x k1 k2=>pix_of_may (W:=W) (X:=X) hm hy k1 k2
theorem cls_back {A C:List (Nat × Nat)} {ah:Int} {i:Nat} (ht:t<4) (hm:MayL l) (hw:∀ b∈l,W64 b.ws) (hs:SortedTo l l.length) (ha:areaL l<=1048576) (hi:i<l.length) (hL:L=midL m t l A ah i (nxt l i-i)++(noneD m++C)) :
  ∀ (d k f:Nat),k+d=nxt l i-i->d+1<=f->clsF m t l.length (sy l i).h f (l.take (i+k)) (areaL (l.take (i+k))) (if k=0 then 0 else (sy l (i+k-1)).w) (Nat.beq k 0) (D (midL m t l A ah i k).length) =
   .ok (l.take (nxt l i),areaL (l.take (nxt l i)),D (midL m t l A ah i (nxt l i-i)++noneD m).length)
 | 0,k,f,hk,hf=>by
  have hgt:=nxt_gt hi
  obtain ⟨f,rfl⟩:∃ f',f=f'+1:=⟨f-1,by omega⟩
  rw [Nat.add_zero] at hk
  have e:i+k=nxt l i:=by omega
  have hd:=get_n hW (m:=m) (base:=512) (A:=midL m t l A ah i (nxt l i-i)) (B:=C) hL
  unfold clsF
  rw [hk,hd]
  have hkz:Nat.beq (nxt l i-i) 0=false:=Bool.eq_false_iff.2 fun hh=>by have:=Nat.eq_of_beq_eq_true hh; omega
  rw [if_neg (by simp),if_pos rfl,hkz,if_neg (by decide),show i+(nxt l i-i)=nxt l i by omega]
  rfl
 | d+1,k,f,hk,hf=>by
  obtain ⟨f,rfl⟩:∃ f',f=f'+1:=⟨f-1,by omega⟩
  have hnl:=nxt_le (Nat.le_of_lt hi)
  have hik:i+k<nxt l i:=by omega
  have hsame:=nxt_same (l:=l) (i:=i) (k:=i+k) (by omega) hik
  have hg:=sy_get (l:=l) (i:=i+k) (by omega)
  have hmb:=hm _ (List.mem_of_getElem? hg)
  have hwb:=hw _ (List.mem_of_getElem? hg)
  have hmay:=hmb.1
  obtain ⟨W,X,e1,e2,hW1,hW2,hX1,hX2,hWX⟩:=size_nat hmay
  obtain ⟨w,hwv⟩:∃ w:Int,w=if k=0 then 0 else (sy l (i+k-1)).w:=⟨_,rfl⟩
  have hwr:0<=w/\w<=(sy l (i+k)).w:=by
   rw [hwv]
   by_cases h0:k=0
   ·rw [if_pos h0]; omega
   ·rw [if_neg h0]
    have h2:=sorted_sy hs (i:=i+k-1) (by omega)
    rw [show i+k-1+1=i+k by omega] at h2
    have h3:=nxt_same (l:=l) (i:=i) (k:=i+k-1) (by omega) (by omega)
    have h4:=(size_nat (hm _ (List.mem_of_getElem? (sy_get (l:=l) (i:=i+k-1) (by omega)))).1)
    obtain ⟨W',X',e1',e2',_⟩:=h4
    unfold Bmp.below at h2
    omega
  rw [<- hwv]
  obtain ⟨C2,hC2⟩:=midL_split (m:=m) (t:=t) (l:=l) (A:=A) (ah:=ah) (i:=i) (k:=k+1) d
  rw [show k+1+d=nxt l i-i by omega] at hC2
  have hstep:midL m t l A ah i (k+1)=midL m t l A ah i k++(dsWh m 512 ((sy l (i+k)).w-w) false++dsG (getP (sy l (i+k)).ws (sy l (i+k)).w.toNat (sy l (i+k)).h.toNat) (sy l (i+k)).w.toNat m t false 1536 (sy l (i+k)).h.toNat):=by rw [hwv]; rfl
  have hL2:L=midL m t l A ah i k++(dsWh m 512 ((sy l (i+k)).w-w) false++(dsG (getP (sy l (i+k)).ws (sy l (i+k)).w.toNat (sy l (i+k)).h.toNat) (sy l (i+k)).w.toNat m t false 1536 (sy l (i+k)).h.toNat++(C2++(noneD m++C)))):=by rw [hL,hC2,hstep]; simp only [List.append_assoc]
  have hd:=get_v hW (m:=m) (base:=512) ⟨by omega,by omega⟩ hL2
  have hgr:=gr_back hW ht hmb hwb (A:=midL m t l A ah i k++dsWh m 512 ((sy l (i+k)).w-w) false) (by rw [List.append_assoc]; exact hL2)
  have hta:areaL (l.take (i+k+1))=areaL (l.take (i+k))+(sy l (i+k)).w.toNat*(sy l (i+k)).h.toNat:=by rw [take_snocG hg,areaL_snoc]
  have hle:=areaL_take l (i+k+1)
  have hpr:(sy l (i+k)).w*(sy l (i+k)).h=(((sy l (i+k)).w.toNat*(sy l (i+k)).h.toNat:Nat):Int):=by rw [e1,e2]; simp
  unfold clsF
  rw [hd,<- hsame]
  dsimp only
  rw [if_neg (by simp),if_neg (by decide),show w+((sy l (i+k)).w-w)=(sy l (i+k)).w by omega]
  rw [if_neg (by rw [List.length_take]; omega),if_neg (by rw [hpr]; omega),hgr]
  dsimp only
  have ih:=cls_back ht hm hw hs ha hi hL d (k+1) f (by omega) (by omega)
  rw [<- hsame] at ih
  rw [<- hta,show (l.take (i+k)++[(⟨(sy l (i+k)).w,(sy l (i+k)).h,(sy l (i+k)).ws⟩:Bmp)])=l.take (i+k+1) from (take_snocG hg).symm]
  rw [if_neg (by omega),show i+(k+1)-1=i+k by omega,hstep,show Nat.beq (k+1) 0=false from rfl,<- List.append_assoc] at ih
  exact ih
theorem sym_back {C:List (Nat × Nat)} (ht:t<4) (hm:MayL l) (hw:∀ b∈l,W64 b.ws) (hs:SortedTo l l.length) (ha:areaL l<=1048576) (hn:l.length<=4096):∀ (F i f:Nat) (ah:Int) (A:List (Nat × Nat)),i<=l.length->l.length<=i+F->l.length-i+1<=f->0<=ah->(i<l.length->ah<(sy l i).h) ->
  L=hisF m t l F i ah A++C->symF m t l.length f (l.take i) (areaL (l.take i)) ah (D A.length) = .ok (l,D (hisF m t l F i ah A).length)
 | 0,i,f,ah,A,hi,hF,hf,h0,hlt,hL=>by
  obtain ⟨f,rfl⟩:∃ f',f=f'+1:=⟨f-1,by omega⟩
  unfold symF
  rw [if_pos (by rw [List.length_take]; omega),List.take_of_length_le (by omega)]
  rfl
 | F+1,i,f,ah,A,hi,hF,hf,h0,hlt,hL=>by
  obtain ⟨f,rfl⟩:∃ f',f=f'+1:=⟨f-1,by omega⟩
  by_cases h1:i<l.length
  ·have hhis:hisF m t l (F+1) i ah A=hisF m t l F (nxt l i) (sy l i).h (midL m t l A ah i (nxt l i-i)++noneD m):=by
    show (if i<l.length then _ else A)=_
    rw [if_pos h1]
   rw [hhis] at hL ⊢
   have hgt:=nxt_gt h1
   have hnl:=nxt_le (Nat.le_of_lt h1)
   obtain ⟨C1,hC1⟩:=hisF_split (m:=m) (t:=t) (l:=l) F (nxt l i) (sy l i).h (midL m t l A ah i (nxt l i-i)++noneD m)
   obtain ⟨C2,hC2⟩:=midL_split (m:=m) (t:=t) (l:=l) (A:=A) (ah:=ah) (i:=i) (k:=0) (nxt l i-i)
   rw [Nat.zero_add] at hC2
   have hL1:L=midL m t l A ah i (nxt l i-i)++(noneD m++(C1++C)):=by rw [hL,hC1]; simp only [List.append_assoc]
   have hL2:L=A++(dsWh m 0 ((sy l i).h-ah) false++(C2++(noneD m++(C1++C)))):=by
    rw [hL1,hC2]
    show (A++dsWh m 0 ((sy l i).h-ah) false++C2)++_=_
    simp only [List.append_assoc]
   have hmay:=(hm _ (List.mem_of_getElem? (sy_get h1))).1
   obtain ⟨W,X,e1,e2,hW1,hW2,hX1,hX2,hWX⟩:=size_nat hmay
   have hlt':=hlt h1
   have hd:=get_v hW (m:=m) (base:=0) ⟨by omega,by omega⟩ hL2
   have hc:=cls_back hW ht hm hw hs ha h1 hL1 (nxt l i-i) 0 (l.length-i+2) (by omega) (by omega)
   simp only [Nat.add_zero] at hc
   rw [if_pos True.intro,show Nat.beq 0 0=true from rfl,show midL m t l A ah i 0=A++dsWh m 0 ((sy l i).h-ah) false from rfl] at hc
   unfold symF
   rw [if_neg (by rw [List.length_take]; omega),hd]
   dsimp only
   have htl:(l.take i).length=i:=by rw [List.length_take]; omega
   rw [if_neg (by simp),if_neg (by simp; omega),show ah+((sy l i).h-ah)=(sy l i).h by omega,if_neg (by omega),htl,hc]
   dsimp only
   refine sym_back ht hm hw hs ha hn F (nxt l i) f (sy l i).h _ hnl (by omega) (by omega) (by omega) (fun h3=>?_) hL
   have h4:=nxt_stop (Nat.le_of_lt h1) h3
   have h5:=sorted_sy hs (i:=nxt l i-1) (by omega)
   rw [show nxt l i-1+1=nxt l i by omega] at h5
   have h6:=nxt_same (l:=l) (i:=i) (k:=nxt l i-1) (by omega) (by omega)
   unfold Bmp.below at h5
   omega
  ·have hhis:hisF m t l (F+1) i ah A=A:=by
    show (if i<l.length then _ else A)=_
    rw [if_neg h1]
   rw [hhis]
   unfold symF
   rw [if_pos (by rw [List.length_take]; omega),List.take_of_length_le (by omega)]
theorem flg_back {l:List Bool} {C:List (Nat × Nat)} (hn:l.length<=8192):∀ (F:Nat) (v:Bool) (i f:Nat) (first:Bool) (A:List (Nat × Nat)),i<=l.length->flgN l v i<=F->l.length-i+1+(if i<l.length/\l.getD i false≠v then 1 else 0)<=f ->
  (first=false->i<l.length->l.getD i false=v)->L=flgF m l F v i A++C->flF m l.length f (l.take i) v first (D A.length) = .ok l
 | F,v,i,f,first,A,hi,hF,hf,h0,hL=>by
  obtain ⟨f,rfl⟩:∃ f',f=f'+1:=⟨f-1,by omega⟩
  by_cases h1:i<l.length
  ·obtain ⟨F,rfl⟩:∃ F',F=F'+1:=⟨F-1,by unfold flgN at hF; omega⟩
   have hnx:=flgN_next (v:=v) h1
   have hge:=rnt_ge l v i
   have hle:=rnt_le (v:=v) hi
   have hhis:flgF m l (F+1) v i A=flgF m l F (!v) (rnt l v i) (A++dsWh m 1024 ((rnt l v i-i:Nat):Int) false):=by
    show (if i<l.length then _ else A)=_
    rw [if_pos h1]
   rw [hhis] at hL
   obtain ⟨C1,hC1⟩:=flgF_split (m:=m) (l:=l) F (!v) (rnt l v i) (A++dsWh m 1024 ((rnt l v i-i:Nat):Int) false)
   have hL2:L=A++(dsWh m 1024 ((rnt l v i-i:Nat):Int) false++(C1++C)):=by rw [hL,hC1]; simp only [List.append_assoc]
   have hd:=get_v hW (m:=m) (base:=1024) ⟨by omega,by omega⟩ hL2
   have htl:(l.take i).length=i:=by rw [List.length_take]; omega
   unfold flF
   rw [if_neg (by omega),hd]
   dsimp only
   rw [if_neg (by simp),htl]
   rw [if_neg (fun hh=>by
    rcases hh with hh | hh | ⟨hh,hh2⟩ | hh
    ·cases hh
    ·omega
    ·have:=rnt_gt h1 (h0 hh2 h1); omega
    ·omega)]
   have hnew:l.take i++List.replicate ((rnt l v i-i:Nat):Int).toNat v=l.take (rnt l v i):=by
    rw [Int.toNat_natCast]
    refine List.ext_getElem? fun j=>?_
    rcases Nat.lt_or_ge j i with h2 | h2
    ·rw [List.getElem?_append_left (by omega),List.getElem?_take_of_lt h2,List.getElem?_take_of_lt (by omega)]
    ·rw [List.getElem?_append_right (by omega),htl]
     rcases Nat.lt_or_ge j (rnt l v i) with h3 | h3
     ·rw [List.getElem?_replicate_of_lt (by omega),List.getElem?_take_of_lt h3]
      have:=rnF_same l v _ i j h2 h3
      rw [List.getD_eq_getElem?_getD,List.getElem?_eq_getElem (by omega)] at this
      rw [List.getElem?_eq_getElem (by omega)]
      exact congrArg some this.symm
     ·rw [List.getElem?_eq_none (by simp; omega),List.getElem?_eq_none (by rw [List.length_take]; omega)]
   rw [hnew]
   have hst:∀ h3:rnt l v i<l.length,l.getD (rnt l v i) false = !v:=fun h3=>bool_ne _ _ (rnt_stop hi h3)
   refine flg_back hn F (!v) (rnt l v i) f false _ hle (by omega) ?_ (fun _ h3=>hst h3) hL
   rw [if_neg (fun hh=>hh.2 (hst hh.1))]
   by_cases hv:l.getD i false=v
   ·have:=rnt_gt h1 hv
    split at hf <;> omega
   ·rw [if_pos ⟨h1,hv⟩] at hf
    omega
  ·unfold flF
   rw [if_pos (by rw [List.length_take]; omega),List.take_of_length_le (by omega)]
end
theorem dec_enc {t:Nat} {new imp:List Bmp} {ex:List Bool} (hc:chkD (t:Nat) new ex.length imp=0) (hw:∀ b∈new,W64 b.ws):decD (dicB t new ex) imp = .ok (t,new,ex):=by
 obtain ⟨⟨h1,h2,h3,h4,h5⟩,h6,h7⟩:=chkD_zero hc
 have ht:t<4:=by omega
 have hlen:=dicD_len (m:=szD t) (t:=t) (ex:=ex) h2 (by omega) (by omega) h7
 have hW:=walk_of (m:=szD t) hlen.2 (by omega)
 generalize hLd:dicD (szD t) t new ex=L at *
 have hv:=varF_grp (b:=dicB t new ex) (i:=1) (rest:=bytesM (flushM (cdL (szD t) L))) 10 0 new.length 0 rfl (by unfold dicB; rw [hLd]; rfl) (by rw [Nat.pow_zero,Nat.mul_one]; exact lt9 (by omega)) (fun hh=>by omega)
 have hv:varP (dicB t new ex) 1=(0,new.length,1+(grp new.length).length):=by
  unfold varP
  rw [hv,Nat.pow_zero,Nat.mul_one,Nat.zero_add,Nat.add_zero]
  rfl
 have hdrop:(dicB t new ex).drop (1+(grp new.length).length)=bytesM (flushM (cdL (szD t) L)):=by
  unfold dicB
  rw [hLd,Nat.add_comm 1,List.drop_succ_cons,List.drop_left]
 obtain ⟨C,hC⟩:=flgF_split (m:=szD t) (l:=ex) (2*ex.length+1) false 0 (symD (szD t) t new)
 have hL1:L=symD (szD t) t new++C:=hLd.symm.trans hC
 have hsym:=sym_back hW (C:=C) ht h2 hw h5 h7 (by omega) new.length 0 (new.length+1) 0 [] (Nat.zero_le _) (by omega) (by omega) (Int.le_refl _) (fun h0=>by
  have:=(size_nat (h2 _ (List.mem_of_getElem? (sy_get h0))).1)
  obtain ⟨W,X,e1,e2,_,_,_,_,_⟩:=this
  omega) hL1
 have hflg:=flg_back hW (l:=ex) (C:=[]) (m:=szD t) (by omega) (2*ex.length+1) false 0 (ex.length+2) true (symD (szD t) t new) (Nat.zero_le _) (by unfold flgN; split <;> omega) (by split <;> omega) (fun hh=>by cases hh) (by rw [List.append_nil]; exact hLd.symm)
 rw [show (List.take 0 new)=[] from rfl,show areaL []=0 from rfl] at hsym
 rw [show (List.take 0 ex)=[] from rfl] at hflg
 unfold decD
 rw [if_neg (fun hh=>hh h1),if_neg (by omega)]
 rw [show (dicB t new ex)[0]? = some t from rfl]
 dsimp only
 rw [if_neg (by omega),hv]
 dsimp only
 rw [if_neg (by simp),if_neg (by omega),hdrop]
 rw [show newD (bytesM (flushM (cdL (szD t) L))) (szD t)=decN (kOf L) (bytesM (flushM (cdL (szD t) L))) (szD t) ([]:List (Nat × Nat)).length from rfl,hsym]
 dsimp only
 rw [<- h4]
 rw [show hisF (szD t) t new new.length 0 0 []=symD (szD t) t new from rfl,hflg]
end Go.Bm
namespace Go.Bm
open Go Go.Den Go.Den.YtfaclehehhgpcaaGreat
theorem Slot.cap {t:TypeId} {n c:Nat} {D:List Ent} {q:Option Addr} {xs:List Value} (hd:Slot t 1 D q n c xs):n<=c:=by
 obtain ⟨hl,⟨_,_,h4,_⟩ | ⟨b,rest,_,_,h4⟩⟩:=hd
 ·omega
 ·rw [List.length_append] at h4; omega
theorem dicB_lt {t:Nat} {new imp:List Bmp} {ex:List Bool} (hc:chkD (t:Nat) new ex.length imp=0):RdB (dicB t new ex):=by
 obtain ⟨⟨h1,h2,h3,h4,h5⟩,h6,h7⟩:=chkD_zero hc
 refine ⟨fun x hx=>?_,by have:=(dicB_len (t:=t) (ex:=ex) h2 (by omega) (by omega) h7).1; omega⟩
 unfold dicB at hx
 rcases List.mem_cons.1 hx with rfl | hx
 ·omega
 ·rcases List.mem_append.1 hx with hx | hx
  ·exact grp_lt x hx
  ·exact Go.Ar.flushM_lt (cdL_ok (Nat.le_trans (dicD_len (m:=szD t) (t:=t) (ex:=ex) h2 (by omega) (by omega) h7).1 (by decide))).wf x hx
theorem encD_ok {t:Nat} {new imp:List Bmp} {ex:List Bool} (hc:chkD (t:Nat) new ex.length imp=0):encD (t:Nat) new ex imp=dicB t new ex:=by
 unfold encD
 rw [if_pos hc,Int.toNat_natCast]
def wkN:List Bmp:=[⟨2,1,[0]⟩,⟨1,2,[9223372036854775808,0]⟩]
def wkI:List Bmp:=[⟨3,3,[0,0,0]⟩]
def wkE:List Bool:=[true,false,true]
theorem wk_may1:MayP 2 1 [0]:=by
 refine ⟨by unfold SizeP; omega,by decide,fun y hy=>?_⟩
 have:y=0:=by simp at hy; omega
 subst this
 decide
theorem wk_may2:MayP 1 2 [9223372036854775808,0]:=by
 refine ⟨by unfold SizeP; omega,by decide,fun y hy=>?_⟩
 have:y=0\/y=1:=by simp at hy; omega
 rcases this with rfl | rfl <;> decide
theorem wk_may3:MayP 3 3 [0,0,0]:=by
 refine ⟨by unfold SizeP; omega,by decide,fun y hy=>?_⟩
 have:y=0\/y=1\/y=2:=by simp at hy; omega
 rcases this with rfl | rfl | rfl <;> decide
theorem wk_w:∀ b∈wkN,W64 b.ws:=fun b hb=>by
 unfold wkN at hb
 rcases List.mem_cons.1 hb with rfl | hb
 ·intro v hv; simp at hv; subst hv; decide
 ·rw [List.mem_singleton.1 hb]
  intro v hv; simp at hv; rcases hv with rfl | rfl <;> decide
theorem wk_chk:chkD ((2:Nat):Int) wkN wkE.length wkI=0:=by
 refine chkD_ok ⟨fun b hb=>?_,fun b hb=>?_,by decide,rfl,fun i a b hi ha hb=>?_⟩ (by decide)
 ·rw [List.mem_singleton.1 hb]; exact wk_may3
 ·rcases List.mem_cons.1 hb with rfl | hb
  ·exact wk_may1
  ·rw [List.mem_singleton.1 hb]; exact wk_may2
 ·have hi:i+1<2:=hi
  have:i=0:=by omega
  subst this
  injection ha with ha
  injection hb with hb
  subst ha hb
  unfold Bmp.below
  decide
theorem wk_len:Nat.blt 2 (dicB 2 wkN wkE).length=true:=by kernel_rfl
theorem wk_pick:pickD (wkI++wkN) wkE=[⟨3,3,[0,0,0]⟩,⟨1,2,[9223372036854775808,0]⟩]:=rfl
theorem wk_exp:expD ((2:Nat):Int) wkN wkE wkI=[⟨3,3,[0,0,0]⟩,⟨1,2,[9223372036854775808,0]⟩]:=by
 unfold expD
 rw [if_pos wk_chk,wk_pick]
section
variable {hB:Heap} {K:VK} {Kp:PK}
set_option maxHeartbeats 4000000 in
theorem wakes13_ok (hk:∀ h',hext hB h'->K (.bool true) h'):CP F_burinlaw13_wakes #[] hB K Kp:=by
 refine call_burinlaw13_wakes ?_
 unfold burinlaw13_wakes
 have hs21:SizeP ((2:Nat):Int) ((1:Nat):Int):=by unfold SizeP; omega
 have hs33:SizeP ((3:Nat):Int) ((3:Nat):Int):=by unfold SizeP; omega
 refine white_ok (W:=2) (X:=1) hs21 fun q1 h H=>?_
 refine ⟨_,_,_,_,_,rfl,?_⟩
 refine newC_hp H fun r6 h H=>?_
 refine newC_hp H fun r8 h H=>?_
 refine newC_hp H fun r10 h H=>?_
 refine newC_hp H fun r12 h H=>?_
 have H:Hp hB [] h [⟨q1,true,T_uint64,u64s [0]⟩,⟨r6,true,T_uint64,u64s [9223372036854775808,0]⟩,⟨r8,true,T_api_Bitmap,[.int .i64 2, .int .i64 1, .slice (at0 q1) 1 1, .int .i64 1, .int .i64 2, .slice (at0 r6) 2 2]⟩,⟨r10,true,T_bool,[.bool true, .bool false, .bool true]⟩,⟨r12,true,T_api_Dict,[.int .i64 0, .slice none 0 0, .slice none 0 0]⟩]:=H
 refine stA H 4 rfl rfl rfl fun h H=>?_
 refine stA H 4 rfl rfl rfl fun h H=>?_
 refine stA H 4 rfl rfl rfl fun h H=>?_
 refine white_ok (W:=3) (X:=3) hs33 fun q2 h' H'=>?_
 replace H:=H.join H' rfl
 clear H'
 refine ⟨_,_,_,_,_,rfl,?_⟩
 refine newC_hp H fun r22 h H=>?_
 obtain ⟨A,hA⟩:∃ A:List Ent,A=[⟨q1,true,T_uint64,u64s [0]⟩,⟨r6,true,T_uint64,u64s [9223372036854775808,0]⟩,⟨r8,true,T_api_Bitmap,[.int .i64 2, .int .i64 1, .slice (at0 q1) 1 1, .int .i64 1, .int .i64 2, .slice (at0 r6) 2 2]⟩,⟨r10,true,T_bool,[.bool true, .bool false, .bool true]⟩,⟨r12,true,T_api_Dict,[.int .i64 2, .slice (at0 r8) 2 2, .slice (at0 r10) 3 3]⟩,⟨q2,true,T_uint64,u64s [0,0,0]⟩,⟨r22,true,T_api_Bitmap,[.int .i64 3, .int .i64 3, .slice (at0 q2) 3 3]⟩]:=⟨_,rfl⟩
 have H:Hp hB [] h A:=by rw [hA]; exact H
 have rdA:∀ {h:Heap} {L:List Ent},Hp hB [] h (A++L)->BmsV h (at0 r8) wkN/\BmsV h (at0 r22) wkI/\FlsV h (at0 r10) wkE:=fun {h L} H=>by
  rw [hA] at H
  have rq1:rdO h (at0 q1) (1*1) (u64s [0]):=Hp.rdO_mem (rest:=[]) (w:=true) (t:=T_uint64) (cs:=u64s [0]) H (by rw [List.append_nil]; exact List.mem_cons_self ..) rfl
  have rr6:rdO h (at0 r6) (2*1) (u64s [9223372036854775808,0]):=Hp.rdO_mem (rest:=[]) (w:=true) (t:=T_uint64) (cs:=u64s [9223372036854775808,0]) H (by rw [List.append_nil]; exact List.mem_cons_of_mem _ (List.mem_cons_self ..)) rfl
  have rq2:rdO h (at0 q2) (3*1) (u64s [0,0,0]):=Hp.rdO_mem (rest:=[]) (w:=true) (t:=T_uint64) (cs:=u64s [0,0,0]) H (by rw [List.append_nil]; exact List.mem_of_getElem? (i:=5) rfl) rfl
  have rr10:rdO h (at0 r10) (3*1) [.bool true, .bool false, .bool true]:=Hp.rdO_mem (rest:=[]) (w:=true) (t:=T_bool) (cs:=[.bool true, .bool false, .bool true]) H (by rw [List.append_nil]; exact List.mem_of_getElem? (i:=3) rfl) rfl
  have w0:∀ l:List Nat,(∀ x∈l,x=0\/x=9223372036854775808)->W64 l:=fun l hl v hv=>by
   rcases hl v hv with rfl | rfl <;> decide
  refine ⟨fun i b hi=>?_,fun i b hi=>?_,rr10⟩
  ·match i,hi with
   | 0,hi =>
    injection hi with hi
    subst hi
    exact ⟨⟨r8,0,none⟩,at0 q1,1,rfl,⟨hpB H 2 rfl rfl,hpB H 2 rfl rfl,hpB H 2 rfl rfl,rq1,w0 _ (by simp),by decide⟩⟩
   | 1,hi =>
    injection hi with hi
    subst hi
    exact ⟨⟨r8,0,none⟩,at0 r6,2,rfl,⟨hpB H 2 rfl rfl,hpB H 2 rfl rfl,hpB H 2 rfl rfl,rr6,w0 _ (by simp),by decide⟩⟩
  ·match i,hi with
   | 0,hi =>
    injection hi with hi
    subst hi
    exact ⟨⟨r22,0,none⟩,at0 q2,3,rfl,⟨hpB H 6 rfl rfl,hpB H 6 rfl rfl,hpB H 6 rfl rfl,rq2,w0 _ (by simp),by decide⟩⟩
 have rdD:∀ {h:Heap} {L:List Ent} {KK:Int->Option Addr->Nat->Nat->Option Addr->Nat->Nat->Prop},Hp hB [] h (A++L)->KK 2 (at0 r8) 2 2 (at0 r10) 3 3->ldI h ((⟨r12,0,none⟩:Addr).add 0) .i64 fun x=>ldS h ((⟨r12,0,none⟩:Addr).add 1) fun y yn yc=>ldS h ((⟨r12,0,none⟩:Addr).add 2) fun z zn zc=>KK x y yn yc z zn zc:=fun {h L KK} H hKK=>by
  rw [hA] at H
  exact ldI_of (hpA H 4 rfl rfl) (ldS_of (hpA H 4 rfl rfl) (ldS_of (hpA H 4 rfl rfl) hKK))
 have H:Hp hB [] h (A++[]):=H.as (by rw [List.append_nil])
 refine rdD (KK:=fun x y yn yc z zn zc=>CP F_dict_Encode #[.agg #[.int .i64 x, .slice y yn yc, .slice z zn zc], .slice (some ⟨r22,0,none⟩) 1 1] h _ Kp) H ?_
 obtain ⟨v1,v2,v3⟩:=rdA H
 refine dEnc_ok (t:=((2:Nat):Int)) (new:=wkN) (ex:=wkE) (imp:=wkI) v1 v2 v3 (by decide) (by decide) (by decide) fun D qo co h' hs H'=>?_
 rw [wk_chk,encD_ok wk_chk] at *
 replace H:=H.join H' hs.w
 clear H'
 refine ⟨_,_,_,_,rfl,?_⟩
 have H:Hp hB [] h' (A++D):=H.as (by rw [List.append_nil])
 obtain ⟨v1,v2,v3⟩:=rdA H
 refine dDec_ok (imp:=wkI) (dicB_lt wk_chk) (Slot.rdO' hs H fun e he=>List.mem_append_right _ he) (Slot.cap hs) v2 (by decide) (fun t new ex RN qn cn RE qe ce h2 hd hM hL hsE H'=>?_) fun er h2 hd _ _=>?_
 rotate_left
 ·rw [dec_enc wk_chk wk_w] at hd; cases hd
 rw [dec_enc wk_chk wk_w] at hd
 injection hd with hd
 injection hd with e1 hd
 injection hd with e2 e3
 subst e1 e2 e3
 replace H:=H.join H' (by rw [List.all_append,hL.w,hsE.w]; rfl)
 clear H'
 refine ⟨_,_,_,_,_,_,_,_,rfl,?_⟩
 refine newC_hp H fun r37 h H=>?_
 have H:=H.rot
 refine stA H 0 rfl rfl rfl fun h H=>?_
 refine stA H 0 rfl rfl rfl fun h H=>?_
 refine stA H 0 rfl rfl rfl fun h H=>?_
 have H:Hp hB [] h (⟨r37,true,T_api_Dict,[.int .i64 ((2:Nat):Int), .slice qn wkN.length cn, .slice qe wkE.length ce]⟩::(A++D++(RN++RE))):=H
 have HA:Hp hB [] h (A++(D++(RN++RE))):=(Hp.suf (X:=[_]) H).asc
 refine rdD (KK:=fun x y yn yc z zn zc=>CP F_dict_Exported #[.agg #[.int .i64 x, .slice y yn yc, .slice z zn zc], .slice (some ⟨r22,0,none⟩) 1 1] h _ Kp) HA ?_
 obtain ⟨v1,v2,v3⟩:=rdA HA
 refine dExp_ok (t:=((2:Nat):Int)) (new:=wkN) (ex:=wkE) (imp:=wkI) v1 v2 v3 (by decide) (by decide) fun R q9 c9 h' hL9 H'=>?_
 rw [wk_chk,wk_exp] at *
 replace H:=H.join H' hL9.w
 clear H'
 refine ⟨_,_,_,_,rfl,?_⟩
 refine bcase_eq (fun _=>?_) fun hh=>absurd rfl hh
 refine bcase_eq (fun _=>?_) fun hh=>absurd rfl hh
 refine bcase_eq (fun _=>?_) fun hh=>absurd rfl hh
 refine bcase_dec (fun _=>?_) fun hh=>?_
 rotate_left
 ·have:=Nat.le_of_ble_eq_true wk_len
  exact absurd (show (((dicB 2 wkN wkE).length:Nat):Int) > 2 by omega) hh
 refine ldI_of (hpA H 0 rfl rfl) (ldS_of (hpA H 0 rfl rfl) (ldS_of (hpA H 0 rfl rfl) ?_))
 have H:Hp hB [] h' ([⟨r37,true,T_api_Dict,[.int .i64 ((2:Nat):Int), .slice qn wkN.length cn, .slice qe wkE.length ce]⟩]++(A++D++(RN++RE)++R)):=H
 have HA:Hp hB [] h' (A++(D++(RN++RE)++R)):=(Hp.suf H).as (by simp only [List.append_assoc])
 obtain ⟨v1,v2,v3⟩:=rdA HA
 refine rdD (KK:=fun x y yn yc z zn zc=>CP F_burinref0_EqDict #[.agg #[.int .i64 ((2:Nat):Int), .slice qn wkN.length cn, .slice qe wkE.length ce], .agg #[.int .i64 x, .slice y yn yc, .slice z zn zc]] h' _ Kp) HA ?_
 have w1:BmsV h' qn wkN:=hL.view HA fun e he=>by simp [he]
 have w2:FlsV h' qe wkE:=Slot.rdO' hsE HA fun e he=>by simp [he]
 refine eqDict_ok (new:=wkN) (ex:=wkE) w1 v1 w2 v3 (by decide) (by decide) fun h2 e=>?_
 have HA:=HA.ext e
 refine ⟨_,rfl,?_⟩
 refine bcase_of (fun _=>?_) fun hh=>by cases hh
 refine bcase_eq (fun _=>?_) fun hh=>absurd rfl hh
 have w3:=hL9.view HA fun e he=>by simp [he]
 obtain ⟨a0,p0,c0,hq0,b0⟩:=w3 0 _ rfl
 obtain ⟨a1,p1,c1,hq1,b1⟩:=w3 1 _ rfl
 refine needs_of (by decide) (ptr_at hq0 ?_)
 refine ldI_of b0.c0 ?_
 refine bcase_eq (fun _=>?_) fun hh=>absurd rfl hh
 refine needs_of (by decide) (ptr_at hq1 ?_)
 refine ldI_of b1.c1 ?_
 exact hk h2 HA.hext
end
end Go.Bm
namespace Go.Bm
open Go Go.Den Go.Den.YtfaclehehhgpcaaGreat
theorem build {α:Type} {P:Nat->α->Prop}:∀ {n:Nat},(∀ i,i<n->∃ x,P i x)->∃ l:List α,l.length=n/\∀ i x,l[i]? = some x->P i x
 | 0,_=>⟨[],rfl,fun i x hx=>by simp at hx⟩
 | n+1,h=>by
  obtain ⟨l,e1,e2⟩:=build (n:=n) fun i hi=>h i (by omega)
  obtain ⟨y,hy⟩:=h n (by omega)
  refine ⟨l++[y],by simp [e1],fun i z hz=>?_⟩
  rcases Nat.lt_or_ge i l.length with hi | hi
  ·rw [List.getElem?_append_left hi] at hz
   exact e2 i z hz
  ·have hi2:=(List.getElem?_eq_some_iff.1 hz).1
   simp at hi2
   have:i=n:=by omega
   subst this
   rw [List.getElem?_append_right hi,e1,Nat.sub_self] at hz
   have hz:y=z:=by simpa using hz
   subst hz
   exact hy
theorem wd_bms {h:Heap} {cs:List Value} (H:WDx TP h T_s_api_Bitmap cs):∃ q cap,∃ l:List Bmp,cs=[.slice q l.length cap]/\BmsV h q l/\l.length<=4000000000000/\l.length<=cap:=by
 obtain ⟨q,len,cap,rfl,h1,h2,h3,h4⟩:=wd_slice Go.Proofs.Tryz.underlying54 H
 have k:TP.cellsOf T_api_Bitmap=3:=by kernel_rfl
 have kb:TP.bytesOf T_api_Bitmap=40:=by kernel_rfl
 have hrb:reachBytes=140737488351232:=rfl
 rw [k] at h4
 rw [kb] at h2
 obtain ⟨l,e1,e2⟩:=build (P:=fun i (b:Bmp)=>∃ a q1 c1,q=some a/\BmC h (a.add (i*3)) b q1 c1) (n:=len) fun i hi=>by
  obtain ⟨a,cs',ha,hr,hd⟩:=h4 i hi
  obtain ⟨w,b,q1,cap1,ws,rfl,_,_,g1,g2,g3⟩:=wd_bitmap hd
  have c:=fun j v hj=>hr.2 j v hj
  exact ⟨⟨w,b,ws⟩,a,q1,cap1,ha,⟨c 0 _ rfl,c 1 _ rfl,c 2 _ rfl,g2,g3,g1⟩⟩
 subst e1
 exact ⟨q,cap,l,rfl,e2,by omega,h1⟩
theorem wd_flags {h:Heap} {cs:List Value} (H:WDx TP h T_s_bool cs):∃ q cap,∃ l:List Bool,cs=[.slice q l.length cap]/\FlsV h q l/\l.length<140737488351300:=by
 obtain ⟨q,len,cap,rfl,h1,h2,h3,h4⟩:=wd_slice Go.Proofs.Tryz.underlying55 H
 have k:TP.cellsOf T_bool=1:=by kernel_rfl
 have kb:TP.bytesOf T_bool=1:=by kernel_rfl
 have hrb:reachBytes=140737488351232:=rfl
 rw [k] at h4
 rw [kb] at h2
 obtain ⟨l,e1,e2⟩:=build (P:=fun i (b:Bool)=>∃ a,q=some a/\hcell h (a.add i)=some (.bool b)) (n:=len) fun i hi=>by
  obtain ⟨a,cs',ha,hr,hd⟩:=h4 i hi
  obtain ⟨b,rfl⟩:=wd_bool Go.Proofs.Tryz.underlying4 hd
  have:=hr.2 0 _ rfl
  rw [add_zero',Nat.mul_one] at this
  exact ⟨b,a,ha,this⟩
 subst e1
 refine ⟨q,cap,l,rfl,?_,by omega⟩
 show rdO h q (l.length*1) (bls l)
 cases q with
 | none =>
  have:=(h3 rfl).1
  obtain rfl:l=[]:=List.length_eq_zero_iff.1 this
  exact rfl
 | some a =>
  refine ⟨by simp [bls],fun j v hj=>?_⟩
  unfold bls at hj
  rw [List.getElem?_map] at hj
  cases hb:l[j]? with
  | none=>rw [hb] at hj; cases hj
  | some b =>
   rw [hb] at hj
   injection hj with hj
   subst hj
   obtain ⟨a',ha,hc⟩:=e2 j b hb
   injection ha with ha
   subst ha
   exact hc
theorem wd_dict {h:Heap} {cs:List Value} (H:WDx TP h T_api_Dict cs):∃ t q1 c1 q2 c2,∃ new:List Bmp,∃ ex:List Bool,cs=[.int .i64 t, .slice q1 new.length c1, .slice q2 ex.length c2]/\BmsV h q1 new/\FlsV h q2 ex/\new.length<=4000000000000/\ex.length<140737488351300/\(IntKind.i64.min<=t/\t<=IntKind.i64.max)/\new.length<=c1:=by
 obtain ⟨hl,hf⟩:=wd_struct Go.Proofs.Tryz.underlying57 H
 have k:TP.cellsOf T_api_Dict=3:=by kernel_rfl
 rw [k] at hl
 obtain ⟨v0,v1,v2,rfl⟩:=list3 hl
 have k1:TP.cellsOf T_s_api_Bitmap=1:=by kernel_rfl
 have k2:TP.cellsOf T_s_bool=1:=by kernel_rfl
 obtain ⟨t,e0,i0⟩:=wd_int Go.Proofs.Tryz.underlying3 (one_of k_int (hf 0 _ rfl) (v:=v0) rfl)
 obtain ⟨q1,c1,new,e1,g1,g2,g5⟩:=wd_bms (one_of k1 (hf 1 _ rfl) (v:=v1) rfl)
 obtain ⟨q2,c2,ex,e2,g3,g4⟩:=wd_flags (one_of k2 (hf 2 _ rfl) (v:=v2) rfl)
 simp only [List.cons.injEq,and_true] at e0 e1 e2
 subst e0 e1 e2
 exact ⟨t,q1,c1,q2,c2,new,ex,rfl,g1,g3,g2,g4,i0,g5⟩
theorem wd_ask13 {h:Heap} {cs:List Value} (H:WDx TP h T_burinlaw13_Ask cs):∃ t q1 c1 q2 c2 q3 c3,∃ new:List Bmp,∃ ex:List Bool,∃ imp:List Bmp,cs=[.int .i64 t, .slice q1 new.length c1, .slice q2 ex.length c2, .slice q3 imp.length c3] /\
  BmsV h q1 new/\FlsV h q2 ex/\BmsV h q3 imp/\new.length<=4000000000000/\ex.length<140737488351300/\imp.length<=4000000000000/\(IntKind.i64.min<=t/\t<=IntKind.i64.max)/\new.length<=c1:=by
 obtain ⟨hl,hf⟩:=wd_struct Go.Proofs.Tryz.underlying59 H
 have k:TP.cellsOf T_burinlaw13_Ask=4:=by kernel_rfl
 rw [k] at hl
 obtain ⟨v0,v1,v2,v3,rfl⟩:=list4 hl
 have kd:TP.cellsOf T_api_Dict=3:=by kernel_rfl
 have k1:TP.cellsOf T_s_api_Bitmap=1:=by kernel_rfl
 have f0:WDx TP h T_api_Dict (([v0,v1,v2,v3].drop 0).take (TP.cellsOf T_api_Dict)):=hf 0 _ rfl
 rw [kd] at f0
 obtain ⟨t,q1,c1,q2,c2,new,ex,e0,g1,g2,g3,g4,i0,g7⟩:=wd_dict f0
 obtain ⟨q3,c3,imp,e1,g5,g6,_⟩:=wd_bms (one_of k1 (hf 1 _ rfl) (v:=v3) rfl)
 simp only [List.drop_zero,List.take_succ_cons,List.take_zero,List.cons.injEq,and_true] at e0 e1
 obtain ⟨e00,e01,e02⟩:=e0
 subst e00 e01 e02 e1
 exact ⟨t,q1,c1,q2,c2,q3,c3,new,ex,imp,rfl,g1,g2,g5,g3,g4,g6,i0,g7⟩
end Go.Bm
namespace Go.Den.YtfaclehehhgpcaaGreat
open Go Go.Den
end Go.Den.YtfaclehehhgpcaaGreat
namespace Go.Den.YtfaclehehhgpcaaGreat
open Go Go.Den
end Go.Den.YtfaclehehhgpcaaGreat
namespace Go.Bm
open Go Go.Den Go.Den.YtfaclehehhgpcaaGreat
end Go.Bm
namespace Go.Bm
open Go Go.Den Go.Den.YtfaclehehhgpcaaGreat
open Go.Ar (Dec newD)
theorem sorted_snoc {l:List Bmp} {b:Bmp} (h:SortedTo l l.length) (hb:∀ a,l.getLast? = some a->¬ b.below a):SortedTo (l++[b]) (l++[b]).length:=fun i x y hi hx hy=>by
 rw [List.length_append,List.length_singleton] at hi
 rcases Nat.lt_or_ge (i+1) l.length with h1 | h1
 ·rw [List.getElem?_append_left (by omega)] at hx
  rw [List.getElem?_append_left h1] at hy
  exact h i x y h1 hx hy
 ·have h2:i+1=l.length:=by omega
  rw [List.getElem?_append_left (by omega)] at hx
  rw [List.getElem?_append_right h1,h2,Nat.sub_self] at hy
  have hy:b=y:=by simpa using hy
  subst hy
  exact hb x (by rw [List.getLast?_eq_getElem?,<- h2,Nat.add_sub_cancel]; exact hx)
theorem clsF_good {m t n:Nat} {hh:Int} {new':List Bmp} {area':Nat} {s':Dec}:∀ (f:Nat) (new:List Bmp) (area:Nat) (w:Int) (first:Bool) (s:Dec),clsF m t n hh f new area w first s = .ok (new',area',s')->areaL new=area->area<=1048576->new.length<=n->SortedTo new new.length->0<=w->0<=hh ->
  (∀ a,new.getLast? = some a->a.h<=hh/\(a.h=hh->a.w<=w))->areaL new'=area'/\area'<=1048576/\new'.length<=n/\SortedTo new' new'.length/\∀ a,new'.getLast? = some a->a.h<=hh
 | 0,_,_,_,_,_,h,_,_,_,_,_,_,_=>by unfold clsF at h; cases h
 | f+1,new,area,w,first,s,h,h1,h2,h3,h4,h5,h5',h6=>by
  unfold clsF at h
  split at h
  ·cases h
  ·split at h
   ·split at h
    ·cases h
    ·injection h with h
     injection h with e1 h
     injection h with e2 e3
     subst e1 e2
     exact ⟨h1,h2,h3,h4,fun a ha=>(h6 a ha).1⟩
   ·split at h
    ·cases h
    ·split at h
     ·cases h
     ·rename_i g1 g2 g3 g4
      generalize (decW m 512 s).1.2.1=v at *
      have hmul:(w+v)*hh=(((w+v).toNat*hh.toNat:Nat):Int):=by
       obtain ⟨W,hW⟩:∃ W:Nat,w+v=(W:Int):=⟨(w+v).toNat,by omega⟩
       obtain ⟨Y,hY⟩:∃ Y:Nat,hh=(Y:Int):=⟨hh.toNat,by omega⟩
       rw [hW,hY]
       simp
      refine clsF_good f _ _ _ _ _ h ?_ ?_ ?_ ?_ (by omega) h5' ?_
      ·rw [areaL_snoc,h1]
      ·rw [hmul] at g4; omega
      ·rw [List.length_append,List.length_singleton]; omega
      ·refine sorted_snoc h4 fun a ha=>?_
       obtain ⟨k1,k2⟩:=h6 a ha
       unfold Bmp.below
       intro hb
       rcases hb with hb | ⟨hb,hb2⟩
       ·have hb:hh<a.h:=hb
        omega
       ·have hb:hh=a.h:=hb
        have hb2:w+v<a.w:=hb2
        have:=k2 hb.symm
        omega
      ·intro a ha
       rw [List.getLast?_concat] at ha
       injection ha with ha
       subst ha
       exact ⟨Int.le_refl _,fun _=>Int.le_refl _⟩
theorem symF_good {m t n:Nat} {new':List Bmp} {s':Dec}:∀ (f:Nat) (new:List Bmp) (area:Nat) (ah:Int) (s:Dec),symF m t n f new area ah s = .ok (new',s')->areaL new=area->area<=1048576->new.length<=n->SortedTo new new.length->0<=ah ->
  (∀ a,new.getLast? = some a->a.h<=ah)->new'.length=n/\areaL new'<=1048576/\SortedTo new' new'.length
 | 0,_,_,_,_,h,_,_,_,_,_,_=>by unfold symF at h; cases h
 | f+1,new,area,ah,s,h,h1,h2,h3,h4,h5,h6=>by
  unfold symF at h
  split at h
  ·injection h with h
   injection h with e1 e2
   subst e1
   exact ⟨by omega,by omega,h4⟩
  ·split at h
   ·cases h
   ·split at h
    ·cases h
    ·split at h
     ·cases h
     ·rename_i g1 g2 g3 g4
      generalize hv:(decW m 0 s).1.2.1=v at *
      generalize hc:clsF m t n (ah+v) (n-new.length+2) new area 0 true (decW m 0 s).2=Rc at h
      match Rc,h with
      | .error e,h=>cases h
      | .ok (n2,a2,s2),h =>
       dsimp only at h
       obtain ⟨k1,k2,k3,k4,k5⟩:=clsF_good _ _ _ _ _ _ hc h1 h2 h3 h4 (Int.le_refl _) (by omega) fun a ha=>⟨by have:=h6 a ha; omega,fun hh=>by have:=h6 a ha; omega⟩
       exact symF_good f n2 a2 (ah+v) s2 h k1 k2 k3 k4 (by omega) k5
theorem flF_good {m n:Nat} {ex':List Bool}:∀ (f:Nat) (ex:List Bool) (v first:Bool) (s:Dec),flF m n f ex v first s = .ok ex'->ex.length<=n->ex'.length=n
 | 0,_,_,_,_,h,_=>by unfold flF at h; cases h
 | f+1,ex,v,first,s,h,h1=>by
  unfold flF at h
  split at h
  ·injection h with h
   subst h
   omega
  ·split at h
   ·cases h
   ·split at h
    ·cases h
    ·exact flF_good f _ _ _ _ h (by rw [List.length_append,List.length_replicate]; omega)
theorem decD_good {b:List Nat} {imp:List Bmp} {t:Nat} {new:List Bmp} {ex:List Bool} (h:decD b imp = .ok (t,new,ex)) (hM:MayL new):chkD (t:Nat) new ex.length imp=0:=by
 unfold decD at h
 split at h
 ·cases h
 ·split at h
  ·cases h
  ·rename_i g1 g2
   have g1:MayL imp:=Classical.not_not.1 g1
   generalize b[0]? = b0 at h
   match b0,h with
   | none,h=>cases h
   | some t0,h =>
    dsimp only at h
    split at h
    ·cases h
    ·split at h
     ·cases h
     ·split at h
      ·cases h
      ·rename_i g3 g4 g5
       generalize hs:symF (szD t0) t0 (varP b 1).2.1 ((varP b 1).2.1+1) [] 0 0 (newD (b.drop (varP b 1).2.2) (szD t0))=Rs at h
       match Rs,h with
       | .error e,h=>cases h
       | .ok (n2,s2),h =>
        dsimp only at h
        generalize hf:flF (szD t0) (imp.length+(varP b 1).2.1) (imp.length+(varP b 1).2.1+2) [] false true s2=Rf at h
        match Rf,h with
        | .error e,h=>cases h
        | .ok e2,h =>
         injection h with h
         injection h with e1 h
         injection h with e3 e4
         subst e1 e3 e4
         obtain ⟨k1,k2,k3⟩:=symF_good _ _ _ _ _ hs rfl (by decide) (Nat.zero_le _) (fun i a b hi=>by have hi:i+1<0:=hi; omega) (Int.le_refl _) fun a ha=>by cases ha
         have k4:=flF_good _ _ _ _ _ hf (Nat.zero_le _)
         exact chkD_ok ⟨g1,hM,by omega,by omega,k3⟩ (by omega)
section
variable {hB:Heap} {K:VK} {Kp:PK} {q qi:Option Addr} {c ci:Nat} {b:List Nat} {imp:List Bmp}
end
end Go.Bm
namespace Go.Den.YtfaclehehhgpcaaGreat
open Go Go.Den
end Go.Den.YtfaclehehhgpcaaGreat
namespace Go.Den.YtfaclehehhgpcaaGreat
open Go Go.Den
end Go.Den.YtfaclehehhgpcaaGreat
namespace Go.Bm
open Go Go.Den Go.Den.YtfaclehehhgpcaaGreat
section
variable {hB h:Heap} {K:VK} {Kp:PK}
end
section
variable {hB:Heap} {K:VK} {Kp:PK}
end
end Go.Bm
namespace Go.Den.YtfaclehehhgpcaaGreat
open Go Go.Den
def burinlaw13_DictHurt (C:CallP) (a0_1:Int) (a0_2:Option Addr) (a0_2n:Nat) (a0_2c:Nat) (a0_3:Option Addr) (a0_3n:Nat) (a0_3c:Nat) (a0_4:Option Addr) (a0_4n:Nat) (a0_4c:Nat) (a0_5:Option Addr) (a0_5n:Nat) (a0_5c:Nat) (a0_6:Option Addr) (a0_6n:Nat) (a0_6c:Nat) (h:Heap) (K:VK) (Kp:PK):Prop :=
newC h [.int .i64 a0_1, .slice a0_2 a0_2n a0_2c, .slice a0_3 a0_3n a0_3c, .slice a0_4 a0_4n a0_4c, .slice a0_5 a0_5n a0_5c, .slice a0_6 a0_6n a0_6c] T_burinlaw13_Hurt fun r_7 h_8 =>
ldS h_8 ((((⟨r_7,0,none⟩:Addr).add 0).add 0).add 1) fun x_9 x_9n x_9c =>
C F_burinlaw13_light #[.slice x_9 x_9n x_9c] h_8 (fun v_10 h_11 =>
∃ (r_12:Bool),v_10 = .bool r_12/\(
bcase (!r_12) (
C F_burinlaw13_wakes #[] h_11 (fun v_13 h_14 =>
∃ (r_15:Bool),v_13 = .bool r_15/\(
K (.bool r_15) h_14)) (Kp)) <|
ldS h_11 (((⟨r_7,0,none⟩:Addr).add 0).add 3) fun x_16 x_16n x_16c =>
C F_burinlaw13_light #[.slice x_16 x_16n x_16c] h_11 (fun v_17 h_18 =>
∃ (r_19:Bool),v_17 = .bool r_19/\(
bcase (!r_19) (
C F_burinlaw13_wakes #[] h_18 (fun v_20 h_21 =>
∃ (r_22:Bool),v_20 = .bool r_22/\(
K (.bool r_22) h_21)) (Kp)) <|
ldI h_18 ((((⟨r_7,0,none⟩:Addr).add 0).add 0).add 0) .i64 fun x_23 =>
ldS h_18 ((((⟨r_7,0,none⟩:Addr).add 0).add 0).add 1) fun x_24 x_24n x_24c =>
ldS h_18 ((((⟨r_7,0,none⟩:Addr).add 0).add 0).add 2) fun x_25 x_25n x_25c =>
ldS h_18 (((⟨r_7,0,none⟩:Addr).add 0).add 3) fun x_26 x_26n x_26c =>
C F_dict_Encode #[.agg #[.int .i64 x_23, .slice x_24 x_24n x_24c, .slice x_25 x_25n x_25c], .slice x_26 x_26n x_26c] h_18 (fun v_27 h_28 =>
∃ (r_29:Option Addr) (r_29n:Nat) (r_29c:Nat),∃ (r_30:Int),v_27 = .tuple #[.slice r_29 r_29n r_29c, .int .i64 r_30]/\(
bcase (r_30 != (0:Int)) (
bcase (r_30 != (0:Int)) (
C F_burinlaw13_wakes #[] h_28 (fun v_31 h_32 =>
∃ (r_33:Bool),v_31 = .bool r_33/\(
K (.bool r_33) h_32)) (Kp)) <|
K (.bool false) h_28) <|
bcase ((r_29n:Int) == (0:Int)) (
bcase (r_30 != (0:Int)) (
C F_burinlaw13_wakes #[] h_28 (fun v_34 h_35 =>
∃ (r_36:Bool),v_34 = .bool r_36/\(
K (.bool r_36) h_35)) (Kp)) <|
K (.bool false) h_28) <|
∃ J_37:Nat->List Value->Heap->Prop,(∃ n_39,J_37 n_39 [.int .i64 0] h_28)/\∀ (n_39:Nat) (h_40:Heap) (u_41:Nat->Value) (x_42:Int),J_37 n_39 [.int .i64 x_42] h_40->(
ldS h_40 ((⟨r_7,0,none⟩:Addr).add 4) fun x_43 x_43n x_43c =>
bcase (decide (x_42<(x_43n:Int))) (
ldS h_40 ((⟨r_7,0,none⟩:Addr).add 5) fun x_44 x_44n x_44c =>
bcase (decide (x_42<(x_44n:Int))) (
bcase (decide (x_42<(12:Int))) (
C F_burinref0_Copy #[.slice r_29 r_29n r_29c] h_40 (fun v_45 h_46 =>
∃ (r_47:Option Addr) (r_47n:Nat) (r_47c:Nat),v_45 = .slice r_47 r_47n r_47c/\(
ldS h_46 ((⟨r_7,0,none⟩:Addr).add 4) fun x_48 x_48n x_48c =>
needs (0<=x_42/\x_42<(x_48n:Int)) <|
ptr x_48 fun a_49 =>
ldI h_46 (a_49.add (x_42.toNat*1)) .i64 fun x_50 =>
C F_burinkit_Within #[.int .i64 x_50, .int .i64 (r_47n:Int)] h_46 (fun v_51 h_52 =>
∃ (r_53:Int),v_51 = .int .i64 r_53/\(
needs (0<=r_53/\r_53<(r_47n:Int)) <|
ptr r_47 fun a_54 =>
ldI h_52 (a_54.add (r_53.toNat*1)) .u8 fun x_55 =>
ldS h_52 ((⟨r_7,0,none⟩:Addr).add 5) fun x_56 x_56n x_56c =>
needs (0<=x_42/\x_42<(x_56n:Int)) <|
ptr x_56 fun a_57 =>
ldI h_52 (a_57.add (x_42.toNat*1)) .u8 fun x_58 =>
bindI (bitI .xor .u8 x_55 x_58) fun z_59 =>
needs (0<=r_53/\r_53<(r_47n:Int)) <|
ptr r_47 fun a_60 =>
stV h_52 (a_60.add (r_53.toNat*1)) (.int .u8 z_59) fun h_61 =>
∃ K_62:List Value->Heap->Prop,(
bindI (x_42.tmod (3:Int)) fun z_65 =>
bcase (z_65 == (2:Int)) (
needs (0<=r_53/\r_53<=((r_47c:Nat):Int)) <|
K_62 [.slice (subA r_47 (r_47c) (0) 1) (r_53.toNat-0) (r_47c-0)] h_61) <|
K_62 [.slice r_47 r_47n r_47c] h_61)/\∀ (h_63:Heap) (u_64:Nat->Value) (x_66:Option Addr) (x_66n:Nat) (x_66c:Nat),K_62 [.slice x_66 x_66n x_66c] h_63->(
C F_burinlaw13_small #[.slice x_66 x_66n x_66c] h_63 (fun v_67 h_68 =>
∃ (r_69:Bool),v_67 = .bool r_69/\(
bcase (!r_69) (
bindI (IntKind.i64.wrap (x_42+(1:Int))) fun z_70 =>
∃ m_38,m_38<n_39/\J_37 m_38 [.int .i64 z_70] h_68) <|
ldS h_68 (((⟨r_7,0,none⟩:Addr).add 0).add 3) fun x_71 x_71n x_71c =>
(
C F_burinref0_Copy #[.slice x_66 x_66n x_66c] h_68 (fun v_72 h_73 =>
∃ (r_74:Option Addr) (r_74n:Nat) (r_74c:Nat),v_72 = .slice r_74 r_74n r_74c/\(
hext h_68 h_73/\(
(
C F_dict_Decode #[.slice r_74 r_74n r_74c, .slice x_71 x_71n x_71c] h_73 (fun v_75 h_76 =>
∃ (r_77:Int) (r_78:Option Addr) (r_78n:Nat) (r_78c:Nat) (r_79:Option Addr) (r_79n:Nat) (r_79c:Nat),∃ (r_80:Int),v_75 = .tuple #[.agg #[.int .i64 r_77, .slice r_78 r_78n r_78c, .slice r_79 r_79n r_79c], .int .i64 r_80]/\(
hext h_73 h_76/\(
newC h_76 [.int .i64 0, .slice none 0 0, .slice none 0 0] T_api_Dict fun r_81 h_82 =>
stV h_82 ((⟨r_81,0,none⟩:Addr).add 0) (.int .i64 r_77) fun h_83 =>
stV h_83 ((⟨r_81,0,none⟩:Addr).add 1) (.slice r_78 r_78n r_78c) fun h_84 =>
stV h_84 ((⟨r_81,0,none⟩:Addr).add 2) (.slice r_79 r_79n r_79c) fun h_85 =>
bcase (r_80 != (0:Int)) (
∃ K_86:List Value->Heap->Prop,(
bcase (r_80 != (130:Int)) (
bcase (r_80 != (120:Int)) (
K_86 [.bool true] h_85) <|
ldI h_85 ((⟨r_81,0,none⟩:Addr).add 0) .i64 fun x_89 =>
ldS h_85 ((⟨r_81,0,none⟩:Addr).add 1) fun x_90 x_90n x_90c =>
ldS h_85 ((⟨r_81,0,none⟩:Addr).add 2) fun x_91 x_91n x_91c =>
C F_burinref0_EqDict #[.agg #[.int .i64 x_89, .slice x_90 x_90n x_90c, .slice x_91 x_91n x_91c], .agg #[.int .i64 0, .slice none 0 0, .slice none 0 0]] h_85 (fun v_92 h_93 =>
∃ (r_94:Bool),v_92 = .bool r_94/\(
K_86 [.bool (!r_94)] h_93)) (Kp)) <|
ldI h_85 ((⟨r_81,0,none⟩:Addr).add 0) .i64 fun x_95 =>
ldS h_85 ((⟨r_81,0,none⟩:Addr).add 1) fun x_96 x_96n x_96c =>
ldS h_85 ((⟨r_81,0,none⟩:Addr).add 2) fun x_97 x_97n x_97c =>
C F_burinref0_EqDict #[.agg #[.int .i64 x_95, .slice x_96 x_96n x_96c, .slice x_97 x_97n x_97c], .agg #[.int .i64 0, .slice none 0 0, .slice none 0 0]] h_85 (fun v_98 h_99 =>
∃ (r_100:Bool),v_98 = .bool r_100/\(
K_86 [.bool (!r_100)] h_99)) (Kp))/\∀ (h_87:Heap) (u_88:Nat->Value) (x_101:Bool),K_86 [.bool x_101] h_87->(
bcase x_101 (
K (.bool false) h_87) <|
bindI (IntKind.i64.wrap (x_42+(1:Int))) fun z_102 =>
∃ m_38,m_38<n_39/\J_37 m_38 [.int .i64 z_102] h_87)) <|
ldI h_85 ((⟨r_81,0,none⟩:Addr).add 0) .i64 fun x_103 =>
ldS h_85 ((⟨r_81,0,none⟩:Addr).add 1) fun x_104 x_104n x_104c =>
ldS h_85 ((⟨r_81,0,none⟩:Addr).add 2) fun x_105 x_105n x_105c =>
ldS h_85 (((⟨r_7,0,none⟩:Addr).add 0).add 3) fun x_106 x_106n x_106c =>
C F_burinref13_Bad #[.agg #[.int .i64 x_103, .slice x_104 x_104n x_104c, .slice x_105 x_105n x_105c], .slice x_106 x_106n x_106c] h_85 (fun v_107 h_108 =>
∃ (r_109:Int),v_107 = .int .i64 r_109/\(
bcase (r_109 != (0:Int)) (
K (.bool false) h_108) <|
bindI (IntKind.i64.wrap (x_42+(1:Int))) fun z_110 =>
∃ m_38,m_38<n_39/\J_37 m_38 [.int .i64 z_110] h_108)) (Kp)))) (Kp))/\(
newC h_73 [.int .i64 0, .slice none 0 0, .slice none 0 0] T_api_Dict fun r_111 h_112 =>
C F_dict_Decode #[.slice r_74 r_74n r_74c, .slice x_71 x_71n x_71c] h_112 (fun v_113 h_114 =>
∃ (r_115:Int) (r_116:Option Addr) (r_116n:Nat) (r_116c:Nat) (r_117:Option Addr) (r_117n:Nat) (r_117c:Nat),∃ (r_118:Int),v_113 = .tuple #[.agg #[.int .i64 r_115, .slice r_116 r_116n r_116c, .slice r_117 r_117n r_117c], .int .i64 r_118]/\(
hext h_112 h_114/\(
stV h_114 ((⟨r_111,0,none⟩:Addr).add 0) (.int .i64 r_115) fun h_119 =>
stV h_119 ((⟨r_111,0,none⟩:Addr).add 1) (.slice r_116 r_116n r_116c) fun h_120 =>
stV h_120 ((⟨r_111,0,none⟩:Addr).add 2) (.slice r_117 r_117n r_117c) fun h_121 =>
bcase (r_118 != (0:Int)) (
∃ K_122:List Value->Heap->Prop,(
bcase (r_118 != (130:Int)) (
bcase (r_118 != (120:Int)) (
K_122 [.bool true] h_121) <|
ldI h_121 ((⟨r_111,0,none⟩:Addr).add 0) .i64 fun x_125 =>
ldS h_121 ((⟨r_111,0,none⟩:Addr).add 1) fun x_126 x_126n x_126c =>
ldS h_121 ((⟨r_111,0,none⟩:Addr).add 2) fun x_127 x_127n x_127c =>
C F_burinref0_EqDict #[.agg #[.int .i64 x_125, .slice x_126 x_126n x_126c, .slice x_127 x_127n x_127c], .agg #[.int .i64 0, .slice none 0 0, .slice none 0 0]] h_121 (fun v_128 h_129 =>
∃ (r_130:Bool),v_128 = .bool r_130/\(
K_122 [.bool (!r_130)] h_129)) (Kp)) <|
ldI h_121 ((⟨r_111,0,none⟩:Addr).add 0) .i64 fun x_131 =>
ldS h_121 ((⟨r_111,0,none⟩:Addr).add 1) fun x_132 x_132n x_132c =>
ldS h_121 ((⟨r_111,0,none⟩:Addr).add 2) fun x_133 x_133n x_133c =>
C F_burinref0_EqDict #[.agg #[.int .i64 x_131, .slice x_132 x_132n x_132c, .slice x_133 x_133n x_133c], .agg #[.int .i64 0, .slice none 0 0, .slice none 0 0]] h_121 (fun v_134 h_135 =>
∃ (r_136:Bool),v_134 = .bool r_136/\(
K_122 [.bool (!r_136)] h_135)) (Kp))/\∀ (h_123:Heap) (u_124:Nat->Value) (x_137:Bool),K_122 [.bool x_137] h_123->(
bcase x_137 (
K (.bool false) h_123) <|
bindI (IntKind.i64.wrap (x_42+(1:Int))) fun z_138 =>
∃ m_38,m_38<n_39/\J_37 m_38 [.int .i64 z_138] h_123)) <|
ldI h_121 ((⟨r_111,0,none⟩:Addr).add 0) .i64 fun x_139 =>
ldS h_121 ((⟨r_111,0,none⟩:Addr).add 1) fun x_140 x_140n x_140c =>
ldS h_121 ((⟨r_111,0,none⟩:Addr).add 2) fun x_141 x_141n x_141c =>
ldS h_121 (((⟨r_7,0,none⟩:Addr).add 0).add 3) fun x_142 x_142n x_142c =>
C F_burinref13_Bad #[.agg #[.int .i64 x_139, .slice x_140 x_140n x_140c, .slice x_141 x_141n x_141c], .slice x_142 x_142n x_142c] h_121 (fun v_143 h_144 =>
∃ (r_145:Int),v_143 = .int .i64 r_145/\(
bcase (r_145 != (0:Int)) (
K (.bool false) h_144) <|
bindI (IntKind.i64.wrap (x_42+(1:Int))) fun z_146 =>
∃ m_38,m_38<n_39/\J_37 m_38 [.int .i64 z_146] h_144)) (Kp)))) (Kp))))) (Kp))/\(
newC h_68 [.int .i64 0, .slice none 0 0, .slice none 0 0] T_api_Dict fun r_147 h_148 =>
C F_burinref0_Copy #[.slice x_66 x_66n x_66c] h_148 (fun v_149 h_150 =>
∃ (r_151:Option Addr) (r_151n:Nat) (r_151c:Nat),v_149 = .slice r_151 r_151n r_151c/\(
hext h_148 h_150/\(
C F_dict_Decode #[.slice r_151 r_151n r_151c, .slice x_71 x_71n x_71c] h_150 (fun v_152 h_153 =>
∃ (r_154:Int) (r_155:Option Addr) (r_155n:Nat) (r_155c:Nat) (r_156:Option Addr) (r_156n:Nat) (r_156c:Nat),∃ (r_157:Int),v_152 = .tuple #[.agg #[.int .i64 r_154, .slice r_155 r_155n r_155c, .slice r_156 r_156n r_156c], .int .i64 r_157]/\(
hext h_150 h_153/\(
stV h_153 ((⟨r_147,0,none⟩:Addr).add 0) (.int .i64 r_154) fun h_158 =>
stV h_158 ((⟨r_147,0,none⟩:Addr).add 1) (.slice r_155 r_155n r_155c) fun h_159 =>
stV h_159 ((⟨r_147,0,none⟩:Addr).add 2) (.slice r_156 r_156n r_156c) fun h_160 =>
bcase (r_157 != (0:Int)) (
∃ K_161:List Value->Heap->Prop,(
bcase (r_157 != (130:Int)) (
bcase (r_157 != (120:Int)) (
K_161 [.bool true] h_160) <|
ldI h_160 ((⟨r_147,0,none⟩:Addr).add 0) .i64 fun x_164 =>
ldS h_160 ((⟨r_147,0,none⟩:Addr).add 1) fun x_165 x_165n x_165c =>
ldS h_160 ((⟨r_147,0,none⟩:Addr).add 2) fun x_166 x_166n x_166c =>
C F_burinref0_EqDict #[.agg #[.int .i64 x_164, .slice x_165 x_165n x_165c, .slice x_166 x_166n x_166c], .agg #[.int .i64 0, .slice none 0 0, .slice none 0 0]] h_160 (fun v_167 h_168 =>
∃ (r_169:Bool),v_167 = .bool r_169/\(
K_161 [.bool (!r_169)] h_168)) (Kp)) <|
ldI h_160 ((⟨r_147,0,none⟩:Addr).add 0) .i64 fun x_170 =>
ldS h_160 ((⟨r_147,0,none⟩:Addr).add 1) fun x_171 x_171n x_171c =>
ldS h_160 ((⟨r_147,0,none⟩:Addr).add 2) fun x_172 x_172n x_172c =>
C F_burinref0_EqDict #[.agg #[.int .i64 x_170, .slice x_171 x_171n x_171c, .slice x_172 x_172n x_172c], .agg #[.int .i64 0, .slice none 0 0, .slice none 0 0]] h_160 (fun v_173 h_174 =>
∃ (r_175:Bool),v_173 = .bool r_175/\(
K_161 [.bool (!r_175)] h_174)) (Kp))/\∀ (h_162:Heap) (u_163:Nat->Value) (x_176:Bool),K_161 [.bool x_176] h_162->(
bcase x_176 (
K (.bool false) h_162) <|
bindI (IntKind.i64.wrap (x_42+(1:Int))) fun z_177 =>
∃ m_38,m_38<n_39/\J_37 m_38 [.int .i64 z_177] h_162)) <|
ldI h_160 ((⟨r_147,0,none⟩:Addr).add 0) .i64 fun x_178 =>
ldS h_160 ((⟨r_147,0,none⟩:Addr).add 1) fun x_179 x_179n x_179c =>
ldS h_160 ((⟨r_147,0,none⟩:Addr).add 2) fun x_180 x_180n x_180c =>
ldS h_160 (((⟨r_7,0,none⟩:Addr).add 0).add 3) fun x_181 x_181n x_181c =>
C F_burinref13_Bad #[.agg #[.int .i64 x_178, .slice x_179 x_179n x_179c, .slice x_180 x_180n x_180c], .slice x_181 x_181n x_181c] h_160 (fun v_182 h_183 =>
∃ (r_184:Int),v_182 = .int .i64 r_184/\(
bcase (r_184 != (0:Int)) (
K (.bool false) h_183) <|
bindI (IntKind.i64.wrap (x_42+(1:Int))) fun z_185 =>
∃ m_38,m_38<n_39/\J_37 m_38 [.int .i64 z_185] h_183)) (Kp)))) (Kp)))) (Kp)))) (Kp)))) (Kp))) (Kp)) <|
C F_burinlaw13_wakes #[] h_40 (fun v_186 h_187 =>
∃ (r_188:Bool),v_186 = .bool r_188/\(
K (.bool r_188) h_187)) (Kp)) <|
C F_burinlaw13_wakes #[] h_40 (fun v_189 h_190 =>
∃ (r_191:Bool),v_189 = .bool r_191/\(
K (.bool r_191) h_190)) (Kp)) <|
C F_burinlaw13_wakes #[] h_40 (fun v_192 h_193 =>
∃ (r_194:Bool),v_192 = .bool r_194/\(
K (.bool r_194) h_193)) (Kp)))) (Kp))) (Kp))) (Kp)
end Go.Den.YtfaclehehhgpcaaGreat
namespace Go.Den.YtfaclehehhgpcaaGreat
open Go Go.Den
theorem call_burinlaw13_DictHurt {a0_1:Int} {a0_2:Option Addr} {a0_2n:Nat} {a0_2c:Nat} {a0_3:Option Addr} {a0_3n:Nat} {a0_3c:Nat} {a0_4:Option Addr} {a0_4n:Nat} {a0_4c:Nat} {a0_5:Option Addr} {a0_5n:Nat} {a0_5c:Nat} {a0_6:Option Addr} {a0_6n:Nat} {a0_6c:Nat} {h:Heap} {K:VK} {Kp:PK} (H:burinlaw13_DictHurt (CallsHP Go.Proofs.Tryz.prog) a0_1 a0_2 a0_2n a0_2c a0_3 a0_3n a0_3c a0_4 a0_4n a0_4c a0_5 a0_5n a0_5c a0_6 a0_6n a0_6c h K Kp):CallsHP Go.Proofs.Tryz.prog F_burinlaw13_DictHurt #[.agg #[.int .i64 a0_1, .slice a0_2 a0_2n a0_2c, .slice a0_3 a0_3n a0_3c, .slice a0_4 a0_4n a0_4c, .slice a0_5 a0_5n a0_5c, .slice a0_6 a0_6n a0_6c]] h K Kp :=
 callsHP_ofE (Hints.mk (fun i=>bif Nat.beq i 11 then some ([13], .take 0 <| .take 1 <| .take 2 <| .take 3 <| .take 4 <| .take 6 <| .take 8 <| .take 5 <| .take 7 <| .take 9 <| .take 10 <| .take 11 <| .take 12 <| .bar 13 [] <| .done) else (bif Nat.beq i 15 then some ([10], .take 0 <| .take 2 <| .take 3 <| .take 4 <| .alt 1 (.alt 5 (.take 6 <| .take 7 <| .take 8 <| .go 9 <| .bar 10 [] <| .take 11 <| .done) <| .go 9 <| .go 5 <| .take 6 <| .take 7 <| .take 8 <| .bar 10 [] <| .take 11 <| .done) <| .go 9 <| .go 1 <| .go 5 <| .take 6 <| .take 7 <| .take 8 <| .bar 10 [] <| .take 11 <| .done) else (none))) (fun i=>bif Nat.beq i 7 then some ([(5, .int .i64)],42535295865117307932921755560226849764) else (none)) (fun i=>bif Nat.beq i 14 then some ([(6, .slc)],9748777809372369664830603328) else (bif Nat.beq i 18 then some ([(118, .bool)],664451738615628723088511952129884160) else (none))) []) (by kernel_rfl) Go.Proofs.Tryz.func9 (by kernel_rfl) (fun C=>burinlaw13_DictHurt C a0_1 a0_2 a0_2n a0_2c a0_3 a0_3n a0_3c a0_4 a0_4n a0_4c a0_5 a0_5n a0_5c a0_6 a0_6n a0_6c h K Kp) (fun C=>by kernel_rfl) H
end Go.Den.YtfaclehehhgpcaaGreat
namespace Go.Bm
open Go Go.Den Go.Den.YtfaclehehhgpcaaGreat
open Go.Ar (u8s u8s_length idx wd_bytes)
theorem newC_x13 {h0 h:Heap} {F:List Nat} {L:List Ent} (H:Hp h0 F h L) {t:TypeId} {cs:List Value} {K:Nat->Heap->Prop} (hk:∀ r h',hext h h'->Hp h0 F h' (L++[⟨r,true,t,cs⟩])->K r h'):newC h cs t K:=hk _ _ (hext.push h _) (H.new t cs)
def IntsV (h:Heap) (q:Option Addr) (n:Nat):Prop:=∀ i,i<n->∃ a x,q=some a/\hcell h (a.add (i*1))=some (.int .i64 x)
theorem wd_intsV {h:Heap} {cs:List Value} (H:WDx TP h T_s_int cs):∃ q len cap,cs=[.slice q len cap]/\IntsV h q len/\len<140737488351300:=by
 obtain ⟨q,len,cap,rfl,h1,h2,_,h4⟩:=wd_slice Go.Proofs.Tryz.underlying76 H
 have kb:TP.bytesOf T_int=8:=by kernel_rfl
 have hrb:reachBytes=140737488351232:=rfl
 rw [kb] at h2
 refine ⟨q,len,cap,rfl,fun i hi=>?_,by omega⟩
 obtain ⟨a,cs',ha,hr,hd⟩:=h4 i hi
 rw [k_int] at hr
 obtain ⟨x,e0,_⟩:=wd_int Go.Proofs.Tryz.underlying3 hd
 subst e0
 have c0:=hr.2 0 _ rfl
 rw [Go.Ar.add_add',Nat.add_zero] at c0
 exact ⟨a,x,ha,c0⟩
section
variable {hB h:Heap} {K:VK} {Kp:PK}
set_option maxHeartbeats 8000000 in
theorem dHurt_tail {r7 r81 i n:Nat} {t er:Int} {new imp:List Bmp} {ex:List Bool} {qn qe q3:Option Addr} {cn ce c3:Nat} {R7:List Value} {J RN RE:List Ent} {Jv:Nat->List Value->Heap->Prop} (h7:R7[3]? = some (.slice q3 imp.length c3)) (hi:i<1000)
  (hP:(er=0/\chkD t new ex.length imp=0)\/((er=130\/er=120)/\t=0/\new=[]/\ex=[])) (hmay:imp.length<=200) (v3:BmsV hB q3 imp) (hL:ListO RN qn cn new) (hs:Slot T_bool 1 RE qe ex.length ce (bls ex))
  (H:Hp hB [] h ([⟨r81,true,T_api_Dict,[.int .i64 0, .slice none 0 0, .slice none 0 0]⟩,⟨r7,true,T_burinlaw13_Hurt,R7⟩]++(J++(RN++RE)))) (hnext:∀ h',Hp hB [] h' ([⟨r7,true,T_burinlaw13_Hurt,R7⟩]++J)->∃ m,m<n/\Jv m [.int .i64 ((i+1:Nat):Int)] h') :
   stV h ((⟨r81,0,none⟩:Addr).add 0) (.int .i64 t) fun h_158 =>
   stV h_158 ((⟨r81,0,none⟩:Addr).add 1) (.slice qn new.length cn) fun h_159 =>
   stV h_159 ((⟨r81,0,none⟩:Addr).add 2) (.slice qe ex.length ce) fun h_160 =>
   bcase (er != (0:Int)) (
   ∃ K_161:List Value->Heap->Prop,(
   bcase (er != (130:Int)) (
   bcase (er != (120:Int)) (
   K_161 [.bool true] h_160) <|
   ldI h_160 ((⟨r81,0,none⟩:Addr).add 0) .i64 fun x_164 =>
   ldS h_160 ((⟨r81,0,none⟩:Addr).add 1) fun x_165 x_165n x_165c =>
   ldS h_160 ((⟨r81,0,none⟩:Addr).add 2) fun x_166 x_166n x_166c =>
   CP F_burinref0_EqDict #[.agg #[.int .i64 x_164, .slice x_165 x_165n x_165c, .slice x_166 x_166n x_166c], .agg #[.int .i64 0, .slice none 0 0, .slice none 0 0]] h_160 (fun v_167 h_168 =>
   ∃ (r_169:Bool),v_167 = .bool r_169/\(
   K_161 [.bool (!r_169)] h_168)) (Kp)) <|
   ldI h_160 ((⟨r81,0,none⟩:Addr).add 0) .i64 fun x_170 =>
   ldS h_160 ((⟨r81,0,none⟩:Addr).add 1) fun x_171 x_171n x_171c =>
   ldS h_160 ((⟨r81,0,none⟩:Addr).add 2) fun x_172 x_172n x_172c =>
   CP F_burinref0_EqDict #[.agg #[.int .i64 x_170, .slice x_171 x_171n x_171c, .slice x_172 x_172n x_172c], .agg #[.int .i64 0, .slice none 0 0, .slice none 0 0]] h_160 (fun v_173 h_174 =>
   ∃ (r_175:Bool),v_173 = .bool r_175/\(
   K_161 [.bool (!r_175)] h_174)) (Kp))/\∀ (h_162:Heap) (u_163:Nat->Value) (x_176:Bool),K_161 [.bool x_176] h_162->(
   bcase x_176 (
   K (.bool false) h_162) <|
   bindI (IntKind.i64.wrap (((i:Nat):Int)+(1:Int))) fun z_177 =>
   ∃ m_38,m_38<n/\Jv m_38 [.int .i64 z_177] h_162)) <|
   ldI h_160 ((⟨r81,0,none⟩:Addr).add 0) .i64 fun x_178 =>
   ldS h_160 ((⟨r81,0,none⟩:Addr).add 1) fun x_179 x_179n x_179c =>
   ldS h_160 ((⟨r81,0,none⟩:Addr).add 2) fun x_180 x_180n x_180c =>
   ldS h_160 (((⟨r7,0,none⟩:Addr).add 0).add 3) fun x_181 x_181n x_181c =>
   CP F_burinref13_Bad #[.agg #[.int .i64 x_178, .slice x_179 x_179n x_179c, .slice x_180 x_180n x_180c], .slice x_181 x_181n x_181c] h_160 (fun v_182 h_183 =>
   ∃ (r_184:Int),v_182 = .int .i64 r_184/\(
   bcase (r_184 != (0:Int)) (
   K (.bool false) h_183) <|
   bindI (IntKind.i64.wrap (((i:Nat):Int)+(1:Int))) fun z_185 =>
   ∃ m_38,m_38<n/\Jv m_38 [.int .i64 z_185] h_183)) (Kp):=by
 refine stA H 0 rfl rfl rfl fun h H=>?_
 refine stA H 0 rfl rfl rfl fun h H=>?_
 refine stA H 0 rfl rfl rfl fun h H=>?_
 have H:Hp hB [] h ([⟨r81,true,T_api_Dict,[.int .i64 t, .slice qn new.length cn, .slice qe ex.length ce]⟩]++(([⟨r7,true,T_burinlaw13_Hurt,R7⟩]++J)++(RN++RE))):=H.as (by simp only [List.append_assoc,List.cons_append,List.nil_append,List.set])
 have nx:∀ {h:Heap},Hp hB [] h ([⟨r81,true,T_api_Dict,[.int .i64 t, .slice qn new.length cn, .slice qe ex.length ce]⟩]++(([⟨r7,true,T_burinlaw13_Hurt,R7⟩]++J)++(RN++RE)))->bindI (IntKind.i64.wrap (((i:Nat):Int)+(1:Int))) fun z_177=>∃ m_38,m_38<n/\Jv m_38 [.int .i64 z_177] h:=fun H=>by
  refine bindI_of (((i+1:Nat):Int)) (by exact i64_at _ _ (by omega) (by omega) (by omega)) ?_
  exact hnext _ (Hp.pre (Hp.suf H))
 rcases hP with ⟨rfl,hc⟩ | ⟨her,rfl,rfl,rfl⟩
 ·obtain ⟨⟨hf1,hf2,hf3,hf4,hf5⟩,hf6,hf7⟩:=chkD_zero hc
  refine bcase_ne (fun hh=>absurd rfl hh) fun _=>?_
  refine ldI_of (hpA H 0 rfl rfl) (ldS_of (hpA H 0 rfl rfl) (ldS_of (hpA H 0 rfl rfl) ?_))
  refine ldS_of (hpB H 1 rfl h7) ?_
  refine bad13_ok (hL.view H fun e he=>by simp [he]) (v3.ext H.hext) (by omega) (by omega) fun h' e=>?_
  have H:=H.ext e
  refine ⟨_,rfl,?_⟩
  refine bcase_ne (fun hh=>absurd hc hh) fun _=>?_
  exact nx H
 ·refine bcase_ne (fun _=>?_) fun hh=>by omega
  have v1:BmsV h qn []:=fun i b hi=>by simp at hi
  have v1':BmsV h none []:=fun i b hi=>by simp at hi
  have v2:FlsV h qe []:=Slot.rdO' hs H fun e he=>by simp [he]
  have v2':FlsV h none []:=rfl
  refine ⟨fun vs h'=>vs=[.bool false]/\Hp hB [] h' ([⟨r81,true,T_api_Dict,[.int .i64 0, .slice qn ([]:List Bmp).length cn, .slice qe ([]:List Bool).length ce]⟩]++(([⟨r7,true,T_burinlaw13_Hurt,R7⟩]++J)++(RN++RE))),?_,?_⟩
  ·have eqd:∀ {K1:VK},(∀ h',hext h h'->K1 (.bool true) h')->CP F_burinref0_EqDict #[.agg #[.int .i64 0, .slice qn ([]:List Bmp).length cn, .slice qe ([]:List Bool).length ce], .agg #[.int .i64 0, .slice none 0 0, .slice none 0 0]] h K1 Kp:=fun hk1=>eqDict_ok (new:=[]) (ex:=[]) v1 v1' v2 v2' (Nat.zero_le _) (Nat.zero_le _) hk1
   refine bcase_ne (fun h1=>?_) fun h1=>?_
   ·refine bcase_ne (fun h2=>by omega) fun h2=>?_
    refine ldI_of (hpA H 0 rfl rfl) (ldS_of (hpA H 0 rfl rfl) (ldS_of (hpA H 0 rfl rfl) ?_))
    exact eqd fun h' e=>⟨_,rfl,rfl,H.ext e⟩
   ·refine ldI_of (hpA H 0 rfl rfl) (ldS_of (hpA H 0 rfl rfl) (ldS_of (hpA H 0 rfl rfl) ?_))
    exact eqd fun h' e=>⟨_,rfl,rfl,H.ext e⟩
  ·rintro h' u x ⟨hx,H⟩
   injection hx with hx
   injection hx with hx
   subst hx
   refine bcase_of (fun hh=>by cases hh) fun _=>?_
   exact nx H
end
section
variable {hB:Heap} {K:VK} {Kp:PK}
set_option maxHeartbeats 8000000 in
theorem dHurt_law {t:Int} {new imp:List Bmp} {ex:List Bool} {q1 q2 q3 qa qb:Option Addr} {c1 c2 c3 na ca cb:Nat} {by_:List Nat} (v1:BmsV hB q1 new) (v2:FlsV hB q2 ex) (v3:BmsV hB q3 imp) (hl1:new.length<=4000000000000) (hl3:imp.length<=4000000000000) (hlc:new.length<=c1)
  (va:IntsV hB qa na) (vb:rdO hB qb (by_.length*1) (u8s by_)) (hb8:∀ x∈by_,x<256) (hk:∀ h',hext hB h'->K (.bool true) h') :
  CP F_burinlaw13_DictHurt #[.agg #[.int .i64 t, .slice q1 new.length c1, .slice q2 ex.length c2, .slice q3 imp.length c3, .slice qa na ca, .slice qb by_.length cb]] hB K Kp:=by
 refine call_burinlaw13_DictHurt ?_
 unfold burinlaw13_DictHurt
 have H:=Hp.nil hB []
 refine newC_hp H fun r7 h H=>?_
 obtain ⟨R7,hR7⟩:∃ R7:List Value,R7=[.int .i64 t, .slice q1 new.length c1, .slice q2 ex.length c2, .slice q3 imp.length c3, .slice qa na ca, .slice qb by_.length cb]:=⟨_,rfl⟩
 obtain ⟨Z,hZ⟩:∃ Z:Ent,Z=⟨r7,true,T_burinlaw13_Hurt,R7⟩:=⟨_,rfl⟩
 have H:Hp hB [] h [Z]:=by rw [hZ,hR7]; exact H
 have Hz:=H
 rw [hZ,hR7] at Hz
 refine ldS_of (hpC Hz 0 rfl rfl) ?_
 refine light13_ok (v1.ext H.hext) hl1 fun bb h1 hbb e1=>?_
 have H:=H.ext e1
 refine ⟨_,rfl,?_⟩
 refine bcase_not (fun _=>wakes13_ok fun h' e=>⟨_,rfl,hk _ (H.hext.trans e)⟩) fun h5=>?_
 obtain ⟨n1,n2⟩:=hbb h5
 have Hz:=H
 rw [hZ,hR7] at Hz
 refine ldS_of (hpB Hz 0 rfl rfl) ?_
 refine light13_ok (v3.ext H.hext) hl3 fun bb h1 hbb e1=>?_
 have H:=H.ext e1
 refine ⟨_,rfl,?_⟩
 refine bcase_not (fun _=>wakes13_ok fun h' e=>⟨_,rfl,hk _ (H.hext.trans e)⟩) fun h5=>?_
 obtain ⟨m1,m2⟩:=hbb h5
 have Hz:=H
 rw [hZ,hR7] at Hz
 refine ldI_of (hpC Hz 0 rfl rfl) (ldS_of (hpC Hz 0 rfl rfl) (ldS_of (hpC Hz 0 rfl rfl) (ldS_of (hpB Hz 0 rfl rfl) ?_)))
 clear Hz
 refine dEnc_ok (v1.ext H.hext) (v3.ext H.hext) (v2.ext H.hext) (by omega) (by omega) hlc fun D qo co h' hs H'=>?_
 have H:=H.join H' hs.w
 clear H'
 refine ⟨_,_,_,_,rfl,?_⟩
 refine bcase_ne (fun hc=>?_) fun hc=>?_
 ·refine bcase_ne (fun _=>?_) fun hh=>absurd hh hc
  exact wakes13_ok fun h' e=>⟨_,rfl,hk _ (H.hext.trans e)⟩
 obtain ⟨T,hT⟩:∃ T:Nat,t=(T:Int):=⟨t.toNat,by have:=(chkD_zero hc).1.2.2.1; omega⟩
 have hcT:chkD (T:Nat) new ex.length imp=0:=by rw [<- hT]; exact hc
 have hE:encD t new ex imp=dicB T new ex:=by rw [hT]; exact encD_ok hcT
 rw [hE] at hs ⊢
 have hbR:=dicB_lt hcT
 have hbS:=(dicB_len (t:=T) (ex:=ex) (chkD_zero hc).1.2.1 (by have:=(chkD_zero hc).2.1; omega) (by have:=(chkD_zero hc).1.2.2.2.1; have:=(chkD_zero hc).2.1; omega) (chkD_zero hc).2.2).1
 have hb1:1<=(dicB T new ex).length:=by unfold dicB; simp
 generalize dicB T new ex=B at hs hbR hbS hb1 ⊢
 refine bcase_eq (fun hh=>by omega) fun _=>?_
 refine ⟨fun n vs h'=>∃ i:Nat,i+n=12/\vs=[.int .i64 (i:Nat)]/\Hp hB [] h' ([Z]++D),⟨12,0,rfl,rfl,H⟩,?_⟩
 clear H
 rintro n h u xi ⟨i,hin,hxx,H⟩
 injection hxx with hxx
 injection hxx with _ hxx
 subst xi
 have wk:CP F_burinlaw13_wakes #[] h (fun v_186 h_187=>∃ (r_188:Bool),v_186 = .bool r_188/\(K (.bool r_188) h_187)) Kp:=wakes13_ok fun h' e=>⟨_,rfl,hk _ (H.hext.trans e)⟩
 have Hz:=H
 rw [hZ,hR7] at Hz
 refine ldS_of (hpA Hz 0 rfl rfl) ?_
 refine bcase_dec (fun h3=>?_) fun h3=>wk
 refine ldS_of (hpA Hz 0 rfl rfl) ?_
 refine bcase_dec (fun h4=>?_) fun h4=>wk
 refine bcase_dec (fun h5=>?_) fun h5=>wk
 clear wk Hz
 have h3:i<na:=by omega
 have h4:i<by_.length:=by omega
 refine copy_ok (Slot.rdO' hs H fun e he=>List.mem_append_right _ he) (by omega) fun D2 q' c' h' hs2 H'=>?_
 have H:=H.join H' hs2.w
 clear H'
 refine ⟨_,_,_,rfl,?_⟩
 obtain ⟨hs2l,⟨_,_,hh,_⟩ | ⟨b,rest,rfl,rfl,hcl⟩⟩:=hs2
 ·omega
 rw [Nat.mul_one] at hcl
 have hcl2:=hcl
 rw [List.length_append,u8s_length] at hcl2
 have Hz:=H
 rw [hZ,hR7] at Hz
 refine ldS_of (hpA Hz 0 rfl rfl) ?_
 obtain ⟨a,x,hqa,hca⟩:=va i h3
 refine needs_of (by omega) (ptr_at hqa ?_)
 rw [Int.toNat_natCast]
 refine ldI_of (H.fr.cell (by simp) hca) ?_
 refine Go.Ar.within_ok hb1 (by omega) ?_
 refine ⟨_,rfl,?_⟩
 have hat:idx x B.length<B.length:=by
  have h0:=Int.emod_nonneg x (b:=(B.length:Int)) (by omega)
  have h1:=Int.emod_lt_of_pos x (b:=(B.length:Int)) (by omega)
  unfold idx
  omega
 generalize idx x B.length=at_ at *
 obtain ⟨x0,hx0⟩:∃ x0,B[at_]? = some x0:=⟨_,List.getElem?_eq_getElem hat⟩
 have hx08:=hbR.b8 x0 (List.mem_of_getElem? hx0)
 refine needs_of (by omega) (ptr_of (a:=⟨b,0,none⟩) ?_)
 rw [Int.toNat_natCast]
 have HR:Hp hB [] h' (⟨b,true,T_uint8,u8s B++rest⟩::([Z]++D)):=Hp.rot (Y:=[⟨b,true,T_uint8,u8s B++rest⟩]) H
 have hcell0:(u8s B++rest)[0+at_*1]? = some (.int .u8 (x0:Nat)):=by
  rw [Nat.zero_add,Nat.mul_one,List.getElem?_append_left (by rw [u8s_length]; exact hat)]
  unfold u8s
  rw [List.getElem?_map,hx0]
  rfl
 refine ldI_of (hpA HR 0 rfl hcell0) ?_
 refine ldS_of (hpA Hz 0 rfl rfl) ?_
 obtain ⟨y,hy⟩:∃ y,by_[i]? = some y:=⟨_,List.getElem?_eq_getElem h4⟩
 have hy8:=hb8 y (List.mem_of_getElem? hy)
 obtain ⟨a2,hqb,hcb⟩:=rdO_cell (H.rdO vb) (i:=i) (v := .int .u8 (y:Nat)) (by unfold u8s; rw [List.getElem?_map,hy]; rfl)
 refine needs_of (by omega) (ptr_at hqb ?_)
 rw [Nat.mul_one]
 refine ldI_of hcb ?_
 refine bindI_of (((x0 ^^^ y:Nat):Int)) (by exact xor8 _ _ hx08 hy8) ?_
 refine needs_of (by omega) (ptr_of (a:=⟨b,0,none⟩) ?_)
 have hxy:x0 ^^^ y<256:=Nat.xor_lt_two_pow (n:=8) hx08 hy8
 refine stA HR 0 rfl (Nat.ble_eq_true_of_le (by rw [List.length_append,u8s_length]; omega)) rfl fun h HR=>?_
 have hB':(u8s B++rest).set (0+at_*1) (.int .u8 ((x0 ^^^ y:Nat):Int))=u8s (B.set at_ (x0 ^^^ y))++rest:=by
  rw [Nat.zero_add,Nat.mul_one,List.set_append_left _ _ (by rw [u8s_length]; exact hat)]
  unfold u8s
  rw [List.map_set]
 have HR:Hp hB [] h (⟨b,true,T_uint8,u8s (B.set at_ (x0 ^^^ y))++rest⟩::([Z]++D)):=HR.as (by rw [<- hB']; rfl)
 obtain ⟨B2,hB2⟩:∃ B2,B2=B.set at_ (x0 ^^^ y):=⟨_,rfl⟩
 rw [<- hB2] at HR
 have hB2l:B2.length=B.length:=by rw [hB2,List.length_set]
 have hB28:∀ z∈B2,z<256:=fun z hz=>by
  rw [hB2] at hz
  rcases List.mem_or_eq_of_mem_set hz with hz | rfl
  ·exact hbR.b8 z hz
  ·exact hxy
 obtain ⟨W,hW⟩:∃ W:Ent,W=⟨b,true,T_uint8,u8s B2++rest⟩:=⟨_,rfl⟩
 have hrd:rdO h (some ⟨b,0,none⟩) (B2.length*1) (u8s B2):=Hp.rdO_mem (rest:=rest) HR (List.mem_cons_self ..) (by rw [u8s_length,Nat.mul_one])
 have H:Hp hB [] h ([Z]++(D++[W])):=by
  rw [hW]
  exact Hp.asc (Hp.rot (X:=[⟨b,true,T_uint8,u8s B2++rest⟩]) (Y:=[Z]++D) HR)
 clear HR Hz
 refine ⟨fun vs h'=>∃ (bb:List Nat) (qq:Option Addr) (cc:Nat),vs=[.slice qq bb.length cc]/\RdB bb/\bb.length<=100000000/\rdO h' qq (bb.length*1) (u8s bb)/\Hp hB [] h' ([Z]++(D++[W])),?_,?_⟩
 ·refine bindI_of (((i % 3:Nat):Int)) (by exact tmod_nat i 3) ?_
  refine bcase_eq (fun _=>?_) fun _=>?_
  ·refine needs_of (by omega) ?_
   have hbl:(B2.take at_).length=at_:=by rw [List.length_take]; omega
   refine ⟨B2.take at_,subA (some ⟨b,0,none⟩) c' 0 1,c'-0,?_,⟨fun z hz=>hB28 z (List.mem_of_mem_take hz),by omega⟩,by omega,?_,H⟩
   ·rw [hbl,Nat.sub_zero]
   ·have h1:=rdO_drop (i:=0) (c:=c') hrd (Nat.zero_le _) (by omega)
    rw [List.drop_zero] at h1
    have h2:=rdO_take h1 (m:=(B2.take at_).length*1) (by rw [hbl]; omega)
    have h3:(u8s B2).take ((B2.take at_).length*1)=u8s (B2.take at_):=by rw [hbl,Nat.mul_one]; simp [u8s,List.map_take]
    rw [h3] at h2
    exact h2
  ·exact ⟨B2,some ⟨b,0,none⟩,c',by rw [hB2l],⟨hB28,by omega⟩,by omega,hrd,H⟩
 clear H hrd
 rintro h u xq xn xc ⟨bb,qq,cc,hxx,hbb,hbbl,hrd,H⟩
 injection hxx with hxx
 injection hxx with hx1 hx2 hx3
 subst xq xn xc
 refine small_ok hrd fun rs _=>?_
 refine ⟨_,rfl,?_⟩
 have next:∀ {h':Heap} {J:List Ent},Hp hB [] h' ([Z]++(D++J))->∃ m,m<n/\∃ i':Nat,i'+m=12/\[Value.int .i64 ((i+1:Nat):Int)]=[.int .i64 (i':Nat)]/\Hp hB [] h' ([Z]++D):=fun {h' J} H=>⟨n-1,by omega,i+1,by omega,rfl,Hp.pre H.asc'⟩
 refine bcase_not (fun _=>?_) fun _=>?_
 ·refine bindI_of (((i+1:Nat):Int)) (by exact i64_at _ _ (by omega) (by omega) (by omega)) ?_
  exact next H
 have Hz:=H
 rw [hZ,hR7] at Hz
 refine ldS_of (hpB Hz 0 rfl rfl) ?_
 clear Hz
 have dec:∀ {h:Heap} {L D3:List Ent} {qd:Option Addr} {cd ci:Nat} {K1:VK} {Kp1:PK},Hp hB [] h (L++D3)->Slot T_uint8 1 D3 qd bb.length cd (u8s bb) ->
   (∀ er t2 new2 ex2 RN qn cn RE qe ce h',((er=0/\chkD t2 new2 (List.length ex2) imp=0)\/((er=130\/er=120)/\t2=0/\new2=[]/\ex2=[]))->ListO RN qn cn new2->Slot T_bool 1 RE qe ex2.length ce (bls ex2)->Hp h [] h' (RN++RE)->K1 (.tuple #[.agg #[.int .i64 t2, .slice qn new2.length cn, .slice qe ex2.length ce], .int .i64 er]) h') ->
   CP F_dict_Decode #[.slice qd bb.length cd, .slice q3 imp.length ci] h K1 Kp1:=fun {h L D3 qd cd ci K1 Kp1} H hs3 hk1=>by
  refine dDec_ok hbb (Slot.rdO' hs3 H fun e he=>List.mem_append_right _ he) (Slot.cap hs3) (v3.ext H.hext) (by omega) (fun t2 new2 ex2 RN qn cn RE qe ce h2 hd hM hL hsE H'=>?_) fun er h2 hd her e=>?_
  ·exact hk1 0 t2 new2 ex2 RN qn cn RE qe ce h2 (.inl ⟨rfl,decD_good hd hM⟩) hL hsE H'
  ·exact hk1 er 0 [] [] [] none 0 [] none 0 h2 (.inr ⟨her,rfl,rfl,rfl⟩) ListO.nil (Slot.nil _ _) ((Hp.nil h []).ext e)
 have hRw:∀ {RN RE:List Ent} {qn qe:Option Addr} {cn ce:Nat} {new2:List Bmp} {ex2:List Bool},ListO RN qn cn new2->Slot T_bool 1 RE qe ex2.length ce (bls ex2)->(RN++RE).all Ent.w=true:=fun h1 h2=>by rw [List.all_append,h1.w,h2.w]; rfl
 have turn:∀ {h:Heap} {r42:Nat} {D3 RN RE:List Ent},Hp hB [] h ([⟨r42,true,T_api_Dict,[.int .i64 0, .slice none 0 0, .slice none 0 0]⟩]++(([Z]++(D++[W]))++(D3++(RN++RE)))) ->
   Hp hB [] h ([⟨r42,true,T_api_Dict,[.int .i64 0, .slice none 0 0, .slice none 0 0]⟩,Z]++((D++([W]++D3))++(RN++RE))):=fun H=>H.as (by simp only [List.append_assoc,List.cons_append,List.nil_append])
 have fin:∀ {h':Heap} {D3:List Ent},Hp hB [] h' ([Z]++(D++([W]++D3)))->∃ m,m<n/\(fun n vs h'=>∃ i:Nat,i+n=12/\vs=[Value.int .i64 (i:Nat)]/\Hp hB [] h' ([Z]++D)) m [.int .i64 ((i+1:Nat):Int)] h':=fun H=>next H
 have h7:R7[3]? = some (.slice q3 imp.length c3):=by rw [hR7]; rfl
 subst hZ
 refine ⟨?_,?_⟩
 ·refine copy_ok hrd (by omega) fun D3 q' c' h' hs3 H'=>?_
  have e9:=H'.hext
  have H:=H.join H' hs3.w
  clear H'
  refine ⟨_,_,_,rfl,e9,?_⟩
  refine ⟨?_,?_⟩
  ·refine dec H hs3 fun er t2 new2 ex2 RN qn cn RE qe ce h' hP hL hsE H'=>?_
   have e9:=H'.hext
   have H:=H.join H' (hRw hL hsE)
   clear H'
   refine ⟨_,_,_,_,_,_,_,_,rfl,e9,?_⟩
   refine newC_hp H fun r42 h H=>?_
   have H:Hp hB [] h ([⟨r42,true,T_api_Dict,[.int .i64 0, .slice none 0 0, .slice none 0 0]⟩]++(([⟨r7,true,T_burinlaw13_Hurt,R7⟩]++(D++[W]))++(D3++(RN++RE)))):=H.rot.as (by simp only [List.append_assoc])
   exact dHurt_tail (i:=i) (n:=n) (Jv:=fun n vs h'=>∃ i:Nat,i+n=12/\vs=[Value.int .i64 (i:Nat)]/\Hp hB [] h' ([⟨r7,true,T_burinlaw13_Hurt,R7⟩]++D)) (J:=D++([W]++D3)) h7 (by omega) hP m1 v3 hL hsE (turn H) fun h' H=>fin H
  ·refine newC_hp H fun r42 h H=>?_
   have H:=Hp.swap H
   refine dec H hs3 fun er t2 new2 ex2 RN qn cn RE qe ce h' hP hL hsE H'=>?_
   have e9:=H'.hext
   have H:=H.join H' (hRw hL hsE)
   clear H'
   refine ⟨_,_,_,_,_,_,_,_,rfl,e9,?_⟩
   have H:=(H.as (List.append_assoc _ _ _))
   exact dHurt_tail (i:=i) (n:=n) (Jv:=fun n vs h'=>∃ i:Nat,i+n=12/\vs=[Value.int .i64 (i:Nat)]/\Hp hB [] h' ([⟨r7,true,T_burinlaw13_Hurt,R7⟩]++D)) (J:=D++([W]++D3)) h7 (by omega) hP m1 v3 hL hsE (turn (Hp.swap H).rot) fun h' H=>fin H
 ·refine newC_x13 H fun r42 h2 e2 H=>?_
  refine copy_ok (rdO_ext e2 hrd) (by omega) fun D3 q' c' h' hs3 H'=>?_
  have e9:=H'.hext
  have H:=H.join H' hs3.w
  clear H'
  refine ⟨_,_,_,rfl,e9,?_⟩
  refine dec H hs3 fun er t2 new2 ex2 RN qn cn RE qe ce h' hP hL hsE H'=>?_
  have e9:=H'.hext
  have H:=H.join H' (hRw hL hsE)
  clear H'
  refine ⟨_,_,_,_,_,_,_,_,rfl,e9,?_⟩
  have H:=(H.as (List.append_assoc _ _ _))
  exact dHurt_tail (i:=i) (n:=n) (Jv:=fun n vs h'=>∃ i:Nat,i+n=12/\vs=[Value.int .i64 (i:Nat)]/\Hp hB [] h' ([⟨r7,true,T_burinlaw13_Hurt,R7⟩]++D)) (J:=D++([W]++D3)) h7 (by omega) hP m1 v3 hL hsE (turn (Hp.swap H).rot) fun h' H=>fin H
end
theorem wd_hurt {h:Heap} {cs:List Value} (H:WDx TP h T_burinlaw13_Hurt cs):∃ t q1 c1 q2 c2 q3 c3 qa na ca qb cb,∃ new:List Bmp,∃ ex:List Bool,∃ imp:List Bmp,∃ by_:List Nat,cs=[.int .i64 t, .slice q1 new.length c1, .slice q2 ex.length c2, .slice q3 imp.length c3, .slice qa na ca, .slice qb by_.length cb] /\
  BmsV h q1 new/\FlsV h q2 ex/\BmsV h q3 imp/\new.length<=4000000000000/\imp.length<=4000000000000/\new.length<=c1/\IntsV h qa na/\rdO h qb (by_.length*1) (u8s by_)/\∀ x∈by_,x<256:=by
 obtain ⟨hl,hf⟩:=wd_struct Go.Proofs.Tryz.underlying78 H
 have k:TP.cellsOf T_burinlaw13_Hurt=6:=by kernel_rfl
 rw [k] at hl
 obtain ⟨w0,w1,w2,w3,w4,w5,rfl⟩:=list6 hl
 have kd:TP.cellsOf T_burinlaw13_Ask=4:=by kernel_rfl
 have k1:TP.cellsOf T_s_int=1:=by kernel_rfl
 have k2:TP.cellsOf T_s_uint8=1:=by kernel_rfl
 have f0:WDx TP h T_burinlaw13_Ask (([w0,w1,w2,w3,w4,w5].drop 0).take (TP.cellsOf T_burinlaw13_Ask)):=hf 0 _ rfl
 rw [kd] at f0
 obtain ⟨t,q1,c1,q2,c2,q3,c3,new,ex,imp,e0,g1,g2,g5,g3,g4,g6,i0,g7⟩:=wd_ask13 f0
 obtain ⟨qa,na,ca,e1,g8,_⟩:=wd_intsV (one_of k1 (hf 1 _ rfl) (v:=w4) rfl)
 obtain ⟨qb,cb,by_,e2,_,_,_,g9,g10⟩:=wd_bytes (one_of k2 (hf 2 _ rfl) (v:=w5) rfl)
 simp only [List.drop_zero,List.take_succ_cons,List.take_zero,List.cons.injEq,and_true] at e0 e1 e2
 obtain ⟨e00,e01,e02,e03⟩:=e0
 subst e00 e01 e02 e03 e1 e2
 exact ⟨t,q1,c1,q2,c2,q3,c3,qa,na,ca,qb,cb,new,ex,imp,by_,rfl,g1,g2,g5,g3,g6,g7,g8,g9,g10⟩
theorem dHurt_arg {h:Heap} {cs:Array Value} (hsz:cs.size=TP.cellsOf T_burinlaw13_Hurt) (hw:WDx TP h T_burinlaw13_Hurt cs.toList) {K:VK} {Kp:PK} (hk:∀ h',hext h h'->K (.bool true) h') :
  CP F_burinlaw13_DictHurt #[.agg cs] h K Kp:=by
 obtain ⟨t,q1,c1,q2,c2,q3,c3,qa,na,ca,qb,cb,new,ex,imp,by_,e,g1,g2,g3,g4,g5,g6,g7,g8,g9⟩:=wd_hurt hw
 have hcs:cs=#[.int .i64 t, .slice q1 new.length c1, .slice q2 ex.length c2, .slice q3 imp.length c3, .slice qa na ca, .slice qb by_.length cb]:=by rw [<- e]
 subst hcs
 exact dHurt_law g1 g2 g3 g4 g5 g6 g7 g8 g9 hk
end Go.Bm
namespace Go.Proofs.YtfaclehehhgpcaaGreat
open Go.ChangeShapes Go.WideShapes Go.ChangeAt Go.RowKit
theorem own:ownKnob Tryz.prog.godebug=none:=by kernel_rfl
theorem laidOut:laidOutB Tryz.prog=true:=by kernel_rfl
theorem below_of {W W':World} (hk:Go.Den.keeps W W') (h:Go.Den.hext W.heap W'.heap):Below W.heap.size W W' :=
 ⟨hk.1,hk.2.1,hk.2.2,h.1,fun k hlt=>h.2 k hlt⟩
theorem walk_of {f:FuncId} {args:Array Value} {W:World}
  (h:Calls Tryz.prog f args W fun e w'=>Go.Den.keeps W w'/\match e with
   | .returned v=>v = .bool true/\Go.Den.hext W.heap w'.heap
   | .panicked c=>False
   | .outgrown=>False):Calls Tryz.prog f args W fun e W'=>e = .returned (.bool true)/\Below W.heap.size W W':=by
 refine h.mono fun e W' he=>?_
 obtain ⟨hk,he⟩:=he
 cases e with
 | returned v=>exact ⟨by rw [he.1],below_of hk he.2⟩
 | panicked c=>exact he.elim
 | outgrown=>exact he.elim
end Go.Proofs.YtfaclehehhgpcaaGreat
namespace Go.Proofs.YtfaclehehhgpcaaGreat
open Go.ChangeShapes Go.WideShapes Go.ChangeAt Go.RowKit
theorem dictHurt_walk (W:World) {cs:Array Value} (hsz:cs.size=Tryz.prog.cellsOf 78) (hw:Go.Den.WDx Tryz.prog W.heap 78 cs.toList):Calls Tryz.prog 9 #[.agg cs] W fun e W'=>e = .returned (.bool true)/\Below W.heap.size W W' :=
 walk_of ((Go.Bm.dHurt_arg (h:=W.heap) (K:=fun v h'=>v = .bool true/\Go.Den.hext W.heap h') (Kp:=fun _ _=>False) hsz hw fun h' e=>⟨rfl,e⟩).2 W rfl)
theorem dictHurt_lifted (os:Os) (started:os.Started) (H:Type) (enc:TypeId × Value->H) :
  ReturnsInHanded {} Tryz.checked os 9 .any (Rows.dictHurtSpec.pre6 enc Tryz.prog Tryz.f9 Rows.dictHurtRow.domain false) (Rows.dictHurtSpec.post enc Tryz.prog Tryz.f9 false true false false):=by
 refine returnsInHanded_of_change_sized (C:=Tryz.checked) own started (by kernel_rfl) Tryz.func9
  (ChangeSpec.witness6 (enc:=enc) (C:=Tryz.checked) false ⟨#[],#[.agg #[.int .i64 0, .slice none 0 0, .slice none 0 0, .slice none 0 0, .slice none 0 0, .slice none 0 0]],[]⟩ 8 (by kernel_rfl) (by kernel_rfl) (by kernel_rfl) (by kernel_rfl)) ?_
 intro W base args ds gs before hval0 hW hcnd hz _
 have hval:∀ (j:Nat) t v,Tryz.f9.params[j]? = some t->args[j]? = some v->Value.okWide Tryz.prog W .any base t v:=hval0
 have hz:∀ n∈DataW.weightsEach Tryz.prog (Tryz.f9.params.toList++Rows.dictHurtSpec.plain.varTypes Tryz.prog) (ds++gs),n<=reachBytes:=fun n hn=>by simpa using List.all_eq_true.1 hz n hn
 have hW':=hW
 obtain ⟨p,q,hA0,hV,rfl,hfz,hnd⟩:=hW
 have hA:DataW.TrodAll enc Tryz.prog W 0 (fun _=>true) true Tryz.f9.params.toList args.toList ds p:=hA0
 rw [Tryz.params9] at hA hval hz
 obtain ⟨v0,vs0,d0,ds0,p0,q0,hargs,rfl,rfl,h0,r0⟩:=trodAll_cons hA
 obtain ⟨rfl,rfl,rfl⟩:=trodAll_nil r0
 obtain rfl:args=#[v0]:=by cases args; simp_all
 obtain ⟨rfl,rfl⟩:=trodVars_none hV
 obtain ⟨cs,rfl,hsz⟩:=okWide_struct Tryz.underlying78 (hval 0 78 v0 rfl rfl)
 have hwd:Go.Den.WDx Tryz.prog W.heap 78 cs.toList:=by
  obtain ⟨f,hf⟩:=h0
  exact ⟨f,Go.Den.wd_of hf fun n hn=>hz n (DataW.weights_mem_each (j:=0) rfl rfl n hn)⟩
 clear hA0 hval0
 simp only [List.append_nil] at hW'
 refine (dictHurt_walk W hsz hwd).mono fun e W' ⟨he,hb⟩=>?_
 subst he
 refine ⟨_,rfl,[d0],[],_,[],p0,[],hW',?_,?_,?_,hb.frame _,fun h=>Bool.noConfusion h⟩
 ·exact trodAll_cons_mk (shut_bool Go.Proofs.Tryz.underlying4 _) trodAll_mk0
 ·exact ⟨p0,[],Below.trod laidOut (by kernel_rfl) (of_decide_eq_true (by kernel_rfl)) h0 hb (fun x hx=>by simpa using hW'.lt x hx),rfl,(List.append_nil p0).symm⟩
 ·rfl
theorem dictHurt_over:Rows.dictHurtRow.holds Tryz.pinned (OpenSpec.ofChange Rows.dictHurtSpec) :=
 OpenClaim.holds_of_wide 9 Tryz.f9 rfl rfl rfl rfl rfl rfl rfl ⟨rfl,rfl,rfl,rfl,rfl⟩ rfl rfl rfl rfl rfl (by kernel_rfl) Tryz.func9 (by kernel_rfl)
  (of_decide_eq_true (by kernel_rfl)) (by unfold Func.isWrapper; first | (rw [if_pos (by decide +kernel)]; kernel_rfl) | (rw [if_neg (by decide +kernel)]; exact ⟨rfl,rfl⟩))
  (fun os started H enc _=>dictHurt_lifted os started H enc)
theorem dictHurt_proved:Rows.DictHurtSaid:=dictHurt_over
#print axioms dictHurt_proved
end Go.Proofs.YtfaclehehhgpcaaGreat
