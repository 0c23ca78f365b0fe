/- The given statement DictReadsSaid is proved of the given program; there are no further conditions. W8: put together by wip/tools/bundle.py: DcL DcM DcN DcO DcP DcQ DcS Mlaw13DictEncodes Blaw13DictEncodes DcT DcR Mlaw13DictReads Blaw13DictReads DcU ArLink2 DcReads. -/
import Derived.Test.YtfaclehehhgpcaaGreatW1
import Derived.Test.YtfaclehehhgpcaaGreatW2
import Derived.Test.YtfaclehehhgpcaaGreatW3
import Derived.Test.YtfaclehehhgpcaaGreatW4
import Derived.Test.YtfaclehehhgpcaaGreatW5
import Derived.Test.YtfaclehehhgpcaaGreatW6
import Derived.Test.YtfaclehehhgpcaaGreatW7
import Derived.Test.YtfaclehehhgpcaaGreatProg
import Derived.WalkKit
import Derived.ProofKit
import Derived.OpenShut
import Derived.Carry
import Derived.Deep.SlicePairs
import Derived.Lib.SmallJoins
import Derived.Test.YtfaclehehhgpcaaGreatRows
set_option linter.unusedVariables false
set_option linter.unusedSimpArgs false
set_option maxRecDepth 100000
namespace Go.Bm
open Go Go.Den Go.Den.YtfaclehehhgpcaaGreat
open Go.Ar (Dec newD decL BOk)
structure GR (m t w h:Nat) (s:Dec) (bs:List Nat) (s':Dec):Prop where
 run:runG w t false (stepG m 1536) h (fun _ _=>false,s) = .inl (getP bs w h,s')
 len:bs.length=h*wds w
 w64:W64 bs
 pad:PadZ w h bs
theorem GR.det {m t w h:Nat} {s:Dec} {bs bs':List Nat} {s1 s2:Dec} (h1:GR m t w h s bs s1) (h2:GR m t w h s bs' s2):bs=bs'/\s1=s2:=by
 have h3:=h1.run.symm.trans h2.run
 injection h3 with h3
 injection h3 with h3 h4
 exact ⟨getP_ext h1.len h2.len h1.w64 h2.w64 h1.pad h2.pad h3,h4⟩
open Classical in
noncomputable def gGet (m t w h:Nat) (s:Dec):List Nat × Dec:=if hx:∃ x:List Nat × Dec,GR m t w h s x.1 x.2 then Classical.choose hx else ([],s)
theorem gGet_eq {m t w h:Nat} {s:Dec} {bs:List Nat} {s':Dec} (h1:GR m t w h s bs s'):gGet m t w h s=(bs,s'):=by
 have hx:∃ x:List Nat × Dec,GR m t w h s x.1 x.2:=⟨(bs,s'),h1⟩
 unfold gGet
 rw [dif_pos hx]
 obtain ⟨e1,e2⟩:=(Classical.choose_spec hx).det h1
 exact Prod.ext e1 e2
noncomputable def clsF (m t n:Nat) (hh:Int):Nat->List Bmp->Nat->Int->Bool->Dec->Except Int (List Bmp × Nat × Dec)
 | 0,_,_,_,_,_ => .error (-1)
 | f+1,new,area,w,first,s =>
  if (decW m 512 s).1.1≠0 then .error 130
  else if (decW m 512 s).1.2.2=true then (if first=true then .error 130 else .ok (new,area,(decW m 512 s).2))
  else if new.length=n\/(decW m 512 s).1.2.1<0\/w+(decW m 512 s).1.2.1<1 then .error 130
  else if 1048576<w+(decW m 512 s).1.2.1\/1048576<(area:Int)+(w+(decW m 512 s).1.2.1)*hh then .error 120
  else clsF m t n hh f (new++[⟨w+(decW m 512 s).1.2.1,hh,(gGet m t (w+(decW m 512 s).1.2.1).toNat hh.toNat (decW m 512 s).2).1⟩]) (area+(w+(decW m 512 s).1.2.1).toNat*hh.toNat) (w+(decW m 512 s).1.2.1) false (gGet m t (w+(decW m 512 s).1.2.1).toNat hh.toNat (decW m 512 s).2).2
noncomputable def symF (m t n:Nat):Nat->List Bmp->Nat->Int->Dec->Except Int (List Bmp × Dec)
 | 0,_,_,_,_ => .error (-1)
 | f+1,new,area,hh,s =>
  if n<=new.length then .ok (new,s)
  else if (decW m 0 s).1.1≠0 then .error 130
  else if (decW m 0 s).1.2.2=true\/(decW m 0 s).1.2.1<1 then .error 130
  else if 1048576<hh+(decW m 0 s).1.2.1 then .error 120
  else match clsF m t n (hh+(decW m 0 s).1.2.1) (n-new.length+2) new area 0 true (decW m 0 s).2 with
   | .error e => .error e
   | .ok (new',area',s')=>symF m t n f new' area' (hh+(decW m 0 s).1.2.1) s'
noncomputable def flF (m n:Nat):Nat->List Bool->Bool->Bool->Dec->Except Int (List Bool)
 | 0,_,_,_,_ => .error (-1)
 | f+1,ex,v,first,s =>
  if n<=ex.length then .ok ex
  else if (decW m 1024 s).1.1≠0 then .error 130
  else if (decW m 1024 s).1.2.2=true\/(decW m 1024 s).1.2.1<0\/((decW m 1024 s).1.2.1=0/\first=false)\/(n:Int)-(ex.length:Int)<(decW m 1024 s).1.2.1 then .error 130
  else flF m n f (ex++List.replicate (decW m 1024 s).1.2.1.toNat v) (!v) false (decW m 1024 s).2
open Classical in
noncomputable def decD (b:List Nat) (imp:List Bmp):Except Int (Nat × List Bmp × List Bool) :=
 if ¬ MayL imp then .error 130
 else if 4096<imp.length then .error 120
 else match b[0]? with
  | none => .error 130
  | some t=>if 3<t then .error 130
   else if (varP b 1).1≠0 then .error 130
   else if 4096-imp.length<(varP b 1).2.1 then .error 120
   else match symF (szD t) t (varP b 1).2.1 ((varP b 1).2.1+1) [] 0 0 (newD (b.drop (varP b 1).2.2) (szD t)) with
    | .error e => .error e
    | .ok (new,s)=>match flF (szD t) (imp.length+(varP b 1).2.1) (imp.length+(varP b 1).2.1+2) [] false true s with
     | .error e => .error e
     | .ok ex => .ok (t,new,ex)
section
variable {hB:Heap} {K:VK} {Kp:PK}
theorem dwrong_ok {bad:Bool} (hk:bad=false->K (.tuple #[]) hB) (hp:bad=true->Kp (dflt 130) hB):CP F_dict_wrong #[.bool bad] hB K Kp:=by
 refine call_dict_wrong ?_
 unfold dict_wrong
 exact bcase_of (fun h1=>hp h1) fun h1=>hk h1
theorem dbig_ok {bad:Bool} (hk:bad=false->K (.tuple #[]) hB) (hp:bad=true->Kp (dflt 120) hB):CP F_dict_big #[.bool bad] hB K Kp:=by
 refine call_dict_big ?_
 unfold dict_big
 exact bcase_of (fun h1=>hp h1) fun h1=>hk h1
def RdS (r p:Nat) (t:Nat) (qn:Option Addr) (nn cn:Nat) (qe:Option Addr) (ne ce:Nat) (left area:Nat):Ent :=
 ⟨r,true,T_dict_reader,[.pointer (at0 p), .int .i64 (t:Nat), .slice qn nn cn, .slice qe ne ce, .int .i64 (left:Nat), .int .i64 (area:Nat)]⟩
theorem ansW_e (sg x:Nat):(ansW sg x).1=0\/(ansW sg x).1=50:=by
 unfold ansW
 split
 ·exact .inr rfl
 ·split
  ·split
   ·exact .inl rfl
   ·exact .inl rfl
  ·exact .inl rfl
theorem ansW_v {sg x:Nat}:-2147483648<=(ansW sg x).2.1/\(ansW sg x).2.1<=2147483648:=by
 unfold ansW
 split
 ·exact ⟨by decide,by decide⟩
 ·split
  ·split
   ·exact ⟨by decide,by decide⟩
   ·dsimp only; omega
  ·dsimp only; omega
theorem decW_e (m:Nat) (base:Int) (s:Dec):(decW m base s).1.1=0\/(decW m base s).1.1=50:=ansW_e _ _
theorem decW_v (m:Nat) (base:Int) (s:Dec):-2147483648<=(decW m base s).1.2.1/\(decW m base s).1.2.1<=2147483648:=ansW_v
variable {h:Heap} {r p q m n0 t nn cn ne ce left area bc:Nat} {qn qe bp:Option Addr} {e:Ent} {s:Dec} {bytes:List Nat} {X:List Ent}
theorem rnum_ok (H:Hp hB [] h (RdS r p t qn nn cn qe ne ce left area::(decL p q e bp bc s++X))) (hXw:X.all Ent.w=true) (hb:BOk e bp bytes) (hok:Go.Ar.DecOk bytes m n0 s) (hbl:bytes.length<140737488351300) (hn:n0+64<=16777216) (hm1:1<=m) (hm2:m<=131072) {base:Int} (hfit:0<=base/\base+(512:Nat)<=(m:Nat))
  (hk:∀ h' n',(decW m base s).1.1=0->n'<=n0+64->Go.Ar.DecOk bytes m n' (decW m base s).2->Hp hB [] h' (RdS r p t qn nn cn qe ne ce left area::(decL p q e bp bc (decW m base s).2++X))->K (.agg #[.int .i64 (decW m base s).1.2.1, .bool (decW m base s).1.2.2]) h')
  (hp:∀ J h',(decW m base s).1.1≠0->Hp hB [] h' (X++J)->Kp (dflt 130) h'):CP F_dict_reader_number #[.pointer (some ⟨r,0,none⟩), .int .i64 base] h K Kp:=by
 refine call_dict_reader_number ?_
 unfold dict_reader_number
 refine newC_hp H fun r1 h H=>?_
 have H:Hp hB [] h (RdS r p t qn nn cn qe ne ce left area::(decL p q e bp bc s++(X++[⟨r1,true,T_api_Whole,[.int .i64 0, .bool false]⟩]))):=H.as (by simp [List.append_assoc])
 refine ptr_of (a:=⟨r,0,none⟩) (ldP_of (hpA H 0 rfl rfl) ?_)
 have hw:=hb.1
 refine wget_ok (H.give [1,2,3] (by simp) rfl) hw hb hok hbl hn hm1 hm2 hfit fun h' n' hn' hok' H'=>?_
 have H:=H.put [1,2,3] (by simp) rfl (by simp [decL,Go.Ar.decE,hw]) H' (by simp [decL,Go.Ar.decE,hw]) rfl
 clear H'
 refine ⟨_,_,_,rfl,?_⟩
 have H:Hp hB [] h' (RdS r p t qn nn cn qe ne ce left area::(decL p q e bp bc (decW m base s).2++(X++[⟨r1,true,T_api_Whole,[.int .i64 0, .bool false]⟩]))):=H
 generalize hdec:decW m base s=dw at *
 obtain ⟨⟨ee,v,nn'⟩,s'⟩:=dw
 dsimp only at *
 refine newC_hp H fun r10 h H=>?_
 have H:Hp hB [] h (((RdS r p t qn nn cn qe ne ce left area::decL p q e bp bc s')++X)++[⟨r1,true,T_api_Whole,[.int .i64 0, .bool false]⟩,⟨r10,true,T_api_Whole,[.int .i64 0, .bool false]⟩]):=H.as (by simp [List.append_assoc])
 have H:=H.rot
 refine stA H 1 rfl rfl rfl fun h H=>?_
 refine stA H 1 rfl rfl rfl fun h H=>?_
 have H:Hp hB [] h ([⟨r1,true,T_api_Whole,[.int .i64 0, .bool false]⟩,⟨r10,true,T_api_Whole,[.int .i64 v, .bool nn']⟩]++((RdS r p t qn nn cn qe ne ce left area::decL p q e bp bc s')++X)):=H
 have he:=decW_e m base s
 rw [hdec] at he
 have he:ee=0\/ee=50:=he
 refine dwrong_ok (fun h1=>?_) fun h1=>?_
 ·have h1:ee≠50:=by simpa using h1
  obtain rfl:ee=0:=by omega
  refine need0_ok ?_
  refine ldI_of (hpA H 1 rfl rfl) (ldB_of (hpA H 1 rfl rfl) ?_)
  refine stA H 0 rfl rfl rfl fun h H=>?_
  refine stA H 0 rfl rfl rfl fun h H=>?_
  refine ldI_of (hpA H 0 rfl rfl) (ldB_of (hpA H 0 rfl rfl) ?_)
  exact hk h n' rfl hn' hok' (Hp.suf (X:=[_,_]) H)
 ·have h1:ee=50:=by simpa using h1
  have H:=(Hp.suf H).rot
  exact hp _ h (by omega) H
end
end Go.Bm
namespace Go.Bm
open Go Go.Den Go.Den.YtfaclehehhgpcaaGreat
open Go.Ar (Dec decL BOk)
theorem SizeP.mk' {w h:Int} (h1:1<=w) (h2:w<=1048576) (h3:1<=h) (h4:h<=1048576) (h5:w*h<=1048576):SizeP w h:=by unfold SizeP; omega
section
variable {hB h:Heap} {K:VK} {Kp:PK}
variable {r p q m t n bc cn area0 c0 hh:Nat} {qn bp:Option Addr} {e:Ent} {s:Dec} {bytes:List Nat} {X RN:List Ent} {new0:List Bmp} {Rz:Except Int (List Bmp × Nat × Dec)}
set_option maxHeartbeats 8000000 in
theorem class_ok (H:Hp hB [] h ((RdS r p t qn new0.length cn none 0 0 (n-new0.length) area0::(decL p q e bp bc s++X))++RN)) (hL:ListO RN qn cn new0) (hXw:X.all Ent.w=true) (hb:BOk e bp bytes) (hok:Go.Ar.DecOk bytes m c0 s) (hbl:bytes.length<140737488351300)
  (ht:t<4) (hm:m=szD t) (hh1:1<=hh/\hh<=1048576) (hn:n<=4096) (hnl:new0.length<=n) (har:area0<=1048576) (hc0:c0<=192*new0.length+2*area0+64) (hM:MayL new0)
  (hres:clsF m t n (hh:Nat) (n-new0.length+2) new0 area0 0 true s=Rz)
  (hk:∀ new' area' s' c' RN' qn' cn' h',Rz = .ok (new',area',s')->new0.length<new'.length->new'.length<=n->area'<=1048576->c'<=192*new'.length+2*area'->Go.Ar.DecOk bytes m c' s'->ListO RN' qn' cn' new'->MayL new' ->
   Hp hB [] h' ((RdS r p t qn' new'.length cn' none 0 0 (n-new'.length) area'::(decL p q e bp bc s'++X))++RN')->K (.tuple #[]) h')
  (hp:∀ er J h',Rz = .error er->Hp hB [] h' (X++J)->Kp (dflt er) h') :
  CP F_dict_reader_class #[.pointer (some ⟨r,0,none⟩), .int .i64 (hh:Nat)] h K Kp:=by
 refine call_dict_reader_class ?_
 unfold dict_reader_class
 have hsz:=szD_le ht
 refine ⟨fun f vs h'=>∃ (new:List Bmp) (area cnt:Nat) (w:Nat) (first:Bool) (s:Dec) (RN:List Ent) (qn:Option Addr) (cn:Nat),f=n-new.length+2/\clsF m t n (hh:Nat) f new area (w:Nat) first s=Rz/\new0.length<=new.length/\new.length<=n/\(first=false->new0.length<new.length)/\area<=1048576/\w<=1048576 /\
   cnt+128*new0.length<=192*new0.length+64*new.length+64*new0.length+2*area+64/\vs=[.int .i64 (w:Nat), .bool first]/\Go.Ar.DecOk bytes m cnt s/\ListO RN qn cn new/\MayL new/\Hp hB [] h' ((RdS r p t qn new.length cn none 0 0 (n-new.length) area::(decL p q e bp bc s++X))++RN),
  ⟨n-new0.length+2,new0,area0,c0,0,true,s,RN,qn,cn,rfl,hres,Nat.le_refl _,hnl,(fun hh=>by cases hh),har,by omega,by omega,rfl,hok,hL,hM,H⟩,?_⟩
 clear H hL hok hres hM
 rintro f h u xw xf ⟨new,area,cnt,w,first,s,RN,qn,cn,rfl,hres,hlo,hln,hfi,har,hw,hcnt,hxx,hok,hL,hM,H⟩
 injection hxx with hx1 hxx
 injection hxx with hx2 hxx
 injection hx1 with _ hx1
 injection hx2 with hx2
 subst xw xf
 have H:Hp hB [] h (RdS r p t qn new.length cn none 0 0 (n-new.length) area::(decL p q e bp bc s++(X++RN))):=H.as (by simp only [List.cons_append,List.append_assoc])
 have hXR:(X++RN).all Ent.w=true:=by rw [List.all_append,hXw,hL.w]; rfl
 have pan:∀ {J h},Hp hB [] h ((X++RN)++J)->∃ J',Hp hB [] h (X++J'):=fun {J h} H=>⟨RN++J,H.asc⟩
 have hdv:=decW_v m 512 s
 unfold clsF at hres
 refine rnum_ok H hXR hb hok hbl (by omega) (by omega) (by omega) (by omega) (fun h c1 he hc1 hok1 H=>?_) fun J h he H=>?_
 rotate_left
 ·rw [if_pos he] at hres
  obtain ⟨J',H⟩:=pan H
  exact hp 130 J' h hres.symm H
 rw [if_neg (by rw [he]; decide)] at hres
 clear he
 generalize decW m 512 s=dw at *
 obtain ⟨⟨ee,v,nn'⟩,s1⟩:=dw
 dsimp only at *
 refine ⟨_,_,rfl,?_⟩
 refine newC_hp H fun r12 h H=>?_
 have H:=H.rot
 refine stA H 0 rfl rfl rfl fun h H=>?_
 refine stA H 0 rfl rfl rfl fun h H=>?_
 have H:Hp hB [] h (⟨r12,true,T_api_Whole,[.int .i64 v, .bool nn']⟩::RdS r p t qn new.length cn none 0 0 (n-new.length) area::(decL p q e bp bc s1++(X++RN))):=H
 have pan2:∀ {h},Hp hB [] h (⟨r12,true,T_api_Whole,[.int .i64 v, .bool nn']⟩::RdS r p t qn new.length cn none 0 0 (n-new.length) area::(decL p q e bp bc s1++(X++RN)))->Hp hB [] h (X++RN):=fun H=>H.sub (((List.sublist_append_right _ _).cons _).cons _)
 refine ldB_of (hpA H 0 rfl rfl) ?_
 refine bcase_of (fun h1=>?_) fun h1=>?_
 ·rw [if_pos h1] at hres
  refine dwrong_ok (fun h2=>?_) fun h2=>?_
  ·rw [if_neg (by rw [h2]; decide)] at hres
   have:=hfi h2
   exact hk new area s1 c1 RN qn cn h hres.symm this hln har (by omega) hok1 hL hM ((Hp.suf (X:=[_]) H).as (by simp only [List.cons_append,List.append_assoc]))
  ·rw [if_pos h2] at hres
   exact hp 130 RN h hres.symm (pan2 H)
 rw [if_neg (by rw [h1]; decide)] at hres
 refine ldI_of (hpA H 0 rfl rfl) ?_
 obtain ⟨w',hw'⟩:∃ w':Int,w'=(w:Int)+v:=⟨_,rfl⟩
 rw [<- hw'] at hres
 refine bindI_of (w') (by (rw [hw']; exact i64_in _ (by omega) (by omega))) ?_
 refine ⟨fun _ h'=>¬ (new.length=n\/v<0\/w'<1)/\h'=h,?_,?_⟩
 ·refine ptr_of (a:=⟨r,0,none⟩) (ldI_of (hpA H 1 rfl rfl) ?_)
  refine bcase_eq (fun h2=>?_) fun h2=>?_
  ·rw [if_pos (.inl (by omega))] at hres
   exact dwrong_ok (fun hh=>by cases hh) fun _=>hp 130 RN h hres.symm (pan2 H)
  refine ldI_of (hpA H 0 rfl rfl) ?_
  refine bcase_dec (fun h3=>?_) fun h3=>?_
  ·rw [if_pos (.inr (.inl h3))] at hres
   exact dwrong_ok (fun hh=>by cases hh) fun _=>hp 130 RN h hres.symm (pan2 H)
  refine dwrong_ok (fun h4=>?_) fun h4=>?_
  ·have h4:¬ w'<1:=of_decide_eq_false h4
   exact ⟨by omega,rfl⟩
  ·have h4:w'<1:=of_decide_eq_true h4
   rw [if_pos (.inr (.inr h4))] at hres
   exact hp 130 RN h hres.symm (pan2 H)
 rintro h' u ⟨hc1',rfl⟩
 rw [if_neg hc1'] at hres
 have hprod:∀ z:Int,1<=z->z<=1048576->1<=z*(hh:Int)/\z*(hh:Int)<=1099511627776:=fun z hz1 hz2=>prod_le hz1 (by omega) hz2 (by omega)
 refine ⟨fun _ h''=>¬ (1048576<w'\/1048576<(area:Int)+w'*(hh:Int))/\h''=h',?_,?_⟩
 ·refine bcase_dec (fun h2=>?_) fun h2=>?_
  ·rw [if_pos (.inl (by omega))] at hres
   exact dbig_ok (fun hh=>by cases hh) fun _=>hp 120 RN _ hres.symm (pan2 H)
  have hpr:=hprod w' (by omega) (by omega)
  refine bindI_of ((w'*(hh:Int))) (by exact i64_in _ (by omega) (by omega)) ?_
  refine ptr_of (a:=⟨r,0,none⟩) (ldI_of (hpA H 1 rfl rfl) ?_)
  refine bindI_of (((1048576:Int)-(area:Nat))) (by exact i64_in _ (by omega) (by omega)) ?_
  refine dbig_ok (fun h3=>?_) fun h3=>?_
  ·have h3:¬ (w'*(hh:Int) > 1048576-(area:Nat)):=of_decide_eq_false h3
   exact ⟨by omega,rfl⟩
  ·have h3:w'*(hh:Int) > 1048576-(area:Nat):=of_decide_eq_true h3
   rw [if_pos (.inr (by omega))] at hres
   exact hp 120 RN _ hres.symm (pan2 H)
 rintro h'' u ⟨hc2,rfl⟩
 rw [if_neg hc2] at hres
 have hnl2:new.length<n:=by omega
 obtain ⟨W,hW⟩:∃ W:Nat,w'=(W:Int):=⟨w'.toNat,by omega⟩
 subst hW
 have hpr:=hprod (W:Int) (by omega) (by omega)
 have hWh:(W:Int)*(hh:Int)=((W*hh:Nat):Int):=by simp
 rw [Int.toNat_natCast,Int.toNat_natCast] at hres
 refine ptr_of (a:=⟨r,0,none⟩) (ldI_of (hpA H 1 rfl rfl) ?_)
 refine bindI_of (((W*hh:Nat):Int)) (by exact i64_at _ _ hWh (by omega) (by omega)) ?_
 refine bindI_of (((area+W*hh:Nat):Int)) (by exact i64_at _ _ (by omega) (by omega) (by omega)) ?_
 refine ptr_of (a:=⟨r,0,none⟩) ?_
 refine stA H 1 rfl rfl rfl fun h H=>?_
 have H:Hp hB [] h ((RdS r p t qn new.length cn none 0 0 (n-new.length) (area+W*hh)::(decL p q e bp bc s1++X))++RN):=(Hp.suf (X:=[⟨r12,true,T_api_Whole,[.int .i64 v, .bool nn']⟩]) H).as (by simp only [List.cons_append,List.append_assoc,RdS,List.set])
 have hP:SizeP (W:Int) (hh:Int):=SizeP.mk' (by omega) (by omega) (by omega) (by omega) (by omega)
 have hpx:c1+hh*(W+1)<=cnt+64+2*(W*hh):=by
  have h6:hh*(W+1)=W*hh+hh:=by rw [Nat.mul_add,Nat.mul_comm hh W,Nat.mul_one]
  have h7:1*hh<=W*hh:=Nat.mul_le_mul_right _ (by omega)
  omega
 have hN2:c1+hh*(W+1)<=16777216:=by omega
 have hszt:szD t=1536+gsize t+1:=rfl
 refine ⟨fun b=>b=r,?_⟩
 refine ptr_of (a:=⟨r,0,none⟩) (ptr_of (a:=⟨r,0,none⟩) ?_)
 refine ldP_of (hpA H 0 rfl rfl) ⟨rfl,?_⟩
 refine ldI_of (hpB H 0 rfl rfl) ⟨rfl,?_⟩
 have hnrow:∀ {h:Heap},Hp hB [] h ((RdS r p t qn new.length cn none 0 0 (n-new.length) (area+W*hh)::(decL p q e bp bc s1++X))++RN)->r ∉ (decL p q e bp bc s1).map Ent.b:=fun H hm=>by
  obtain ⟨e9,he9,hb9⟩:=List.mem_map.1 hm
  exact (List.pairwise_cons.1 (List.pairwise_append.1 H.pw).1).1 e9 (List.mem_append_left _ he9) hb9.symm
 have hwdec:∀ {s},(decL p q e bp bc s).all Ent.w=true:=fun {s}=>by simp [decL,Go.Ar.decE,hb.1]
 have fin:∀ {h:Heap} {r61:Nat} {bs:List Nat} {s':Dec} {D:List Ent} {qo:Option Addr} {co:Nat},GGetR bytes m c1 1536 (W:Int) (hh:Int) (t:Nat) false s1 0 (W:Int) (hh:Int) bs s'->Slot T_uint64 1 D qo bs.length co (u64s bs) ->
   Hp hB [] h ([⟨r61,true,T_api_Bitmap,[.int .i64 0, .int .i64 0, .slice none 0 0]⟩]++(((RdS r p t qn new.length cn none 0 0 (n-new.length) (area+W*hh)::(decL p q e bp bc s'++X))++RN)++D)) ->
   stV h ((⟨r61,0,none⟩:Addr).add 0) (.int .i64 (W:Nat)) fun h_63 =>
   stV h_63 ((⟨r61,0,none⟩:Addr).add 1) (.int .i64 (hh:Nat)) fun h_64 =>
   stV h_64 ((⟨r61,0,none⟩:Addr).add 2) (.slice qo bs.length co) fun h_65 =>
   CP F_dict_need #[.int .i64 0] h_65 (fun v_66 h_67 =>
   ptr (some ⟨r,0,none⟩) fun a_68 =>
   ldS h_67 ((a_68.add 1).add 1) fun x_69 x_69n x_69c =>
   ldI h_67 ((⟨r61,0,none⟩:Addr).add 0) .i64 fun x_70 =>
   ldI h_67 ((⟨r61,0,none⟩:Addr).add 1) .i64 fun x_71 =>
   ldS h_67 ((⟨r61,0,none⟩:Addr).add 2) fun x_72 x_72n x_72c =>
   newC h_67 [.int .i64 x_70, .int .i64 x_71, .slice x_72 x_72n x_72c] T_api_Bitmap fun r_73 h_74 =>
   appC h_74 T_api_Bitmap 3 40 [.int .i64 0, .int .i64 0, .slice none 0 0] x_69 (x_69n) (x_69c) (some ⟨r_73,0,none⟩) (1) fun q_75 q_75n q_75c h_76 =>
   ptr (some ⟨r,0,none⟩) fun a_77 =>
   stV h_76 ((a_77.add 1).add 1) (.slice q_75 q_75n q_75c) fun h_78 =>
   ptr (some ⟨r,0,none⟩) fun a_79 =>
   ldI h_78 (a_79.add 4) .i64 fun x_80 =>
   bindI (IntKind.i64.wrap (x_80-(1:Int))) fun z_81 =>
   ptr (some ⟨r,0,none⟩) fun a_82 =>
   stV h_78 (a_82.add 4) (.int .i64 z_81) fun h_83 =>
   ∃ m_2,m_2<n-new.length+1+1/\∃ (new_1:List Bmp) (area cnt:Nat) (w:Nat) (first:Bool) (s:Dec) (RN:List Ent) (qn:Option Addr) (cn:Nat),m_2=n-new_1.length+2/\clsF m t n (hh:Nat) m_2 new_1 area (w:Nat) first s=Rz/\new0.length<=new_1.length/\new_1.length<=n/\(first=false->new0.length<new_1.length)/\area<=1048576/\w<=1048576 /\
    cnt+128*new0.length<=192*new0.length+64*new_1.length+64*new0.length+2*area+64/\[Value.int .i64 (W:Nat), .bool false]=[.int .i64 (w:Nat), .bool first]/\Go.Ar.DecOk bytes m cnt s/\ListO RN qn cn new_1/\MayL new_1/\Hp hB [] h_83 ((RdS r p t qn new_1.length cn none 0 0 (n-new_1.length) area::(decL p q e bp bc s++X))++RN)) Kp:=fun {h r61 bs s' D qo co} hg hs H=>by
  obtain ⟨_,_,_,_,_,_,hrun,hbl2,hw2,hz2,k,hk1,hdk⟩:(0<=((t:Nat):Int)/\((t:Nat):Int)<4)/\SizeP (W:Int) (hh:Int)/\True/\True/\True/\True/\runG (W:Int).toNat ((t:Nat):Int).toNat false (stepG m 1536) (hh:Int).toNat (fun _ _=>false,s1) = .inl (getP bs (W:Int).toNat (hh:Int).toNat,s') /\
    bs.length=(hh:Int).toNat*wds (W:Int).toNat/\W64 bs/\PadZ (W:Int).toNat (hh:Int).toNat bs/\∃ k,k<=(hh:Int).toNat*((W:Int).toNat+1)/\Go.Ar.DecOk bytes m (c1+k) s':=by
   rcases hg with ⟨_,hh0,_⟩ | ⟨_,_,hh0,_⟩ | ⟨_,_,_,hh0,_⟩ | ⟨g1,g2,g3,g4,g5,g6,g7,g8,g9,g10,g11⟩
   ·cases hh0
   ·cases hh0
   ·cases hh0
   ·exact ⟨g1,g2,trivial,trivial,trivial,trivial,g7,g8,g9,g10,g11⟩
  simp only [Int.toNat_natCast] at hrun hbl2 hz2 hk1
  have hGR:GR m t W hh s1 bs s':=⟨hrun,hbl2,hw2,hz2⟩
  rw [gGet_eq hGR] at hres
  dsimp only at hres
  refine stA H 0 rfl rfl rfl fun h H=>?_
  refine stA H 0 rfl rfl rfl fun h H=>?_
  refine stA H 0 rfl rfl rfl fun h H=>?_
  refine need0_ok ?_
  have H:Hp hB [] h ([⟨r61,true,T_api_Bitmap,[.int .i64 (W:Nat), .int .i64 (hh:Nat), .slice qo bs.length co]⟩]++(((RdS r p t qn new.length cn none 0 0 (n-new.length) (area+W*hh)::(decL p q e bp bc s'++X))++RN)++D)):=H
  refine ptr_of (a:=⟨r,0,none⟩) (ldS_of (hpB H 1 rfl rfl) (ldI_of (hpA H 0 rfl rfl) (ldI_of (hpA H 0 rfl rfl) (ldS_of (hpA H 0 rfl rfl) ?_))))
  refine newC_hp H fun r73 h H=>?_
  have H:Hp hB [] h ([⟨r61,true,T_api_Bitmap,[.int .i64 (W:Nat), .int .i64 (hh:Nat), .slice qo bs.length co]⟩]++((((RdS r p t qn new.length cn none 0 0 (n-new.length) (area+W*hh)::(decL p q e bp bc s'++X))++RN)++D)++[⟨r73,true,T_api_Bitmap,[.int .i64 (W:Nat), .int .i64 (hh:Nat), .slice qo bs.length co]⟩])):=H
  have H:=(Hp.suf H).asc
  have hmay1:MayP (W:Int) (hh:Int) bs:=may_of_pix hP hbl2 hw2 hz2
  have hM':MayL (new++[⟨(W:Int),(hh:Int),bs⟩]):=fun b hb=>by
   rcases List.mem_append.1 hb with hb | hb
   ·exact hM b hb
   ·rw [List.mem_singleton.1 hb]; exact hmay1
  have ho:Own.Ok ⟨⟨(W:Int),(hh:Int),bs⟩,qo,co,D⟩:=⟨hs,hw2,by
   show bs.length<_
   have h8:wds W<=W:=by unfold wds; omega
   have h9:hh*wds W<=hh*W:=Nat.mul_le_mul_left _ h8
   rw [Nat.mul_comm hh W] at h9
   omega⟩
  refine hL.app ho H (by omega) fun RN' q' cn' h' hL' H=>?_
  have hln2:(new++[(⟨(W:Int),(hh:Int),bs⟩:Bmp)]).length=new.length+1:=by simp
  refine ptr_of (a:=⟨r,0,none⟩) ?_
  refine stB H 0 rfl rfl rfl fun h H=>?_
  refine ptr_of (a:=⟨r,0,none⟩) (ldI_of (hpA H 0 rfl rfl) ?_)
  refine bindI_of (((n-new.length-1:Nat):Int)) (by exact i64_at _ _ (by omega) (by omega) (by omega)) ?_
  refine ptr_of (a:=⟨r,0,none⟩) ?_
  refine stA H 0 rfl rfl rfl fun h H=>?_
  refine ⟨n-new.length+1,by omega,new++[⟨(W:Int),(hh:Int),bs⟩],area+W*hh,c1+k,W,false,s',RN',q',cn',by rw [hln2]; omega,hres,by rw [hln2]; omega,by rw [hln2]; omega,(fun _=>by rw [hln2]; omega),by omega,by omega,by rw [hln2]; omega,rfl,hdk,hL',hM',?_⟩
  rw [hln2,show n-(new.length+1)=n-new.length-1 by omega]
  exact H
 have hdec0:∀ {e' w' g':Int} {bs s'},GGetR bytes m c1 1536 (W:Int) (hh:Int) (t:Nat) false s1 e' w' g' bs s'->e'=0/\w'=(W:Int)/\g'=(hh:Int):=fun hg=>by
  rcases hg with ⟨hh0,_⟩ | ⟨_,hh0,_⟩ | ⟨_,_,hh0,_⟩ | ⟨_,_,_,g4,g5,g6,_⟩
  ·exact (hh0 ⟨by omega,by omega⟩).elim
  ·exact (hh0 hP).elim
  ·exact (hh0 ⟨by omega,by simp only [Int.toNat_natCast]; omega⟩).elim
  ·exact ⟨g4,g5,g6⟩
 refine ⟨?_,?_⟩
 ·refine gget_ok (H.give [1,2,3] (by simp) rfl) (by rw [hok1.b]; exact hb) hbl hok1 (by omega) (by omega) (base:=1536) (fun _=>by simp only [Int.toNat_natCast]; exact hN2) fun e' w' g' bs s' D qo co h' hg hs H'=>?_
  obtain ⟨rfl,rfl,rfl⟩:=hdec0 hg
  have hkp:hkeep (fun b=>b=r) h h':=⟨H'.fr.1,fun b hb9 hR=>H'.fr.2 b hb9 (by rw [hR]; exact hnrow H)⟩
  have H:=Go.Bm.Hp.backD H [1,2,3] (by simp) rfl hwdec H' hwdec hs.w rfl
  clear H'
  refine ⟨_,_,_,_,_,_,rfl,hkp,?_⟩
  refine newC_hp H fun r61 h H=>?_
  exact fin hg hs H.rot
 ·refine newC_hp H fun r61 h H=>?_
  refine gget_ok (H.give [1,2,3] (by simp) rfl) (by rw [hok1.b]; exact hb) hbl hok1 (by omega) (by omega) (base:=1536) (fun _=>by simp only [Int.toNat_natCast]; exact hN2) fun e' w' g' bs s' D qo co h' hg hs H'=>?_
  obtain ⟨rfl,rfl,rfl⟩:=hdec0 hg
  have hkp:hkeep (fun b=>b=r) h h':=⟨H'.fr.1,fun b hb9 hR=>H'.fr.2 b hb9 (by rw [hR]; exact hnrow (Hp.pre H))⟩
  have H:=Go.Bm.Hp.backD H [1,2,3] (by simp) rfl hwdec H' hwdec hs.w rfl
  clear H'
  refine ⟨_,_,_,_,_,_,rfl,hkp,?_⟩
  have H:Hp hB [] h' ((((RdS r p t qn new.length cn none 0 0 (n-new.length) (area+W*hh)::(decL p q e bp bc s'++X))++RN)++[⟨r61,true,T_api_Bitmap,[.int .i64 0, .int .i64 0, .slice none 0 0]⟩])++D):=H
  exact fin hg hs (Hp.swap H).rot
end
end Go.Bm
namespace Go.Bm
open Go Go.Den Go.Den.YtfaclehehhgpcaaGreat
open Go.Ar (Dec newD decL BOk u8s)
theorem bls_app (l l':List Bool):bls (l++l')=bls l++bls l':=by simp [bls]
section
variable {hB h:Heap} {K:VK} {Kp:PK}
variable {r p q m t n bc nn cn left area c0:Nat} {qn bp:Option Addr} {e:Ent} {s:Dec} {bytes:List Nat} {X:List Ent} {Rz:Except Int (List Bool)}
set_option maxHeartbeats 8000000 in
theorem rflags_ok (H:Hp hB [] h (RdS r p t qn nn cn none 0 0 left area::(decL p q e bp bc s++X))) (hXw:X.all Ent.w=true) (hb:BOk e bp bytes) (hok:Go.Ar.DecOk bytes m c0 s) (hbl:bytes.length<140737488351300)
  (hm1:2561<=m) (hm2:m<=131072) (hn:n<=8192) (hc0:c0+64*(n+2)<=16777216) (hres:flF m n (n+2) [] false true s=Rz)
  (hk:∀ ex RE qe ce s' h',Rz = .ok ex->Slot T_bool 1 RE qe ex.length ce (bls ex)->Hp hB [] h' ((RdS r p t qn nn cn qe ex.length ce left area::(decL p q e bp bc s'++X))++RE)->K (.tuple #[]) h')
  (hp:∀ er J h',Rz = .error er->Hp hB [] h' (X++J)->Kp (dflt er) h') :
  CP F_dict_reader_flags #[.pointer (some ⟨r,0,none⟩), .int .i64 (n:Nat)] h K Kp:=by
 refine call_dict_reader_flags ?_
 unfold dict_reader_flags
 refine ⟨fun f vs h'=>∃ (ex:List Bool) (v first:Bool) (s:Dec) (cnt:Nat) (RE:List Ent) (qe:Option Addr) (ce:Nat),flF m n f ex v first s=Rz/\ex.length<=n/\f<=n+2/\n-ex.length+(if first=true then 2 else 1)<=f/\cnt<=c0+64*(n+2-f)/\vs=[.bool v, .bool first]/\Go.Ar.DecOk bytes m cnt s /\
   Slot T_bool 1 RE qe ex.length ce (bls ex)/\Hp hB [] h' ((RdS r p t qn nn cn qe ex.length ce left area::(decL p q e bp bc s++X))++RE),
  ⟨n+2,[],false,true,s,c0,[],none,0,hres,Nat.zero_le _,Nat.le_refl _,by simp,by omega,rfl,hok,Slot.nil _ _,by rw [List.append_nil]; exact H⟩,?_⟩
 clear H hok hres
 rintro f h u xv xf ⟨ex,v,first,s,cnt,RE,qe,ce,hres,hln,hf2,hf1,hcnt,hxx,hok,hs,H⟩
 injection hxx with hx1 hxx
 injection hxx with hx2 hxx
 injection hx1 with hx1
 injection hx2 with hx2
 subst xv xf
 obtain ⟨f,rfl⟩:∃ f',f=f'+1:=⟨f-1,by split at hf1 <;> omega⟩
 refine ptr_of (a:=⟨r,0,none⟩) (ldS_of (hpB H 0 rfl rfl) ?_)
 unfold flF at hres
 refine bcase_dec (fun h1=>?_) fun h1=>?_
 rotate_left
 ·rw [if_pos (by omega)] at hres
  exact hk ex RE qe ce s h hres.symm hs H
 have h1:ex.length<n:=by omega
 rw [if_neg (by omega)] at hres
 have H:Hp hB [] h (RdS r p t qn nn cn qe ex.length ce left area::(decL p q e bp bc s++(X++RE))):=H.as (by simp only [List.cons_append,List.append_assoc])
 have hXR:(X++RE).all Ent.w=true:=by rw [List.all_append,hXw,hs.w]; rfl
 have hdv:=decW_v m 1024 s
 refine rnum_ok H hXR hb hok hbl (by omega) (by omega) (by omega) (by omega) (fun h c1 he hc1 hok1 H=>?_) fun J h he H=>?_
 rotate_left
 ·rw [if_pos he] at hres
  exact hp 130 (RE++J) h hres.symm (H.asc)
 rw [if_neg (by rw [he]; decide)] at hres
 clear he
 generalize decW m 1024 s=dw at *
 obtain ⟨⟨ee,x,nn'⟩,s1⟩:=dw
 dsimp only at *
 refine ⟨_,_,rfl,?_⟩
 refine newC_hp H fun r14 h H=>?_
 have H:=H.rot
 refine stA H 0 rfl rfl rfl fun h H=>?_
 refine stA H 0 rfl rfl rfl fun h H=>?_
 have H:Hp hB [] h (⟨r14,true,T_api_Whole,[.int .i64 x, .bool nn']⟩::RdS r p t qn nn cn qe ex.length ce left area::(decL p q e bp bc s1++(X++RE))):=H
 have pan:∀ {h},Hp hB [] h (⟨r14,true,T_api_Whole,[.int .i64 x, .bool nn']⟩::RdS r p t qn nn cn qe ex.length ce left area::(decL p q e bp bc s1++(X++RE)))->Hp hB [] h (X++RE):=fun H=>H.sub (((List.sublist_append_right _ _).cons _).cons _)
 have last:∀ {Q:List Value->Heap->Prop},Rz=(if nn'=true\/x<0\/(x=0/\first=false)\/(n:Int)-(ex.length:Int)<x then .error 130 else flF m n f (ex++List.replicate x.toNat v) (!v) false s1)->¬ (nn'=true\/x<0\/(x=0/\first=false))->(¬ (nn'=true\/x<0\/(x=0/\first=false)\/(n:Int)-(ex.length:Int)<x)->Q [] h) ->
   ptr (some ⟨r,0,none⟩) fun a_30=>ldI h ((⟨r14,0,none⟩:Addr).add 0) .i64 fun x_31=>ldS h ((a_30.add 1).add 2) fun x_32 x_32n x_32c=>bindI (IntKind.i64.wrap ((n:Nat)-(x_32n:Int))) fun z_33=>CP F_dict_wrong #[.bool (decide (x_31 > z_33))] h (fun v_34 h_35=>Q [] h_35) (Kp):=fun {Q} hr h2 hQ=>by
  refine ptr_of (a:=⟨r,0,none⟩) (ldI_of (hpA H 0 rfl rfl) (ldS_of (hpA H 1 rfl rfl) ?_))
  refine bindI_of (((n:Int)-(ex.length:Int))) (by exact i64_in _ (by omega) (by omega)) ?_
  refine dwrong_ok (fun h3=>?_) fun h3=>?_
  ·have h3:¬ (x > (n:Int)-(ex.length:Int)):=of_decide_eq_false h3
   exact hQ (fun hh=>by
    rcases hh with hh | hh | hh | hh
    ·exact h2 (.inl hh)
    ·exact h2 (.inr (.inl hh))
    ·exact h2 (.inr (.inr hh))
    ·omega)
  ·have h3:x > (n:Int)-(ex.length:Int):=of_decide_eq_true h3
   rw [if_pos (.inr (.inr (.inr (by omega))))] at hr
   exact hp 130 RE h hr (pan H)
 refine ⟨fun _ h'=>¬ (nn'=true\/x<0\/(x=0/\first=false)\/(n:Int)-(ex.length:Int)<x)/\h'=h,?_,?_⟩
 ·refine ldB_of (hpA H 0 rfl rfl) ?_
  refine bcase_of (fun h2=>?_) fun h2=>?_
  ·rw [if_pos (.inl h2)] at hres
   exact dwrong_ok (fun hh=>by cases hh) fun _=>hp 130 RE h hres.symm (pan H)
  refine ldI_of (hpA H 0 rfl rfl) ?_
  refine bcase_dec (fun h3=>?_) fun h3=>?_
  ·rw [if_pos (.inr (.inl h3))] at hres
   exact dwrong_ok (fun hh=>by cases hh) fun _=>hp 130 RE h hres.symm (pan H)
  refine ldI_of (hpA H 0 rfl rfl) ?_
  refine bcase_eq (fun h4=>?_) fun h4=>?_
  ·refine bcase_not (fun h5=>?_) fun h5=>?_
   ·rw [if_pos (.inr (.inr (.inl ⟨h4,h5⟩)))] at hres
    exact dwrong_ok (fun hh=>by cases hh) fun _=>hp 130 RE h hres.symm (pan H)
   ·exact last (Q:=fun _ h'=>¬ (nn'=true\/x<0\/(x=0/\first=false)\/(n:Int)-(ex.length:Int)<x)/\h'=h) hres.symm (fun hh=>by
     rcases hh with hh | hh | hh
     ·rw [h2] at hh; cases hh
     ·omega
     ·rw [h5] at hh; cases hh.2) fun hh=>⟨hh,rfl⟩
  ·exact last (Q:=fun _ h'=>¬ (nn'=true\/x<0\/(x=0/\first=false)\/(n:Int)-(ex.length:Int)<x)/\h'=h) hres.symm (fun hh=>by
    rcases hh with hh | hh | hh
    ·rw [h2] at hh; cases hh
    ·omega
    ·omega) fun hh=>⟨hh,rfl⟩
 rintro h' u ⟨hc,rfl⟩
 rw [if_neg hc] at hres
 obtain ⟨V,rfl⟩:∃ V:Nat,x=(V:Int):=⟨x.toNat,by omega⟩
 rw [Int.toNat_natCast] at hres
 refine ldI_of (hpA H 0 rfl rfl) ?_
 have H:Hp hB [] h' ((RdS r p t qn nn cn qe ex.length ce left area::(decL p q e bp bc s1++X))++RE):=(Hp.suf (X:=[_]) H).as (by simp only [List.cons_append,List.append_assoc])
 refine ⟨fun f vs h'=>∃ (k:Nat) (RE:List Ent) (qe:Option Addr) (ce:Nat),k+f=V/\vs=[.int .i64 (k:Nat)]/\Slot T_bool 1 RE qe (ex++List.replicate k v).length ce (bls (ex++List.replicate k v)) /\
  Hp hB [] h' ((RdS r p t qn nn cn qe (ex++List.replicate k v).length ce left area::(decL p q e bp bc s1++X))++RE),⟨V,0,RE,qe,ce,by omega,rfl,by rw [List.replicate_zero,List.append_nil]; exact hs,by rw [List.replicate_zero,List.append_nil]; exact H⟩,?_⟩
 clear H hs last pan
 rintro g h u xk ⟨k,RE,qe,ce,hkg,hxx,hs2,H2⟩
 injection hxx with hxx
 injection hxx with _ hxx
 subst xk
 have hlk:(ex++List.replicate k v).length=ex.length+k:=by simp
 refine bcase_dec (fun h2=>?_) fun h2=>?_
 ·refine ptr_of (a:=⟨r,0,none⟩) (ldS_of (hpB H2 0 rfl rfl) ?_)
  refine newC_hp H2 fun r51 h H=>?_
  have H:=H.asc
  have hrep:ex++List.replicate (k+1) v=(ex++List.replicate k v)++[v]:=by rw [List.replicate_succ',List.append_assoc]
  refine Slot.app (m:=1) (new:=[.bool v]) hs2 H rfl (Hp.rdO_mem (rest:=[]) (cs:=[.bool v]) H (by rw [List.append_nil]; exact List.mem_append_right _ (List.mem_append_right _ (List.mem_singleton.2 rfl))) rfl) rfl (fun w hw=>by rw [List.mem_singleton.1 hw]; rfl) (by decide) (by omega) fun RE' q' c' h hs H=>?_
  have H:=Hp.pre H.asc'
  refine ptr_of (a:=⟨r,0,none⟩) ?_
  refine stB H 0 rfl rfl rfl fun h H=>?_
  refine bindI_of (((k+1:Nat):Int)) (by exact i64_at _ _ (by omega) (by omega) (by omega)) ?_
  refine ⟨g-1,by omega,k+1,RE',q',c',by omega,rfl,?_,?_⟩
  ·rw [hrep,bls_app,List.length_append]
   exact hs
  ·rw [hrep,List.length_append]
   exact H
 ·obtain rfl:k=V:=by omega
  refine ⟨f,by omega,ex++List.replicate k v,!v,false,s1,c1,RE,qe,ce,hres,by rw [hlk]; omega,by omega,?_,by omega,rfl,hok1,hs2,H2⟩
  rw [hlk]
  cases first with
  | true=>simp at hf1 ⊢; omega
  | false =>
   have:k≠0:=fun hh=>hc (.inr (.inr (.inl ⟨by omega,rfl⟩)))
   simp at hf1 ⊢; omega
end
section
variable {hB:Heap} {K:VK} {Kp:PK} {q qi:Option Addr} {c ci:Nat} {b:List Nat} {imp:List Bmp}
set_option maxHeartbeats 16000000 in
theorem dDec_ok (hb:RdB b) (hr:rdO hB q (b.length*1) (u8s b)) (hcap:b.length<=c) (hi:BmsV hB qi imp) (hil:imp.length<=1000000000000)
  (hk:∀ (t:Nat) new ex RN qn cn RE qe ce h',decD b imp = .ok (t,new,ex)->MayL new->ListO RN qn cn new->Slot T_bool 1 RE qe ex.length ce (bls ex)->Hp hB [] h' (RN++RE)->K (.tuple #[.agg #[.int .i64 (t:Nat), .slice qn new.length cn, .slice qe ex.length ce], .int .i64 0]) h')
  (hkb:∀ er h',decD b imp = .error er->er=130\/er=120->hext hB h'->K (.tuple #[.agg #[.int .i64 0, .slice none 0 0, .slice none 0 0], .int .i64 er]) h') :
  CP F_dict_Decode #[.slice q b.length c, .slice qi imp.length ci] hB K Kp:=by
 refine call_dict_Decode ?_
 unfold dict_Decode
 have hbl:=hb.bl
 have H:=Hp.nil hB []
 refine newC_hp H fun r1 h H=>?_
 refine newC_hp H fun r3 h H=>?_
 refine newC_hp H fun r5 h H=>?_
 refine newC_hp H fun r7 h H=>?_
 refine newC_hp H fun r9 h H=>?_
 refine st0 H 4 rfl rfl rfl fun h H=>?_
 obtain ⟨Z5,hZ5⟩:∃ Z5:List Value->Ent,Z5=fun cs=>⟨r5,true,T_api_Dict,cs⟩:=⟨_,rfl⟩
 have H:Hp hB [] h [⟨r1,true,T_s_uint8,[.slice q b.length c]⟩,⟨r3,true,T_s_api_Bitmap,[.slice qi imp.length ci]⟩,⟨r5,true,T_api_Dict,[.int .i64 0, .slice none 0 0, .slice none 0 0]⟩,⟨r7,true,T_dict_reader,[.pointer none, .int .i64 0, .slice none 0 0, .slice none 0 0, .int .i64 0, .int .i64 0]⟩,⟨r9,true,T_p_dict_reader,[.pointer (some ⟨r7,0,none⟩)]⟩]:=H
 have H:=H.pick [3,2,4,0,1] (by decide) (L':=[⟨r7,true,T_dict_reader,[.pointer none, .int .i64 0, .slice none 0 0, .slice none 0 0, .int .i64 0, .int .i64 0]⟩,⟨r5,true,T_api_Dict,[.int .i64 0, .slice none 0 0, .slice none 0 0]⟩,⟨r9,true,T_p_dict_reader,[.pointer (some ⟨r7,0,none⟩)]⟩,⟨r1,true,T_s_uint8,[.slice q b.length c]⟩,⟨r3,true,T_s_api_Bitmap,[.slice qi imp.length ci]⟩]) rfl
 refine dcaught_ok (fun L2=>∃ (t:Nat) (new:List Bmp) (ex:List Bool) (RN:List Ent) (qn:Option Addr) (cn:Nat) (RE:List Ent) (qe:Option Addr) (ce p left area:Nat) (M Y:List Ent),decD b imp = .ok (t,new,ex)/\MayL new/\ListO RN qn cn new/\Slot T_bool 1 RE qe ex.length ce (bls ex) /\
   L2=⟨r5,true,T_api_Dict,[.int .i64 0, .slice none 0 0, .slice none 0 0]⟩::⟨r9,true,T_p_dict_reader,[.pointer (some ⟨r7,0,none⟩)]⟩::(M++((RN++RE)++(RdS r7 p t qn new.length cn qe ex.length ce left area::Y))))
  (fun er L2=>decD b imp = .error er/\(er=130\/er=120)/\∃ Y,L2=⟨r5,true,T_api_Dict,[.int .i64 0, .slice none 0 0, .slice none 0 0]⟩::Y) H (fun {re h1 K1 Kp1} H hK1 hKp1=>?_) (fun h' L' hp H=>?_) fun er h' L' hp H=>?_
 rotate_left
 ·obtain ⟨t,new,ex,RN,qn,cn,RE,qe,ce,p,left,area,M,Y,hd,hM,hL,hs,rfl⟩:=hp
  refine ⟨_,rfl,?_⟩
  refine bcase_false (by rfl) ?_
  refine ldP_of (H.cell 1 rfl rfl) (ptr_of (a:=⟨r7,0,none⟩) ?_)
  obtain ⟨k,hk9⟩:=List.getElem?_of_mem (show RdS r7 p t qn new.length cn qe ex.length ce left area∈(⟨r5,true,T_api_Dict,[.int .i64 0, .slice none 0 0, .slice none 0 0]⟩:Ent)::⟨r9,true,T_p_dict_reader,[.pointer (some ⟨r7,0,none⟩)]⟩::(M++((RN++RE)++(RdS r7 p t qn new.length cn qe ex.length ce left area::Y))) by simp)
  refine ldI_of (hpB H k hk9 rfl) (ldS_of (hpB H k hk9 rfl) (ldS_of (hpB H k hk9 rfl) ?_))
  refine stA H 0 rfl rfl rfl fun h H=>?_
  refine stA H 0 rfl rfl rfl fun h H=>?_
  refine stA H 0 rfl rfl rfl fun h H=>?_
  refine ldI_of (hpA H 0 rfl rfl) (ldS_of (hpA H 0 rfl rfl) (ldS_of (hpA H 0 rfl rfl) ?_))
  have H:Hp hB [] h ([⟨r5,true,T_api_Dict,[.int .i64 (t:Nat), .slice qn new.length cn, .slice qe ex.length ce]⟩,⟨r9,true,T_p_dict_reader,[.pointer (some ⟨r7,0,none⟩)]⟩]++(M++((RN++RE)++(RdS r7 p t qn new.length cn qe ex.length ce left area::Y)))):=H
  exact hk t new ex RN qn cn RE qe ce h hd hM hL hs (Hp.pre (Hp.suf (X:=M) (Hp.suf H)))
 ·obtain ⟨hd,her,Y,rfl⟩:=hp
  refine ⟨_,rfl,?_⟩
  refine bcase_ne (fun _=>?_) fun hh=>absurd hh (by omega)
  refine stA H 0 rfl rfl rfl fun h H=>?_
  refine stA H 0 rfl rfl rfl fun h H=>?_
  refine stA H 0 rfl rfl rfl fun h H=>?_
  refine ldI_of (hpA H 0 rfl rfl) (ldS_of (hpA H 0 rfl rfl) (ldS_of (hpA H 0 rfl rfl) ?_))
  exact hkb er h hd her H.hext
 unfold callD
 simp only
 refine call_dict_Decode_c1 (cap0:=⟨r3,0,none⟩) (cap1:=⟨r1,0,none⟩) (cap2:=⟨r9,0,none⟩) ?_
 unfold dict_Decode_c1
 obtain ⟨X,hX⟩:∃ X:List Ent,X=[⟨re,true,T_api_Errno,[.int .i64 0]⟩,⟨r5,true,T_api_Dict,[.int .i64 0, .slice none 0 0, .slice none 0 0]⟩,⟨r9,true,T_p_dict_reader,[.pointer (some ⟨r7,0,none⟩)]⟩,⟨r1,true,T_s_uint8,[.slice q b.length c]⟩,⟨r3,true,T_s_api_Bitmap,[.slice qi imp.length ci]⟩]:=⟨_,rfl⟩
 have hXw:X.all Ent.w=true:=by rw [hX]; rfl
 have bad:∀ {er:Int} {h:Heap} {J:List Ent},decD b imp = .error er->er=130\/er=120->Hp hB [] h (X++J)->Kp1 (dflt er) h:=fun {er h J} hd her H=>by
  rw [hX] at H
  exact hKp1 er h _ ⟨hd,her,_,rfl⟩ H
 obtain ⟨R7,hR7⟩:∃ R7:List Value->Ent,R7=fun cs=>⟨r7,true,T_dict_reader,cs⟩:=⟨_,rfl⟩
 have H:Hp hB [] h1 (X++[⟨r7,true,T_dict_reader,[.pointer none, .int .i64 0, .slice none 0 0, .slice none 0 0, .int .i64 0, .int .i64 0]⟩]):=by
  have H:Hp hB [] h1 ([⟨re,true,T_api_Errno,[.int .i64 0]⟩]++[⟨r7,true,T_dict_reader,[.pointer none, .int .i64 0, .slice none 0 0, .slice none 0 0, .int .i64 0, .int .i64 0]⟩]++[⟨r5,true,T_api_Dict,[.int .i64 0, .slice none 0 0, .slice none 0 0]⟩,⟨r9,true,T_p_dict_reader,[.pointer (some ⟨r7,0,none⟩)]⟩,⟨r1,true,T_s_uint8,[.slice q b.length c]⟩,⟨r3,true,T_s_api_Bitmap,[.slice qi imp.length ci]⟩]):=H
  rw [hX]
  exact Hp.swap H
 have rdI:∀ {h:Heap} {J:List Ent} {K2:Option Addr->Nat->Nat->Prop},Hp hB [] h (X++J)->K2 qi imp.length ci->ldS h ⟨r3,0,none⟩ K2:=fun H hK=>by
  rw [hX] at H
  exact ldS_of (H.cell 4 rfl rfl) hK
 have rdF:∀ {h:Heap} {J:List Ent} {K2:Option Addr->Nat->Nat->Prop},Hp hB [] h (X++J)->K2 q b.length c->ldS h ⟨r1,0,none⟩ K2:=fun H hK=>by
  rw [hX] at H
  exact ldS_of (H.cell 3 rfl rfl) hK
 have rdP:∀ {h:Heap} {J:List Ent} {K2:Option Addr->Prop},Hp hB [] h (X++J)->K2 (some ⟨r7,0,none⟩)->ldP h ⟨r9,0,none⟩ K2:=fun H hK=>by
  rw [hX] at H
  exact ldP_of (H.cell 2 rfl rfl) hK
 refine rdI H ?_
 refine right_ok (hi.ext H.hext) hil fun rg h' hrg e=>?_
 have H:=H.ext e
 refine ⟨_,rfl,?_⟩
 refine dwrong_ok (fun h2=>?_) fun h2=>?_
 rotate_left
 ·exact bad (er:=130) (by unfold decD; rw [if_pos (fun hh=>by rw [hrg.2 hh] at h2; cases h2)]) (.inl rfl) H
 have hmay:MayL imp:=hrg.1 (by cases rg with | true=>rfl | false=>cases h2)
 refine rdI H ?_
 refine dbig_ok (fun h3=>?_) fun h3=>?_
 rotate_left
 ·have h3:((imp.length:Nat):Int) > 4096:=of_decide_eq_true h3
  exact bad (er:=120) (by unfold decD; rw [if_neg (fun hh=>hh hmay),if_pos (by omega)]) (.inr rfl) H
 have h3:¬ ((imp.length:Nat):Int) > 4096:=of_decide_eq_false h3
 have hi4:imp.length<=4096:=by omega
 have hdec:decD b imp=match b[0]? with
  | none => .error 130
  | some t=>if 3<t then .error 130
   else if (varP b 1).1≠0 then .error 130
   else if 4096-imp.length<(varP b 1).2.1 then .error 120
   else match symF (szD t) t (varP b 1).2.1 ((varP b 1).2.1+1) [] 0 0 (newD (b.drop (varP b 1).2.2) (szD t)) with
    | .error e => .error e
    | .ok (new,s)=>match flF (szD t) (imp.length+(varP b 1).2.1) (imp.length+(varP b 1).2.1+2) [] false true s with
     | .error e => .error e
     | .ok ex => .ok (t,new,ex):=by
  unfold decD
  rw [if_neg (fun hh=>hh hmay),if_neg (by omega)]
  all_goals rfl
 refine rdF H ?_
 refine newReader_ok (H.rdO hr) hb fun rr q' c' D h hsD H'=>?_
 have H:=H.join H' (by rw [List.all_cons,hsD.w]; rfl)
 clear H'
 refine ⟨_,rfl,?_⟩
 have hDw:∀ i,(rdE rr q' b.length c' i::D).all Ent.w=true:=fun i=>by rw [List.all_cons,hsD.w]; rfl
 refine rtake8_ok (Hp.giveS H) hsD hb (Nat.zero_le _) (fun hnone=>?_) fun t h hb0 H'=>?_
 ·refine ⟨_,_,rfl,?_⟩
  refine ⟨fun _ _=>False,?_,fun _ _ hh=>hh.elim⟩
  refine bcase_true (by rfl) ?_
  refine dwrong_ok (fun hh=>by cases hh) fun _=>?_
  exact bad (er:=130) (by rw [hdec,hnone]) (.inl rfl) H.asc
 have H:=Hp.putS H (hDw _) H' (hDw _)
 clear H'
 have hb1:1<=b.length:=by
  have:=(List.getElem?_eq_some_iff.1 hb0).1
  omega
 rw [hb0] at hdec
 dsimp only at hdec
 refine ⟨_,_,rfl,?_⟩
 refine ⟨fun _ h'=>¬ 3<t/\h'=h,?_,?_⟩
 ·refine bcase_false (by rfl) ?_
  refine dwrong_ok (fun h4=>?_) fun h4=>?_
  ·have h4:¬ ((t:Nat):Int) > 3:=of_decide_eq_false h4
   exact ⟨by omega,rfl⟩
  ·have h4:((t:Nat):Int) > 3:=of_decide_eq_true h4
   exact bad (er:=130) (by rw [hdec,if_pos (by omega)]) (.inl rfl) H.asc
 rintro h' u ⟨ht3,rfl⟩
 rw [if_neg ht3] at hdec
 have ht4:t<4:=by omega
 have H:=H.asc
 refine rdP H ?_
 refine bindI_of (((t:Nat):Int)) (by exact i64_in _ (by omega) (by omega)) ?_
 refine ptr_of (a:=⟨r7,0,none⟩) ?_
 have H:=H.rot
 refine stB H 0 rfl rfl rfl fun h H=>?_
 have H:Hp hB [] h ((⟨r7,true,T_dict_reader,[.pointer none, .int .i64 (t:Nat), .slice none 0 0, .slice none 0 0, .int .i64 0, .int .i64 0]⟩::(rdE rr q' b.length c' 1::D))++X):=H
 have H:Hp hB [] h ((X++[⟨r7,true,T_dict_reader,[.pointer none, .int .i64 (t:Nat), .slice none 0 0, .slice none 0 0, .int .i64 0, .int .i64 0]⟩])++(rdE rr q' b.length c' 1::D)):=H.rot.asc'
 refine rvar_ok (Hp.giveS H) hsD hb hb1 fun h H'=>?_
 have H:=Hp.putS H (hDw _) H' (hDw _)
 clear H'
 refine ⟨_,_,rfl,?_⟩
 have hve:=varP_le (b:=b) (i:=1) hb1
 obtain ⟨N,hN⟩:∃ N,N=(varP b 1).2.1:=⟨_,rfl⟩
 obtain ⟨i,hii⟩:∃ i,i=(varP b 1).2.2:=⟨_,rfl⟩
 rw [<- hN,<- hii] at hdec
 rw [<- hii] at H hve
 rw [<- hN]
 refine dwrong_ok (fun h4=>?_) fun h4=>?_
 rotate_left
 ·have h4:(varP b 1).1≠0:=by simpa using h4
  exact bad (er:=130) (by rw [hdec,if_pos h4]) (.inl rfl) H.asc
 have hv0:(varP b 1).1=0:=by simpa using h4
 rw [if_neg (fun hh=>hh hv0)] at hdec
 refine rdI H.asc ?_
 refine bindI_of (((4096-imp.length:Nat):Int)) (by exact i64_at _ _ (by omega) (by omega) (by omega)) ?_
 refine bindI_of (((4096-imp.length:Nat):Int)) (by exact u64_in _ (by omega) (by omega)) ?_
 refine dbig_ok (fun h5=>?_) fun h5=>?_
 rotate_left
 ·have h5:((N:Nat):Int) > ((4096-imp.length:Nat):Int):=of_decide_eq_true h5
  exact bad (er:=120) (by rw [hdec,if_pos (by omega)]) (.inr rfl) H.asc
 have h5:¬ ((N:Nat):Int) > ((4096-imp.length:Nat):Int):=of_decide_eq_false h5
 have hN4:N<=4096-imp.length:=by omega
 rw [if_neg (by omega)] at hdec
 refine rdP H.asc ?_
 refine bindI_of (((N:Nat):Int)) (by exact i64_in _ (by omega) (by omega)) ?_
 refine ptr_of (a:=⟨r7,0,none⟩) ?_
 have H:=H.asc.rot
 refine stA H 0 rfl rfl rfl fun h H=>?_
 have H:Hp hB [] h ((⟨r7,true,T_dict_reader,[.pointer none, .int .i64 (t:Nat), .slice none 0 0, .slice none 0 0, .int .i64 (N:Nat), .int .i64 0]⟩::(rdE rr q' b.length c' i::D))++X):=H
 have H:=H.rot
 refine rdP H (ptr_of (a:=⟨r7,0,none⟩) ?_)
 refine ldI_of (hpB H.rot 0 rfl rfl) ?_
 refine csize_ok (fun t' ht' htt h' e=>?_) fun hn=>absurd ⟨by omega,by omega⟩ hn
 obtain rfl:t=t':=by omega
 have H:=H.ext e
 refine ⟨_,_,rfl,?_⟩
 refine need0_ok ?_
 have hgs:=gsize_le ht4
 refine bindI_of (((1536+gsize t:Nat):Int)) (by exact i64_at _ _ (by omega) (by omega) (by omega)) ?_
 refine bindI_of (((szD t:Nat):Int)) (by exact i64_at _ _ (by unfold szD; omega) (by omega) (by unfold szD; omega)) ?_
 refine rdP H (rdF H (rdF H ?_))
 refine rleft_ok (Hp.suf (X:=X++[⟨r7,true,T_dict_reader,[.pointer none, .int .i64 (t:Nat), .slice none 0 0, .slice none 0 0, .int .i64 (N:Nat), .int .i64 0]⟩]) H.asc') hb hve ?_
 refine ⟨_,rfl,hext.refl _,?_⟩
 refine bindI_of (((b.length-i:Nat):Int)) (by exact i64_at _ _ (by rw [show ((8*(b.length-i):Nat):Int).tdiv 8=((8*(b.length-i) / 8:Nat):Int) from rfl]; omega) (by omega) (by omega)) ?_
 refine bindI_of (((i:Nat):Int)) (by exact i64_at _ _ (by omega) (by omega) (by omega)) ?_
 refine needs_of (by omega) ?_
 rw [Int.toNat_natCast]
 have hdl:(b.drop i).length=b.length-i:=List.length_drop
 have hsz:=szD_le ht4
 have hd8:∀ z∈b.drop i,z<256:=fun z hz=>hb.b8 z (List.mem_of_mem_drop hz)
 rw [<- hdl]
 refine Go.Ar.newDecoder_ok (n:=szD t) (b:=b.drop i) (by omega) (by omega) hd8 (by omega) (H.rdO (rdO_drop hr hve hcap)) fun p qq e0 bp bc h hbok H'=>?_
 have hdw:∀ s,(decL p qq e0 bp bc s).all Ent.w=true:=fun s=>by simp [decL,Go.Ar.decE,hbok.1]
 have hx:=H'.hext
 have H:=H.join H' (hdw _)
 clear H'
 refine ⟨_,_,rfl,hx,?_⟩
 refine ptr_of (a:=⟨r7,0,none⟩) ?_
 have H:=H.asc.rot
 have H:Hp hB [] h (⟨r7,true,T_dict_reader,[.pointer none, .int .i64 (t:Nat), .slice none 0 0, .slice none 0 0, .int .i64 (N:Nat), .int .i64 0]⟩::((rdE rr q' b.length c' i::D)++decL p qq e0 bp bc (newD (b.drop i) (szD t))++X)):=H.as (by simp only [List.cons_append,List.append_assoc])
 refine stA H 0 rfl rfl rfl fun h H=>?_
 refine need0_ok ?_
 obtain ⟨XX,hXX⟩:∃ XX:List Ent,XX=X++(rdE rr q' b.length c' i::D):=⟨_,rfl⟩
 have hXXw:XX.all Ent.w=true:=by rw [hXX,List.all_append,hXw,hDw]; rfl
 have H:Hp hB [] h (RdS r7 p t none 0 0 none 0 0 N 0::(decL p qq e0 bp bc (newD (b.drop i) (szD t))++XX)):=by
  have H:Hp hB [] h ([RdS r7 p t none 0 0 none 0 0 N 0]++(rdE rr q' b.length c' i::D)++(decL p qq e0 bp bc (newD (b.drop i) (szD t))++X)):=H.as (by simp only [RdS,List.cons_append,List.nil_append,List.append_assoc,List.set]; rfl)
  have H:=Hp.swap H
  rw [hXX]
  exact H.as (by simp only [List.cons_append,List.nil_append,List.append_assoc])
 have rdX:∀ {h:Heap} {A J:List Ent},Hp hB [] h (A++(XX++J))->Hp hB [] h (X++((rdE rr q' b.length c' i::D)++J)):=fun {h A J} H=>(Hp.suf H).as (by rw [hXX,List.append_assoc])
 have badX:∀ {er:Int} {h:Heap} {J:List Ent},decD b imp = .error er->er=130\/er=120->Hp hB [] h (XX++J)->Kp1 (dflt er) h:=fun {er h J} hd her H=>bad hd her (rdX (A:=[]) H)
 clear bad
 have H0:Hp hB [] h (RdS r7 p t none 0 0 none 0 0 N 0::(decL p qq e0 bp bc (newD (b.drop i) (szD t))++(XX++[]))):=H.as (by rw [List.append_nil])
 have rd0:∀ {h:Heap} {E:Ent} {s:Dec} {J:List Ent},Hp hB [] h (E::(decL p qq e0 bp bc s++(XX++J)))->Hp hB [] h (X++((rdE rr q' b.length c' i::D)++J)):=fun {h E s J} H=>rdX (A:=E::decL p qq e0 bp bc s) H
 refine rdI (rd0 H0) (rdP (rd0 H0) (ptr_of (a:=⟨r7,0,none⟩) (ldI_of (hpA H0 0 rfl rfl) ?_)))
 clear H0
 refine bindI_of (((imp.length+N:Nat):Int)) (by exact i64_at _ _ (by omega) (by omega) (by omega)) ?_
 have hok0:=Go.Ar.newD_ok hd8 (szD t)
 have herr:∀ (f:Nat) (new:List Bmp) (area:Nat) (hh:Int) (s:Dec),True:=fun _ _ _ _ _=>trivial
 obtain ⟨Rs,hRs⟩:∃ Rs,symF (szD t) t N (N+1) [] 0 0 (newD (b.drop i) (szD t))=Rs:=⟨_,rfl⟩
 rw [hRs] at hdec
 refine ⟨fun f vs h'=>∃ (new:List Bmp) (area cnt ah:Nat) (s:Dec) (RN:List Ent) (qn:Option Addr) (cn:Nat),symF (szD t) t N f new area (ah:Nat) s=Rs/\new.length<=N/\N-new.length+1<=f/\area<=1048576/\ah<=1048576/\cnt<=192*new.length+2*area/\vs=[.int .i64 (ah:Nat)] /\
   Go.Ar.DecOk (b.drop i) (szD t) cnt s/\ListO RN qn cn new/\MayL new/\Hp hB [] h' ((RdS r7 p t qn new.length cn none 0 0 (N-new.length) area::(decL p qq e0 bp bc s++XX))++RN),
  ⟨N+1,[],0,0,0,newD (b.drop i) (szD t),[],none,0,hRs,Nat.zero_le _,by simp,by decide,by decide,Nat.zero_le _,rfl,hok0,ListO.nil,(fun x hx=>by cases hx),by rw [List.append_nil]; exact H⟩,?_⟩
 clear H hRs hok0
 rintro f h u xa ⟨new,area,cnt,ah,s,RN,qn,cn,hsym,hln,hf,har,hah,hcnt,hxx,hok,hL,hM,H⟩
 injection hxx with hxx
 injection hxx with _ hxx
 subst xa
 obtain ⟨f,rfl⟩:∃ f',f=f'+1:=⟨f-1,by omega⟩
 unfold symF at hsym
 have H:Hp hB [] h (RdS r7 p t qn new.length cn none 0 0 (N-new.length) area::(decL p qq e0 bp bc s++(XX++RN))):=H.as (by simp only [List.cons_append,List.append_assoc])
 have hXRw:(XX++RN).all Ent.w=true:=by rw [List.all_append,hXXw,hL.w]; rfl
 refine rdP (rd0 H) (ptr_of (a:=⟨r7,0,none⟩) (ldI_of (hpA H 0 rfl rfl) ?_))
 refine bcase_dec (fun h6=>?_) fun h6=>?_
 rotate_left
 ·rw [if_pos (by omega)] at hsym
  rw [<- hsym] at hdec
  dsimp only at hdec
  have hNl:new.length=N:=by omega
  refine rdP (rd0 H) ?_
  obtain ⟨Rf,hRf⟩:∃ Rf,flF (szD t) (imp.length+N) (imp.length+N+2) [] false true s=Rf:=⟨_,rfl⟩
  rw [hRf] at hdec
  refine rflags_ok H hXRw hbok hok (by omega) (by omega) (by omega) (by omega) (by omega) hRf (fun ex RE qe ce s' h hex hsE H=>?_) fun er J h her H=>?_
  ·rw [hex] at hdec
   have hmid:Hp hB [] h (([RdS r7 p t qn new.length cn qe ex.length ce (N-new.length) area]++decL p qq e0 bp bc s')++(X++((rdE rr q' b.length c' i::D)++(RN++RE)))):=H.as (by rw [hXX]; simp only [List.cons_append,List.nil_append,List.append_assoc])
   have H:=hmid.rot
   refine hK1 h (⟨r5,true,T_api_Dict,[.int .i64 0, .slice none 0 0, .slice none 0 0]⟩::⟨r9,true,T_p_dict_reader,[.pointer (some ⟨r7,0,none⟩)]⟩::((⟨r1,true,T_s_uint8,[.slice q b.length c]⟩::⟨r3,true,T_s_api_Bitmap,[.slice qi imp.length ci]⟩::(rdE rr q' b.length c' i::D))++((RN++RE)++(RdS r7 p t qn new.length cn qe ex.length ce (N-new.length) area::decL p qq e0 bp bc s'))))
    ⟨t,new,ex,RN,qn,cn,RE,qe,ce,p,N-new.length,area,_,_,hdec,hM,hL,hsE,rfl⟩ ?_
   exact H.as (by rw [hX]; simp only [List.cons_append,List.nil_append,List.append_assoc])
  ·rw [her] at hdec
   have hflE:er=130:=by
    have key:∀ (f:Nat) (ex:List Bool) (v first:Bool) (s:Dec),ex.length<=imp.length+N->imp.length+N-ex.length+(if first=true then 2 else 1)<=f->flF (szD t) (imp.length+N) f ex v first s = .error er->er=130:=by
     intro f
     induction f with
     | zero=>exact fun ex v first s _ hz=>by split at hz <;> omega
     | succ f ih =>
      intro ex v first s hle hz he
      unfold flF at he
      split at he
      ·cases he
      ·split at he
       ·injection he with he; exact he.symm
       ·split at he
        ·injection he with he; exact he.symm
        ·rename_i h7 h8 h9
         refine ih _ _ _ _ ?_ ?_ he
         ·rw [List.length_append,List.length_replicate]; omega
         ·rw [List.length_append,List.length_replicate,if_neg (by decide)]
          cases first with
          | true=>rw [if_pos rfl] at hz; omega
          | false =>
           rw [if_neg (by decide)] at hz
           have:(decW (szD t) 1024 s).1.2.1≠0:=fun hh=>h9 (.inr (.inr (.inl ⟨hh,rfl⟩)))
           omega
    exact key _ _ _ _ _ (Nat.zero_le _) (by simp) (hRf.trans her)
   exact badX hdec (.inl hflE) H.asc
 rw [if_neg (by omega)] at hsym
 refine rdP (rd0 H) ?_
 have hdv:=decW_v (szD t) 0 s
 refine rnum_ok H hXRw hbok hok (by omega) (by omega) (by omega) (by omega) (by omega) (fun h c1 he hc1 hok1 H=>?_) fun J h he H=>?_
 rotate_left
 ·rw [if_pos he] at hsym
  rw [<- hsym] at hdec
  exact badX hdec (.inl rfl) H.asc
 rw [if_neg (by rw [he]; decide)] at hsym
 clear he
 generalize decW (szD t) 0 s=dw at *
 obtain ⟨⟨ee,v,nn'⟩,s1⟩:=dw
 dsimp only at *
 refine ⟨_,_,rfl,?_⟩
 refine newC_hp H fun r90 h H=>?_
 have H:=H.rot
 refine stA H 0 rfl rfl rfl fun h H=>?_
 refine stA H 0 rfl rfl rfl fun h H=>?_
 have H:Hp hB [] h ((⟨r90,true,T_api_Whole,[.int .i64 v, .bool nn']⟩::RdS r7 p t qn new.length cn none 0 0 (N-new.length) area::decL p qq e0 bp bc s1)++(XX++RN)):=H
 have rd9:∀ {h:Heap} {A:List Ent},Hp hB [] h (A++(XX++RN))->Hp hB [] h (X++((rdE rr q' b.length c' i::D)++RN)):=fun {h A} H=>rdX (A:=A) H
 refine ⟨fun _ h'=>¬ (nn'=true\/v<1)/\h'=h,?_,?_⟩
 ·refine ldB_of (hpA H 0 rfl rfl) ?_
  refine bcase_of (fun h7=>?_) fun h7=>?_
  ·rw [if_pos (.inl h7)] at hsym
   rw [<- hsym] at hdec
   exact dwrong_ok (fun hh=>by cases hh) fun _=>badX hdec (.inl rfl) (Hp.suf H)
  ·refine ldI_of (hpA H 0 rfl rfl) ?_
   refine dwrong_ok (fun h8=>?_) fun h8=>?_
   ·have h8:¬ v<1:=of_decide_eq_false h8
    exact ⟨fun hh=>by
     rcases hh with hh | hh
     ·rw [h7] at hh; cases hh
     ·exact h8 hh,rfl⟩
   ·have h8:v<1:=of_decide_eq_true h8
    rw [if_pos (.inr h8)] at hsym
    rw [<- hsym] at hdec
    exact badX hdec (.inl rfl) (Hp.suf H)
 rintro h' u ⟨hc7,rfl⟩
 rw [if_neg hc7] at hsym
 refine ldI_of (hpA H 0 rfl rfl) ?_
 obtain ⟨V,hV⟩:∃ V:Nat,((V:Nat):Int)=(ah:Int)+v:=⟨((ah:Int)+v).toNat,by omega⟩
 rw [<- hV] at hsym
 refine bindI_of (((V:Nat):Int)) (by (rw [hV]; exact i64_in _ (by omega) (by omega))) ?_
 refine dbig_ok (fun h8=>?_) fun h8=>?_
 rotate_left
 ·have h8:((V:Nat):Int) > 1048576:=of_decide_eq_true h8
  rw [if_pos (by omega)] at hsym
  rw [<- hsym] at hdec
  exact badX hdec (.inr rfl) (Hp.suf H)
 have h8:¬ ((V:Nat):Int) > 1048576:=of_decide_eq_false h8
 rw [if_neg (by omega)] at hsym
 refine rdP (rd9 H) ?_
 obtain ⟨Rc,hRc⟩:∃ Rc,clsF (szD t) t N (V:Nat) (N-new.length+2) new area 0 true s1=Rc:=⟨_,rfl⟩
 rw [hRc] at hsym
 have H:Hp hB [] h' ((RdS r7 p t qn new.length cn none 0 0 (N-new.length) area::(decL p qq e0 bp bc s1++XX))++RN):=(Hp.suf (X:=[⟨r90,true,T_api_Whole,[.int .i64 v, .bool nn']⟩]) (H.as (by simp only [List.cons_append,List.nil_append,List.append_assoc]):Hp hB [] h' ([⟨r90,true,T_api_Whole,[.int .i64 v, .bool nn']⟩]++(RdS r7 p t qn new.length cn none 0 0 (N-new.length) area::(decL p qq e0 bp bc s1++(XX++RN)))))).as (by simp only [List.cons_append,List.append_assoc])
 refine class_ok H hL hXXw hbok hok1 (by omega) ht4 rfl ⟨by omega,by omega⟩ (by omega) hln har (by omega) hM hRc (fun new' area' s' c2 RN' qn' cn' h hRc2 hlt hln' har' hc2 hok2 hL' hM' H=>?_) fun er J h her H=>?_
 ·rw [hRc2] at hsym
  dsimp only at hsym
  exact ⟨f,by omega,new',area',c2,V,s',RN',qn',cn',hsym,hln',by omega,har',by omega,hc2,rfl,hok2,hL',hM',H⟩
 ·rw [her] at hsym
  dsimp only at hsym
  rw [<- hsym] at hdec
  have hcE:er=130\/er=120:=by
   have key:∀ (f:Nat) (new:List Bmp) (area:Nat) (w:Int) (first:Bool) (s:Dec),new.length<=N->N-new.length+1<=f->clsF (szD t) t N (V:Nat) f new area w first s = .error er->er=130\/er=120:=by
    intro f
    induction f with
    | zero=>exact fun _ _ _ _ _ _ hz=>by omega
    | succ f ih =>
     intro new area w first s hle hz he
     unfold clsF at he
     split at he
     ·injection he with he; exact .inl he.symm
     ·split at he
      ·split at he
       ·injection he with he; exact .inl he.symm
       ·cases he
      ·split at he
       ·injection he with he; exact .inl he.symm
       ·split at he
        ·injection he with he; exact .inr he.symm
        ·rename_i h7 h8 h9 h10
         have hne:new.length≠N:=fun hh=>h9 (.inl hh)
         exact ih _ _ _ _ _ (by rw [List.length_append,List.length_singleton]; omega) (by rw [List.length_append,List.length_singleton]; omega) he
   exact key _ _ _ _ _ _ hln (by omega) (hRc.trans her)
  exact badX hdec hcE H
end
end Go.Bm
namespace Go.Bm
open Go Go.Den Go.Den.YtfaclehehhgpcaaGreat
open Go.Ar (Dec newD refD BOk RP u8s)
def DeS (x:Nat) (A:RP) (t:Nat) (qn:Option Addr) (nn cn:Nat) (qe:Option Addr) (ne ce:Nat) (area:Nat) (er:Int):Ent :=
 ⟨x,true,T_burinref13_dec,[.pointer (at0 A.p), .int .i64 (t:Nat), .slice qn nn cn, .slice qe ne ce, .int .i64 (area:Nat), .int .i64 er]⟩
theorem set_same {α:Type} {L:List α} {k:Nat} {a:α} (h:L[k]? = some a):L.set k a=L:=by
 apply List.ext_getElem?
 intro j
 by_cases hj:k=j
 ·subst hj
  rw [List.getElem?_set_self (List.getElem?_eq_some_iff.1 h).1,h]
 ·rw [List.getElem?_set_ne hj]
section
variable {hB h:Heap} {K:VK} {Kp:PK}
variable {x m t n bc nn cn ne ce area n0:Nat} {A:RP} {qn qe bp:Option Addr} {e0:Ent} {s:Dec} {bytes:List Nat} {X L:List Ent} {er e:Int}
theorem flt_ok (H:Hp hB [] h L) (k:Nat) (he:L[k]? = some (DeS x A t qn nn cn qe ne ce area e)) (hk:∀ h',Hp hB [] h' (L.set k (DeS x A t qn nn cn qe ne ce area (if e=0 then er else e)))->K (.tuple #[]) h') :
  CP F_burinref13_dec_fault #[.pointer (some ⟨x,0,none⟩), .int .i64 er] h K Kp:=by
 refine call_burinref13_dec_fault ?_
 unfold burinref13_dec_fault
 refine ptr_of (a:=⟨x,0,none⟩) (ldI_of (hpA H k he rfl) ?_)
 refine bcase_eq (fun h1=>?_) fun h1=>?_
 ·refine ptr_of (a:=⟨x,0,none⟩) ?_
  refine stA H k he rfl rfl fun h H=>?_
  rw [if_pos h1] at hk
  exact hk h H
 ·rw [if_neg h1,set_same he] at hk
  exact hk h H
theorem num13_ok (H:Hp hB [] h (DeS x A t qn nn cn qe ne ce area 0::(refD A e0 bp bc s++X))) (hb:BOk e0 bp bytes) (hok:Go.Ar.DecOk bytes m n0 s) (hbl:bytes.length<140737488351300) (hn:n0+64<=16777216) (hm1:1<=m) (hm2:m<=131072) {base:Int} (hbase:-1<=base/\base<=131072)
  (hk:∀ h' n',n'<=n0+64->Go.Ar.DecOk bytes m n' (decW m base s).2->Hp hB [] h' (DeS x A t qn nn cn qe ne ce area (if (decW m base s).1.1≠0 then 130 else 0)::(refD A e0 bp bc (decW m base s).2++X))->K (.agg #[.int .i64 (decW m base s).1.2.1, .bool (decW m base s).1.2.2]) h') :
  CP F_burinref13_dec_num #[.pointer (some ⟨x,0,none⟩), .int .i64 base] h K Kp:=by
 refine call_burinref13_dec_num ?_
 unfold burinref13_dec_num
 refine newC_hp H fun r1 h H=>?_
 have H:=H.rot
 have hw:=hb.1
 have H:Hp hB [] h (⟨r1,true,T_api_Whole,[.int .i64 0, .bool false]⟩::DeS x A t qn nn cn qe ne ce area 0::(refD A e0 bp bc s++X)):=H
 refine ptr_of (a:=⟨x,0,none⟩) (ldI_of (hpA H 1 rfl rfl) ?_)
 refine bcase_ne (fun h1=>absurd rfl h1) fun _=>?_
 refine ptr_of (a:=⟨x,0,none⟩) (ldP_of (hpA H 1 rfl rfl) ?_)
 refine rget5_ok (H.give [2,3,4,5,6] (by simp) rfl) hw hb hok hbl hn hm1 hm2 hbase fun h' n' hn' hok' H'=>?_
 have H:=H.put [2,3,4,5,6] (by simp) rfl (by simp [refD,Go.Ar.sideL,hw]) H' (by simp [refD,Go.Ar.sideL,hw]) rfl
 clear H'
 have H:Hp hB [] h' (⟨r1,true,T_api_Whole,[.int .i64 0, .bool false]⟩::DeS x A t qn nn cn qe ne ce area 0::(refD A e0 bp bc (decW m base s).2++X)):=H
 refine ⟨_,_,_,rfl,?_⟩
 generalize decW m base s=dw at *
 obtain ⟨⟨ee,v,nn'⟩,s'⟩:=dw
 dsimp only at *
 refine newC_hp H fun r16 h H=>?_
 have H:=H.rot
 refine stA H 0 rfl rfl rfl fun h H=>?_
 refine stA H 0 rfl rfl rfl fun h H=>?_
 have H:Hp hB [] h (⟨r16,true,T_api_Whole,[.int .i64 v, .bool nn']⟩::⟨r1,true,T_api_Whole,[.int .i64 0, .bool false]⟩::DeS x A t qn nn cn qe ne ce area 0::(refD A e0 bp bc s'++X)):=H
 have fin:∀ {h:Heap} {e:Int},e=(if ee≠0 then 130 else 0)->Hp hB [] h (⟨r16,true,T_api_Whole,[.int .i64 v, .bool nn']⟩::⟨r1,true,T_api_Whole,[.int .i64 0, .bool false]⟩::DeS x A t qn nn cn qe ne ce area e::(refD A e0 bp bc s'++X)) ->
   ldI h ((⟨r16,0,none⟩:Addr).add 0) .i64 fun x_28=>ldB h ((⟨r16,0,none⟩:Addr).add 1) fun x_29=>stV h ((⟨r1,0,none⟩:Addr).add 0) (.int .i64 x_28) fun h_30=>stV h_30 ((⟨r1,0,none⟩:Addr).add 1) (.bool x_29) fun h_31 =>
   ldI h_31 ((⟨r1,0,none⟩:Addr).add 0) .i64 fun r_32=>ldB h_31 ((⟨r1,0,none⟩:Addr).add 1) fun r_33=>K (.agg #[.int .i64 r_32, .bool r_33]) h_31:=fun {h e} he H=>by
  refine ldI_of (hpA H 0 rfl rfl) (ldB_of (hpA H 0 rfl rfl) ?_)
  refine stA H 1 rfl rfl rfl fun h H=>?_
  refine stA H 1 rfl rfl rfl fun h H=>?_
  refine ldI_of (hpA H 1 rfl rfl) (ldB_of (hpA H 1 rfl rfl) ?_)
  subst he
  exact hk h n' hn' hok' (Hp.suf (X:=[_,_]) H)
 refine bcase_ne (fun h1=>?_) fun h1=>?_
 ·refine flt_ok H 2 rfl fun h H=>?_
  exact fin (by rw [if_pos rfl,if_pos h1]) H
 ·exact fin (by rw [if_neg (fun hh=>hh h1)]) H
variable {Rs:Except Int (List Bmp × Dec)}
set_option maxHeartbeats 16000000 in
theorem sym13_ok (H:Hp hB [] h (DeS x A t none 0 0 none 0 0 0 0::(refD A e0 bp bc s++X))) (hb:BOk e0 bp bytes) (hok:Go.Ar.DecOk bytes m 0 s) (hbl:bytes.length<140737488351300) (ht:t<4) (hm:m=szD t) (hn:n<=4096)
  (hres:symF m t n (n+1) [] 0 0 s=Rs)
  (hk:∀ new s' c' RN qn cn area h',Rs = .ok (new,s')->new.length=n->c'<=192*4096+2*1048576->Go.Ar.DecOk bytes m c' s'->ListO RN qn cn new->MayL new->Hp hB [] h' ((DeS x A t qn new.length cn none 0 0 area 0::(refD A e0 bp bc s'++X))++RN)->K (.tuple #[]) h')
  (hp:∀ er qn nn cn area s' J h',Rs = .error er->er≠0->Hp hB [] h' (DeS x A t qn nn cn none 0 0 area er::(refD A e0 bp bc s'++X)++J)->K (.tuple #[]) h') :
  CP F_burinref13_dec_symbols #[.pointer (some ⟨x,0,none⟩), .int .i64 (n:Nat)] h K Kp:=by
 refine call_burinref13_dec_symbols ?_
 unfold burinref13_dec_symbols
 have hsz:=szD_le ht
 have hbw:=hb.1
 obtain ⟨Er,hEr⟩:∃ Er:Heap->Prop,Er=fun h'=>∃ er qn nn cn area s' J,er≠0/\Rs = .error er/\Hp hB [] h' (DeS x A t qn nn cn none 0 0 area er::(refD A e0 bp bc s'++X)++J):=⟨_,rfl⟩
 have mkEr:∀ {h' er qn nn cn area s' J},er≠0->Rs = .error er->Hp hB [] h' (DeS x A t qn nn cn none 0 0 area er::(refD A e0 bp bc s'++X)++J)->Er h':=fun h1 h2 h3=>by rw [hEr]; exact ⟨_,_,_,_,_,_,_,h1,h2,h3⟩
 have mkE2:∀ {h' er qn nn cn area s' J},er≠0->Rs = .error er->Hp hB [] h' (DeS x A t qn nn cn none 0 0 area er::(refD A e0 bp bc s'++(X++J)))->Er h':=fun {h' er qn nn cn area s' J} h1 h2 h3=>mkEr (qn:=qn) (nn:=nn) (cn:=cn) (area:=area) (s':=s') (J:=J) h1 h2 (h3.as (by simp only [List.cons_append,List.append_assoc]))
 refine ⟨fun f vs h'=>(∃ z:Int,vs=[.int .i64 z])/\((∃ (fu:Nat) (new:List Bmp) (area cnt ah:Nat) (s:Dec) (RN:List Ent) (qn:Option Addr) (cn:Nat),f=fu+1/\symF m t n fu new area (ah:Nat) s=Rs/\new.length<=n/\n-new.length+1<=fu/\area<=1048576/\ah<=1048576/\cnt<=192*new.length+2*area/\vs=[.int .i64 (ah:Nat)] /\
   Go.Ar.DecOk bytes m cnt s/\ListO RN qn cn new/\MayL new/\Hp hB [] h' ((DeS x A t qn new.length cn none 0 0 area 0::(refD A e0 bp bc s++X))++RN))\/Er h'),
  ⟨n+2,⟨0,rfl⟩, .inl ⟨n+1,[],0,0,0,s,[],none,0,rfl,hres,Nat.zero_le _,by simp,by decide,by decide,Nat.zero_le _,rfl,hok,ListO.nil,(fun b hb=>by cases hb),by rw [List.append_nil]; exact H⟩⟩,?_⟩
 clear H hres hok
 rintro f h u xa ⟨⟨z0,hz0⟩,hJ⟩
 rcases hJ with ⟨fu,new,area,cnt,ah,s,RN,qn,cn,rfl,hsym,hln,hf,har,hah,hcnt,hxx,hok,hL,hM,H⟩ | hE
 rotate_left
 ·rw [hEr] at hE
  obtain ⟨er,qn,nn,cn,area,s',J,he,hR,H⟩:=hE
  refine ptr_of (a:=⟨x,0,none⟩) (ldI_of (hpA H 0 rfl rfl) ?_)
  refine bcase_eq (fun h1=>absurd h1 he) fun _=>?_
  exact hp er qn nn cn area s' J h hR he H
 clear hz0
 injection hxx with hxx
 injection hxx with _ hxx
 subst xa
 obtain ⟨fu,rfl⟩:∃ f',fu=f'+1:=⟨fu-1,by omega⟩
 refine ptr_of (a:=⟨x,0,none⟩) (ldI_of (hpA H 0 rfl rfl) ?_)
 refine bcase_eq (fun _=>?_) fun h1=>absurd rfl h1
 refine ptr_of (a:=⟨x,0,none⟩) (ldS_of (hpB H 0 rfl rfl) ?_)
 unfold symF at hsym
 refine bcase_dec (fun h6=>?_) fun h6=>?_
 rotate_left
 ·rw [if_pos (by omega)] at hsym
  exact hk new s cnt RN qn cn area h hsym.symm (by omega) (by omega) hok hL hM H
 rw [if_neg (by omega)] at hsym
 have hdv:=decW_v m 0 s
 have H:Hp hB [] h (DeS x A t qn new.length cn none 0 0 area 0::(refD A e0 bp bc s++(X++RN))):=H.as (by simp only [List.cons_append,List.append_assoc])
 refine num13_ok H hb hok hbl (by omega) (by omega) (by omega) (by omega) fun h c1 hc1 hok1 H=>?_
 generalize decW m 0 s=dw at *
 obtain ⟨⟨ee,v,nn'⟩,s1⟩:=dw
 dsimp only at *
 refine ⟨_,_,rfl,?_⟩
 refine newC_hp H fun r15 h H=>?_
 have H:=H.rot
 refine stA H 0 rfl rfl rfl fun h H=>?_
 refine stA H 0 rfl rfl rfl fun h H=>?_
 obtain ⟨z,hz⟩:∃ z:Int,z=(ah:Int)+v:=⟨_,rfl⟩
 rw [<- hz] at hsym
 refine ⟨fun _ h'=>∃ e2:Int,(e2≠0->Rs = .error e2)/\(e2=0->ee=0/\¬ (nn'=true\/v<1))/\Hp hB [] h' (⟨r15,true,T_api_Whole,[.int .i64 v, .bool nn']⟩::DeS x A t qn new.length cn none 0 0 area e2::(refD A e0 bp bc s1++(X++RN))),?_,?_⟩
 ·have H:Hp hB [] h (⟨r15,true,T_api_Whole,[.int .i64 v, .bool nn']⟩::DeS x A t qn new.length cn none 0 0 area (if ee≠0 then 130 else 0)::(refD A e0 bp bc s1++(X++RN))):=H
  have two:∀ {h:Heap},(nn'=true\/v<1)->Hp hB [] h (⟨r15,true,T_api_Whole,[.int .i64 v, .bool nn']⟩::DeS x A t qn new.length cn none 0 0 area (if (if ee≠0 then (130:Int) else 0)=0 then 130 else (if ee≠0 then 130 else 0))::(refD A e0 bp bc s1++(X++RN))) ->
    ∃ e2:Int,(e2≠0->Rs = .error e2)/\(e2=0->ee=0/\¬ (nn'=true\/v<1))/\Hp hB [] h (⟨r15,true,T_api_Whole,[.int .i64 v, .bool nn']⟩::DeS x A t qn new.length cn none 0 0 area e2::(refD A e0 bp bc s1++(X++RN))):=fun hc H=>by
   refine ⟨130,fun _=>?_,(fun hh=>absurd hh (by decide)),?_⟩
   ·by_cases h7:ee≠0
    ·rw [if_pos h7] at hsym; exact hsym.symm
    ·rw [if_neg h7,if_pos hc] at hsym; exact hsym.symm
   ·by_cases h7:ee≠0
    ·rw [if_pos h7,if_neg (by decide)] at H; exact H
    ·rw [if_neg h7,if_pos rfl] at H; exact H
  refine ldB_of (hpA H 0 rfl rfl) ?_
  refine bcase_of (fun h7=>?_) fun h7=>?_
  ·exact flt_ok H 1 rfl fun h H=>two (.inl h7) H
  ·refine ldI_of (hpA H 0 rfl rfl) ?_
   refine bcase_dec (fun h8=>?_) fun h8=>?_
   ·exact flt_ok H 1 rfl fun h H=>two (.inr h8) H
   ·refine ⟨_,fun h9=>?_,fun h9=>⟨?_,fun hh=>?_⟩,H⟩
    ·by_cases h10:ee≠0
     ·rw [if_pos h10] at hsym ⊢; exact hsym.symm
     ·rw [if_neg h10] at h9; exact absurd rfl h9
    ·by_cases h10:ee≠0
     ·rw [if_pos h10] at h9; exact absurd h9 (by decide)
     ·exact Classical.not_not.1 h10
    ·rcases hh with hh | hh
     ·rw [h7] at hh; cases hh
     ·exact h8 hh
 clear H
 rintro h u ⟨e2,he2,he2',H⟩
 refine ldI_of (hpA H 0 rfl rfl) ?_
 refine bindI_of (z) (by (rw [hz]; exact i64_in _ (by omega) (by omega))) ?_
 refine ⟨fun _ h'=>∃ e3:Int,(e3≠0->Rs = .error e3)/\(e3=0->ee=0/\¬ (nn'=true\/v<1)/\z<=1048576)/\Hp hB [] h' (DeS x A t qn new.length cn none 0 0 area e3::(refD A e0 bp bc s1++(X++RN))),?_,?_⟩
 ·refine bcase_dec (fun h7=>?_) fun h7=>?_
  ·refine flt_ok H 1 rfl fun h H=>?_
   have H:=Hp.suf (X:=[_]) H
   refine ⟨_,fun h9=>?_,fun h9=>?_,H⟩
   ·by_cases h10:e2=0
    ·rw [if_pos h10]
     obtain ⟨g1,g2⟩:=he2' h10
     rw [if_neg (fun hh=>hh g1),if_neg g2,if_pos (by omega)] at hsym
     exact hsym.symm
    ·rw [if_neg h10]; exact he2 h10
   ·by_cases h10:e2=0
    ·rw [if_pos h10] at h9; exact absurd h9 (by decide)
    ·rw [if_neg h10] at h9; exact absurd h9 h10
  ·have H:=Hp.suf (X:=[_]) H
   exact ⟨e2,he2,fun hh=>⟨(he2' hh).1,(he2' hh).2,by omega⟩,H⟩
 clear H he2 he2'
 rintro h u ⟨e3,he3,he3',H⟩
 by_cases hz3:e3≠0
 ·refine ⟨fun f vs h'=>(∃ (w:Int) (b:Bool),vs=[.int .i64 w, .bool b])/\Hp hB [] h' (DeS x A t qn new.length cn none 0 0 area e3::(refD A e0 bp bc s1++(X++RN))),⟨0,⟨_,_,rfl⟩,H⟩,?_⟩
  clear H
  rintro g h u xw xb ⟨_,H⟩
  refine ptr_of (a:=⟨x,0,none⟩) (ldI_of (hpA H 0 rfl rfl) ?_)
  refine bcase_eq (fun h1=>absurd h1 hz3) fun _=>?_
  exact ⟨0,by omega,⟨_,rfl⟩, .inr (mkE2 hz3 (he3 hz3) H)⟩
 obtain rfl:e3=0:=Classical.not_not.1 hz3
 obtain ⟨g1,g2,g3⟩:=he3' rfl
 clear he3 he3' hz3
 rw [if_neg (fun hh=>hh g1),if_neg g2,if_neg (by omega)] at hsym
 obtain ⟨hh,rfl⟩:∃ hh:Nat,z=(hh:Int):=⟨z.toNat,by omega⟩
 have hh1:1<=hh:=by omega
 have hh2:hh<=1048576:=by omega
 obtain ⟨Rc,hRc⟩:∃ Rc,clsF m t n (hh:Nat) (n-new.length+2) new area 0 true s1=Rc:=⟨_,rfl⟩
 rw [hRc] at hsym
 have hcE:∀ {er},Rc = .error er->er=130\/er=120->Rs = .error er:=fun hr _=>by rw [hr] at hsym; exact hsym.symm
 obtain ⟨new0,hnew0⟩:∃ l,l=new:=⟨_,rfl⟩
 obtain ⟨area0,harea0⟩:∃ l,l=area:=⟨_,rfl⟩
 rw [<- hnew0,<- harea0] at hRc
 rw [<- hnew0] at hf
 refine ⟨fun f vs h'=>(∃ (w:Int) (b:Bool),vs=[.int .i64 w, .bool b])/\((∃ (fi:Nat) (new:List Bmp) (area cnt:Nat) (w:Nat) (first:Bool) (s:Dec) (RN:List Ent) (qn:Option Addr) (cn:Nat),f=fi+1/\fi=n-new.length+2/\clsF m t n (hh:Nat) fi new area (w:Nat) first s=Rc/\new0.length<=new.length/\new.length<=n/\(first=false->new0.length<new.length)/\area<=1048576/\w<=1048576 /\
   cnt+64*new0.length<=192*new0.length+64*new.length+2*area+64/\vs=[.int .i64 (w:Nat), .bool first]/\Go.Ar.DecOk bytes m cnt s/\ListO RN qn cn new/\MayL new/\Hp hB [] h' ((DeS x A t qn new.length cn none 0 0 area 0::(refD A e0 bp bc s++X))++RN))\/Er h'),
  ⟨n-new.length+3,⟨0,true,rfl⟩, .inl ⟨n-new.length+2,new,area,c1,0,true,s1,RN,qn,cn,rfl,rfl,by rw [<- hnew0,<- harea0]; exact hRc,by rw [hnew0]; exact Nat.le_refl _,hln,(fun hh=>by cases hh),har,by decide,by rw [hnew0]; omega,rfl,hok1,hL,hM,H.as (by simp only [List.cons_append,List.append_assoc])⟩⟩,?_⟩
 clear H hok1 hL hM hln har hcnt hc1 hok
 clear hnew0 harea0 hRc hdv
 rintro g h u xw xf ⟨⟨wz,fz,hzz⟩,hJ⟩
 rcases hJ with ⟨fi,new,area,cnt,w,first,s,RN,qn,cn,rfl,rfl,hres,hlo,hln,hfi,har,hw,hcnt,hxx,hok,hL,hM,H⟩ | hE
 rotate_left
 ·rw [hEr] at hE
  obtain ⟨er,qn,nn,cn,area,s',J,he,hR,H⟩:=hE
  refine ptr_of (a:=⟨x,0,none⟩) (ldI_of (hpA H 0 rfl rfl) ?_)
  refine bcase_eq (fun h1=>absurd h1 he) fun _=>?_
  exact ⟨0,by omega,⟨_,rfl⟩, .inr (mkEr he hR H)⟩
 clear hzz
 injection hxx with hx1 hxx
 injection hxx with hx2 hxx
 injection hx1 with _ hx1
 injection hx2 with hx2
 subst xw xf
 refine ptr_of (a:=⟨x,0,none⟩) (ldI_of (hpA H 0 rfl rfl) ?_)
 refine bcase_eq (fun _=>?_) fun h1=>absurd rfl h1
 have H:Hp hB [] h (DeS x A t qn new.length cn none 0 0 area 0::(refD A e0 bp bc s++(X++RN))):=H.as (by simp only [List.cons_append,List.append_assoc])
 have hdv:=decW_v m 512 s
 unfold clsF at hres
 refine num13_ok H hb hok hbl (by omega) (by omega) (by omega) (by omega) fun h c1 hc1 hok1 H=>?_
 generalize decW m 512 s=dw at *
 obtain ⟨⟨ee',v',n2⟩,s2⟩:=dw
 dsimp only at *
 refine ⟨_,_,rfl,?_⟩
 refine newC_hp H fun r48 h H=>?_
 have H:=H.rot
 refine stA H 0 rfl rfl rfl fun h H=>?_
 refine stA H 0 rfl rfl rfl fun h H=>?_
 have H:Hp hB [] h (⟨r48,true,T_api_Whole,[.int .i64 v', .bool n2]⟩::DeS x A t qn new.length cn none 0 0 area (if ee'≠0 then 130 else 0)::(refD A e0 bp bc s2++(X++RN))):=H
 refine ptr_of (a:=⟨x,0,none⟩) (ldI_of (hpA H 1 rfl rfl) ?_)
 have stop:∀ {h:Heap} {er:Int},Rc = .error er->er=130\/er=120->Hp hB [] h (⟨r48,true,T_api_Whole,[.int .i64 v', .bool n2]⟩::DeS x A t qn new.length cn none 0 0 area er::(refD A e0 bp bc s2++(X++RN)))->Er h:=fun {h er} hr he H=>mkE2 (by omega) (hcE hr he) (Hp.suf (X:=[_]) H)
 by_cases hee:ee'≠0
 ·rw [if_pos hee] at hres H ⊢
  refine bcase_ne (fun _=>?_) fun hh=>absurd hh (by decide)
  exact ⟨0,by omega,⟨_,rfl⟩, .inr (stop hres.symm (.inl rfl) H)⟩
 rw [if_neg hee] at hres H ⊢
 refine bcase_ne (fun hh=>absurd rfl hh) fun _=>?_
 have fl:∀ {h:Heap} {er:Int} {K1:VK},Rc = .error er->er=130\/er=120->Hp hB [] h (⟨r48,true,T_api_Whole,[.int .i64 v', .bool n2]⟩::DeS x A t qn new.length cn none 0 0 area 0::(refD A e0 bp bc s2++(X++RN)))->(∀ h',Er h'->K1 (.tuple #[]) h')->CP F_burinref13_dec_fault #[.pointer (some ⟨x,0,none⟩), .int .i64 er] h K1 Kp:=fun {h er K1} hr he H hK=>by
  refine flt_ok H 1 rfl fun h H=>?_
  exact hK h (stop hr he H)
 refine ldB_of (hpA H 0 rfl rfl) ?_
 refine bcase_of (fun h1=>?_) fun h1=>?_
 ·rw [if_pos h1] at hres
  refine bcase_of (fun h2=>?_) fun h2=>?_
  ·rw [if_pos h2] at hres
   exact fl hres.symm (.inl rfl) H fun h' hE=>⟨0,by omega,⟨_,rfl⟩, .inr hE⟩
  ·rw [if_neg (by rw [h2]; decide)] at hres
   rw [<- hres] at hsym
   dsimp only at hsym
   have:=hfi h2
   exact ⟨fu+1,by omega,⟨_,rfl⟩, .inl ⟨fu,new,area,c1,hh,s2,RN,qn,cn,rfl,hsym,hln,by omega,har,hh2,by omega,rfl,hok1,hL,hM,(Hp.suf (X:=[_]) H).as (by simp only [List.cons_append,List.append_assoc])⟩⟩
 rw [if_neg (by rw [h1]; decide)] at hres
 refine ldI_of (hpA H 0 rfl rfl) ?_
 obtain ⟨w',hw'⟩:∃ w':Int,w'=(w:Int)+v':=⟨_,rfl⟩
 rw [<- hw'] at hres
 refine bindI_of (w') (by (rw [hw']; exact i64_in _ (by omega) (by omega))) ?_
 refine ptr_of (a:=⟨x,0,none⟩) (ldS_of (hpB H 1 rfl rfl) ?_)
 refine bcase_eq (fun h2=>?_) fun h2=>?_
 ·rw [if_pos (.inl (by omega))] at hres
  exact fl hres.symm (.inl rfl) H fun h' hE=>⟨0,by omega,⟨_,rfl⟩, .inr hE⟩
 refine ldI_of (hpA H 0 rfl rfl) ?_
 refine bcase_dec (fun h3=>?_) fun h3=>?_
 ·rw [if_pos (.inr (.inl h3))] at hres
  exact fl hres.symm (.inl rfl) H fun h' hE=>⟨0,by omega,⟨_,rfl⟩, .inr hE⟩
 refine bcase_dec (fun h4=>?_) fun h4=>?_
 ·rw [if_pos (.inr (.inr h4))] at hres
  exact fl hres.symm (.inl rfl) H fun h' hE=>⟨0,by omega,⟨_,rfl⟩, .inr hE⟩
 rw [if_neg (by omega)] at hres
 refine bcase_dec (fun h5=>?_) fun h5=>?_
 ·rw [if_pos (.inl (by omega))] at hres
  exact fl hres.symm (.inr rfl) H fun h' hE=>⟨0,by omega,⟨_,rfl⟩, .inr hE⟩
 obtain ⟨W,rfl⟩:∃ W:Nat,w'=(W:Int):=⟨w'.toNat,by omega⟩
 have hpr:1<=(W:Int)*(hh:Int)/\(W:Int)*(hh:Int)<=1099511627776:=prod_le (by omega) (by omega) (by omega) (by omega)
 have hWh:(W:Int)*(hh:Int)=((W*hh:Nat):Int):=by simp
 refine bindI_of (((W*hh:Nat):Int)) (by exact i64_at _ _ hWh (by omega) (by omega)) ?_
 refine bcase_dec (fun h7=>?_) fun h7=>?_
 ·rw [if_pos (.inr (by rw [hWh]; omega))] at hres
  exact fl hres.symm (.inr rfl) H fun h' hE=>⟨0,by omega,⟨_,rfl⟩, .inr hE⟩
 refine ptr_of (a:=⟨x,0,none⟩) (ldI_of (hpA H 1 rfl rfl) ?_)
 refine bindI_of (((W*hh:Nat):Int)) (by exact i64_at _ _ hWh (by omega) (by omega)) ?_
 refine bindI_of (((area+W*hh:Nat):Int)) (by exact i64_at _ _ (by omega) (by omega) (by omega)) ?_
 refine bcase_dec (fun h8=>?_) fun h8=>?_
 ·rw [if_pos (.inr (by rw [hWh]; omega))] at hres
  exact fl hres.symm (.inr rfl) H fun h' hE=>⟨0,by omega,⟨_,rfl⟩, .inr hE⟩
 rw [if_neg (by rw [hWh]; omega),Int.toNat_natCast,Int.toNat_natCast] at hres
 refine ptr_of (a:=⟨x,0,none⟩) (ldI_of (hpA H 1 rfl rfl) ?_)
 refine bindI_of (((W*hh:Nat):Int)) (by exact i64_at _ _ hWh (by omega) (by omega)) ?_
 refine bindI_of (((area+W*hh:Nat):Int)) (by exact i64_at _ _ (by omega) (by omega) (by omega)) ?_
 refine ptr_of (a:=⟨x,0,none⟩) ?_
 refine stA H 1 rfl rfl rfl fun h H=>?_
 have H:Hp hB [] h (DeS x A t qn new.length cn none 0 0 (area+W*hh) 0::(refD A e0 bp bc s2++(X++RN))):=Hp.suf (X:=[⟨r48,true,T_api_Whole,[.int .i64 v', .bool n2]⟩]) H
 clear stop fl
 have hP:SizeP (W:Int) (hh:Int):=SizeP.mk' (by omega) (by omega) (by omega) (by omega) (by omega)
 have hpx:c1+hh*(W+1)<=cnt+64+2*(W*hh):=by
  have h6:hh*(W+1)=W*hh+hh:=by rw [Nat.mul_add,Nat.mul_comm hh W,Nat.mul_one]
  have h7:1*hh<=W*hh:=Nat.mul_le_mul_right _ (by omega)
  omega
 have hN2:c1+hh*(W+1)<=16777216:=by omega
 refine ⟨fun b=>b=x,?_⟩
 refine ptr_of (a:=⟨x,0,none⟩) (ptr_of (a:=⟨x,0,none⟩) ?_)
 refine ldP_of (hpA H 0 rfl rfl) ⟨rfl,?_⟩
 refine ldI_of (hpB H 0 rfl rfl) ⟨rfl,?_⟩
 have hwdec:∀ {s},(refD A e0 bp bc s).all Ent.w=true:=fun {s}=>by simp [refD,Go.Ar.sideL,hbw]
 have hnrow:∀ {h:Heap} {J:List Ent},Hp hB [] h (DeS x A t qn new.length cn none 0 0 (area+W*hh) 0::(refD A e0 bp bc s2++(X++RN))++J)->x ∉ (refD A e0 bp bc s2).map Ent.b:=fun H hm=>by
  obtain ⟨e9,he9,hb9⟩:=List.mem_map.1 hm
  exact (List.pairwise_cons.1 (Hp.pre H).pw).1 e9 (List.mem_append_left _ he9) hb9.symm
 have fin:∀ {h:Heap} {r96 q9:Nat} {bs:List Nat} {s':Dec} {k:Nat},runG W t false (stepG m 1536) hh (fun _ _=>false,s2) = .inl (getP bs W hh,s')->bs.length=hh*wds W->W64 bs->PadZ W hh bs->k<=hh*(W+1)->Go.Ar.DecOk bytes m (c1+k) s' ->
   Hp hB [] h ([⟨r96,true,T_api_Bitmap,[.int .i64 0, .int .i64 0, .slice none 0 0]⟩]++((DeS x A t qn new.length cn none 0 0 (area+W*hh) 0::(refD A e0 bp bc s'++(X++RN)))++[⟨q9,true,T_uint64,u64s bs++[]⟩])) ->
   stV h ((⟨r96,0,none⟩:Addr).add 0) (.int .i64 (W:Nat)) fun h_98 =>
   stV h_98 ((⟨r96,0,none⟩:Addr).add 1) (.int .i64 (hh:Nat)) fun h_99 =>
   stV h_99 ((⟨r96,0,none⟩:Addr).add 2) (.slice (at0 q9) bs.length bs.length) fun h_100 =>
   ∃ K_101:List Value->Heap->Prop,(
   bcase ((0:Int) != (0:Int)) (
   CP F_burinref13_dec_fault #[.pointer (some ⟨x,0,none⟩), .int .i64 0] h_100 (fun v_104 h_105 =>
   K_101 [] h_105) (Kp)) <|
   K_101 [] h_100)/\∀ (h_102:Heap) (u_103:Nat->Value) ,K_101 [] h_102->(
   ptr (some ⟨x,0,none⟩) fun a_106 =>
   ldS h_102 ((a_106.add 1).add 1) fun x_107 x_107n x_107c =>
   ldI h_102 ((⟨r96,0,none⟩:Addr).add 0) .i64 fun x_108 =>
   ldI h_102 ((⟨r96,0,none⟩:Addr).add 1) .i64 fun x_109 =>
   ldS h_102 ((⟨r96,0,none⟩:Addr).add 2) fun x_110 x_110n x_110c =>
   newC h_102 [.int .i64 x_108, .int .i64 x_109, .slice x_110 x_110n x_110c] T_api_Bitmap fun r_111 h_112 =>
   appC h_112 T_api_Bitmap 3 40 [.int .i64 0, .int .i64 0, .slice none 0 0] x_107 (x_107n) (x_107c) (some ⟨r_111,0,none⟩) (1) fun q_113 q_113n q_113c h_114 =>
   ptr (some ⟨x,0,none⟩) fun a_115 =>
   stV h_114 ((a_115.add 1).add 1) (.slice q_113 q_113n q_113c) fun h_116 =>
   ∃ m_36,m_36<n-new.length+2+1/\((∃ (w:Int) (b:Bool),[Value.int .i64 (W:Nat), .bool false]=[.int .i64 w, .bool b])/\((∃ (fi:Nat) (new_1:List Bmp) (area cnt:Nat) (w:Nat) (first:Bool) (s:Dec) (RN:List Ent) (qn:Option Addr) (cn:Nat),m_36=fi+1/\fi=n-new_1.length+2/\clsF m t n (hh:Nat) fi new_1 area (w:Nat) first s=Rc/\new0.length<=new_1.length/\new_1.length<=n/\(first=false->new0.length<new_1.length)/\area<=1048576/\w<=1048576 /\
    cnt+64*new0.length<=192*new0.length+64*new_1.length+2*area+64/\[Value.int .i64 (W:Nat), .bool false]=[.int .i64 (w:Nat), .bool first]/\Go.Ar.DecOk bytes m cnt s/\ListO RN qn cn new_1/\MayL new_1/\Hp hB [] h_116 ((DeS x A t qn new_1.length cn none 0 0 area 0::(refD A e0 bp bc s++X))++RN))\/Er h_116))):=fun {h r96 q9 bs s' k} hrun hbl2 hw2 hz2 hk1 hdk H=>by
  have hGR:GR m t W hh s2 bs s':=⟨hrun,hbl2,hw2,hz2⟩
  rw [gGet_eq hGR] at hres
  dsimp only at hres
  refine stA H 0 rfl rfl rfl fun h H=>?_
  refine stA H 0 rfl rfl rfl fun h H=>?_
  refine stA H 0 rfl rfl rfl fun h H=>?_
  refine ⟨fun _ h'=>h'=h,bcase_ne (fun hh=>absurd rfl hh) fun _=>rfl,?_⟩
  rintro h' u rfl
  have H:Hp hB [] h' ([⟨r96,true,T_api_Bitmap,[.int .i64 (W:Nat), .int .i64 (hh:Nat), .slice (at0 q9) bs.length bs.length]⟩]++((DeS x A t qn new.length cn none 0 0 (area+W*hh) 0::(refD A e0 bp bc s'++(X++RN)))++[⟨q9,true,T_uint64,u64s bs++[]⟩])):=H
  refine ptr_of (a:=⟨x,0,none⟩) (ldS_of (hpB H 1 rfl rfl) (ldI_of (hpA H 0 rfl rfl) (ldI_of (hpA H 0 rfl rfl) (ldS_of (hpA H 0 rfl rfl) ?_))))
  refine newC_hp H fun r111 h H=>?_
  have H:Hp hB [] h ([⟨r96,true,T_api_Bitmap,[.int .i64 (W:Nat), .int .i64 (hh:Nat), .slice (at0 q9) bs.length bs.length]⟩]++(((DeS x A t qn new.length cn none 0 0 (area+W*hh) 0::(refD A e0 bp bc s'++X))++RN)++([⟨q9,true,T_uint64,u64s bs++[]⟩]++[⟨r111,true,T_api_Bitmap,[.int .i64 (W:Nat), .int .i64 (hh:Nat), .slice (at0 q9) bs.length bs.length]⟩]))):=H.as (by simp only [List.cons_append,List.append_assoc,List.nil_append])
  have H:=Hp.suf H
  have hmay1:MayP (W:Int) (hh:Int) bs:=may_of_pix hP hbl2 hw2 hz2
  have hM':MayL (new++[⟨(W:Int),(hh:Int),bs⟩]):=fun b hb=>by
   rcases List.mem_append.1 hb with hb | hb
   ·exact hM b hb
   ·rw [List.mem_singleton.1 hb]; exact hmay1
  have ho:Own.Ok ⟨⟨(W:Int),(hh:Int),bs⟩,at0 q9,bs.length,[⟨q9,true,T_uint64,u64s bs++[]⟩]⟩:=⟨Slot.one (by simp [u64s]) (by simp [u64s]),hw2,by
   show bs.length<_
   have h8:wds W<=W:=by unfold wds; omega
   have h9:hh*wds W<=hh*W:=Nat.mul_le_mul_left _ h8
   rw [Nat.mul_comm hh W] at h9
   omega⟩
  refine hL.app ho H (by omega) fun RN' q' cn' h' hL' H=>?_
  have hln2:(new++[(⟨(W:Int),(hh:Int),bs⟩:Bmp)]).length=new.length+1:=by simp
  refine ptr_of (a:=⟨x,0,none⟩) ?_
  refine stB H 0 rfl rfl rfl fun h H=>?_
  refine ⟨n-new.length+2,by omega,⟨_,_,rfl⟩, .inl ⟨n-new.length+1,new++[⟨(W:Int),(hh:Int),bs⟩],area+W*hh,c1+k,W,false,s',RN',q',cn',rfl,by rw [hln2]; omega,hres,by rw [hln2]; omega,by rw [hln2]; omega,(fun _=>by rw [hln2]; omega),by omega,by omega,by rw [hln2]; omega,rfl,hdk,hL',hM',?_⟩⟩
  rw [hln2]
  exact H
 refine ⟨?_,?_⟩
 ·refine rGet7_ok (Y:=[]) (base:=1536) (skip:=false) ((H.give [1,2,3,4,5] (A:=refD A e0 bp bc s2) (by simp) rfl).as (by rw [List.append_nil])) hb hbl hok1 (by omega) (by omega) (by decide) ht hP hN2 fun bs s' k q9 h' hrun hbl2 hw2 hz2 hk1 hdk H'=>?_
  have H':=H'.as (show _=refD A e0 bp bc s'++[⟨q9,true,T_uint64,u64s bs++[]⟩] by rw [List.append_nil])
  have hkp:hkeep (fun b=>b=x) h h':=⟨H'.fr.1,fun b hb9 hR=>H'.fr.2 b hb9 (by rw [hR]; exact hnrow (J:=[]) (H.as (by rw [List.append_nil])))⟩
  have H:=Go.Bm.Hp.backD H [1,2,3,4,5] (by simp) rfl hwdec H' hwdec rfl rfl
  clear H'
  refine ⟨_,_,_,_,_,_,rfl,hkp,?_⟩
  refine newC_hp H fun r96 h H=>?_
  exact fin hrun hbl2 hw2 hz2 hk1 hdk H.rot
 ·refine newC_hp H fun r117 h H=>?_
  refine rGet7_ok (Y:=[]) (base:=1536) (skip:=false) ((H.give [1,2,3,4,5] (A:=refD A e0 bp bc s2) (by simp) rfl).as (by rw [List.append_nil])) hb hbl hok1 (by omega) (by omega) (by decide) ht hP hN2 fun bs s' k q9 h' hrun hbl2 hw2 hz2 hk1 hdk H'=>?_
  have H':=H'.as (show _=refD A e0 bp bc s'++[⟨q9,true,T_uint64,u64s bs++[]⟩] by rw [List.append_nil])
  have hkp:hkeep (fun b=>b=x) h h':=⟨H'.fr.1,fun b hb9 hR=>H'.fr.2 b hb9 (by rw [hR]; exact hnrow H)⟩
  have H:=Go.Bm.Hp.backD H [1,2,3,4,5] (by simp) rfl hwdec H' hwdec rfl rfl
  clear H'
  refine ⟨_,_,_,_,_,_,rfl,hkp,?_⟩
  have H:Hp hB [] h' (((DeS x A t qn new.length cn none 0 0 (area+W*hh) 0::(refD A e0 bp bc s'++(X++RN)))++[⟨r117,true,T_api_Bitmap,[.int .i64 0, .int .i64 0, .slice none 0 0]⟩])++[⟨q9,true,T_uint64,u64s bs++[]⟩]):=H
  exact fin hrun hbl2 hw2 hz2 hk1 hdk (Hp.swap H).rot
variable {Rz:Except Int (List Bool)}
theorem decW_err {m:Nat} {base:Int} {s:Dec} (h:(decW m base s).1.1≠0):(decW m base s).1.2.1=0/\(decW m base s).1.2.2=false:=by
 have key:∀ sg x,(ansW sg x).1≠0->(ansW sg x).2.1=0/\(ansW sg x).2.2=false:=fun sg x h=>by
  unfold ansW at h ⊢
  split
  ·exact ⟨rfl,rfl⟩
  ·rename_i h1
   rw [if_neg h1] at h
   split at h
   ·split at h
    ·exact absurd rfl h
    ·exact absurd rfl h
   ·exact absurd rfl h
 exact key _ _ h
set_option maxHeartbeats 8000000 in
theorem flg13_ok (H:Hp hB [] h (DeS x A t qn nn cn none 0 0 area 0::(refD A e0 bp bc s++X))) (hb:BOk e0 bp bytes) (hok:Go.Ar.DecOk bytes m n0 s) (hbl:bytes.length<140737488351300) (hm1:2561<=m) (hm2:m<=131072) (hn:n<=8192) (hc0:n0+64*(n+2)<=16777216)
  (hres:flF m n (n+2) [] false true s=Rz)
  (hk:∀ ex RE qe ce s' h',Rz = .ok ex->Slot T_bool 1 RE qe ex.length ce (bls ex)->Hp hB [] h' ((DeS x A t qn nn cn qe ex.length ce area 0::(refD A e0 bp bc s'++X))++RE)->K (.tuple #[]) h')
  (hp:∀ er qe ne ce s' J h',Rz = .error er->er≠0->Hp hB [] h' (DeS x A t qn nn cn qe ne ce area er::(refD A e0 bp bc s'++(X++J)))->K (.tuple #[]) h') :
  CP F_burinref13_dec_flags #[.pointer (some ⟨x,0,none⟩), .int .i64 (n:Nat)] h K Kp:=by
 refine call_burinref13_dec_flags ?_
 unfold burinref13_dec_flags
 obtain ⟨Er,hEr⟩:∃ Er:Heap->Prop,Er=fun h'=>∃ er qe ne ce s' J,er≠0/\Rz = .error er/\Hp hB [] h' (DeS x A t qn nn cn qe ne ce area er::(refD A e0 bp bc s'++(X++J))):=⟨_,rfl⟩
 have mkE2:∀ {h' er qe ne ce s' J},er≠0->Rz = .error er->Hp hB [] h' (DeS x A t qn nn cn qe ne ce area er::(refD A e0 bp bc s'++(X++J)))->Er h':=fun h1 h2 h3=>by rw [hEr]; exact ⟨_,_,_,_,_,_,h1,h2,h3⟩
 have ofE:∀ {h'},Er h'->K (.tuple #[]) h':=fun hE=>by
  rw [hEr] at hE
  obtain ⟨er,qe,ne,ce,s',J,he,hR,H⟩:=hE
  exact hp er qe ne ce s' J _ hR he H
 refine ⟨fun f vs h'=>(∃ v b:Bool,vs=[.bool v, .bool b])/\((∃ (fu:Nat) (ex:List Bool) (v first:Bool) (s:Dec) (cnt:Nat) (RE:List Ent) (qe:Option Addr) (ce:Nat),f=fu+1/\flF m n fu ex v first s=Rz/\ex.length<=n/\fu<=n+2/\n-ex.length+(if first=true then 2 else 1)<=fu/\cnt<=n0+64*(n+2-fu)/\vs=[.bool v, .bool first]/\Go.Ar.DecOk bytes m cnt s /\
   Slot T_bool 1 RE qe ex.length ce (bls ex)/\Hp hB [] h' ((DeS x A t qn nn cn qe ex.length ce area 0::(refD A e0 bp bc s++X))++RE))\/Er h'),
  ⟨n+3,⟨_,_,rfl⟩, .inl ⟨n+2,[],false,true,s,n0,[],none,0,rfl,hres,Nat.zero_le _,Nat.le_refl _,by simp,by omega,rfl,hok,Slot.nil _ _,by rw [List.append_nil]; exact H⟩⟩,?_⟩
 clear H hok hres
 rintro f h u xv xf ⟨⟨zv,zf,hzz⟩,hJ⟩
 rcases hJ with ⟨fu,ex,v,first,s,cnt,RE,qe,ce,rfl,hres,hln,hf2,hf1,hcnt,hxx,hok,hs,H⟩ | hE
 rotate_left
 ·have hE2:=hE
  rw [hEr] at hE2
  obtain ⟨er,qe,ne,ce,s',J,he,hR,H⟩:=hE2
  refine ptr_of (a:=⟨x,0,none⟩) (ldI_of (hpA H 0 rfl rfl) ?_)
  refine bcase_eq (fun h1=>absurd h1 he) fun _=>?_
  exact ofE hE
 clear hzz
 injection hxx with hx1 hxx
 injection hxx with hx2 hxx
 injection hx1 with hx1
 injection hx2 with hx2
 subst xv xf
 obtain ⟨fu,rfl⟩:∃ f',fu=f'+1:=⟨fu-1,by split at hf1 <;> omega⟩
 refine ptr_of (a:=⟨x,0,none⟩) (ldI_of (hpA H 0 rfl rfl) ?_)
 refine bcase_eq (fun _=>?_) fun h1=>absurd rfl h1
 refine ptr_of (a:=⟨x,0,none⟩) (ldS_of (hpB H 0 rfl rfl) ?_)
 unfold flF at hres
 refine bcase_dec (fun h1=>?_) fun h1=>?_
 rotate_left
 ·rw [if_pos (by omega)] at hres
  exact hk ex RE qe ce s h hres.symm hs H
 have h1:ex.length<n:=by omega
 rw [if_neg (by omega)] at hres
 have H:Hp hB [] h (DeS x A t qn nn cn qe ex.length ce area 0::(refD A e0 bp bc s++(X++RE))):=H.as (by simp only [List.cons_append,List.append_assoc])
 have hdv:=decW_v m 1024 s
 have hde:=@decW_err m 1024 s
 refine num13_ok H hb hok hbl (by omega) (by omega) (by omega) (by omega) fun h c1 hc1 hok1 H=>?_
 generalize decW m 1024 s=dw at *
 obtain ⟨⟨ee,z,nn'⟩,s1⟩:=dw
 dsimp only at *
 refine ⟨_,_,rfl,?_⟩
 refine newC_hp H fun r16 h H=>?_
 have H:=H.rot
 refine stA H 0 rfl rfl rfl fun h H=>?_
 refine stA H 0 rfl rfl rfl fun h H=>?_
 have H:Hp hB [] h (⟨r16,true,T_api_Whole,[.int .i64 z, .bool nn']⟩::DeS x A t qn nn cn qe ex.length ce area (if ee≠0 then 130 else 0)::(refD A e0 bp bc s1++(X++RE))):=H
 by_cases hee:ee≠0
 ·obtain ⟨rfl,rfl⟩:=hde hee
  rw [if_pos hee] at hres H
  refine ⟨fun _ h'=>h'=h,?_,?_⟩
  ·refine ldB_of (hpA H 0 rfl rfl) ?_
   refine bcase_of (fun hh=>by cases hh) fun _=>?_
   refine ldI_of (hpA H 0 rfl rfl) ?_
   refine bcase_dec (fun hh=>absurd hh (by decide)) fun _=>?_
   refine ldI_of (hpA H 0 rfl rfl) ?_
   refine bcase_eq (fun _=>?_) fun hh=>absurd rfl hh
   refine bcase_not (fun h5=>?_) fun h5=>?_
   ·refine flt_ok H 1 rfl fun h H=>?_
    exact ofE (mkE2 (er:=130) (by decide) hres.symm (Hp.suf (X:=[_]) H))
   ·refine ptr_of (a:=⟨x,0,none⟩) (ldI_of (hpA H 0 rfl rfl) (ldS_of (hpB H 1 rfl rfl) ?_))
    refine bindI_of (((n:Int)-(ex.length:Int))) (by exact i64_in _ (by omega) (by omega)) ?_
    refine bcase_dec (fun hh=>by omega) fun _=>rfl
  ·rintro h' u rfl
   refine ⟨fun _ vs h2=>vs=[.int .i64 0]/\h2=h',⟨0,rfl,rfl⟩,?_⟩
   rintro g h2 u xk ⟨hxx,rfl⟩
   injection hxx with hxx
   injection hxx with _ hxx
   subst xk
   refine ldI_of (hpA H 0 rfl rfl) ?_
   refine bcase_dec (fun hh=>absurd hh (by decide)) fun _=>?_
   exact ⟨0,by omega,⟨_,_,rfl⟩, .inr (mkE2 (er:=130) (by decide) hres.symm (Hp.suf (X:=[_]) H))⟩
 rw [if_neg hee] at hres H
 have fl:∀ {h:Heap},Rz = .error 130->Hp hB [] h (⟨r16,true,T_api_Whole,[.int .i64 z, .bool nn']⟩::DeS x A t qn nn cn qe ex.length ce area 0::(refD A e0 bp bc s1++(X++RE)))->CP F_burinref13_dec_fault #[.pointer (some ⟨x,0,none⟩), .int .i64 130] h (fun _ h'=>K (.tuple #[]) h') Kp:=fun {h} hr H=>by
  refine flt_ok H 1 rfl fun h H=>?_
  exact ofE (mkE2 (by decide) hr (Hp.suf (X:=[_]) H))
 refine ⟨fun _ h'=>¬ (nn'=true\/z<0\/(z=0/\first=false)\/(n:Int)-(ex.length:Int)<z)/\h'=h,?_,?_⟩
 ·refine ldB_of (hpA H 0 rfl rfl) ?_
  refine bcase_of (fun h2=>?_) fun h2=>?_
  ·rw [if_pos (.inl h2)] at hres
   exact fl hres.symm H
  refine ldI_of (hpA H 0 rfl rfl) ?_
  refine bcase_dec (fun h3=>?_) fun h3=>?_
  ·rw [if_pos (.inr (.inl h3))] at hres
   exact fl hres.symm H
  refine ldI_of (hpA H 0 rfl rfl) ?_
  refine bcase_eq (fun h4=>?_) fun h4=>?_
  ·refine bcase_not (fun h5=>?_) fun h5=>?_
   ·rw [if_pos (.inr (.inr (.inl ⟨h4,h5⟩)))] at hres
    exact fl hres.symm H
   ·refine ptr_of (a:=⟨x,0,none⟩) (ldI_of (hpA H 0 rfl rfl) (ldS_of (hpB H 1 rfl rfl) ?_))
    refine bindI_of (((n:Int)-(ex.length:Int))) (by exact i64_in _ (by omega) (by omega)) ?_
    refine bcase_dec (fun hh=>by omega) fun _=>⟨fun hh=>?_,rfl⟩
    rcases hh with hh | hh | hh | hh
    ·rw [h2] at hh; cases hh
    ·omega
    ·rw [h5] at hh; cases hh.2
    ·omega
  ·refine ptr_of (a:=⟨x,0,none⟩) (ldI_of (hpA H 0 rfl rfl) (ldS_of (hpB H 1 rfl rfl) ?_))
   refine bindI_of (((n:Int)-(ex.length:Int))) (by exact i64_in _ (by omega) (by omega)) ?_
   refine bcase_dec (fun h6=>?_) fun h6=>⟨fun hh=>?_,rfl⟩
   ·rw [if_pos (.inr (.inr (.inr (by omega))))] at hres
    exact fl hres.symm H
   ·rcases hh with hh | hh | hh | hh
    ·rw [h2] at hh; cases hh
    ·omega
    ·omega
    ·omega
 rintro h' u ⟨hc,rfl⟩
 rw [if_neg hc] at hres
 obtain ⟨V,rfl⟩:∃ V:Nat,z=(V:Int):=⟨z.toNat,by omega⟩
 rw [Int.toNat_natCast] at hres
 have H:Hp hB [] h' ((⟨r16,true,T_api_Whole,[.int .i64 (V:Nat), .bool nn']⟩::DeS x A t qn nn cn qe ex.length ce area 0::(refD A e0 bp bc s1++X))++RE):=H.as (by simp only [List.cons_append,List.append_assoc])
 refine ⟨fun f vs h'=>∃ (k:Nat) (RE:List Ent) (qe:Option Addr) (ce:Nat),k+f=V/\vs=[.int .i64 (k:Nat)]/\Slot T_bool 1 RE qe (ex++List.replicate k v).length ce (bls (ex++List.replicate k v)) /\
  Hp hB [] h' ((⟨r16,true,T_api_Whole,[.int .i64 (V:Nat), .bool nn']⟩::DeS x A t qn nn cn qe (ex++List.replicate k v).length ce area 0::(refD A e0 bp bc s1++X))++RE),⟨V,0,RE,qe,ce,by omega,rfl,by rw [List.replicate_zero,List.append_nil]; exact hs,by rw [List.replicate_zero,List.append_nil]; exact H⟩,?_⟩
 clear H hs fl
 rintro g h u xk ⟨k,RE,qe,ce,hkg,hxx,hs2,H2⟩
 injection hxx with hxx
 injection hxx with _ hxx
 subst xk
 have hlk:(ex++List.replicate k v).length=ex.length+k:=by simp
 refine ldI_of (hpA H2 0 rfl rfl) ?_
 refine bcase_dec (fun h2=>?_) fun h2=>?_
 ·refine ptr_of (a:=⟨x,0,none⟩) (ldS_of (hpB H2 1 rfl rfl) ?_)
  refine newC_hp H2 fun r51 h H=>?_
  have H:=H.asc
  have hrep:ex++List.replicate (k+1) v=(ex++List.replicate k v)++[v]:=by rw [List.replicate_succ',List.append_assoc]
  refine Slot.app (m:=1) (new:=[.bool v]) hs2 H rfl (Hp.rdO_mem (rest:=[]) (cs:=[.bool v]) H (by rw [List.append_nil]; exact List.mem_append_right _ (List.mem_append_right _ (List.mem_singleton.2 rfl))) rfl) rfl (fun w hw=>by rw [List.mem_singleton.1 hw]; rfl) (by decide) (by omega) fun RE' q' c' h hs H=>?_
  have H:=Hp.pre H.asc'
  refine ptr_of (a:=⟨x,0,none⟩) ?_
  refine stB H 1 rfl rfl rfl fun h H=>?_
  refine bindI_of (((k+1:Nat):Int)) (by exact i64_at _ _ (by omega) (by omega) (by omega)) ?_
  refine ⟨g-1,by omega,k+1,RE',q',c',by omega,rfl,?_,?_⟩
  ·rw [hrep,bls_app,List.length_append]
   exact hs
  ·rw [hrep,List.length_append]
   exact H
 ·have hkV:k=V:=by omega
  subst hkV
  refine ⟨fu+1,by omega,⟨_,_,rfl⟩, .inl ⟨fu,ex++List.replicate k v,!v,false,s1,c1,RE,qe,ce,rfl,hres,by rw [hlk]; omega,by omega,?_,by omega,rfl,hok1,hs2,Hp.suf (X:=[_]) H2⟩⟩
  rw [hlk]
  cases first with
  | true=>simp at hf1 ⊢; omega
  | false =>
   have:k≠0:=fun hh=>hc (.inr (.inr (.inl ⟨by omega,rfl⟩)))
   simp at hf1 ⊢; omega
theorem flg13_err (H:Hp hB [] h (DeS x A t qn nn cn qe ne ce area er::X)) (he:er≠0) (hk:K (.tuple #[]) h):CP F_burinref13_dec_flags #[.pointer (some ⟨x,0,none⟩), .int .i64 (n:Nat)] h K Kp:=by
 refine call_burinref13_dec_flags ?_
 unfold burinref13_dec_flags
 refine ⟨fun f vs h'=>(∃ v b:Bool,vs=[.bool v, .bool b])/\h'=h,⟨0,⟨_,_,rfl⟩,rfl⟩,?_⟩
 rintro f h' u xv xf ⟨_,rfl⟩
 refine ptr_of (a:=⟨x,0,none⟩) (ldI_of (hpA H 0 rfl rfl) ?_)
 exact bcase_eq (fun h1=>absurd h1 he) fun _=>hk
end
section
variable {hB:Heap} {K:VK} {Kp:PK} {q qi:Option Addr} {c ci:Nat} {b:List Nat} {imp:List Bmp}
set_option maxHeartbeats 16000000 in
theorem rDec13_ok (hb:RdB b) (hr:rdO hB q (b.length*1) (u8s b)) (hcap:b.length<=c) (hi:BmsV hB qi imp) (hil:imp.length<=1000000000000)
  (hk:∀ (t:Nat) new ex RN qn cn RE qe ce h',decD b imp = .ok (t,new,ex)->MayL new->ListO RN qn cn new->Slot T_bool 1 RE qe ex.length ce (bls ex)->Hp hB [] h' (RN++RE)->K (.tuple #[.agg #[.int .i64 (t:Nat), .slice qn new.length cn, .slice qe ex.length ce], .int .i64 0]) h')
  (hkb:∀ er h',decD b imp = .error er->hext hB h'->K (.tuple #[.agg #[.int .i64 0, .slice none 0 0, .slice none 0 0], .int .i64 er]) h') :
  CP F_burinref13_Decode #[.slice q b.length c, .slice qi imp.length ci] hB K Kp:=by
 refine call_burinref13_Decode ?_
 unfold burinref13_Decode
 have hbl:=hb.bl
 have H:=Hp.nil hB []
 refine newC_hp H fun r1 h H=>?_
 obtain ⟨R1,hR1⟩:∃ R1:Ent,R1=⟨r1,true,T_api_Dict,[.int .i64 0, .slice none 0 0, .slice none 0 0]⟩:=⟨_,rfl⟩
 have H:Hp hB [] h [R1]:=by rw [hR1]; exact H
 have bad:∀ {h:Heap} {L:List Ent} {er:Int} (k:Nat),decD b imp = .error er->L[k]? = some R1->Hp hB [] h L ->
   stV h ((⟨r1,0,none⟩:Addr).add 0) (.int .i64 0) fun h_6 =>
   stV h_6 ((⟨r1,0,none⟩:Addr).add 1) (.slice none 0 0) fun h_7 =>
   stV h_7 ((⟨r1,0,none⟩:Addr).add 2) (.slice none 0 0) fun h_8 =>
   hext h h_8/\(ldI h_8 ((⟨r1,0,none⟩:Addr).add 0) .i64 fun r_9 =>
   ldS h_8 ((⟨r1,0,none⟩:Addr).add 1) fun r_10 r_10n r_10c =>
   ldS h_8 ((⟨r1,0,none⟩:Addr).add 2) fun r_11 r_11n r_11c =>
   K (.tuple #[.agg #[.int .i64 r_9, .slice r_10 r_10n r_10c, .slice r_11 r_11n r_11c], .int .i64 er]) h_8):=fun {h L er} k hd hk1 H=>by
  rw [hR1] at hk1
  refine stS H k hk1 rfl rfl (stS H k hk1 rfl rfl (stS H k hk1 rfl rfl ⟨hext.refl _,?_⟩))
  refine ldI_of (hpA H k hk1 rfl) (ldS_of (hpA H k hk1 rfl) (ldS_of (hpA H k hk1 rfl) ?_))
  exact hkb er h hd H.hext
 have bad1:∀ {h:Heap} {L:List Ent} {er:Int} (k:Nat),decD b imp = .error er->L[k]? = some R1->Hp hB [] h L ->
   stV h ((⟨r1,0,none⟩:Addr).add 0) (.int .i64 0) fun h_6 =>
   stV h_6 ((⟨r1,0,none⟩:Addr).add 1) (.slice none 0 0) fun h_7 =>
   stV h_7 ((⟨r1,0,none⟩:Addr).add 2) (.slice none 0 0) fun h_8 =>
   ldI h_8 ((⟨r1,0,none⟩:Addr).add 0) .i64 fun r_9 =>
   ldS h_8 ((⟨r1,0,none⟩:Addr).add 1) fun r_10 r_10n r_10c =>
   ldS h_8 ((⟨r1,0,none⟩:Addr).add 2) fun r_11 r_11n r_11c =>
   K (.tuple #[.agg #[.int .i64 r_9, .slice r_10 r_10n r_10c, .slice r_11 r_11n r_11c], .int .i64 er]) h_8:=fun {h L er} k hd hk1 H=>by
  rw [hR1] at hk1
  refine stS H k hk1 rfl rfl (stS H k hk1 rfl rfl (stS H k hk1 rfl rfl ?_))
  refine ldI_of (hpA H k hk1 rfl) (ldS_of (hpA H k hk1 rfl) (ldS_of (hpA H k hk1 rfl) ?_))
  exact hkb er h hd H.hext
 refine mayAll_ok (hi.ext H.hext) hil fun rg h' hrg e=>?_
 have H:=H.ext e
 refine ⟨_,rfl,?_⟩
 refine bcase_not (fun h2=>?_) fun h2=>?_
 ·exact bad1 0 (by unfold decD; rw [if_pos (fun hh=>by rw [hrg.2 hh] at h2; cases h2)]) rfl H
 have hmay:MayL imp:=hrg.1 h2
 refine bcase_dec (fun h3=>?_) fun h3=>?_
 ·exact bad1 0 (by unfold decD; rw [if_neg (fun hh=>hh hmay),if_pos (by omega)]) rfl H
 have hi4:imp.length<=4096:=by omega
 have hdec:decD b imp=match b[0]? with
  | none => .error 130
  | some t=>if 3<t then .error 130
   else if (varP b 1).1≠0 then .error 130
   else if 4096-imp.length<(varP b 1).2.1 then .error 120
   else match symF (szD t) t (varP b 1).2.1 ((varP b 1).2.1+1) [] 0 0 (newD (b.drop (varP b 1).2.2) (szD t)) with
    | .error e => .error e
    | .ok (new,s)=>match flF (szD t) (imp.length+(varP b 1).2.1) (imp.length+(varP b 1).2.1+2) [] false true s with
     | .error e => .error e
     | .ok ex => .ok (t,new,ex):=by
  unfold decD
  rw [if_neg (fun hh=>hh hmay),if_neg (by omega)]
  all_goals rfl
 refine bcase_dec (fun h4=>?_) fun h4=>?_
 ·exact bad1 0 (by rw [hdec,List.getElem?_eq_none (by omega)]) rfl H
 have hb1:1<=b.length:=by omega
 obtain ⟨t,hb0⟩:∃ t,b[0]? = some t:=⟨_,List.getElem?_eq_getElem (by omega)⟩
 have ht8:=hb.b8 t (List.mem_of_getElem? hb0)
 rw [hb0] at hdec
 dsimp only at hdec
 obtain ⟨a,rfl,hc0⟩:=rdO_cell hr (i:=0) (v := .int .u8 (t:Nat)) (by unfold u8s; rw [List.getElem?_map,hb0]; rfl)
 have cell0:∀ {h:Heap} {L:List Ent} {K2:Int->Prop},Hp hB [] h L->K2 (t:Nat)->ldI h (a.add ((0:Int).toNat*1)) .u8 K2:=fun H hK=>ldI_of (H.fr.cell (by simp) hc0) hK
 refine needs_of (by omega) (ptr_of (a:=a) ?_)
 refine cell0 H ?_
 refine bcase_dec (fun h5=>?_) fun h5=>?_
 ·exact bad1 0 (by rw [hdec,if_pos (by omega)]) rfl H
 have ht4:t<4:=by omega
 rw [if_neg (by omega)] at hdec
 refine newC_hp H fun r32 h H=>?_
 have H:Hp hB [] h (r1E r32 (some a) b.length c (8*1)::[R1]):=Hp.rot (X:=[R1]) H
 refine var1_ok H hr hb hb1 fun h H=>?_
 refine ⟨_,_,rfl,?_⟩
 have hve:=varP_le (b:=b) (i:=1) hb1
 obtain ⟨N,hN⟩:∃ N,N=(varP b 1).2.1:=⟨_,rfl⟩
 obtain ⟨i,hii⟩:∃ i,i=(varP b 1).2.2:=⟨_,rfl⟩
 rw [<- hN,<- hii] at hdec
 rw [<- hii] at H hve
 rw [<- hN]
 refine bcase_ne (fun h6=>?_) fun h6=>?_
 ·exact bad1 1 (by rw [hdec,if_pos h6]) rfl H
 rw [if_neg (fun hh=>hh h6)] at hdec
 refine bindI_of (((4096-imp.length:Nat):Int)) (by exact i64_at _ _ (by omega) (by omega) (by omega)) ?_
 refine bindI_of (((4096-imp.length:Nat):Int)) (by exact u64_in _ (by omega) (by omega)) ?_
 refine bcase_dec (fun h7=>?_) fun h7=>?_
 ·exact bad1 1 (by rw [hdec,if_pos (by omega)]) rfl H
 have hN4:N<=4096-imp.length:=by omega
 rw [if_neg (by omega)] at hdec
 refine needs_of (by omega) (ptr_of (a:=a) ?_)
 refine ldI_of (hpA H 0 rfl rfl) ?_
 refine bindI_of (((i:Nat):Int)) (by exact i64_at _ _ (by rw [show ((8*i:Nat):Int).tdiv 8=((8*i / 8:Nat):Int) from rfl]; omega) (by omega) (by omega)) ?_
 refine needs_of (by omega) ?_
 refine cell0 H ?_
 refine bindI_of (((t:Nat):Int)) (by exact i64_in _ (by omega) (by omega)) ?_
 refine need7_ok ht4 fun h' e=>?_
 have H:=H.ext e
 refine ⟨_,rfl,e,?_⟩
 have hgs:=gsize_le ht4
 refine bindI_of (((szD t:Nat):Int)) (by exact i64_at _ _ (by unfold szD; omega) (by omega) (by unfold szD; omega)) ?_
 rw [Int.toNat_natCast]
 have hdl:(b.drop i).length=b.length-i:=List.length_drop
 have hsz:=szD_le ht4
 have hd8:∀ z∈b.drop i,z<256:=fun z hz=>hb.b8 z (List.mem_of_mem_drop hz)
 rw [<- hdl]
 refine Go.Ar.rnewD_ok (n:=szD t) (b:=b.drop i) (by omega) hd8 (by omega) (H.rdO (rdO_drop hr hve hcap)) fun A e0 bp bc h hbok H'=>?_
 have hdw:∀ s,(refD A e0 bp bc s).all Ent.w=true:=fun s=>by simp [refD,Go.Ar.sideL,hbok.1]
 have H:=H.join H' (hdw _)
 clear H'
 refine ⟨_,rfl,?_⟩
 refine newC_hp H fun r64 h H=>?_
 refine needs_of (by omega) (ptr_of (a:=a) ?_)
 refine cell0 H ?_
 refine bindI_of (((t:Nat):Int)) (by exact i64_in _ (by omega) (by omega)) ?_
 have H:=H.rot
 refine stB H 0 rfl rfl rfl fun h H=>?_
 have H:Hp hB [] h ([DeS r64 A t none 0 0 none 0 0 0 0]++[r1E r32 (some a) b.length c (8*i),R1]++refD A e0 bp bc (newD (b.drop i) (szD t))):=H
 have H:Hp hB [] h (DeS r64 A t none 0 0 none 0 0 0 0::(refD A e0 bp bc (newD (b.drop i) (szD t))++[r1E r32 (some a) b.length c (8*i),R1])):=(Hp.swap H).as (by simp only [List.cons_append,List.nil_append,List.append_assoc])
 refine bindI_of (((N:Nat):Int)) (by exact i64_in _ (by omega) (by omega)) ?_
 obtain ⟨Rs,hRs⟩:∃ Rs,symF (szD t) t N (N+1) [] 0 0 (newD (b.drop i) (szD t))=Rs:=⟨_,rfl⟩
 rw [hRs] at hdec
 refine sym13_ok H hbok (Go.Ar.newD_ok hd8 (szD t)) (by omega) ht4 rfl (by omega) hRs (fun new s' c1 RN qn cn area h hR hNl hc1 hok hL hM H=>?_) fun er qn nn cn area s' J h hR her H=>?_
 ·refine bindI_of (((N:Nat):Int)) (by exact i64_in _ (by omega) (by omega)) ?_
  refine bindI_of (((imp.length+N:Nat):Int)) (by exact i64_at _ _ (by omega) (by omega) (by omega)) ?_
  rw [hR] at hdec
  dsimp only at hdec
  obtain ⟨Rf,hRf⟩:∃ Rf,flF (szD t) (imp.length+N) (imp.length+N+2) [] false true s'=Rf:=⟨_,rfl⟩
  rw [hRf] at hdec
  have H:Hp hB [] h (DeS r64 A t qn new.length cn none 0 0 area 0::(refD A e0 bp bc s'++([r1E r32 (some a) b.length c (8*i),R1]++RN))):=H.as (by simp only [List.cons_append,List.nil_append,List.append_assoc])
  refine flg13_ok H hbok hok (by omega) (by omega) (by omega) (by omega) (by omega) hRf (fun ex RE qe ce s2 h hR2 hsE H=>?_) fun er qe ne ce s2 J h hR2 her H=>?_
  ·rw [hR2] at hdec
   refine ldI_of (hpA H 0 rfl rfl) ?_
   refine bcase_ne (fun hh=>absurd rfl hh) fun _=>?_
   refine ldI_of (hpB H 0 rfl rfl) (ldS_of (hpB H 0 rfl rfl) (ldS_of (hpB H 0 rfl rfl) ?_))
   rw [hR1] at H
   refine stA H 7 rfl rfl rfl fun h H=>?_
   refine stA H 7 rfl rfl rfl fun h H=>?_
   refine stA H 7 rfl rfl rfl fun h H=>?_
   refine ldI_of (hpA H 7 rfl rfl) (ldS_of (hpA H 7 rfl rfl) (ldS_of (hpA H 7 rfl rfl) ?_))
   have H:Hp hB [] h ((DeS r64 A t qn new.length cn qe ex.length ce area 0::(refD A e0 bp bc s2++([r1E r32 (some a) b.length c (8*i),⟨r1,true,T_api_Dict,[.int .i64 (t:Nat), .slice qn new.length cn, .slice qe ex.length ce]⟩]++RN)))++RE):=H
   have H:Hp hB [] h ((DeS r64 A t qn new.length cn qe ex.length ce area 0::(refD A e0 bp bc s2++[r1E r32 (some a) b.length c (8*i),⟨r1,true,T_api_Dict,[.int .i64 (t:Nat), .slice qn new.length cn, .slice qe ex.length ce]⟩]))++(RN++RE)):=H.as (by simp only [List.cons_append,List.nil_append,List.append_assoc])
   exact hk t new ex RN qn cn RE qe ce h hdec hM hL hsE (Hp.suf H)
  ·rw [hR2] at hdec
   dsimp only at hdec
   refine ldI_of (hpA H 0 rfl rfl) ?_
   refine bcase_ne (fun _=>?_) fun hh=>absurd hh her
   refine ldI_of (hpA H 0 rfl rfl) ?_
   exact bad 7 hdec rfl H
 ·refine bindI_of (((N:Nat):Int)) (by exact i64_in _ (by omega) (by omega)) ?_
  refine bindI_of (((imp.length+N:Nat):Int)) (by exact i64_at _ _ (by omega) (by omega) (by omega)) ?_
  rw [hR] at hdec
  dsimp only at hdec
  refine flg13_err H her ?_
  refine ldI_of (hpA H 0 rfl rfl) ?_
  refine bcase_ne (fun _=>?_) fun hh=>absurd hh her
  refine ldI_of (hpA H 0 rfl rfl) ?_
  exact bad 7 hdec rfl H
end
end Go.Bm
namespace Go.Bm
open Go Go.Den Go.Den.YtfaclehehhgpcaaGreat
open Go.Ar (Dec decN newD bytesM flushM getD)
theorem bool_ne:∀ z v:Bool,z≠v->z = !v:=by decide
theorem nxF_stop (l:List Bmp) (i:Nat):∀ f j,l.length<=j+f->nxF l i f j<l.length->(sy l (nxF l i f j)).h≠(sy l i).h
 | 0,j,h1,h2=>by have h2:j<l.length:=h2; omega
 | f+1,j,h1,h2=>by
  unfold nxF at h2 ⊢
  by_cases hj:j<l.length
  ·rw [if_pos hj] at h2 ⊢
   by_cases hh:(sy l j).h=(sy l i).h
   ·rw [if_pos hh] at h2 ⊢
    exact nxF_stop l i f (j+1) (by omega) h2
   ·rw [if_neg hh]
    exact hh
  ·rw [if_neg hj] at h2
   omega
theorem nxt_stop {l:List Bmp} {i:Nat} (h:i<=l.length) (h2:nxt l i<l.length):(sy l (nxt l i)).h≠(sy l i).h:=nxF_stop l i _ i (by omega) h2
theorem sy_get {l:List Bmp} {i:Nat} (h:i<l.length):l[i]? = some (sy l i):=by
 rw [sy_at (List.getElem?_eq_getElem h)]
 exact List.getElem?_eq_getElem h
theorem sorted_sy {l:List Bmp} (hs:SortedTo l l.length) {i:Nat} (h:i+1<l.length):¬ (sy l (i+1)).below (sy l i):=hs i _ _ h (sy_get (by omega)) (sy_get h)
theorem midL_split {m t:Nat} {l:List Bmp} {A:List (Nat × Nat)} {ah:Int} {i k:Nat}:∀ d,∃ C,midL m t l A ah i (k+d)=midL m t l A ah i k++C
 | 0=>⟨[],by rw [List.append_nil]; rfl⟩
 | d+1=>by
  obtain ⟨C,hC⟩:=midL_split (m:=m) (t:=t) (l:=l) (A:=A) (ah:=ah) (i:=i) (k:=k) d
  refine ⟨C++bodyD m t (if k+d=0 then 0 else (sy l (i+(k+d)-1)).w) (sy l (i+(k+d))),?_⟩
  rw [<- Nat.add_assoc]
  show midL m t l A ah i (k+d)++_=_
  rw [hC,List.append_assoc]
theorem hisF_split {m t:Nat} {l:List Bmp}:∀ (f i:Nat) (ah:Int) (A:List (Nat × Nat)),∃ C,hisF m t l f i ah A=A++C
 | 0,_,_,A=>⟨[],by rw [List.append_nil]; rfl⟩
 | f+1,i,ah,A=>by
  unfold hisF
  split
  ·obtain ⟨C,hC⟩:=hisF_split (m:=m) (t:=t) (l:=l) f (nxt l i) (sy l i).h (midL m t l A ah i (nxt l i-i)++noneD m)
   obtain ⟨C2,hC2⟩:=midL_split (m:=m) (t:=t) (l:=l) (A:=A) (ah:=ah) (i:=i) (k:=0) (nxt l i-i)
   rw [Nat.zero_add] at hC2
   refine ⟨dsWh m 0 ((sy l i).h-ah) false++C2++noneD m++C,?_⟩
   rw [hC,hC2]
   show (A++dsWh m 0 ((sy l i).h-ah) false++C2++noneD m)++C=_
   simp only [List.append_assoc]
  ·exact ⟨[],by rw [List.append_nil]⟩
theorem flgF_split {m:Nat} {l:List Bool}:∀ (f:Nat) (v:Bool) (i:Nat) (A:List (Nat × Nat)),∃ C,flgF m l f v i A=A++C
 | 0,_,_,A=>⟨[],by rw [List.append_nil]; rfl⟩
 | f+1,v,i,A=>by
  unfold flgF
  split
  ·obtain ⟨C,hC⟩:=flgF_split (m:=m) (l:=l) f (!v) (rnt l v i) (A++dsWh m 1024 ((rnt l v i-i:Nat):Int) false)
   exact ⟨_,by rw [hC,List.append_assoc]⟩
  ·exact ⟨[],by rw [List.append_nil]⟩
section
variable {L:List (Nat × Nat)} {D:Nat->Dec} (hW:Walk L D) {m t:Nat} {l:List Bmp}
include hW
theorem get_v {A B:List (Nat × Nat)} {base v:Int} (hr:-2147483648<=v/\v<=2147483648) (e:L=A++(dsWh m base v false++B)):decW m base (D A.length)=((0,v,false),D (A++dsWh m base v false).length):=get_wh hW (.inr hr) e
theorem get_n {A B:List (Nat × Nat)} {base:Int} (e:L=A++(dsWh m base 0 true++B)):decW m base (D A.length)=((0,0,true),D (A++dsWh m base 0 true).length):=get_wh hW (.inl rfl) e
theorem gr_back {A C:List (Nat × Nat)} {b:Bmp} (ht:t<4) (hm:b.may) (hw:W64 b.ws) (hL:L=A++(dsG (getP b.ws b.w.toNat b.h.toNat) b.w.toNat m t false 1536 b.h.toNat++C)) :
  gGet m t b.w.toNat b.h.toNat (D A.length)=(b.ws,D (A++dsG (getP b.ws b.w.toNat b.h.toNat) b.w.toNat m t false 1536 b.h.toNat).length):=by
 have h1:=dec_g (getP b.ws b.w.toNat b.h.toNat) b.w.toNat m t false 1536 (getP_out _ _ _) hW ht hL b.h.toNat (Nat.le_refl _)
 rw [part_all] at h1
 refine gGet_eq ⟨h1,hm.2.1,hw,?_⟩
 obtain ⟨W,X,e1,e2,_⟩:=size_nat hm.1
 obtain ⟨bw,bh,ws⟩:=b
 have e1:bw=W:=e1
 have e2:bh=X:=e2
 subst e1 e2
 exact fun y hy x k1 k2=>pix_of_may (W:=W) (X:=X) hm hy k1 k2
theorem cls_back {A C:List (Nat × Nat)} {ah:Int} {i:Nat} (ht:t<4) (hm:MayL l) (hw:∀ b∈l,W64 b.ws) (hs:SortedTo l l.length) (ha:areaL l<=1048576) (hi:i<l.length) (hL:L=midL m t l A ah i (nxt l i-i)++(noneD m++C)) :
  ∀ (d k f:Nat),k+d=nxt l i-i->d+1<=f->clsF m t l.length (sy l i).h f (l.take (i+k)) (areaL (l.take (i+k))) (if k=0 then 0 else (sy l (i+k-1)).w) (Nat.beq k 0) (D (midL m t l A ah i k).length) =
   .ok (l.take (nxt l i),areaL (l.take (nxt l i)),D (midL m t l A ah i (nxt l i-i)++noneD m).length)
 | 0,k,f,hk,hf=>by
  have hgt:=nxt_gt hi
  obtain ⟨f,rfl⟩:∃ f',f=f'+1:=⟨f-1,by omega⟩
  rw [Nat.add_zero] at hk
  have e:i+k=nxt l i:=by omega
  have hd:=get_n hW (m:=m) (base:=512) (A:=midL m t l A ah i (nxt l i-i)) (B:=C) hL
  unfold clsF
  rw [hk,hd]
  have hkz:Nat.beq (nxt l i-i) 0=false:=Bool.eq_false_iff.2 fun hh=>by have:=Nat.eq_of_beq_eq_true hh; omega
  rw [if_neg (by simp),if_pos rfl,hkz,if_neg (by decide),show i+(nxt l i-i)=nxt l i by omega]
  rfl
 | d+1,k,f,hk,hf=>by
  obtain ⟨f,rfl⟩:∃ f',f=f'+1:=⟨f-1,by omega⟩
  have hnl:=nxt_le (Nat.le_of_lt hi)
  have hik:i+k<nxt l i:=by omega
  have hsame:=nxt_same (l:=l) (i:=i) (k:=i+k) (by omega) hik
  have hg:=sy_get (l:=l) (i:=i+k) (by omega)
  have hmb:=hm _ (List.mem_of_getElem? hg)
  have hwb:=hw _ (List.mem_of_getElem? hg)
  have hmay:=hmb.1
  obtain ⟨W,X,e1,e2,hW1,hW2,hX1,hX2,hWX⟩:=size_nat hmay
  obtain ⟨w,hwv⟩:∃ w:Int,w=if k=0 then 0 else (sy l (i+k-1)).w:=⟨_,rfl⟩
  have hwr:0<=w/\w<=(sy l (i+k)).w:=by
   rw [hwv]
   by_cases h0:k=0
   ·rw [if_pos h0]; omega
   ·rw [if_neg h0]
    have h2:=sorted_sy hs (i:=i+k-1) (by omega)
    rw [show i+k-1+1=i+k by omega] at h2
    have h3:=nxt_same (l:=l) (i:=i) (k:=i+k-1) (by omega) (by omega)
    have h4:=(size_nat (hm _ (List.mem_of_getElem? (sy_get (l:=l) (i:=i+k-1) (by omega)))).1)
    obtain ⟨W',X',e1',e2',_⟩:=h4
    unfold Bmp.below at h2
    omega
  rw [<- hwv]
  obtain ⟨C2,hC2⟩:=midL_split (m:=m) (t:=t) (l:=l) (A:=A) (ah:=ah) (i:=i) (k:=k+1) d
  rw [show k+1+d=nxt l i-i by omega] at hC2
  have hstep:midL m t l A ah i (k+1)=midL m t l A ah i k++(dsWh m 512 ((sy l (i+k)).w-w) false++dsG (getP (sy l (i+k)).ws (sy l (i+k)).w.toNat (sy l (i+k)).h.toNat) (sy l (i+k)).w.toNat m t false 1536 (sy l (i+k)).h.toNat):=by rw [hwv]; rfl
  have hL2:L=midL m t l A ah i k++(dsWh m 512 ((sy l (i+k)).w-w) false++(dsG (getP (sy l (i+k)).ws (sy l (i+k)).w.toNat (sy l (i+k)).h.toNat) (sy l (i+k)).w.toNat m t false 1536 (sy l (i+k)).h.toNat++(C2++(noneD m++C)))):=by rw [hL,hC2,hstep]; simp only [List.append_assoc]
  have hd:=get_v hW (m:=m) (base:=512) ⟨by omega,by omega⟩ hL2
  have hgr:=gr_back hW ht hmb hwb (A:=midL m t l A ah i k++dsWh m 512 ((sy l (i+k)).w-w) false) (by rw [List.append_assoc]; exact hL2)
  have hta:areaL (l.take (i+k+1))=areaL (l.take (i+k))+(sy l (i+k)).w.toNat*(sy l (i+k)).h.toNat:=by rw [take_snocG hg,areaL_snoc]
  have hle:=areaL_take l (i+k+1)
  have hpr:(sy l (i+k)).w*(sy l (i+k)).h=(((sy l (i+k)).w.toNat*(sy l (i+k)).h.toNat:Nat):Int):=by rw [e1,e2]; simp
  unfold clsF
  rw [hd,<- hsame]
  dsimp only
  rw [if_neg (by simp),if_neg (by decide),show w+((sy l (i+k)).w-w)=(sy l (i+k)).w by omega]
  rw [if_neg (by rw [List.length_take]; omega),if_neg (by rw [hpr]; omega),hgr]
  dsimp only
  have ih:=cls_back ht hm hw hs ha hi hL d (k+1) f (by omega) (by omega)
  rw [<- hsame] at ih
  rw [<- hta,show (l.take (i+k)++[(⟨(sy l (i+k)).w,(sy l (i+k)).h,(sy l (i+k)).ws⟩:Bmp)])=l.take (i+k+1) from (take_snocG hg).symm]
  rw [if_neg (by omega),show i+(k+1)-1=i+k by omega,hstep,show Nat.beq (k+1) 0=false from rfl,<- List.append_assoc] at ih
  exact ih
theorem sym_back {C:List (Nat × Nat)} (ht:t<4) (hm:MayL l) (hw:∀ b∈l,W64 b.ws) (hs:SortedTo l l.length) (ha:areaL l<=1048576) (hn:l.length<=4096):∀ (F i f:Nat) (ah:Int) (A:List (Nat × Nat)),i<=l.length->l.length<=i+F->l.length-i+1<=f->0<=ah->(i<l.length->ah<(sy l i).h) ->
  L=hisF m t l F i ah A++C->symF m t l.length f (l.take i) (areaL (l.take i)) ah (D A.length) = .ok (l,D (hisF m t l F i ah A).length)
 | 0,i,f,ah,A,hi,hF,hf,h0,hlt,hL=>by
  obtain ⟨f,rfl⟩:∃ f',f=f'+1:=⟨f-1,by omega⟩
  unfold symF
  rw [if_pos (by rw [List.length_take]; omega),List.take_of_length_le (by omega)]
  rfl
 | F+1,i,f,ah,A,hi,hF,hf,h0,hlt,hL=>by
  obtain ⟨f,rfl⟩:∃ f',f=f'+1:=⟨f-1,by omega⟩
  by_cases h1:i<l.length
  ·have hhis:hisF m t l (F+1) i ah A=hisF m t l F (nxt l i) (sy l i).h (midL m t l A ah i (nxt l i-i)++noneD m):=by
    show (if i<l.length then _ else A)=_
    rw [if_pos h1]
   rw [hhis] at hL ⊢
   have hgt:=nxt_gt h1
   have hnl:=nxt_le (Nat.le_of_lt h1)
   obtain ⟨C1,hC1⟩:=hisF_split (m:=m) (t:=t) (l:=l) F (nxt l i) (sy l i).h (midL m t l A ah i (nxt l i-i)++noneD m)
   obtain ⟨C2,hC2⟩:=midL_split (m:=m) (t:=t) (l:=l) (A:=A) (ah:=ah) (i:=i) (k:=0) (nxt l i-i)
   rw [Nat.zero_add] at hC2
   have hL1:L=midL m t l A ah i (nxt l i-i)++(noneD m++(C1++C)):=by rw [hL,hC1]; simp only [List.append_assoc]
   have hL2:L=A++(dsWh m 0 ((sy l i).h-ah) false++(C2++(noneD m++(C1++C)))):=by
    rw [hL1,hC2]
    show (A++dsWh m 0 ((sy l i).h-ah) false++C2)++_=_
    simp only [List.append_assoc]
   have hmay:=(hm _ (List.mem_of_getElem? (sy_get h1))).1
   obtain ⟨W,X,e1,e2,hW1,hW2,hX1,hX2,hWX⟩:=size_nat hmay
   have hlt':=hlt h1
   have hd:=get_v hW (m:=m) (base:=0) ⟨by omega,by omega⟩ hL2
   have hc:=cls_back hW ht hm hw hs ha h1 hL1 (nxt l i-i) 0 (l.length-i+2) (by omega) (by omega)
   simp only [Nat.add_zero] at hc
   rw [if_pos True.intro,show Nat.beq 0 0=true from rfl,show midL m t l A ah i 0=A++dsWh m 0 ((sy l i).h-ah) false from rfl] at hc
   unfold symF
   rw [if_neg (by rw [List.length_take]; omega),hd]
   dsimp only
   have htl:(l.take i).length=i:=by rw [List.length_take]; omega
   rw [if_neg (by simp),if_neg (by simp; omega),show ah+((sy l i).h-ah)=(sy l i).h by omega,if_neg (by omega),htl,hc]
   dsimp only
   refine sym_back ht hm hw hs ha hn F (nxt l i) f (sy l i).h _ hnl (by omega) (by omega) (by omega) (fun h3=>?_) hL
   have h4:=nxt_stop (Nat.le_of_lt h1) h3
   have h5:=sorted_sy hs (i:=nxt l i-1) (by omega)
   rw [show nxt l i-1+1=nxt l i by omega] at h5
   have h6:=nxt_same (l:=l) (i:=i) (k:=nxt l i-1) (by omega) (by omega)
   unfold Bmp.below at h5
   omega
  ·have hhis:hisF m t l (F+1) i ah A=A:=by
    show (if i<l.length then _ else A)=_
    rw [if_neg h1]
   rw [hhis]
   unfold symF
   rw [if_pos (by rw [List.length_take]; omega),List.take_of_length_le (by omega)]
theorem flg_back {l:List Bool} {C:List (Nat × Nat)} (hn:l.length<=8192):∀ (F:Nat) (v:Bool) (i f:Nat) (first:Bool) (A:List (Nat × Nat)),i<=l.length->flgN l v i<=F->l.length-i+1+(if i<l.length/\l.getD i false≠v then 1 else 0)<=f ->
  (first=false->i<l.length->l.getD i false=v)->L=flgF m l F v i A++C->flF m l.length f (l.take i) v first (D A.length) = .ok l
 | F,v,i,f,first,A,hi,hF,hf,h0,hL=>by
  obtain ⟨f,rfl⟩:∃ f',f=f'+1:=⟨f-1,by omega⟩
  by_cases h1:i<l.length
  ·obtain ⟨F,rfl⟩:∃ F',F=F'+1:=⟨F-1,by unfold flgN at hF; omega⟩
   have hnx:=flgN_next (v:=v) h1
   have hge:=rnt_ge l v i
   have hle:=rnt_le (v:=v) hi
   have hhis:flgF m l (F+1) v i A=flgF m l F (!v) (rnt l v i) (A++dsWh m 1024 ((rnt l v i-i:Nat):Int) false):=by
    show (if i<l.length then _ else A)=_
    rw [if_pos h1]
   rw [hhis] at hL
   obtain ⟨C1,hC1⟩:=flgF_split (m:=m) (l:=l) F (!v) (rnt l v i) (A++dsWh m 1024 ((rnt l v i-i:Nat):Int) false)
   have hL2:L=A++(dsWh m 1024 ((rnt l v i-i:Nat):Int) false++(C1++C)):=by rw [hL,hC1]; simp only [List.append_assoc]
   have hd:=get_v hW (m:=m) (base:=1024) ⟨by omega,by omega⟩ hL2
   have htl:(l.take i).length=i:=by rw [List.length_take]; omega
   unfold flF
   rw [if_neg (by omega),hd]
   dsimp only
   rw [if_neg (by simp),htl]
   rw [if_neg (fun hh=>by
    rcases hh with hh | hh | ⟨hh,hh2⟩ | hh
    ·cases hh
    ·omega
    ·have:=rnt_gt h1 (h0 hh2 h1); omega
    ·omega)]
   have hnew:l.take i++List.replicate ((rnt l v i-i:Nat):Int).toNat v=l.take (rnt l v i):=by
    rw [Int.toNat_natCast]
    refine List.ext_getElem? fun j=>?_
    rcases Nat.lt_or_ge j i with h2 | h2
    ·rw [List.getElem?_append_left (by omega),List.getElem?_take_of_lt h2,List.getElem?_take_of_lt (by omega)]
    ·rw [List.getElem?_append_right (by omega),htl]
     rcases Nat.lt_or_ge j (rnt l v i) with h3 | h3
     ·rw [List.getElem?_replicate_of_lt (by omega),List.getElem?_take_of_lt h3]
      have:=rnF_same l v _ i j h2 h3
      rw [List.getD_eq_getElem?_getD,List.getElem?_eq_getElem (by omega)] at this
      rw [List.getElem?_eq_getElem (by omega)]
      exact congrArg some this.symm
     ·rw [List.getElem?_eq_none (by simp; omega),List.getElem?_eq_none (by rw [List.length_take]; omega)]
   rw [hnew]
   have hst:∀ h3:rnt l v i<l.length,l.getD (rnt l v i) false = !v:=fun h3=>bool_ne _ _ (rnt_stop hi h3)
   refine flg_back hn F (!v) (rnt l v i) f false _ hle (by omega) ?_ (fun _ h3=>hst h3) hL
   rw [if_neg (fun hh=>hh.2 (hst hh.1))]
   by_cases hv:l.getD i false=v
   ·have:=rnt_gt h1 hv
    split at hf <;> omega
   ·rw [if_pos ⟨h1,hv⟩] at hf
    omega
  ·unfold flF
   rw [if_pos (by rw [List.length_take]; omega),List.take_of_length_le (by omega)]
end
theorem dec_enc {t:Nat} {new imp:List Bmp} {ex:List Bool} (hc:chkD (t:Nat) new ex.length imp=0) (hw:∀ b∈new,W64 b.ws):decD (dicB t new ex) imp = .ok (t,new,ex):=by
 obtain ⟨⟨h1,h2,h3,h4,h5⟩,h6,h7⟩:=chkD_zero hc
 have ht:t<4:=by omega
 have hlen:=dicD_len (m:=szD t) (t:=t) (ex:=ex) h2 (by omega) (by omega) h7
 have hW:=walk_of (m:=szD t) hlen.2 (by omega)
 generalize hLd:dicD (szD t) t new ex=L at *
 have hv:=varF_grp (b:=dicB t new ex) (i:=1) (rest:=bytesM (flushM (cdL (szD t) L))) 10 0 new.length 0 rfl (by unfold dicB; rw [hLd]; rfl) (by rw [Nat.pow_zero,Nat.mul_one]; exact lt9 (by omega)) (fun hh=>by omega)
 have hv:varP (dicB t new ex) 1=(0,new.length,1+(grp new.length).length):=by
  unfold varP
  rw [hv,Nat.pow_zero,Nat.mul_one,Nat.zero_add,Nat.add_zero]
  rfl
 have hdrop:(dicB t new ex).drop (1+(grp new.length).length)=bytesM (flushM (cdL (szD t) L)):=by
  unfold dicB
  rw [hLd,Nat.add_comm 1,List.drop_succ_cons,List.drop_left]
 obtain ⟨C,hC⟩:=flgF_split (m:=szD t) (l:=ex) (2*ex.length+1) false 0 (symD (szD t) t new)
 have hL1:L=symD (szD t) t new++C:=hLd.symm.trans hC
 have hsym:=sym_back hW (C:=C) ht h2 hw h5 h7 (by omega) new.length 0 (new.length+1) 0 [] (Nat.zero_le _) (by omega) (by omega) (Int.le_refl _) (fun h0=>by
  have:=(size_nat (h2 _ (List.mem_of_getElem? (sy_get h0))).1)
  obtain ⟨W,X,e1,e2,_,_,_,_,_⟩:=this
  omega) hL1
 have hflg:=flg_back hW (l:=ex) (C:=[]) (m:=szD t) (by omega) (2*ex.length+1) false 0 (ex.length+2) true (symD (szD t) t new) (Nat.zero_le _) (by unfold flgN; split <;> omega) (by split <;> omega) (fun hh=>by cases hh) (by rw [List.append_nil]; exact hLd.symm)
 rw [show (List.take 0 new)=[] from rfl,show areaL []=0 from rfl] at hsym
 rw [show (List.take 0 ex)=[] from rfl] at hflg
 unfold decD
 rw [if_neg (fun hh=>hh h1),if_neg (by omega)]
 rw [show (dicB t new ex)[0]? = some t from rfl]
 dsimp only
 rw [if_neg (by omega),hv]
 dsimp only
 rw [if_neg (by simp),if_neg (by omega),hdrop]
 rw [show newD (bytesM (flushM (cdL (szD t) L))) (szD t)=decN (kOf L) (bytesM (flushM (cdL (szD t) L))) (szD t) ([]:List (Nat × Nat)).length from rfl,hsym]
 dsimp only
 rw [<- h4]
 rw [show hisF (szD t) t new new.length 0 0 []=symD (szD t) t new from rfl,hflg]
end Go.Bm
namespace Go.Bm
open Go Go.Den Go.Den.YtfaclehehhgpcaaGreat
theorem Slot.cap {t:TypeId} {n c:Nat} {D:List Ent} {q:Option Addr} {xs:List Value} (hd:Slot t 1 D q n c xs):n<=c:=by
 obtain ⟨hl,⟨_,_,h4,_⟩ | ⟨b,rest,_,_,h4⟩⟩:=hd
 ·omega
 ·rw [List.length_append] at h4; omega
theorem dicB_lt {t:Nat} {new imp:List Bmp} {ex:List Bool} (hc:chkD (t:Nat) new ex.length imp=0):RdB (dicB t new ex):=by
 obtain ⟨⟨h1,h2,h3,h4,h5⟩,h6,h7⟩:=chkD_zero hc
 refine ⟨fun x hx=>?_,by have:=(dicB_len (t:=t) (ex:=ex) h2 (by omega) (by omega) h7).1; omega⟩
 unfold dicB at hx
 rcases List.mem_cons.1 hx with rfl | hx
 ·omega
 ·rcases List.mem_append.1 hx with hx | hx
  ·exact grp_lt x hx
  ·exact Go.Ar.flushM_lt (cdL_ok (Nat.le_trans (dicD_len (m:=szD t) (t:=t) (ex:=ex) h2 (by omega) (by omega) h7).1 (by decide))).wf x hx
theorem encD_ok {t:Nat} {new imp:List Bmp} {ex:List Bool} (hc:chkD (t:Nat) new ex.length imp=0):encD (t:Nat) new ex imp=dicB t new ex:=by
 unfold encD
 rw [if_pos hc,Int.toNat_natCast]
def wkN:List Bmp:=[⟨2,1,[0]⟩,⟨1,2,[9223372036854775808,0]⟩]
def wkI:List Bmp:=[⟨3,3,[0,0,0]⟩]
def wkE:List Bool:=[true,false,true]
theorem wk_may1:MayP 2 1 [0]:=by
 refine ⟨by unfold SizeP; omega,by decide,fun y hy=>?_⟩
 have:y=0:=by simp at hy; omega
 subst this
 decide
theorem wk_may2:MayP 1 2 [9223372036854775808,0]:=by
 refine ⟨by unfold SizeP; omega,by decide,fun y hy=>?_⟩
 have:y=0\/y=1:=by simp at hy; omega
 rcases this with rfl | rfl <;> decide
theorem wk_may3:MayP 3 3 [0,0,0]:=by
 refine ⟨by unfold SizeP; omega,by decide,fun y hy=>?_⟩
 have:y=0\/y=1\/y=2:=by simp at hy; omega
 rcases this with rfl | rfl | rfl <;> decide
theorem wk_w:∀ b∈wkN,W64 b.ws:=fun b hb=>by
 unfold wkN at hb
 rcases List.mem_cons.1 hb with rfl | hb
 ·intro v hv; simp at hv; subst hv; decide
 ·rw [List.mem_singleton.1 hb]
  intro v hv; simp at hv; rcases hv with rfl | rfl <;> decide
theorem wk_chk:chkD ((2:Nat):Int) wkN wkE.length wkI=0:=by
 refine chkD_ok ⟨fun b hb=>?_,fun b hb=>?_,by decide,rfl,fun i a b hi ha hb=>?_⟩ (by decide)
 ·rw [List.mem_singleton.1 hb]; exact wk_may3
 ·rcases List.mem_cons.1 hb with rfl | hb
  ·exact wk_may1
  ·rw [List.mem_singleton.1 hb]; exact wk_may2
 ·have hi:i+1<2:=hi
  have:i=0:=by omega
  subst this
  injection ha with ha
  injection hb with hb
  subst ha hb
  unfold Bmp.below
  decide
theorem wk_len:Nat.blt 2 (dicB 2 wkN wkE).length=true:=by kernel_rfl
theorem wk_pick:pickD (wkI++wkN) wkE=[⟨3,3,[0,0,0]⟩,⟨1,2,[9223372036854775808,0]⟩]:=rfl
theorem wk_exp:expD ((2:Nat):Int) wkN wkE wkI=[⟨3,3,[0,0,0]⟩,⟨1,2,[9223372036854775808,0]⟩]:=by
 unfold expD
 rw [if_pos wk_chk,wk_pick]
section
variable {hB:Heap} {K:VK} {Kp:PK}
set_option maxHeartbeats 4000000 in
theorem wakes13_ok (hk:∀ h',hext hB h'->K (.bool true) h'):CP F_burinlaw13_wakes #[] hB K Kp:=by
 refine call_burinlaw13_wakes ?_
 unfold burinlaw13_wakes
 have hs21:SizeP ((2:Nat):Int) ((1:Nat):Int):=by unfold SizeP; omega
 have hs33:SizeP ((3:Nat):Int) ((3:Nat):Int):=by unfold SizeP; omega
 refine white_ok (W:=2) (X:=1) hs21 fun q1 h H=>?_
 refine ⟨_,_,_,_,_,rfl,?_⟩
 refine newC_hp H fun r6 h H=>?_
 refine newC_hp H fun r8 h H=>?_
 refine newC_hp H fun r10 h H=>?_
 refine newC_hp H fun r12 h H=>?_
 have H:Hp hB [] h [⟨q1,true,T_uint64,u64s [0]⟩,⟨r6,true,T_uint64,u64s [9223372036854775808,0]⟩,⟨r8,true,T_api_Bitmap,[.int .i64 2, .int .i64 1, .slice (at0 q1) 1 1, .int .i64 1, .int .i64 2, .slice (at0 r6) 2 2]⟩,⟨r10,true,T_bool,[.bool true, .bool false, .bool true]⟩,⟨r12,true,T_api_Dict,[.int .i64 0, .slice none 0 0, .slice none 0 0]⟩]:=H
 refine stA H 4 rfl rfl rfl fun h H=>?_
 refine stA H 4 rfl rfl rfl fun h H=>?_
 refine stA H 4 rfl rfl rfl fun h H=>?_
 refine white_ok (W:=3) (X:=3) hs33 fun q2 h' H'=>?_
 replace H:=H.join H' rfl
 clear H'
 refine ⟨_,_,_,_,_,rfl,?_⟩
 refine newC_hp H fun r22 h H=>?_
 obtain ⟨A,hA⟩:∃ A:List Ent,A=[⟨q1,true,T_uint64,u64s [0]⟩,⟨r6,true,T_uint64,u64s [9223372036854775808,0]⟩,⟨r8,true,T_api_Bitmap,[.int .i64 2, .int .i64 1, .slice (at0 q1) 1 1, .int .i64 1, .int .i64 2, .slice (at0 r6) 2 2]⟩,⟨r10,true,T_bool,[.bool true, .bool false, .bool true]⟩,⟨r12,true,T_api_Dict,[.int .i64 2, .slice (at0 r8) 2 2, .slice (at0 r10) 3 3]⟩,⟨q2,true,T_uint64,u64s [0,0,0]⟩,⟨r22,true,T_api_Bitmap,[.int .i64 3, .int .i64 3, .slice (at0 q2) 3 3]⟩]:=⟨_,rfl⟩
 have H:Hp hB [] h A:=by rw [hA]; exact H
 have rdA:∀ {h:Heap} {L:List Ent},Hp hB [] h (A++L)->BmsV h (at0 r8) wkN/\BmsV h (at0 r22) wkI/\FlsV h (at0 r10) wkE:=fun {h L} H=>by
  rw [hA] at H
  have rq1:rdO h (at0 q1) (1*1) (u64s [0]):=Hp.rdO_mem (rest:=[]) (w:=true) (t:=T_uint64) (cs:=u64s [0]) H (by rw [List.append_nil]; exact List.mem_cons_self ..) rfl
  have rr6:rdO h (at0 r6) (2*1) (u64s [9223372036854775808,0]):=Hp.rdO_mem (rest:=[]) (w:=true) (t:=T_uint64) (cs:=u64s [9223372036854775808,0]) H (by rw [List.append_nil]; exact List.mem_cons_of_mem _ (List.mem_cons_self ..)) rfl
  have rq2:rdO h (at0 q2) (3*1) (u64s [0,0,0]):=Hp.rdO_mem (rest:=[]) (w:=true) (t:=T_uint64) (cs:=u64s [0,0,0]) H (by rw [List.append_nil]; exact List.mem_of_getElem? (i:=5) rfl) rfl
  have rr10:rdO h (at0 r10) (3*1) [.bool true, .bool false, .bool true]:=Hp.rdO_mem (rest:=[]) (w:=true) (t:=T_bool) (cs:=[.bool true, .bool false, .bool true]) H (by rw [List.append_nil]; exact List.mem_of_getElem? (i:=3) rfl) rfl
  have w0:∀ l:List Nat,(∀ x∈l,x=0\/x=9223372036854775808)->W64 l:=fun l hl v hv=>by
   rcases hl v hv with rfl | rfl <;> decide
  refine ⟨fun i b hi=>?_,fun i b hi=>?_,rr10⟩
  ·match i,hi with
   | 0,hi =>
    injection hi with hi
    subst hi
    exact ⟨⟨r8,0,none⟩,at0 q1,1,rfl,⟨hpB H 2 rfl rfl,hpB H 2 rfl rfl,hpB H 2 rfl rfl,rq1,w0 _ (by simp),by decide⟩⟩
   | 1,hi =>
    injection hi with hi
    subst hi
    exact ⟨⟨r8,0,none⟩,at0 r6,2,rfl,⟨hpB H 2 rfl rfl,hpB H 2 rfl rfl,hpB H 2 rfl rfl,rr6,w0 _ (by simp),by decide⟩⟩
  ·match i,hi with
   | 0,hi =>
    injection hi with hi
    subst hi
    exact ⟨⟨r22,0,none⟩,at0 q2,3,rfl,⟨hpB H 6 rfl rfl,hpB H 6 rfl rfl,hpB H 6 rfl rfl,rq2,w0 _ (by simp),by decide⟩⟩
 have rdD:∀ {h:Heap} {L:List Ent} {KK:Int->Option Addr->Nat->Nat->Option Addr->Nat->Nat->Prop},Hp hB [] h (A++L)->KK 2 (at0 r8) 2 2 (at0 r10) 3 3->ldI h ((⟨r12,0,none⟩:Addr).add 0) .i64 fun x=>ldS h ((⟨r12,0,none⟩:Addr).add 1) fun y yn yc=>ldS h ((⟨r12,0,none⟩:Addr).add 2) fun z zn zc=>KK x y yn yc z zn zc:=fun {h L KK} H hKK=>by
  rw [hA] at H
  exact ldI_of (hpA H 4 rfl rfl) (ldS_of (hpA H 4 rfl rfl) (ldS_of (hpA H 4 rfl rfl) hKK))
 have H:Hp hB [] h (A++[]):=H.as (by rw [List.append_nil])
 refine rdD (KK:=fun x y yn yc z zn zc=>CP F_dict_Encode #[.agg #[.int .i64 x, .slice y yn yc, .slice z zn zc], .slice (some ⟨r22,0,none⟩) 1 1] h _ Kp) H ?_
 obtain ⟨v1,v2,v3⟩:=rdA H
 refine dEnc_ok (t:=((2:Nat):Int)) (new:=wkN) (ex:=wkE) (imp:=wkI) v1 v2 v3 (by decide) (by decide) (by decide) fun D qo co h' hs H'=>?_
 rw [wk_chk,encD_ok wk_chk] at *
 replace H:=H.join H' hs.w
 clear H'
 refine ⟨_,_,_,_,rfl,?_⟩
 have H:Hp hB [] h' (A++D):=H.as (by rw [List.append_nil])
 obtain ⟨v1,v2,v3⟩:=rdA H
 refine dDec_ok (imp:=wkI) (dicB_lt wk_chk) (Slot.rdO' hs H fun e he=>List.mem_append_right _ he) (Slot.cap hs) v2 (by decide) (fun t new ex RN qn cn RE qe ce h2 hd hM hL hsE H'=>?_) fun er h2 hd _ _=>?_
 rotate_left
 ·rw [dec_enc wk_chk wk_w] at hd; cases hd
 rw [dec_enc wk_chk wk_w] at hd
 injection hd with hd
 injection hd with e1 hd
 injection hd with e2 e3
 subst e1 e2 e3
 replace H:=H.join H' (by rw [List.all_append,hL.w,hsE.w]; rfl)
 clear H'
 refine ⟨_,_,_,_,_,_,_,_,rfl,?_⟩
 refine newC_hp H fun r37 h H=>?_
 have H:=H.rot
 refine stA H 0 rfl rfl rfl fun h H=>?_
 refine stA H 0 rfl rfl rfl fun h H=>?_
 refine stA H 0 rfl rfl rfl fun h H=>?_
 have H:Hp hB [] h (⟨r37,true,T_api_Dict,[.int .i64 ((2:Nat):Int), .slice qn wkN.length cn, .slice qe wkE.length ce]⟩::(A++D++(RN++RE))):=H
 have HA:Hp hB [] h (A++(D++(RN++RE))):=(Hp.suf (X:=[_]) H).asc
 refine rdD (KK:=fun x y yn yc z zn zc=>CP F_dict_Exported #[.agg #[.int .i64 x, .slice y yn yc, .slice z zn zc], .slice (some ⟨r22,0,none⟩) 1 1] h _ Kp) HA ?_
 obtain ⟨v1,v2,v3⟩:=rdA HA
 refine dExp_ok (t:=((2:Nat):Int)) (new:=wkN) (ex:=wkE) (imp:=wkI) v1 v2 v3 (by decide) (by decide) fun R q9 c9 h' hL9 H'=>?_
 rw [wk_chk,wk_exp] at *
 replace H:=H.join H' hL9.w
 clear H'
 refine ⟨_,_,_,_,rfl,?_⟩
 refine bcase_eq (fun _=>?_) fun hh=>absurd rfl hh
 refine bcase_eq (fun _=>?_) fun hh=>absurd rfl hh
 refine bcase_eq (fun _=>?_) fun hh=>absurd rfl hh
 refine bcase_dec (fun _=>?_) fun hh=>?_
 rotate_left
 ·have:=Nat.le_of_ble_eq_true wk_len
  exact absurd (show (((dicB 2 wkN wkE).length:Nat):Int) > 2 by omega) hh
 refine ldI_of (hpA H 0 rfl rfl) (ldS_of (hpA H 0 rfl rfl) (ldS_of (hpA H 0 rfl rfl) ?_))
 have H:Hp hB [] h' ([⟨r37,true,T_api_Dict,[.int .i64 ((2:Nat):Int), .slice qn wkN.length cn, .slice qe wkE.length ce]⟩]++(A++D++(RN++RE)++R)):=H
 have HA:Hp hB [] h' (A++(D++(RN++RE)++R)):=(Hp.suf H).as (by simp only [List.append_assoc])
 obtain ⟨v1,v2,v3⟩:=rdA HA
 refine rdD (KK:=fun x y yn yc z zn zc=>CP F_burinref0_EqDict #[.agg #[.int .i64 ((2:Nat):Int), .slice qn wkN.length cn, .slice qe wkE.length ce], .agg #[.int .i64 x, .slice y yn yc, .slice z zn zc]] h' _ Kp) HA ?_
 have w1:BmsV h' qn wkN:=hL.view HA fun e he=>by simp [he]
 have w2:FlsV h' qe wkE:=Slot.rdO' hsE HA fun e he=>by simp [he]
 refine eqDict_ok (new:=wkN) (ex:=wkE) w1 v1 w2 v3 (by decide) (by decide) fun h2 e=>?_
 have HA:=HA.ext e
 refine ⟨_,rfl,?_⟩
 refine bcase_of (fun _=>?_) fun hh=>by cases hh
 refine bcase_eq (fun _=>?_) fun hh=>absurd rfl hh
 have w3:=hL9.view HA fun e he=>by simp [he]
 obtain ⟨a0,p0,c0,hq0,b0⟩:=w3 0 _ rfl
 obtain ⟨a1,p1,c1,hq1,b1⟩:=w3 1 _ rfl
 refine needs_of (by decide) (ptr_at hq0 ?_)
 refine ldI_of b0.c0 ?_
 refine bcase_eq (fun _=>?_) fun hh=>absurd rfl hh
 refine needs_of (by decide) (ptr_at hq1 ?_)
 refine ldI_of b1.c1 ?_
 exact hk h2 HA.hext
end
end Go.Bm
namespace Go.Bm
open Go Go.Den Go.Den.YtfaclehehhgpcaaGreat
open Go.Ar (wd_bytes)
theorem build {α:Type} {P:Nat->α->Prop}:∀ {n:Nat},(∀ i,i<n->∃ x,P i x)->∃ l:List α,l.length=n/\∀ i x,l[i]? = some x->P i x
 | 0,_=>⟨[],rfl,fun i x hx=>by simp at hx⟩
 | n+1,h=>by
  obtain ⟨l,e1,e2⟩:=build (n:=n) fun i hi=>h i (by omega)
  obtain ⟨y,hy⟩:=h n (by omega)
  refine ⟨l++[y],by simp [e1],fun i z hz=>?_⟩
  rcases Nat.lt_or_ge i l.length with hi | hi
  ·rw [List.getElem?_append_left hi] at hz
   exact e2 i z hz
  ·have hi2:=(List.getElem?_eq_some_iff.1 hz).1
   simp at hi2
   have:i=n:=by omega
   subst this
   rw [List.getElem?_append_right hi,e1,Nat.sub_self] at hz
   have hz:y=z:=by simpa using hz
   subst hz
   exact hy
theorem wd_bms {h:Heap} {cs:List Value} (H:WDx TP h T_s_api_Bitmap cs):∃ q cap,∃ l:List Bmp,cs=[.slice q l.length cap]/\BmsV h q l/\l.length<=4000000000000/\l.length<=cap:=by
 obtain ⟨q,len,cap,rfl,h1,h2,h3,h4⟩:=wd_slice Go.Proofs.Tryz.underlying54 H
 have k:TP.cellsOf T_api_Bitmap=3:=by kernel_rfl
 have kb:TP.bytesOf T_api_Bitmap=40:=by kernel_rfl
 have hrb:reachBytes=140737488351232:=rfl
 rw [k] at h4
 rw [kb] at h2
 obtain ⟨l,e1,e2⟩:=build (P:=fun i (b:Bmp)=>∃ a q1 c1,q=some a/\BmC h (a.add (i*3)) b q1 c1) (n:=len) fun i hi=>by
  obtain ⟨a,cs',ha,hr,hd⟩:=h4 i hi
  obtain ⟨w,b,q1,cap1,ws,rfl,_,_,g1,g2,g3⟩:=wd_bitmap hd
  have c:=fun j v hj=>hr.2 j v hj
  exact ⟨⟨w,b,ws⟩,a,q1,cap1,ha,⟨c 0 _ rfl,c 1 _ rfl,c 2 _ rfl,g2,g3,g1⟩⟩
 subst e1
 exact ⟨q,cap,l,rfl,e2,by omega,h1⟩
structure ReadD (h:Heap) (a:Addr) (f:List Nat) (imp:List Bmp):Prop where
 c0:∃ q c,hcell h (a.add 0)=some (.slice q f.length c)/\rdO h q (f.length*1) (Go.Ar.u8s f)/\f.length<=c
 c1:∃ q c,hcell h (a.add 1)=some (.slice q imp.length c)/\BmsV h q imp
 b8:∀ x∈f,x<256
 l0:f.length<140737488351300
 l1:imp.length<=4000000000000
def ReadsD (h:Heap) (sq:Option Addr) (slen:Nat):Prop:=∀ i,i<slen->∃ a f imp,sq=some a/\ReadD h (a.add (i*2)) f imp
theorem reads13_of {h:Heap} {cs:List Value} (H:WDx TP h T_s_burinlaw13_Reading cs):∃ q len cap,cs=[.slice q len cap]/\ReadsD h q len:=by
 obtain ⟨q,len,cap,rfl,_,_,_,h4⟩:=wd_slice Go.Proofs.Tryz.underlying68 H
 refine ⟨q,len,cap,rfl,fun i hi=>?_⟩
 obtain ⟨a,cs',ha,hr,hd⟩:=h4 i hi
 obtain ⟨hl,hf⟩:=wd_struct Go.Proofs.Tryz.underlying70 hd
 have k:TP.cellsOf T_burinlaw13_Reading=2:=by kernel_rfl
 rw [k] at hl hr
 obtain ⟨v0,v1,rfl⟩:∃ a b,cs'=[a,b]:=by
  match cs',hl with
  | [a,b],_=>exact ⟨a,b,rfl⟩
 have k0:TP.cellsOf T_s_uint8=1:=by kernel_rfl
 have k1:TP.cellsOf T_s_api_Bitmap=1:=by kernel_rfl
 obtain ⟨q0,c0,f,e0,g1,g2,_,g3,g4⟩:=wd_bytes (one_of k0 (hf 0 _ rfl) (v:=v0) rfl)
 obtain ⟨q3,c3,imp,e1,g5,g6,_⟩:=wd_bms (one_of k1 (hf 1 _ rfl) (v:=v1) rfl)
 simp only [List.cons.injEq,and_true] at e0 e1
 subst e0 e1
 have c:=fun j v hj=>hr.2 j v hj
 exact ⟨a,f,imp,ha,⟨⟨q0,c0,c 0 _ rfl,g3,g1⟩,⟨q3,c3,c 1 _ rfl,g5⟩,g4,by omega,g6⟩⟩
end Go.Bm
namespace Go.Den.YtfaclehehhgpcaaGreat
open Go Go.Den
end Go.Den.YtfaclehehhgpcaaGreat
namespace Go.Den.YtfaclehehhgpcaaGreat
open Go Go.Den
end Go.Den.YtfaclehehhgpcaaGreat
namespace Go.Bm
open Go Go.Den Go.Den.YtfaclehehhgpcaaGreat
end Go.Bm
namespace Go.Bm
open Go Go.Den Go.Den.YtfaclehehhgpcaaGreat
open Go.Ar (Dec newD u8s)
theorem sorted_snoc {l:List Bmp} {b:Bmp} (h:SortedTo l l.length) (hb:∀ a,l.getLast? = some a->¬ b.below a):SortedTo (l++[b]) (l++[b]).length:=fun i x y hi hx hy=>by
 rw [List.length_append,List.length_singleton] at hi
 rcases Nat.lt_or_ge (i+1) l.length with h1 | h1
 ·rw [List.getElem?_append_left (by omega)] at hx
  rw [List.getElem?_append_left h1] at hy
  exact h i x y h1 hx hy
 ·have h2:i+1=l.length:=by omega
  rw [List.getElem?_append_left (by omega)] at hx
  rw [List.getElem?_append_right h1,h2,Nat.sub_self] at hy
  have hy:b=y:=by simpa using hy
  subst hy
  exact hb x (by rw [List.getLast?_eq_getElem?,<- h2,Nat.add_sub_cancel]; exact hx)
theorem clsF_good {m t n:Nat} {hh:Int} {new':List Bmp} {area':Nat} {s':Dec}:∀ (f:Nat) (new:List Bmp) (area:Nat) (w:Int) (first:Bool) (s:Dec),clsF m t n hh f new area w first s = .ok (new',area',s')->areaL new=area->area<=1048576->new.length<=n->SortedTo new new.length->0<=w->0<=hh ->
  (∀ a,new.getLast? = some a->a.h<=hh/\(a.h=hh->a.w<=w))->areaL new'=area'/\area'<=1048576/\new'.length<=n/\SortedTo new' new'.length/\∀ a,new'.getLast? = some a->a.h<=hh
 | 0,_,_,_,_,_,h,_,_,_,_,_,_,_=>by unfold clsF at h; cases h
 | f+1,new,area,w,first,s,h,h1,h2,h3,h4,h5,h5',h6=>by
  unfold clsF at h
  split at h
  ·cases h
  ·split at h
   ·split at h
    ·cases h
    ·injection h with h
     injection h with e1 h
     injection h with e2 e3
     subst e1 e2
     exact ⟨h1,h2,h3,h4,fun a ha=>(h6 a ha).1⟩
   ·split at h
    ·cases h
    ·split at h
     ·cases h
     ·rename_i g1 g2 g3 g4
      generalize (decW m 512 s).1.2.1=v at *
      have hmul:(w+v)*hh=(((w+v).toNat*hh.toNat:Nat):Int):=by
       obtain ⟨W,hW⟩:∃ W:Nat,w+v=(W:Int):=⟨(w+v).toNat,by omega⟩
       obtain ⟨Y,hY⟩:∃ Y:Nat,hh=(Y:Int):=⟨hh.toNat,by omega⟩
       rw [hW,hY]
       simp
      refine clsF_good f _ _ _ _ _ h ?_ ?_ ?_ ?_ (by omega) h5' ?_
      ·rw [areaL_snoc,h1]
      ·rw [hmul] at g4; omega
      ·rw [List.length_append,List.length_singleton]; omega
      ·refine sorted_snoc h4 fun a ha=>?_
       obtain ⟨k1,k2⟩:=h6 a ha
       unfold Bmp.below
       intro hb
       rcases hb with hb | ⟨hb,hb2⟩
       ·have hb:hh<a.h:=hb
        omega
       ·have hb:hh=a.h:=hb
        have hb2:w+v<a.w:=hb2
        have:=k2 hb.symm
        omega
      ·intro a ha
       rw [List.getLast?_concat] at ha
       injection ha with ha
       subst ha
       exact ⟨Int.le_refl _,fun _=>Int.le_refl _⟩
theorem symF_good {m t n:Nat} {new':List Bmp} {s':Dec}:∀ (f:Nat) (new:List Bmp) (area:Nat) (ah:Int) (s:Dec),symF m t n f new area ah s = .ok (new',s')->areaL new=area->area<=1048576->new.length<=n->SortedTo new new.length->0<=ah ->
  (∀ a,new.getLast? = some a->a.h<=ah)->new'.length=n/\areaL new'<=1048576/\SortedTo new' new'.length
 | 0,_,_,_,_,h,_,_,_,_,_,_=>by unfold symF at h; cases h
 | f+1,new,area,ah,s,h,h1,h2,h3,h4,h5,h6=>by
  unfold symF at h
  split at h
  ·injection h with h
   injection h with e1 e2
   subst e1
   exact ⟨by omega,by omega,h4⟩
  ·split at h
   ·cases h
   ·split at h
    ·cases h
    ·split at h
     ·cases h
     ·rename_i g1 g2 g3 g4
      generalize hv:(decW m 0 s).1.2.1=v at *
      generalize hc:clsF m t n (ah+v) (n-new.length+2) new area 0 true (decW m 0 s).2=Rc at h
      match Rc,h with
      | .error e,h=>cases h
      | .ok (n2,a2,s2),h =>
       dsimp only at h
       obtain ⟨k1,k2,k3,k4,k5⟩:=clsF_good _ _ _ _ _ _ hc h1 h2 h3 h4 (Int.le_refl _) (by omega) fun a ha=>⟨by have:=h6 a ha; omega,fun hh=>by have:=h6 a ha; omega⟩
       exact symF_good f n2 a2 (ah+v) s2 h k1 k2 k3 k4 (by omega) k5
theorem flF_good {m n:Nat} {ex':List Bool}:∀ (f:Nat) (ex:List Bool) (v first:Bool) (s:Dec),flF m n f ex v first s = .ok ex'->ex.length<=n->ex'.length=n
 | 0,_,_,_,_,h,_=>by unfold flF at h; cases h
 | f+1,ex,v,first,s,h,h1=>by
  unfold flF at h
  split at h
  ·injection h with h
   subst h
   omega
  ·split at h
   ·cases h
   ·split at h
    ·cases h
    ·exact flF_good f _ _ _ _ h (by rw [List.length_append,List.length_replicate]; omega)
theorem decD_good {b:List Nat} {imp:List Bmp} {t:Nat} {new:List Bmp} {ex:List Bool} (h:decD b imp = .ok (t,new,ex)) (hM:MayL new):chkD (t:Nat) new ex.length imp=0:=by
 unfold decD at h
 split at h
 ·cases h
 ·split at h
  ·cases h
  ·rename_i g1 g2
   have g1:MayL imp:=Classical.not_not.1 g1
   generalize b[0]? = b0 at h
   match b0,h with
   | none,h=>cases h
   | some t0,h =>
    dsimp only at h
    split at h
    ·cases h
    ·split at h
     ·cases h
     ·split at h
      ·cases h
      ·rename_i g3 g4 g5
       generalize hs:symF (szD t0) t0 (varP b 1).2.1 ((varP b 1).2.1+1) [] 0 0 (newD (b.drop (varP b 1).2.2) (szD t0))=Rs at h
       match Rs,h with
       | .error e,h=>cases h
       | .ok (n2,s2),h =>
        dsimp only at h
        generalize hf:flF (szD t0) (imp.length+(varP b 1).2.1) (imp.length+(varP b 1).2.1+2) [] false true s2=Rf at h
        match Rf,h with
        | .error e,h=>cases h
        | .ok e2,h =>
         injection h with h
         injection h with e1 h
         injection h with e3 e4
         subst e1 e3 e4
         obtain ⟨k1,k2,k3⟩:=symF_good _ _ _ _ _ hs rfl (by decide) (Nat.zero_le _) (fun i a b hi=>by have hi:i+1<0:=hi; omega) (Int.le_refl _) fun a ha=>by cases ha
         have k4:=flF_good _ _ _ _ _ hf (Nat.zero_le _)
         exact chkD_ok ⟨g1,hM,by omega,by omega,k3⟩ (by omega)
def OutD (b:List Nat) (imp:List Bmp) (er t:Int) (new:List Bmp) (ex:List Bool):Prop :=
 (∃ T:Nat,decD b imp = .ok (T,new,ex)/\t=(T:Int)/\er=0/\MayL new)\/(decD b imp = .error er/\t=0/\new=[]/\ex=[])
theorem OutD.det {b:List Nat} {imp:List Bmp} {er t er' t':Int} {new new':List Bmp} {ex ex':List Bool} (h:OutD b imp er t new ex) (h':OutD b imp er' t' new' ex'):er=er'/\t=t'/\new=new'/\ex=ex':=by
 rcases h with ⟨T,h1,rfl,rfl,_⟩ | ⟨h1,rfl,rfl,rfl⟩
 ·rcases h' with ⟨T',h2,rfl,rfl,_⟩ | ⟨h2,_⟩
  ·rw [h1] at h2
   injection h2 with h2
   injection h2 with e1 h2
   injection h2 with e2 e3
   subst e1 e2 e3
   exact ⟨rfl,rfl,rfl,rfl⟩
  ·rw [h1] at h2; cases h2
 ·rcases h' with ⟨T',h2,_⟩ | ⟨h2,rfl,rfl,rfl⟩
  ·rw [h1] at h2; cases h2
  ·rw [h1] at h2
   injection h2 with h2
   exact ⟨h2,rfl,rfl,rfl⟩
theorem OutD.len {b:List Nat} {imp:List Bmp} {er t:Int} {new:List Bmp} {ex:List Bool} (h:OutD b imp er t new ex):new.length<=4096/\ex.length<=4096/\∀ x∈new,x.ws.length<=2097152:=by
 rcases h with ⟨T,h1,rfl,rfl,hM⟩ | ⟨h1,rfl,rfl,rfl⟩
 ·obtain ⟨⟨_,_,_,k1,_⟩,k2,_⟩:=chkD_zero (decD_good h1 hM)
  exact ⟨by omega,by omega,fun x hx=>may_ws (hM x hx)⟩
 ·exact ⟨Nat.zero_le _,Nat.zero_le _,fun x hx=>by cases hx⟩
section
variable {hB:Heap} {K:VK} {Kp:PK} {q qi:Option Addr} {c ci:Nat} {b:List Nat} {imp:List Bmp}
theorem dDec2_ok (hb:RdB b) (hr:rdO hB q (b.length*1) (u8s b)) (hcap:b.length<=c) (hi:BmsV hB qi imp) (hil:imp.length<=1000000000000)
  (hk:∀ er t new ex RN qn cn RE qe ce h',OutD b imp er t new ex->(er=0\/er=130\/er=120)->ListO RN qn cn new->Slot T_bool 1 RE qe ex.length ce (bls ex)->Hp hB [] h' (RN++RE)->K (.tuple #[.agg #[.int .i64 t, .slice qn new.length cn, .slice qe ex.length ce], .int .i64 er]) h') :
  CP F_dict_Decode #[.slice q b.length c, .slice qi imp.length ci] hB K Kp :=
 dDec_ok hb hr hcap hi hil (fun t new ex RN qn cn RE qe ce h' hd hM hL hs H=>hk 0 t new ex RN qn cn RE qe ce h' (.inl ⟨t,hd,rfl,rfl,hM⟩) (.inl rfl) hL hs H)
  fun er h' hd he e=>hk er 0 [] [] [] none 0 [] none 0 h' (.inr ⟨hd,rfl,rfl,rfl⟩) (.inr he) ListO.nil (Slot.nil _ _) ((Hp.nil hB []).ext e)
theorem rDec2_ok (hb:RdB b) (hr:rdO hB q (b.length*1) (u8s b)) (hcap:b.length<=c) (hi:BmsV hB qi imp) (hil:imp.length<=1000000000000)
  (hk:∀ er t new ex RN qn cn RE qe ce h',OutD b imp er t new ex->ListO RN qn cn new->Slot T_bool 1 RE qe ex.length ce (bls ex)->Hp hB [] h' (RN++RE)->K (.tuple #[.agg #[.int .i64 t, .slice qn new.length cn, .slice qe ex.length ce], .int .i64 er]) h') :
  CP F_burinref13_Decode #[.slice q b.length c, .slice qi imp.length ci] hB K Kp :=
 rDec13_ok hb hr hcap hi hil (fun t new ex RN qn cn RE qe ce h' hd hM hL hs H=>hk 0 t new ex RN qn cn RE qe ce h' (.inl ⟨t,hd,rfl,rfl,hM⟩) hL hs H)
  fun er h' hd e=>hk er 0 [] [] [] none 0 [] none 0 h' (.inr ⟨hd,rfl,rfl,rfl⟩) ListO.nil (Slot.nil _ _) ((Hp.nil hB []).ext e)
end
end Go.Bm
namespace Go.Den.YtfaclehehhgpcaaGreat
open Go Go.Den
def burinlaw13_DictReads (C:CallP) (a0:Option Addr) (a0n:Nat) (a0c:Nat) (h:Heap) (K:VK) (Kp:PK):Prop :=
∃ J_1:Nat->List Value->Heap->Prop,(∃ n_3,J_1 n_3 [.int .i64 0] h)/\∀ (n_3:Nat) (h_4:Heap) (u_5:Nat->Value) (x_6:Int),J_1 n_3 [.int .i64 x_6] h_4->(
bcase (decide (x_6<(a0n:Int))) (
bcase (decide (x_6<(6:Int))) (
needs (0<=x_6/\x_6<(a0n:Int)) <|
ptr a0 fun a_7 =>
ldS h_4 ((a_7.add (x_6.toNat*2)).add 1) fun x_8 x_8n x_8c =>
C F_burinlaw13_light #[.slice x_8 x_8n x_8c] h_4 (fun v_9 h_10 =>
∃ (r_11:Bool),v_9 = .bool r_11/\(
bcase (!r_11) (
bindI (IntKind.i64.wrap (x_6+(1:Int))) fun z_12 =>
∃ m_2,m_2<n_3/\J_1 m_2 [.int .i64 z_12] h_10) <|
needs (0<=x_6/\x_6<(a0n:Int)) <|
ptr a0 fun a_13 =>
ldS h_10 ((a_13.add (x_6.toNat*2)).add 0) fun x_14 x_14n x_14c =>
C F_burinlaw13_small #[.slice x_14 x_14n x_14c] h_10 (fun v_15 h_16 =>
∃ (r_17:Bool),v_15 = .bool r_17/\(
bcase (!r_17) (
bindI (IntKind.i64.wrap (x_6+(1:Int))) fun z_18 =>
∃ m_2,m_2<n_3/\J_1 m_2 [.int .i64 z_18] h_16) <|
needs (0<=x_6/\x_6<(a0n:Int)) <|
ptr a0 fun a_19 =>
ldS h_16 ((a_19.add (x_6.toNat*2)).add 0) fun x_20 x_20n x_20c =>
C F_burinkit_Lend #[.slice x_20 x_20n x_20c] h_16 (fun v_21 h_22 =>
∃ (r_23:Option Addr) (r_23n:Nat) (r_23c:Nat),v_21 = .slice r_23 r_23n r_23c/\(
needs (0<=x_6/\x_6<(a0n:Int)) <|
ptr a0 fun a_24 =>
ldS h_22 ((a_24.add (x_6.toNat*2)).add 1) fun x_25 x_25n x_25c =>
C F_dict_Decode #[.slice r_23 r_23n r_23c, .slice x_25 x_25n x_25c] h_22 (fun v_26 h_27 =>
∃ (r_28:Int) (r_29:Option Addr) (r_29n:Nat) (r_29c:Nat) (r_30:Option Addr) (r_30n:Nat) (r_30c:Nat),∃ (r_31:Int),v_26 = .tuple #[.agg #[.int .i64 r_28, .slice r_29 r_29n r_29c, .slice r_30 r_30n r_30c], .int .i64 r_31]/\(
newC h_27 [.int .i64 0, .slice none 0 0, .slice none 0 0] T_api_Dict fun r_32 h_33 =>
stV h_33 ((⟨r_32,0,none⟩:Addr).add 0) (.int .i64 r_28) fun h_34 =>
stV h_34 ((⟨r_32,0,none⟩:Addr).add 1) (.slice r_29 r_29n r_29c) fun h_35 =>
stV h_35 ((⟨r_32,0,none⟩:Addr).add 2) (.slice r_30 r_30n r_30c) fun h_36 =>
needs (0<=x_6/\x_6<(a0n:Int)) <|
ptr a0 fun a_37 =>
needs (0<=x_6/\x_6<(a0n:Int)) <|
ptr a0 fun a_38 =>
ldS h_36 ((a_37.add (x_6.toNat*2)).add 0) fun x_39 x_39n x_39c =>
ldS h_36 ((a_38.add (x_6.toNat*2)).add 1) fun x_40 x_40n x_40c =>
(
C F_burinref13_Decode #[.slice x_39 x_39n x_39c, .slice x_40 x_40n x_40c] h_36 (fun v_41 h_42 =>
∃ (r_43:Int) (r_44:Option Addr) (r_44n:Nat) (r_44c:Nat) (r_45:Option Addr) (r_45n:Nat) (r_45c:Nat),∃ (r_46:Int),v_41 = .tuple #[.agg #[.int .i64 r_43, .slice r_44 r_44n r_44c, .slice r_45 r_45n r_45c], .int .i64 r_46]/\(
hext h_36 h_42/\(
newC h_42 [.int .i64 0, .slice none 0 0, .slice none 0 0] T_api_Dict fun r_47 h_48 =>
stV h_48 ((⟨r_47,0,none⟩:Addr).add 0) (.int .i64 r_43) fun h_49 =>
stV h_49 ((⟨r_47,0,none⟩:Addr).add 1) (.slice r_44 r_44n r_44c) fun h_50 =>
stV h_50 ((⟨r_47,0,none⟩:Addr).add 2) (.slice r_45 r_45n r_45c) fun h_51 =>
needs (0<=x_6/\x_6<(a0n:Int)) <|
ptr a0 fun a_52 =>
ldS h_51 ((a_52.add (x_6.toNat*2)).add 0) fun x_53 x_53n x_53c =>
C F_burinkit_Back #[.slice r_23 r_23n r_23c, .slice x_53 x_53n x_53c] h_51 (fun v_54 h_55 =>
∃ (r_56:Bool),v_54 = .bool r_56/\(
bcase (!r_56) (
K (.bool false) h_55) <|
bcase (r_31 != r_46) (
K (.bool false) h_55) <|
ldI h_55 ((⟨r_32,0,none⟩:Addr).add 0) .i64 fun x_57 =>
ldS h_55 ((⟨r_32,0,none⟩:Addr).add 1) fun x_58 x_58n x_58c =>
ldS h_55 ((⟨r_32,0,none⟩:Addr).add 2) fun x_59 x_59n x_59c =>
ldI h_55 ((⟨r_47,0,none⟩:Addr).add 0) .i64 fun x_60 =>
ldS h_55 ((⟨r_47,0,none⟩:Addr).add 1) fun x_61 x_61n x_61c =>
ldS h_55 ((⟨r_47,0,none⟩:Addr).add 2) fun x_62 x_62n x_62c =>
C F_burinref0_EqDict #[.agg #[.int .i64 x_57, .slice x_58 x_58n x_58c, .slice x_59 x_59n x_59c], .agg #[.int .i64 x_60, .slice x_61 x_61n x_61c, .slice x_62 x_62n x_62c]] h_55 (fun v_63 h_64 =>
∃ (r_65:Bool),v_63 = .bool r_65/\(
bcase (!r_65) (
K (.bool false) h_64) <|
ldS h_64 ((⟨r_32,0,none⟩:Addr).add 1) fun x_66 x_66n x_66c =>
C F_burinkit_OverBitmaps #[.slice x_66 x_66n x_66c] h_64 (fun v_67 h_68 =>
∃ (r_69:Bool),v_67 = .bool r_69/\(
bcase (!r_69) (
K (.bool false) h_68) <|
bindI (IntKind.i64.wrap (x_6+(1:Int))) fun z_70 =>
∃ m_2,m_2<n_3/\J_1 m_2 [.int .i64 z_70] h_68)) (Kp))) (Kp))) (Kp)))) (Kp))/\(
newC h_36 [.int .i64 0, .slice none 0 0, .slice none 0 0] T_api_Dict fun r_71 h_72 =>
C F_burinref13_Decode #[.slice x_39 x_39n x_39c, .slice x_40 x_40n x_40c] h_72 (fun v_73 h_74 =>
∃ (r_75:Int) (r_76:Option Addr) (r_76n:Nat) (r_76c:Nat) (r_77:Option Addr) (r_77n:Nat) (r_77c:Nat),∃ (r_78:Int),v_73 = .tuple #[.agg #[.int .i64 r_75, .slice r_76 r_76n r_76c, .slice r_77 r_77n r_77c], .int .i64 r_78]/\(
hext h_72 h_74/\(
stV h_74 ((⟨r_71,0,none⟩:Addr).add 0) (.int .i64 r_75) fun h_79 =>
stV h_79 ((⟨r_71,0,none⟩:Addr).add 1) (.slice r_76 r_76n r_76c) fun h_80 =>
stV h_80 ((⟨r_71,0,none⟩:Addr).add 2) (.slice r_77 r_77n r_77c) fun h_81 =>
needs (0<=x_6/\x_6<(a0n:Int)) <|
ptr a0 fun a_82 =>
ldS h_81 ((a_82.add (x_6.toNat*2)).add 0) fun x_83 x_83n x_83c =>
C F_burinkit_Back #[.slice r_23 r_23n r_23c, .slice x_83 x_83n x_83c] h_81 (fun v_84 h_85 =>
∃ (r_86:Bool),v_84 = .bool r_86/\(
bcase (!r_86) (
K (.bool false) h_85) <|
bcase (r_31 != r_78) (
K (.bool false) h_85) <|
ldI h_85 ((⟨r_32,0,none⟩:Addr).add 0) .i64 fun x_87 =>
ldS h_85 ((⟨r_32,0,none⟩:Addr).add 1) fun x_88 x_88n x_88c =>
ldS h_85 ((⟨r_32,0,none⟩:Addr).add 2) fun x_89 x_89n x_89c =>
ldI h_85 ((⟨r_71,0,none⟩:Addr).add 0) .i64 fun x_90 =>
ldS h_85 ((⟨r_71,0,none⟩:Addr).add 1) fun x_91 x_91n x_91c =>
ldS h_85 ((⟨r_71,0,none⟩:Addr).add 2) fun x_92 x_92n x_92c =>
C F_burinref0_EqDict #[.agg #[.int .i64 x_87, .slice x_88 x_88n x_88c, .slice x_89 x_89n x_89c], .agg #[.int .i64 x_90, .slice x_91 x_91n x_91c, .slice x_92 x_92n x_92c]] h_85 (fun v_93 h_94 =>
∃ (r_95:Bool),v_93 = .bool r_95/\(
bcase (!r_95) (
K (.bool false) h_94) <|
ldS h_94 ((⟨r_32,0,none⟩:Addr).add 1) fun x_96 x_96n x_96c =>
C F_burinkit_OverBitmaps #[.slice x_96 x_96n x_96c] h_94 (fun v_97 h_98 =>
∃ (r_99:Bool),v_97 = .bool r_99/\(
bcase (!r_99) (
K (.bool false) h_98) <|
bindI (IntKind.i64.wrap (x_6+(1:Int))) fun z_100 =>
∃ m_2,m_2<n_3/\J_1 m_2 [.int .i64 z_100] h_98)) (Kp))) (Kp))) (Kp)))) (Kp)))) (Kp))) (Kp))) (Kp))) (Kp)) <|
C F_burinlaw13_wakes #[] h_4 (fun v_101 h_102 =>
∃ (r_103:Bool),v_101 = .bool r_103/\(
K (.bool r_103) h_102)) (Kp)) <|
C F_burinlaw13_wakes #[] h_4 (fun v_104 h_105 =>
∃ (r_106:Bool),v_104 = .bool r_106/\(
K (.bool r_106) h_105)) (Kp))
end Go.Den.YtfaclehehhgpcaaGreat
namespace Go.Den.YtfaclehehhgpcaaGreat
open Go Go.Den
theorem call_burinlaw13_DictReads {a0:Option Addr} {a0n:Nat} {a0c:Nat} {h:Heap} {K:VK} {Kp:PK} (H:burinlaw13_DictReads (CallsHP Go.Proofs.Tryz.prog) a0 a0n a0c h K Kp):CallsHP Go.Proofs.Tryz.prog F_burinlaw13_DictReads #[.slice a0 a0n a0c] h K Kp :=
 callsHP_ofE (Hints.mk (fun i=>bif Nat.beq i 7 then some ([15], .take 0 <| .take 1 <| .take 2 <| .take 3 <| .take 5 <| .take 6 <| .take 7 <| .take 8 <| .take 4 <| .take 9 <| .alt 10 (.take 11 <| .take 12 <| .take 13 <| .go 14 <| .bar 15 [] <| .take 16 <| .done) <| .go 14 <| .go 10 <| .take 11 <| .take 12 <| .take 13 <| .bar 15 [] <| .take 16 <| .done) else (none)) (fun i=>bif Nat.beq i 2 then some ([(3, .int .i64)],1237940039285380274899124220) else (none)) (fun i=>none) []) (by kernel_rfl) Go.Proofs.Tryz.func7 (by kernel_rfl) (fun C=>burinlaw13_DictReads C a0 a0n a0c h K Kp) (fun C=>by kernel_rfl) H
end Go.Den.YtfaclehehhgpcaaGreat
namespace Go.Bm
open Go Go.Den Go.Den.YtfaclehehhgpcaaGreat
open Go.Ar (u8s u8s_length)
set_option maxHeartbeats 4000000 in
theorem dReads_law {hB:Heap} {sq:Option Addr} {slen scap:Nat} (hv:ReadsD hB sq slen) {K:VK} {Kp:PK} (hk:∀ h',hext hB h'->K (.bool true) h') :
  CP F_burinlaw13_DictReads #[.slice sq slen scap] hB K Kp:=by
 refine call_burinlaw13_DictReads ?_
 unfold burinlaw13_DictReads
 refine ⟨fun n vs h'=>∃ i:Nat,i+n=6/\vs=[.int .i64 (i:Int)]/\Hp hB [] h' [],⟨6,0,rfl,rfl,Hp.nil hB []⟩,?_⟩
 rintro n h u xx ⟨i,hin,hxx,H⟩
 injection hxx with hxx
 injection hxx with _ hxx
 subst hxx
 refine bcase_dec (fun h3=>?_) fun h3=>wakes13_ok fun h' e=>⟨_,rfl,hk _ (H.hext.trans e)⟩
 refine bcase_dec (fun h4=>?_) fun h4=>wakes13_ok fun h' e=>⟨_,rfl,hk _ (H.hext.trans e)⟩
 have h3:i<slen:=by omega
 have h4:i<6:=by omega
 obtain ⟨a,f,imp,hsq,ha⟩:=hv i h3
 subst hsq
 obtain ⟨q0,c0,k0,hr0,hcap0⟩:=ha.c0
 obtain ⟨q3,c3,k3,v3⟩:=ha.c1
 have hl0:=ha.l0
 have fr:∀ {h:Heap} {L:List Ent} {c:Addr} {v:Value},Hp hB [] h L->hcell hB c=some v->hcell h c=some v:=fun H hc=>H.fr.cell (by simp) hc
 have next:∀ h' L,Hp hB [] h' L->∃ m,m<n/\∃ i':Nat,i'+m=6/\[Value.int .i64 ((i+1:Nat):Int)]=[.int .i64 (i':Int)]/\Hp hB [] h' []:=fun h' L H=>⟨n-1,by omega,i+1,by omega,rfl,H.take 0⟩
 have hnd:0<=(i:Int)/\(i:Int)<(slen:Int):=by omega
 refine needs_of hnd (ptr_of (a:=a) ?_)
 rw [Int.toNat_natCast]
 refine ldS_of (fr H k3) ?_
 refine light13_ok (v3.ext H.hext) ha.l1 fun bb h1 hbb e1=>?_
 have H:=H.ext e1
 refine ⟨_,rfl,?_⟩
 refine bcase_not (fun h5=>?_) fun h5=>?_
 ·refine bindI_of (((i+1:Nat):Int)) (by exact i64_at _ _ (by omega) (by omega) (by omega)) ?_
  exact next _ _ H
 obtain ⟨m1,m2⟩:=hbb h5
 refine needs_of hnd (ptr_of (a:=a) ?_)
 refine ldS_of (fr H k0) ?_
 refine small_ok (H.rdO hr0) fun rs _=>?_
 refine ⟨_,rfl,?_⟩
 refine bcase_not (fun h5=>?_) fun h5=>?_
 ·refine bindI_of (((i+1:Nat):Int)) (by exact i64_at _ _ (by omega) (by omega) (by omega)) ?_
  exact next _ _ H
 have hb:RdB f:=⟨ha.b8,by omega⟩
 refine needs_of hnd (ptr_of (a:=a) ?_)
 refine ldS_of (fr H k0) ?_
 refine Go.Ar.lend_ok (H.rdO hr0) ha.l0 fun o rest c h' hc H'=>?_
 replace H:=H.join H' rfl
 clear H'
 have hcl:=hc
 rw [List.length_append,u8s_length] at hcl
 have H:Hp hB [] h' [⟨o,true,T_uint8,u8s f++(u8s (List.replicate 7 165)++rest)⟩]:=H
 refine ⟨_,_,_,rfl,?_⟩
 refine needs_of hnd (ptr_of (a:=a) ?_)
 refine ldS_of (fr H k3) ?_
 refine dDec2_ok hb (Go.Ar.row_rdO H 0 rfl) (by omega) (v3.ext H.hext) (by omega) fun er t new ex RN qn cn RE qe ce h' hO _ hL hs H'=>?_
 have RDw:(RN++RE).all Ent.w=true:=by rw [List.all_append,hL.w,hs.w]; rfl
 replace H:=H.join H' RDw
 clear H'
 obtain ⟨l1,l2,l3⟩:=hO.len
 refine ⟨_,_,_,_,_,_,_,_,rfl,?_⟩
 refine newC_hp H fun r32 h H=>?_
 have H:=H.rot
 refine stA H 0 rfl rfl rfl fun h H=>?_
 refine stA H 0 rfl rfl rfl fun h H=>?_
 refine stA H 0 rfl rfl rfl fun h H=>?_
 obtain ⟨A,hA⟩:∃ A:List Value->List Ent,A=fun cs=>[⟨r32,true,T_api_Dict,[.int .i64 t, .slice qn new.length cn, .slice qe ex.length ce]⟩,⟨o,true,T_uint8,cs⟩]:=⟨_,rfl⟩
 have H:Hp hB [] h (A (u8s f++(u8s (List.replicate 7 165)++rest))++(RN++RE)):=by rw [hA]; exact H
 refine needs_of hnd (ptr_of (a:=a) (needs_of hnd (ptr_of (a:=a) ?_)))
 refine ldS_of (fr H k0) (ldS_of (fr H k3) ?_)
 have fin:∀ {h:Heap} {r47:Nat} {R2N R2E:List Ent} {q2n q2e:Option Addr} {c2n c2e:Nat},ListO R2N q2n c2n new->Slot T_bool 1 R2E q2e ex.length c2e (bls ex) ->
   Hp hB [] h ([⟨r47,true,T_api_Dict,[.int .i64 0, .slice none 0 0, .slice none 0 0]⟩]++(A (u8s f++(u8s (List.replicate 7 165)++rest))++(RN++RE)++(R2N++R2E))) ->
   stV h ((⟨r47,0,none⟩:Addr).add 0) (.int .i64 t) fun h_49 =>
   stV h_49 ((⟨r47,0,none⟩:Addr).add 1) (.slice q2n new.length c2n) fun h_50 =>
   stV h_50 ((⟨r47,0,none⟩:Addr).add 2) (.slice q2e ex.length c2e) fun h_51 =>
   needs (0<=(i:Int)/\(i:Int)<(slen:Int)) <|
   ptr (some a) fun a_52 =>
   ldS h_51 ((a_52.add (i*2)).add 0) fun x_53 x_53n x_53c =>
   CP F_burinkit_Back #[.slice (at0 o) f.length c, .slice x_53 x_53n x_53c] h_51 (fun v_54 h_55 =>
   ∃ (r_56:Bool),v_54 = .bool r_56/\(
   bcase (!r_56) (
   K (.bool false) h_55) <|
   bcase (er != er) (
   K (.bool false) h_55) <|
   ldI h_55 ((⟨r32,0,none⟩:Addr).add 0) .i64 fun x_57 =>
   ldS h_55 ((⟨r32,0,none⟩:Addr).add 1) fun x_58 x_58n x_58c =>
   ldS h_55 ((⟨r32,0,none⟩:Addr).add 2) fun x_59 x_59n x_59c =>
   ldI h_55 ((⟨r47,0,none⟩:Addr).add 0) .i64 fun x_60 =>
   ldS h_55 ((⟨r47,0,none⟩:Addr).add 1) fun x_61 x_61n x_61c =>
   ldS h_55 ((⟨r47,0,none⟩:Addr).add 2) fun x_62 x_62n x_62c =>
   CP F_burinref0_EqDict #[.agg #[.int .i64 x_57, .slice x_58 x_58n x_58c, .slice x_59 x_59n x_59c], .agg #[.int .i64 x_60, .slice x_61 x_61n x_61c, .slice x_62 x_62n x_62c]] h_55 (fun v_63 h_64 =>
   ∃ (r_65:Bool),v_63 = .bool r_65/\(
   bcase (!r_65) (
   K (.bool false) h_64) <|
   ldS h_64 ((⟨r32,0,none⟩:Addr).add 1) fun x_66 x_66n x_66c =>
   CP F_burinkit_OverBitmaps #[.slice x_66 x_66n x_66c] h_64 (fun v_67 h_68 =>
   ∃ (r_69:Bool),v_67 = .bool r_69/\(
   bcase (!r_69) (
   K (.bool false) h_68) <|
   bindI (IntKind.i64.wrap ((i:Int)+(1:Int))) fun z_70 =>
   ∃ m_2,m_2<n/\∃ i':Nat,i'+m_2=6/\[Value.int .i64 z_70]=[.int .i64 (i':Int)]/\Hp hB [] h_68 [])) (Kp))) (Kp))) (Kp):=fun {h r47 R2N R2E q2n q2e c2n c2e} hL2 hs2 H=>by
  refine stA H 0 rfl rfl rfl fun h H=>?_
  refine stA H 0 rfl rfl rfl fun h H=>?_
  refine stA H 0 rfl rfl rfl fun h H=>?_
  refine needs_of hnd (ptr_of (a:=a) ?_)
  refine ldS_of (fr H k0) ?_
  rw [hA] at H
  have H:Hp hB [] h ([⟨r47,true,T_api_Dict,[.int .i64 t, .slice q2n new.length c2n, .slice q2e ex.length c2e]⟩,⟨r32,true,T_api_Dict,[.int .i64 t, .slice qn new.length cn, .slice qe ex.length ce]⟩,⟨o,true,T_uint8,u8s f++(u8s (List.replicate 7 165)++rest)⟩]++(RN++RE)++(R2N++R2E)):=H
  refine Go.Ar.back_ok (H.give [2] (by decide) rfl) (H.rdO hr0) ha.l0 hc fun cs1 h' H'=>?_
  have H:=H.put [2] (by decide) rfl rfl H' rfl rfl
  clear H'
  refine ⟨_,rfl,?_⟩
  refine bcase_not (fun hh=>by cases hh) fun _=>?_
  refine bcase_ne (fun hh=>absurd rfl hh) fun _=>?_
  have H:Hp hB [] h' ([⟨r47,true,T_api_Dict,[.int .i64 t, .slice q2n new.length c2n, .slice q2e ex.length c2e]⟩,⟨r32,true,T_api_Dict,[.int .i64 t, .slice qn new.length cn, .slice qe ex.length ce]⟩,⟨o,true,T_uint8,cs1⟩]++(RN++RE)++(R2N++R2E)):=H
  refine ldI_of (hpA H 1 rfl rfl) (ldS_of (hpA H 1 rfl rfl) (ldS_of (hpA H 1 rfl rfl) (ldI_of (hpA H 0 rfl rfl) (ldS_of (hpA H 0 rfl rfl) (ldS_of (hpA H 0 rfl rfl) ?_)))))
  refine eqDict_ok (hL.view H fun e he=>by simp [he]) (hL2.view H fun e he=>by simp [he]) (Slot.rdO' hs H fun e he=>by simp [he]) (Slot.rdO' hs2 H fun e he=>by simp [he]) (by omega) (by omega) fun h2 e=>?_
  have H:=H.ext e
  clear e
  refine ⟨_,rfl,?_⟩
  refine bcase_not (fun hh=>by cases hh) fun _=>?_
  refine ldS_of (hpA H 1 rfl rfl) ?_
  have H:Hp hB [] h2 (([⟨r47,true,T_api_Dict,[.int .i64 t, .slice q2n new.length c2n, .slice q2e ex.length c2e]⟩,⟨r32,true,T_api_Dict,[.int .i64 t, .slice qn new.length cn, .slice qe ex.length ce]⟩,⟨o,true,T_uint8,cs1⟩]++RN)++(RE++(R2N++R2E))):=H.as (by simp only [List.append_assoc])
  have H:=Hp.pre H
  refine ovBs_ok hL H (by omega) (fun b hb=>Nat.le_trans (l3 b hb) (by decide)) fun J h' H=>?_
  refine ⟨_,rfl,?_⟩
  refine bcase_not (fun hh=>by cases hh) fun _=>?_
  refine bindI_of (((i+1:Nat):Int)) (by exact i64_at _ _ (by omega) (by omega) (by omega)) ?_
  exact next _ _ H
 refine ⟨?_,?_⟩
 ·refine rDec2_ok hb (H.rdO hr0) hcap0 (v3.ext H.hext) (by omega) fun er2 t2 new2 ex2 R2N q2n c2n R2E q2e c2e h' hO2 hL2 hs2 H'=>?_
  obtain ⟨rfl,rfl,rfl,rfl⟩:=hO.det hO2
  have e9:=H'.hext
  have H:=H.join H' (by rw [List.all_append,hL2.w,hs2.w]; rfl)
  clear H'
  refine ⟨_,_,_,_,_,_,_,_,rfl,e9,?_⟩
  refine newC_hp H fun r47 h H=>?_
  exact fin hL2 hs2 H.rot
 ·refine newC_hp H fun r71 h H=>?_
  refine rDec2_ok hb (H.rdO hr0) hcap0 (v3.ext H.hext) (by omega) fun er2 t2 new2 ex2 R2N q2n c2n R2E q2e c2e h' hO2 hL2 hs2 H'=>?_
  obtain ⟨rfl,rfl,rfl,rfl⟩:=hO.det hO2
  have e9:=H'.hext
  have H:=H.join H' (by rw [List.all_append,hL2.w,hs2.w]; rfl)
  clear H'
  refine ⟨_,_,_,_,_,_,_,_,rfl,e9,?_⟩
  exact fin hL2 hs2 (Hp.swap H).rot
end Go.Bm
namespace Go.Proofs.YtfaclehehhgpcaaGreat
open Go.ChangeShapes Go.WideShapes Go.ChangeAt Go.RowKit
theorem own:ownKnob Tryz.prog.godebug=none:=by kernel_rfl
theorem laidOut:laidOutB Tryz.prog=true:=by kernel_rfl
theorem below_of {W W':World} (hk:Go.Den.keeps W W') (h:Go.Den.hext W.heap W'.heap):Below W.heap.size W W' :=
 ⟨hk.1,hk.2.1,hk.2.2,h.1,fun k hlt=>h.2 k hlt⟩
theorem walk_of {f:FuncId} {args:Array Value} {W:World}
  (h:Calls Tryz.prog f args W fun e w'=>Go.Den.keeps W w'/\match e with
   | .returned v=>v = .bool true/\Go.Den.hext W.heap w'.heap
   | .panicked c=>False
   | .outgrown=>False):Calls Tryz.prog f args W fun e W'=>e = .returned (.bool true)/\Below W.heap.size W W':=by
 refine h.mono fun e W' he=>?_
 obtain ⟨hk,he⟩:=he
 cases e with
 | returned v=>exact ⟨by rw [he.1],below_of hk he.2⟩
 | panicked c=>exact he.elim
 | outgrown=>exact he.elim
end Go.Proofs.YtfaclehehhgpcaaGreat
namespace Go.Proofs.YtfaclehehhgpcaaGreat
open Go.ChangeShapes Go.WideShapes Go.ChangeAt Go.RowKit
theorem dictReads_walk (W:World) {v:Value} (hw:Go.Den.WDx Tryz.prog W.heap 68 [v]):Calls Tryz.prog 7 #[v] W fun e W'=>e = .returned (.bool true)/\Below W.heap.size W W':=by
 obtain ⟨q,len,cap,e,ha⟩:=Go.Bm.reads13_of hw
 obtain rfl:v = .slice q len cap:=by simpa using e
 exact walk_of ((Go.Bm.dReads_law (hB:=W.heap) (K:=fun v h'=>v = .bool true/\Go.Den.hext W.heap h') (Kp:=fun _ _=>False) ha fun h' e=>⟨rfl,e⟩).2 W rfl)
theorem dictReads_lifted (os:Os) (started:os.Started) (H:Type) (enc:TypeId × Value->H) :
  ReturnsInHanded {} Tryz.checked os 7 .any (Rows.dictReadsSpec.pre6 enc Tryz.prog Tryz.f7 Rows.dictReadsRow.domain false) (Rows.dictReadsSpec.post enc Tryz.prog Tryz.f7 false true false false):=by
 refine returnsInHanded_of_change_sized (C:=Tryz.checked) own started (by kernel_rfl) Tryz.func7
  (ChangeSpec.witness6 (enc:=enc) (C:=Tryz.checked) false ⟨#[],#[.slice none 0 0],[]⟩ 8 (by kernel_rfl) (by kernel_rfl) (by kernel_rfl) (by kernel_rfl)) ?_
 intro W base args ds gs before hval0 hW hcnd hz _
 have hval:∀ (j:Nat) t v,Tryz.f7.params[j]? = some t->args[j]? = some v->Value.okWide Tryz.prog W .any base t v:=hval0
 have hz:∀ n∈DataW.weightsEach Tryz.prog (Tryz.f7.params.toList++Rows.dictReadsSpec.plain.varTypes Tryz.prog) (ds++gs),n<=reachBytes:=fun n hn=>by simpa using List.all_eq_true.1 hz n hn
 have hW':=hW
 obtain ⟨p,q,hA0,hV,rfl,hfz,hnd⟩:=hW
 have hA:DataW.TrodAll enc Tryz.prog W 0 (fun _=>true) true Tryz.f7.params.toList args.toList ds p:=hA0
 rw [Tryz.params7] at hA hval hz
 obtain ⟨v0,vs0,d0,ds0,p0,q0,hargs,rfl,rfl,h0,r0⟩:=trodAll_cons hA
 obtain ⟨rfl,rfl,rfl⟩:=trodAll_nil r0
 obtain rfl:args=#[v0]:=by cases args; simp_all
 obtain ⟨rfl,rfl⟩:=trodVars_none hV
 obtain ⟨q,len,cap,rfl,_⟩:=okWide_slice Tryz.underlying68 (hval 0 68 v0 rfl rfl)
 have hwd:Go.Den.WDx Tryz.prog W.heap 68 [.slice q len cap]:=by
  obtain ⟨f,hf⟩:=h0
  exact ⟨f,Go.Den.wd_of hf fun n hn=>hz n (DataW.weights_mem_each (j:=0) rfl rfl n hn)⟩
 clear hA0 hval0
 simp only [List.append_nil] at hW'
 refine (dictReads_walk W hwd).mono fun e W' ⟨he,hb⟩=>?_
 subst he
 refine ⟨_,rfl,[d0],[],_,[],p0,[],hW',?_,?_,?_,hb.frame _,fun h=>Bool.noConfusion h⟩
 ·exact trodAll_cons_mk (shut_bool Go.Proofs.Tryz.underlying4 _) trodAll_mk0
 ·exact ⟨p0,[],Below.trod laidOut (by kernel_rfl) (of_decide_eq_true (by kernel_rfl)) h0 hb (fun x hx=>by simpa using hW'.lt x hx),rfl,(List.append_nil p0).symm⟩
 ·rfl
theorem dictReads_over:Rows.dictReadsRow.holds Tryz.pinned (OpenSpec.ofChange Rows.dictReadsSpec) :=
 OpenClaim.holds_of_wide 7 Tryz.f7 rfl rfl rfl rfl rfl rfl rfl ⟨rfl,rfl,rfl,rfl,rfl⟩ rfl rfl rfl rfl rfl (by kernel_rfl) Tryz.func7 (by kernel_rfl)
  (of_decide_eq_true (by kernel_rfl)) (by unfold Func.isWrapper; first | (rw [if_pos (by decide +kernel)]; kernel_rfl) | (rw [if_neg (by decide +kernel)]; exact ⟨rfl,rfl⟩))
  (fun os started H enc _=>dictReads_lifted os started H enc)
theorem dictReads_proved:Rows.DictReadsSaid:=dictReads_over
#print axioms dictReads_proved
end Go.Proofs.YtfaclehehhgpcaaGreat
