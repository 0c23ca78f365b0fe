/- The given statement TextMovedSaid is proved of the given program; there are no further conditions. W10: put together by wip/tools/bundle.py: TyK ArLink2 TyMoved. -/
import Derived.Test.YtbknfejmdekhpaaGreatW1
import Derived.Test.YtbknfejmdekhpaaGreatW2
import Derived.Test.YtbknfejmdekhpaaGreatW3
import Derived.Test.YtbknfejmdekhpaaGreatW4
import Derived.Test.YtbknfejmdekhpaaGreatW5
import Derived.Test.YtbknfejmdekhpaaGreatW6
import Derived.Test.YtbknfejmdekhpaaGreatW7
import Derived.Test.YtbknfejmdekhpaaGreatW8
import Derived.Test.YtbknfejmdekhpaaGreatW9
import Derived.Test.YtbknfejmdekhpaaGreatProg
import Derived.WalkKit
import Derived.ProofKit
import Derived.OpenShut
import Derived.Carry
import Derived.Deep.SlicePairs
import Derived.Lib.SmallJoins
import Derived.Test.YtbknfejmdekhpaaGreatRows
set_option linter.unusedVariables false
set_option linter.unusedSimpArgs false
set_option maxRecDepth 100000
namespace Go.Bm
open Go Go.Den Go.Den.YtbknfejmdekhpaaGreat
section
variable {hB:Heap} {K:VK} {Kp:PK}
theorem rdO_nil (h:Heap) (q:Option Addr):rdO h q (0*7) []:=by
 cases q with
 | none=>exact rfl
 | some a=>exact ⟨rfl,fun j v hj=>by cases hj⟩
set_option maxHeartbeats 8000000 in
theorem tMoved_law {t:Reg14} {q q2:Option Addr} {c c2:Nat} {l:List Ins} {sy:List Bmp} (hv:InsV hB q l) (hl:l.length<=4000000000000) (hs:BmsV hB q2 sy) (hsl:sy.length<=4000000000000) (hk:∀ h',hext hB h'->K (.bool true) h') :
  CP F_burinlaw14_TextMoved #[.agg #[.int .i64 t.x, .int .i64 t.y, .int .i64 t.w, .int .i64 t.h, .int .i64 t.op, .bool t.rf, .int .i64 t.df, .int .i64 t.st, .slice q l.length c, .slice q2 sy.length c2]] hB K Kp:=by
 refine call_burinlaw14_TextMoved ?_
 unfold burinlaw14_TextMoved
 have H:=Hp.nil hB []
 refine newC_hp H fun r11 h H=>?_
 have H:Hp hB [] h [⟨r11,true,T_burinlaw14_Ask,t.cs q l.length c++[Value.slice q2 sy.length c2]⟩]:=H
 have wk:∀ {h},hext hB h->CP F_burinlaw14_wakes #[] h (fun v_26 h_27=>∃ (r_28:Bool),v_26 = .bool r_28/\(K (.bool r_28) h_27)) (Kp):=fun e=>wakes14_ok fun h' e'=>⟨_,rfl,hk _ (e.trans e')⟩
 repeat first | with_reducible refine ldI_of (by with_unfolding_all first | exact hpA H 0 rfl rfl | exact Hp.cell H 0 rfl rfl | exact hpB H 0 rfl rfl | exact hpC H 0 rfl rfl) ?_ | with_reducible refine ldS_of (by with_unfolding_all first | exact hpA H 0 rfl rfl | exact Hp.cell H 0 rfl rfl | exact hpB H 0 rfl rfl | exact hpC H 0 rfl rfl) ?_ | with_reducible refine ldP_of (by with_unfolding_all first | exact hpA H 0 rfl rfl | exact Hp.cell H 0 rfl rfl | exact hpB H 0 rfl rfl | exact hpC H 0 rfl rfl) ?_ | with_reducible refine ldB_of (by with_unfolding_all first | exact hpA H 0 rfl rfl | exact Hp.cell H 0 rfl rfl | exact hpB H 0 rfl rfl | exact hpC H 0 rfl rfl) ?_ | with_reducible refine ldT_of (by with_unfolding_all first | exact hpA H 0 rfl rfl | exact Hp.cell H 0 rfl rfl | exact hpB H 0 rfl rfl | exact hpC H 0 rfl rfl) ?_
 refine light14_ok (t:=t) (hv.ext H.hext) (hs.ext H.hext) hl hsl fun r h' hr e=>⟨_,rfl,?_⟩
 have H:=H.ext e
 clear e
 refine bcase_not (fun _=>wk H.hext) fun h1=>?_
 have hlt:=hr h1
 clear h1 hr
 have hn1:=hlt.n1
 have hn2:=hlt.n2
 have hws:∀ i∈l,i.b.ws.length<=1000000000000:=fun i hi=>Nat.le_trans (hlt.w1 i hi) (by decide)
 repeat first | with_reducible refine ldI_of (by with_unfolding_all first | exact hpA H 0 rfl rfl | exact Hp.cell H 0 rfl rfl | exact hpB H 0 rfl rfl | exact hpC H 0 rfl rfl) ?_ | with_reducible refine ldS_of (by with_unfolding_all first | exact hpA H 0 rfl rfl | exact Hp.cell H 0 rfl rfl | exact hpB H 0 rfl rfl | exact hpC H 0 rfl rfl) ?_ | with_reducible refine ldP_of (by with_unfolding_all first | exact hpA H 0 rfl rfl | exact Hp.cell H 0 rfl rfl | exact hpB H 0 rfl rfl | exact hpC H 0 rfl rfl) ?_ | with_reducible refine ldB_of (by with_unfolding_all first | exact hpA H 0 rfl rfl | exact Hp.cell H 0 rfl rfl | exact hpB H 0 rfl rfl | exact hpC H 0 rfl rfl) ?_ | with_reducible refine ldT_of (by with_unfolding_all first | exact hpA H 0 rfl rfl | exact Hp.cell H 0 rfl rfl | exact hpB H 0 rfl rfl | exact hpC H 0 rfl rfl) ?_
 refine bad14_ok (t:=t) (hv.ext H.hext) (hs.ext H.hext) (by omega) (by omega) fun h' e=>⟨_,rfl,?_⟩
 have H:=H.ext e
 clear e
 refine bcase_ne (fun _=>wk H.hext) fun hck=>?_
 obtain ⟨hf,_,_,har⟩:=chkT_zero hck
 have hreg:=hf.2.1
 obtain ⟨W,XX,e1,e2,hW1,hW2,hX1,hX2,hWX⟩:=size_nat hreg.1
 have hsrc:∀ i∈l,(srcB sy i).may:=fun i hi=>(hf.2.2 i hi).src hf.1
 refine ldI_of (hpB H 0 rfl rfl) ?_
 refine bindI_of (((W+100:Nat):Int)) (by (rw [e1]; exact i64_at _ _ (by omega) (by omega) (by omega))) ?_
 refine ldI_of (hpB H 0 rfl rfl) ?_
 refine bindI_of (((XX+20:Nat):Int)) (by (rw [e2]; exact i64_at _ _ (by omega) (by omega) (by omega))) ?_
 have hbig:(W+100)*(XX+20)=W*XX+20*W+100*XX+2000:=by
  rw [Nat.add_mul,Nat.mul_add,Nat.mul_add]
  omega
 refine bindI_of ((((W+100)*(XX+20):Nat):Int)) (by exact i64_at _ _ (by simp) (by omega) (by omega)) ?_
 refine bcase_dec (fun _=>wk H.hext) fun hsm=>?_
 refine ldI_of (hpB H 0 rfl rfl) ?_
 refine wi_ok (n:=70) (by decide) (by decide) fun dx hdx1 hdx2=>⟨_,rfl,?_⟩
 refine ldI_of (hpB H 0 rfl rfl) ?_
 refine wi_ok (n:=3) (by decide) (by decide) fun dz hdz1 hdz2=>⟨_,rfl,?_⟩
 obtain ⟨A,rfl⟩:∃ A:Nat,dx=(A:Int):=⟨dx.toNat,by omega⟩
 obtain ⟨B,hBd⟩:∃ B:Nat,(8:Int)*dz=(B:Int):=⟨(8*dz).toNat,by omega⟩
 refine bindI_of (((B:Nat):Int)) (by (rw [hBd]; exact i64_in _ (by omega) (by omega))) ?_
 repeat first | with_reducible refine ldI_of (by with_unfolding_all first | exact hpA H 0 rfl rfl | exact Hp.cell H 0 rfl rfl | exact hpB H 0 rfl rfl | exact hpC H 0 rfl rfl) ?_ | with_reducible refine ldS_of (by with_unfolding_all first | exact hpA H 0 rfl rfl | exact Hp.cell H 0 rfl rfl | exact hpB H 0 rfl rfl | exact hpC H 0 rfl rfl) ?_ | with_reducible refine ldP_of (by with_unfolding_all first | exact hpA H 0 rfl rfl | exact Hp.cell H 0 rfl rfl | exact hpB H 0 rfl rfl | exact hpC H 0 rfl rfl) ?_ | with_reducible refine ldB_of (by with_unfolding_all first | exact hpA H 0 rfl rfl | exact Hp.cell H 0 rfl rfl | exact hpB H 0 rfl rfl | exact hpC H 0 rfl rfl) ?_ | with_reducible refine ldT_of (by with_unfolding_all first | exact hpA H 0 rfl rfl | exact Hp.cell H 0 rfl rfl | exact hpB H 0 rfl rfl | exact hpC H 0 rfl rfl) ?_
 refine cpText_ok (t:=t) (hv.ext H.hext) (by omega) hws fun R1 q1 c1 h' hL1 H'=>?_
 have H:=H.join H' hL1.w
 clear H'
 refine ⟨_,_,_,_,_,_,_,_,_,_,_,rfl,?_⟩
 refine newC_hp H fun r82 h H=>?_
 have H:=H.rot
 refine stVsA H 0 rfl rfl rfl fun h H=>?_
 refine stA H 0 rfl rfl rfl fun h H=>?_
 refine stA H 0 rfl rfl rfl fun h H=>?_
 obtain ⟨ta,hta⟩:∃ ta:Reg14,ta = { t with df:=0,op:=2 }:=⟨_,rfl⟩
 have H:Hp hB [] h (⟨r82,true,T_api_Text,ta.cs q1 l.length c1⟩::⟨r11,true,T_burinlaw14_Ask,t.cs q l.length c++[Value.slice q2 sy.length c2]⟩::R1):=by rw [hta]; exact H
 have hta':ta.w=t.w/\ta.h=t.h/\ta.st=t.st/\ta.rf=t.rf/\ta.op=2/\ta.df=0:=by rw [hta]; exact ⟨rfl,rfl,rfl,rfl,rfl,rfl⟩
 have hcka:chkT ta sy l=0:=chkT_like hck (by rw [hta]; exact ⟨hreg.1,hreg.2.1,hreg.2.2.1,⟨by show (0:Int)<=2; decide,by show (2:Int)<=4; decide⟩,⟨Int.le_refl 0,by show (0:Int)<=1; decide⟩,hreg.2.2.2.2.2⟩) hta'.2.2.2.1
 have hta2:∀ q n c,ta.ag q n c=ta.ag q n c:=fun _ _ _=>rfl
 repeat first | with_reducible refine ldI_of (by with_unfolding_all first | exact hpA H 0 rfl rfl | exact Hp.cell H 0 rfl rfl | exact hpB H 0 rfl rfl | exact hpC H 0 rfl rfl) ?_ | with_reducible refine ldS_of (by with_unfolding_all first | exact hpA H 0 rfl rfl | exact Hp.cell H 0 rfl rfl | exact hpB H 0 rfl rfl | exact hpC H 0 rfl rfl) ?_ | with_reducible refine ldP_of (by with_unfolding_all first | exact hpA H 0 rfl rfl | exact Hp.cell H 0 rfl rfl | exact hpB H 0 rfl rfl | exact hpC H 0 rfl rfl) ?_ | with_reducible refine ldB_of (by with_unfolding_all first | exact hpA H 0 rfl rfl | exact Hp.cell H 0 rfl rfl | exact hpB H 0 rfl rfl | exact hpC H 0 rfl rfl) ?_ | with_reducible refine ldT_of (by with_unfolding_all first | exact hpA H 0 rfl rfl | exact Hp.cell H 0 rfl rfl | exact hpB H 0 rfl rfl | exact hpC H 0 rfl rfl) ?_
 refine cpText_ok (t:=ta) (hL1.view H fun e he=>by simp [he]) (by omega) hws fun R2 q3 c3 h' hL2 H'=>?_
 have H:=H.join H' hL2.w
 clear H'
 refine ⟨_,_,_,_,_,_,_,_,_,_,_,rfl,?_⟩
 refine newC_hp H fun r107 h H=>?_
 have H:=H.rot
 refine stVsA H 0 rfl rfl rfl fun h H=>?_
 refine ldI_of (hpA H 0 rfl rfl) ?_
 refine bindI_of (((W+A:Nat):Int)) (by (rw [hta'.1,e1]; exact i64_at _ _ (by omega) (by omega) (by omega))) ?_
 refine stA H 0 rfl rfl rfl fun h H=>?_
 refine ldI_of (hpA H 0 rfl rfl) ?_
 refine bindI_of (((XX+B:Nat):Int)) (by (show IntKind.i64.wrap (ta.h+(B:Int))=_; rw [hta'.2.1,e2]; exact i64_at _ _ (by omega) (by omega) (by omega))) ?_
 refine stA H 0 rfl rfl rfl fun h H=>?_
 obtain ⟨tb,htb⟩:∃ tb:Reg14,tb = { ta with w:=((W+A:Nat):Int),h:=((XX+B:Nat):Int) }:=⟨_,rfl⟩
 have htb':tb.w=((W+A:Nat):Int)/\tb.h=((XX+B:Nat):Int)/\tb.st=t.st/\tb.rf=t.rf/\tb.op=2/\tb.df=0:=by rw [htb,hta]; exact ⟨rfl,rfl,rfl,rfl,rfl,rfl⟩
 obtain ⟨O,E,ho1,hO,hslO,rfl⟩:=hL2
 have hOl:O.length=l.length:=by rw [<- hO,List.length_map]
 obtain ⟨G,hG⟩:∃ G,G=R1++dsI O:=⟨_,rfl⟩
 have hGO:HasI G O:=⟨ho1,fun o ho e he=>by rw [hG]; exact List.mem_append_right _ (dsI_mem ho e he)⟩
 have H:Hp hB [] h ((⟨r107,true,T_api_Text,tb.cs q3 l.length c3⟩::⟨r82,true,T_api_Text,ta.cs q1 l.length c1⟩::⟨r11,true,T_burinlaw14_Ask,t.cs q l.length c++[Value.slice q2 sy.length c2]⟩::G)++E):=by
  rw [htb,hG]
  exact H.as (by simp only [List.cons_append,List.nil_append,List.append_assoc]; rfl)
 refine ⟨fun m vs h'=>∃ (i:Nat) (E:List Ent),i+m=l.length/\vs=[.int .i64 (i:Nat)]/\Slot T_api_Instance 7 E q3 l.length c3 (csI (mvO (A:Int) (B:Int) i O))/\(∀ x∈l.take i,x.x<=1048476/\x.y<=1048476)/\Hp hB [] h' ((⟨r107,true,T_api_Text,tb.cs q3 l.length c3⟩::⟨r82,true,T_api_Text,ta.cs q1 l.length c1⟩::⟨r11,true,T_burinlaw14_Ask,t.cs q l.length c++[Value.slice q2 sy.length c2]⟩::G)++E),⟨l.length,0,E,by omega,rfl,by rw [mvO_zero]; exact hslO,(fun x hx=>by cases hx),H⟩,?_⟩
 clear H hslO
 rintro m h u xi ⟨i,E,him,hxx,hsl,hlo,H⟩
 injection hxx with hx1 hxx
 injection hx1 with _ hx1
 subst xi
 refine ldS_of (hpA H 0 rfl rfl) ?_
 refine bcase_dec (fun h1=>?_) fun h1=>?_
 ·obtain ⟨o,ho⟩:∃ o,O[i]? = some o:=⟨_,List.getElem?_eq_getElem (by omega)⟩
  have hli:l[i]? = some o.i:=by rw [<- hO,List.getElem?_map,ho]; rfl
  have hio:=hf.2.2 _ (List.mem_of_getElem? hli)
  have hxb:=hio.2.1
  have hyb:=hio.2.2.1
  have hog:=mvO_get (dx:=(A:Int)) (dy:=(B:Int)) (n:=i) ho
  rw [if_neg (Nat.lt_irrefl i)] at hog
  have hnk:0<=((i:Nat):Int)/\((i:Nat):Int)<((l.length:Nat):Int):=by omega
  obtain ⟨hsl1,⟨rfl,rfl,hn0,rfl⟩ | ⟨b,rest,rfl,rfl,hc⟩⟩:=hsl
  ·omega
  have H:=Hp.rot (X:=_::_::_::G) H
  have H:Hp hB [] h (⟨b,true,T_api_Instance,csI (mvO (A:Int) (B:Int) i O)++rest⟩::(⟨r107,true,T_api_Text,tb.cs (some ⟨b,0,none⟩) l.length c3⟩::⟨r82,true,T_api_Text,ta.cs q1 l.length c1⟩::⟨r11,true,T_burinlaw14_Ask,t.cs q l.length c++[Value.slice q2 sy.length c2]⟩::G)):=H
  have cell:∀ {h P} {p:OwI},Hp hB [] h (⟨b,true,T_api_Instance,csI P++rest⟩::(⟨r107,true,T_api_Text,tb.cs (some ⟨b,0,none⟩) l.length c3⟩::⟨r82,true,T_api_Text,ta.cs q1 l.length c1⟩::⟨r11,true,T_burinlaw14_Ask,t.cs q l.length c++[Value.slice q2 sy.length c2]⟩::G))->P[i]? = some p->∀ j v,j<7->p.cs[j]? = some v->hcell h (((⟨b,0,none⟩:Addr).add (i*7)).add j)=some v:=fun {h P p} H hp j v hj hv=>by
   rw [add_mk,add_mk,Nat.zero_add]
   exact H.cell 0 rfl ((csI_get P rest i j p hp hj).trans hv)
  refine ldS_of (hpA H 1 rfl rfl) (needs_of hnk (ptr_of (a:=⟨b,0,none⟩) ?_))
  rw [Int.toNat_natCast]
  refine ldI_of (cell H hog 0 _ (by decide) rfl) (bcase_dec (fun _=>wk H.hext) fun h2=>?_)
  refine ldS_of (hpA H 1 rfl rfl) (needs_of hnk (ptr_of (a:=⟨b,0,none⟩) ?_))
  refine ldI_of (cell H hog 1 _ (by decide) rfl) (bcase_dec (fun _=>wk H.hext) fun h3=>?_)
  refine ldS_of (hpA H 1 rfl rfl) (ldS_of (hpA H 1 rfl rfl) (needs_of hnk (ptr_of (a:=⟨b,0,none⟩) ?_)))
  refine ldI_of (cell H hog 0 _ (by decide) rfl) ?_
  refine bindI_of ((o.i.x+(A:Int))) (by exact i64_in _ (by omega) (by omega)) ?_
  refine needs_of hnk (ptr_of (a:=⟨b,0,none⟩) ?_)
  refine stI (o':=⟨{ o.i with x:=o.i.x+(A:Int) },o.q,o.c,o.D⟩) H hog (by decide) rfl rfl fun h H=>?_
  have hog2:((mvO (A:Int) (B:Int) i O).set i ⟨{ o.i with x:=o.i.x+(A:Int) },o.q,o.c,o.D⟩)[i]? = some ⟨{ o.i with x:=o.i.x+(A:Int) },o.q,o.c,o.D⟩:=List.getElem?_set_self (by rw [mvO_len]; omega)
  refine ldS_of (hpA H 1 rfl rfl) (ldS_of (hpA H 1 rfl rfl) (needs_of hnk (ptr_of (a:=⟨b,0,none⟩) ?_)))
  refine ldI_of (cell H hog2 1 (.int .i64 o.i.y) (by decide) rfl) ?_
  refine bindI_of ((o.i.y+(B:Int))) (by exact i64_in _ (by omega) (by omega)) ?_
  refine needs_of hnk (ptr_of (a:=⟨b,0,none⟩) ?_)
  refine stI (o':=⟨mvI (A:Int) (B:Int) o.i,o.q,o.c,o.D⟩) H hog2 (by decide) rfl rfl fun h H=>?_
  rw [List.set_set] at H
  refine bindI_of (((i+1:Nat):Int)) (by exact i64_at _ _ (by omega) (by omega) (by omega)) ?_
  have hset:=mvO_set (dx:=(A:Int)) (dy:=(B:Int)) ho
  have hlen2:∀ n,(csI (mvO (A:Int) (B:Int) n O)).length=l.length*7:=fun n=>by rw [csI_len,mvO_len,hOl]
  have H:Hp hB [] h ([⟨b,true,T_api_Instance,csI (mvO (A:Int) (B:Int) (i+1) O)++rest⟩]++(⟨r107,true,T_api_Text,tb.cs (some ⟨b,0,none⟩) l.length c3⟩::⟨r82,true,T_api_Text,ta.cs q1 l.length c1⟩::⟨r11,true,T_burinlaw14_Ask,t.cs q l.length c++[Value.slice q2 sy.length c2]⟩::G)):=by rw [hset]; exact H
  refine ⟨m-1,by omega,i+1,_,by omega,rfl,Slot.one (b:=b) (rest:=rest) (hlen2 _) ?_,fun x hx=>?_,H.rot⟩
  ·rw [<- hc,List.length_append,List.length_append,hlen2,hlen2]
  ·rw [take_snocG hli] at hx
   rcases List.mem_append.1 hx with hx | hx
   ·exact hlo x hx
   ·rw [List.mem_singleton.1 hx]
    omega
 obtain rfl:i=l.length:=by omega
 rw [List.take_of_length_le (Nat.le_refl _)] at hlo
 obtain ⟨P,hP⟩:∃ P,P=mvO (A:Int) (B:Int) l.length O:=⟨_,rfl⟩
 rw [<- hP] at hsl
 have hPm:P.map OwI.i=l.map (mvI (A:Int) (B:Int)):=by rw [hP,mvO_map (by omega),hO]
 have hPG:HasI G P:=by rw [hP]; exact mvO_has hGO
 have hPl:P.length=l.length:=by rw [hP,mvO_len,hOl]
 obtain ⟨w1,hw1⟩:∃ w1:OwI,w1=⟨⟨tb.w,0,0,false,⟨0,0,[]⟩⟩,none,0,[]⟩:=⟨_,rfl⟩
 obtain ⟨w2,hw2⟩:∃ w2:OwI,w2=⟨⟨0,-1048576,0,false,⟨0,0,[]⟩⟩,none,0,[]⟩:=⟨_,rfl⟩
 have hout:[w1.i,w2.i]=outL tb.w:=by rw [hw1,hw2]; rfl
 have hwk:∀ o∈[w1,w2],o.Ok/\o.D=[]:=fun o ho=>by
  rcases List.mem_cons.1 ho with rfl | ho
  ·rw [hw1]
   exact ⟨⟨Slot.nil _ _,(fun v hv=>by cases hv),by show 0<140737488351300; decide⟩,rfl⟩
  ·rw [List.mem_singleton.1 ho,hw2]
   exact ⟨⟨Slot.nil _ _,(fun v hv=>by cases hv),by show 0<140737488351300; decide⟩,rfl⟩
 refine ldS_of (hpA H 0 rfl rfl) (ldI_of (hpA H 0 rfl rfl) ?_)
 refine newC_hp H fun r152 h H=>?_
 have H:Hp hB [] h ((⟨r107,true,T_api_Text,tb.cs q3 l.length c3⟩::⟨r82,true,T_api_Text,ta.cs q1 l.length c1⟩::⟨r11,true,T_burinlaw14_Ask,t.cs q l.length c++[Value.slice q2 sy.length c2]⟩::G)++(E++[⟨r152,true,T_api_Instance,csI [w1,w2]⟩])):=by
  rw [hw1,hw2]
  exact H.asc
 refine Slot.app (m:=2) (new:=csI [w1,w2]) hsl H rfl (Hp.rdO_mem (rest:=[]) (cs:=csI [w1,w2]) H (by rw [List.append_nil]; exact List.mem_append_right _ (List.mem_append_right _ (List.mem_singleton.2 rfl))) (csI_len _)) (csI_len _) (csI_cells _) (by decide) (by omega) fun E' q5 c5 h' hs5 H=>?_
 rw [<- csI_app] at hs5
 have H:Hp hB [] h' (⟨r107,true,T_api_Text,tb.cs q3 l.length c3⟩::⟨r82,true,T_api_Text,ta.cs q1 l.length c1⟩::⟨r11,true,T_burinlaw14_Ask,t.cs q l.length c++[Value.slice q2 sy.length c2]⟩::(G++(E'++[⟨r152,true,T_api_Instance,csI [w1,w2]⟩]))):=H
 refine stA H 0 rfl rfl rfl fun h H=>?_
 obtain ⟨G2,hG2⟩:∃ G2,G2=G++(E'++[⟨r152,true,T_api_Instance,csI [w1,w2]⟩]):=⟨_,rfl⟩
 have H:Hp hB [] h (⟨r107,true,T_api_Text,tb.cs q5 (l.length+2) c5⟩::⟨r82,true,T_api_Text,ta.cs q1 l.length c1⟩::⟨r11,true,T_burinlaw14_Ask,t.cs q l.length c++[Value.slice q2 sy.length c2]⟩::G2):=by rw [hG2]; exact H
 have hszb:SizeP tb.w tb.h:=by
  rw [htb'.1,htb'.2.1]
  have hmm:(W+A)*(XX+B)<=(W+100)*(XX+20):=Nat.mul_le_mul (by omega) (by omega)
  refine ⟨by omega,by omega,by omega,by omega,?_⟩
  have:(((W+A:Nat):Int)*((XX+B:Nat):Int))=(((W+A)*(XX+B):Nat):Int):=by simp
  rw [this]
  omega
 have hregb:RegOk tb:=by
  refine ⟨hszb,?_⟩
  rw [htb,hta]
  exact ⟨hreg.2.1,hreg.2.2.1,⟨by show (0:Int)<=2; decide,by show (2:Int)<=4; decide⟩,⟨Int.le_refl 0,by show (0:Int)<=1; decide⟩,hreg.2.2.2.2.2⟩
 have hR1G:∀ e∈R1,e∈G2:=fun e he=>by rw [hG2,hG]; simp [he]
 refine ⟨fun _ h'=>∃ (q8:Option Addr) (n8 c8:Nat) (Lb:List Ins),Lb.length=n8/\n8<=202/\(∀ {h A},Hp hB [] h (A++G2)->InsV h q8 Lb)/\chkT tb sy Lb=0/\(∀ x Y,x<W->Y<XX->cntH sy Lb (x+A) (Y+B)=cntH sy l x Y)/\Hp hB [] h' (⟨r107,true,T_api_Text,tb.cs q8 n8 c8⟩::⟨r82,true,T_api_Text,ta.cs q1 l.length c1⟩::⟨r11,true,T_burinlaw14_Ask,t.cs q l.length c++[Value.slice q2 sy.length c2]⟩::G2),?_,?_⟩
 ·refine ldS_of (hpA H 2 rfl rfl) (bcase_eq (fun h0=>?_) fun h0=>?_)
  ·have hl0:l.length=0:=by
    rcases Nat.eq_zero_or_pos l.length with h2 | h2
    ·exact h2
    ·obtain ⟨i,hi⟩:∃ i,l[0]? = some i:=⟨_,List.getElem?_eq_getElem h2⟩
     have:=(hf.2.2 i (List.mem_of_getElem? hi)).1
     omega
   have hlnil:l=[]:=List.eq_nil_of_length_eq_zero hl0
   refine ldS_of (hpA H 0 rfl rfl) (ldS_of (hpA H 0 rfl rfl) ?_)
   refine bindI_of (((0:Nat):Int)) (by exact i64_at _ _ (by omega) (by omega) (by omega)) ?_
   refine needs_of (by omega) ?_
   refine stA H 0 rfl rfl rfl fun h H=>?_
   refine ⟨subA q5 c5 0 7,0,c5,[],rfl,by decide,fun {h A} _=>⟨[],rfl,rdO_nil h _,fun o ho=>by cases ho⟩,chkT_ok ⟨hf.1,hregb,fun i hi=>by cases hi⟩ (by show ¬ (_\/16384<0\/1048576<0); omega),fun x Y _ _=>by rw [hlnil]; rfl,H⟩
  ·have hsy0:0<sy.length:=by omega
   obtain ⟨a3,q9,c9,ha3,hc0⟩:=hs 0 _ (List.getElem?_eq_getElem hsy0)
   have hc:=hc0.ext H.hext
   have hsy:symOf sy 0=sy[0]:=by
    unfold symOf
    rw [List.getD_eq_getElem?_getD,List.getElem?_eq_getElem (by exact hsy0)]
    rfl
   refine ldS_of (hpA H 2 rfl rfl) (needs_of (by omega) (ptr_eq ha3 ?_))
   refine ldI_of hc.c1 (bcase_dec (fun _=>wk H.hext) fun h2=>?_)
   have hhh:(symOf sy 0).h<1048576:=by rw [hsy]; omega
   have hmay0:=hf.1 _ (List.getElem_mem hsy0)
   have hh0:0<=(symOf sy 0).h:=by rw [hsy]; exact Int.le_trans (by decide) hmay0.1.2.1
   have hLm:(P++[w1,w2]).map OwI.i=l.map (mvI (A:Int) (B:Int))++outL tb.w:=by rw [List.map_append,hPm,<- hout]; rfl
   have hLl:(l.map (mvI (A:Int) (B:Int))++outL tb.w).length=l.length+2:=by rw [List.length_append,List.length_map]; rfl
   refine ⟨q5,l.length+2,c5,l.map (mvI (A:Int) (B:Int))++outL tb.w,hLl,by omega,fun {h A'} H=>?_,?_,fun x Y hx hY=>?_,H⟩
   ·refine ⟨P++[w1,w2],hLm,?_,fun o ho=>?_⟩
    ·rw [hLl]
     exact Slot.rdO' hs5 H fun e he=>by rw [hG2]; simp [he]
    ·have hokD:o.Ok/\∀ e∈o.D,e∈A'++G2:=by
      rcases List.mem_append.1 ho with ho | ho
      ·exact ⟨hPG.ok o ho,fun e he=>by rw [hG2]; simp [hPG.has o ho e he]⟩
      ·obtain ⟨k1,k2⟩:=hwk o ho
       exact ⟨k1,fun e he=>by rw [k2] at he; cases he⟩
     exact ⟨Slot.rdO' hokD.1.s H hokD.2,hokD.1.w,hokD.1.l⟩
   ·refine chkT_ok ⟨hf.1,hregb,fun i hi=>?_⟩ ?_
    ·rw [htb'.2.2.2.1]
     rcases List.mem_append.1 hi with hi | hi
     ·obtain ⟨j,hj,rfl⟩:=List.mem_map.1 hi
      have hj2:=hf.2.2 j hj
      have hj3:=hlo j hj
      have hj4:=hj2.2.1
      have hj5:=hj2.2.2.1
      exact hj2.mv (by omega) (by omega)
     ·exact outL_ok (by rw [htb'.1]; omega) hsy0 i hi
    ·rw [hLl,arI_app,arI_mv]
     have:arI (outL tb.w)=0:=rfl
     omega
   ·rw [cntH_app,cnt_mv,cnt_out (by rw [htb'.1]; omega) hhh hh0,Nat.add_zero]
 clear H
 rintro h u ⟨q8,n8,c8,Lb,hLbl,hn8,hLbv,hckb,hcnt,H⟩
 have hsrcb:∀ i∈Lb,(srcB sy i).may:=fun i hi=>((chkT_zero hckb).1.2.2 i hi).src hf.1
 refine ldI_of (hpA H 1 rfl rfl) (ldI_of (hpA H 1 rfl rfl) (ldI_of (hpA H 1 rfl rfl) (ldI_of (hpA H 1 rfl rfl) (ldI_of (hpA H 1 rfl rfl) (ldB_of (hpA H 1 rfl rfl) (ldI_of (hpA H 1 rfl rfl) (ldI_of (hpA H 1 rfl rfl) (ldS_of (hpA H 1 rfl rfl) (ldS_of (hpA H 2 rfl rfl) ?_)))))))))
 refine tDrawN (t:=ta) (l:=l) rfl (by omega) (hL1.view H fun e he=>List.mem_cons_of_mem _ (List.mem_cons_of_mem _ (List.mem_cons_of_mem _ (hR1G e he)))) (hs.ext H.hext) (by omega) hcka fun RA DA qA cA h' hpa hsA H'=>?_
 have H:=H.join H' hsA.w
 clear H'
 refine ⟨_,_,_,_,_,_,rfl,?_⟩
 refine newC_hp H fun r187 h H=>?_
 have H:=H.rot
 refine stA H 0 rfl rfl rfl fun h H=>?_
 refine stA H 0 rfl rfl rfl fun h H=>?_
 refine stA H 0 rfl rfl rfl fun h H=>?_
 have H:Hp hB [] h (⟨r187,true,T_api_Bitmap,[.int .i64 ta.w, .int .i64 ta.h, .slice qA RA.length cA]⟩::⟨r107,true,T_api_Text,tb.cs q8 n8 c8⟩::⟨r82,true,T_api_Text,ta.cs q1 l.length c1⟩::⟨r11,true,T_burinlaw14_Ask,t.cs q l.length c++[Value.slice q2 sy.length c2]⟩::(G2++DA)):=H
 repeat first | with_reducible refine ldI_of (by with_unfolding_all first | exact hpA H 1 rfl rfl | exact Hp.cell H 1 rfl rfl | exact hpB H 1 rfl rfl | exact hpC H 1 rfl rfl) ?_ | with_reducible refine ldS_of (by with_unfolding_all first | exact hpA H 1 rfl rfl | exact Hp.cell H 1 rfl rfl | exact hpB H 1 rfl rfl | exact hpC H 1 rfl rfl) ?_ | with_reducible refine ldP_of (by with_unfolding_all first | exact hpA H 1 rfl rfl | exact Hp.cell H 1 rfl rfl | exact hpB H 1 rfl rfl | exact hpC H 1 rfl rfl) ?_ | with_reducible refine ldB_of (by with_unfolding_all first | exact hpA H 1 rfl rfl | exact Hp.cell H 1 rfl rfl | exact hpB H 1 rfl rfl | exact hpC H 1 rfl rfl) ?_ | with_reducible refine ldT_of (by with_unfolding_all first | exact hpA H 1 rfl rfl | exact Hp.cell H 1 rfl rfl | exact hpB H 1 rfl rfl | exact hpC H 1 rfl rfl) ?_
 refine ldS_of (hpA H 3 rfl rfl) ?_
 have H2:Hp hB [] h ((⟨r187,true,T_api_Bitmap,[.int .i64 ta.w, .int .i64 ta.h, .slice qA RA.length cA]⟩::⟨r107,true,T_api_Text,tb.cs q8 n8 c8⟩::⟨r82,true,T_api_Text,ta.cs q1 l.length c1⟩::⟨r11,true,T_burinlaw14_Ask,t.cs q l.length c++[Value.slice q2 sy.length c2]⟩::G2)++DA):=H
 refine tDrawN (t:=tb) (l:=Lb) hLbl (by omega) (hLbv (A:=[_,_,_,_]) (Hp.pre H2)) (hs.ext H.hext) (by omega) hckb fun RB DB qB cB h' hpb hsB H'=>?_
 clear H2
 have H:=H.join H' hsB.w
 clear H'
 refine ⟨_,_,_,_,_,_,rfl,?_⟩
 refine newC_hp H fun r208 h H=>?_
 have H:=H.rot
 refine stA H 0 rfl rfl rfl fun h H=>?_
 refine stA H 0 rfl rfl rfl fun h H=>?_
 refine stA H 0 rfl rfl rfl fun h H=>?_
 obtain ⟨ba,hba⟩:∃ ba:Bmp,ba=⟨(W:Nat),(XX:Nat),RA⟩:=⟨_,rfl⟩
 obtain ⟨bb,hbb⟩:∃ bb:Bmp,bb=⟨((W+A:Nat):Int),((XX+B:Nat):Int),RB⟩:=⟨_,rfl⟩
 have eta:ta.w=(W:Nat)/\ta.h=(XX:Nat):=⟨hta'.1.trans e1,hta'.2.1.trans e2⟩
 have hpmA:=srtI_perm ta.st.toNat l
 have hpmB:=srtI_perm tb.st.toNat Lb
 have hsA2:∀ i∈srtI ta.st.toNat l,(srcB sy i).may:=fun i hi=>hsrc i (srtI_mem.1 hi)
 have hsB2:∀ i∈srtI tb.st.toNat Lb,(srcB sy i).may:=fun i hi=>hsrcb i (srtI_mem.1 hi)
 have hmA:ba.may:=by
  have:=drawG_may (t:=ta) (by rw [eta.1,eta.2,<- e1,<- e2]; exact hreg.1) hsA2 hpa
  rw [eta.1,eta.2] at this
  rw [hba]
  exact this
 have hmB:bb.may:=by
  have:=drawG_may (t:=tb) hszb hsB2 hpb
  rw [htb'.1,htb'.2.1] at this
  rw [hbb]
  exact this
 have hpa2:PicP W XX (drawG ta sy (srtI ta.st.toNat l)) RA:=by rw [eta.1,eta.2,Int.toNat_natCast,Int.toNat_natCast] at hpa; exact hpa
 have hpb2:PicP (W+A) (XX+B) (drawG tb sy (srtI tb.st.toNat Lb)) RB:=by rw [htb'.1,htb'.2.1,Int.toNat_natCast,Int.toNat_natCast] at hpb; exact hpb
 have hwA:W64 ba.ws:=by rw [hba]; exact hpa2.2.1
 have hwB:W64 bb.ws:=by rw [hbb]; exact hpb2.2.1
 have hlA:ba.ws.length<140737488351300:=by
  rw [hba]
  have:=hpa2.1
  have:=hw_le hW1 hWX
  show RA.length<_
  omega
 have hlB:bb.ws.length<140737488351300:=by
  rw [hbb]
  have:=hpb2.1
  have hmm:(W+A)*(XX+B)<=(W+100)*(XX+20):=Nat.mul_le_mul (by omega) (by omega)
  have:=hw_le (W:=W+A) (H:=XX+B) (by omega) (by omega)
  show RB.length<_
  omega
 have H:Hp hB [] h (⟨r208,true,T_api_Bitmap,[.int .i64 bb.w, .int .i64 bb.h, .slice qB bb.ws.length cB]⟩::⟨r187,true,T_api_Bitmap,[.int .i64 ba.w, .int .i64 ba.h, .slice qA ba.ws.length cA]⟩::⟨r107,true,T_api_Text,tb.cs q8 n8 c8⟩::⟨r82,true,T_api_Text,ta.cs q1 l.length c1⟩::⟨r11,true,T_burinlaw14_Ask,t.cs q l.length c++[Value.slice q2 sy.length c2]⟩::(G2++DA++DB)):=by
  rw [hba,hbb,<- eta.1,<- eta.2,<- htb'.1,<- htb'.2.1]
  exact H
 obtain ⟨V,hV⟩:∃ V,V=G2++DA++DB:=⟨_,rfl⟩
 rw [<- hV] at H
 have rdA':∀ {h A},Hp hB [] h (A++V)->rdO h qA (ba.ws.length*1) (u64s ba.ws):=fun H=>by
  rw [hba]
  exact Slot.rdO' hsA H fun e he=>by rw [hV]; simp [he]
 have rdB':∀ {h A},Hp hB [] h (A++V)->rdO h qB (bb.ws.length*1) (u64s bb.ws):=fun H=>by
  rw [hbb]
  exact Slot.rdO' hsB H fun e he=>by rw [hV]; simp [he]
 have eba:ba.w=(W:Nat)/\ba.h=(XX:Nat):=by rw [hba]; exact ⟨rfl,rfl⟩
 have ebb:bb.w=((W+A:Nat):Int)/\bb.h=((XX+B:Nat):Int):=by rw [hbb]; exact ⟨rfl,rfl⟩
 refine bcase_ne (fun hh=>absurd rfl hh) fun _=>?_
 refine bcase_ne (fun hh=>absurd rfl hh) fun _=>?_
 refine ldI_of (hpA H 1 rfl rfl) (ldI_of (hpA H 1 rfl rfl) (ldS_of (hpA H 1 rfl rfl) ?_))
 refine may_ok (rdA' (A:=[_,_,_,_,_]) H) hwA hlA fun r h' hr e=>⟨_,rfl,?_⟩
 have H:=H.ext e
 clear e
 refine bcase_not (fun hh=>by rw [hr.2 hmA] at hh; cases hh) fun _=>?_
 refine ldI_of (hpA H 0 rfl rfl) (ldI_of (hpA H 0 rfl rfl) (ldS_of (hpA H 0 rfl rfl) ?_))
 refine may_ok (rdB' (A:=[_,_,_,_,_]) H) hwB hlB fun r h' hr e=>⟨_,rfl,?_⟩
 have H:=H.ext e
 clear e
 refine bcase_not (fun hh=>by rw [hr.2 hmB] at hh; cases hh) fun _=>?_
 refine ldI_of (hpA H 1 rfl rfl) (ldI_of (hpA H 3 rfl rfl) (bcase_ne (fun hh=>absurd (by rw [eba.1,eta.1]) hh) fun _=>?_))
 refine ldI_of (hpA H 0 rfl rfl) (ldI_of (hpA H 2 rfl rfl) (bcase_ne (fun hh=>absurd (by rw [ebb.1,htb'.1]) hh) fun _=>?_))
 refine ldI_of (hpA H 1 rfl rfl) (ldI_of (hpA H 3 rfl rfl) (bcase_ne (fun hh=>absurd (by rw [eba.2,eta.2]) hh) fun _=>?_))
 refine ldI_of (hpA H 0 rfl rfl) (ldI_of (hpA H 2 rfl rfl) (bcase_ne (fun hh=>absurd (by rw [ebb.2,htb'.2.1]) hh) fun _=>?_))
 refine ⟨fun m vs h'=>∃ y:Nat,y+m=XX/\vs=[.int .i64 (y:Nat)]/\Hp hB [] h' (⟨r208,true,T_api_Bitmap,[.int .i64 bb.w, .int .i64 bb.h, .slice qB bb.ws.length cB]⟩::⟨r187,true,T_api_Bitmap,[.int .i64 ba.w, .int .i64 ba.h, .slice qA ba.ws.length cA]⟩::⟨r107,true,T_api_Text,tb.cs q8 n8 c8⟩::⟨r82,true,T_api_Text,ta.cs q1 l.length c1⟩::⟨r11,true,T_burinlaw14_Ask,t.cs q l.length c++[Value.slice q2 sy.length c2]⟩::V),⟨XX,0,by omega,rfl,H⟩,?_⟩
 clear H
 rintro m h u xy ⟨y,hym,hxx,H⟩
 injection hxx with hx1 hxx
 injection hx1 with _ hx1
 subst xy
 refine ldI_of (hpA H 3 rfl rfl) ?_
 rw [eta.2]
 refine bcase_dec (fun hy=>?_) fun hy=>wk H.hext
 refine ⟨fun m2 vs h'=>∃ x:Nat,x+m2=W/\vs=[.int .i64 (x:Nat)]/\Hp hB [] h' (⟨r208,true,T_api_Bitmap,[.int .i64 bb.w, .int .i64 bb.h, .slice qB bb.ws.length cB]⟩::⟨r187,true,T_api_Bitmap,[.int .i64 ba.w, .int .i64 ba.h, .slice qA ba.ws.length cA]⟩::⟨r107,true,T_api_Text,tb.cs q8 n8 c8⟩::⟨r82,true,T_api_Text,ta.cs q1 l.length c1⟩::⟨r11,true,T_burinlaw14_Ask,t.cs q l.length c++[Value.slice q2 sy.length c2]⟩::V),⟨W,0,by omega,rfl,H⟩,?_⟩
 clear H
 rintro m2 h u xx ⟨x,hxm,hxx,H⟩
 injection hxx with hx1 hxx
 injection hx1 with _ hx1
 subst xx
 refine ldI_of (hpA H 3 rfl rfl) ?_
 rw [eta.1]
 refine bcase_dec (fun hx=>?_) fun hx=>?_
 rotate_left
 ·refine bindI_of (((y+1:Nat):Int)) (by exact i64_at _ _ (by omega) (by omega) (by omega)) ?_
  exact ⟨m-1,by omega,y+1,by omega,rfl,H⟩
 refine bindI_of (((x+A:Nat):Int)) (by exact i64_at _ _ (by omega) (by omega) (by omega)) ?_
 refine bindI_of (((y+B:Nat):Int)) (by exact i64_at _ _ (by omega) (by omega) (by omega)) ?_
 have gA:getP ba.ws ba.w.toNat ba.h.toNat (x:Int) (y:Int)=decide (cntH sy l x y % 2=1):=by
  rw [hba]
  show getP RA W XX (x:Int) (y:Int)=_
  rw [pic_get hpa2 (by omega) (by omega),drawG_pt hsA2,if_pos (by rw [eta.1,Int.toNat_natCast]; omega),hta'.2.2.2.2.1,hta'.2.2.2.2.2]
  show List.foldl (lay1 sy 2 x y) _ _=_
  rw [fold_xor,cntH_perm hpmA x y]
  simp
 have gB:getP bb.ws bb.w.toNat bb.h.toNat ((x+A:Nat):Int) ((y+B:Nat):Int)=decide (cntH sy l x y % 2=1):=by
  rw [hbb]
  show getP RB (W+A) (XX+B) ((x+A:Nat):Int) ((y+B:Nat):Int)=_
  rw [pic_get hpb2 (by omega) (by omega),drawG_pt hsB2,if_pos (by rw [htb'.1,Int.toNat_natCast]; omega),htb'.2.2.2.2.1,htb'.2.2.2.2.2]
  show List.foldl (lay1 sy 2 (x+A) (y+B)) _ _=_
  rw [fold_xor,<- cntH_perm hpmB (x+A) (y+B),hcnt x y (by omega) (by omega)]
  simp
 refine ldI_of (hpA H 1 rfl rfl) (ldI_of (hpA H 1 rfl rfl) (ldS_of (hpA H 1 rfl rfl) ?_))
 refine ldI_of (hpA H 0 rfl rfl) (ldI_of (hpA H 0 rfl rfl) (ldS_of (hpA H 0 rfl rfl) ?_))
 refine getB_ok (rdA' (A:=[_,_,_,_,_]) H) hwA hmA fun h' e=>⟨_,rfl,e,?_⟩
 have H:=H.ext e
 clear e
 refine getB_ok (rdB' (A:=[_,_,_,_,_]) H) hwB hmB fun h' e=>⟨_,rfl,?_⟩
 have H:=H.ext e
 clear e
 rw [gA,gB]
 refine bcase_ne (fun hh=>absurd rfl hh) fun _=>?_
 refine bindI_of (((x+1:Nat):Int)) (by exact i64_at _ _ (by omega) (by omega) (by omega)) ?_
 exact ⟨m2-1,by omega,x+1,by omega,rfl,H⟩
theorem tMoved_arg {h:Heap} {cs:Array Value} (hsz:cs.size=TP.cellsOf T_burinlaw14_Ask) (hw:WDx TP h T_burinlaw14_Ask cs.toList) {K:VK} {Kp:PK} (hk:∀ h',hext h h'->K (.bool true) h'):CP F_burinlaw14_TextMoved #[.agg cs] h K Kp:=by
 obtain ⟨t,q,c,l,q2,c2,sy,e,hv,hl,hs,hsl⟩:=wd_ask14 hw
 obtain rfl:cs=#[.int .i64 t.x, .int .i64 t.y, .int .i64 t.w, .int .i64 t.h, .int .i64 t.op, .bool t.rf, .int .i64 t.df, .int .i64 t.st, .slice q l.length c, .slice q2 sy.length c2]:=by
  cases cs
  simpa using e
 exact tMoved_law (t:=t) hv hl hs hsl hk
end
end Go.Bm
namespace Go.Proofs.YtbknfejmdekhpaaGreat
open Go.ChangeShapes Go.WideShapes Go.ChangeAt Go.RowKit
theorem own:ownKnob Tryz.prog.godebug=none:=by kernel_rfl
theorem laidOut:laidOutB Tryz.prog=true:=by kernel_rfl
theorem below_of {W W':World} (hk:Go.Den.keeps W W') (h:Go.Den.hext W.heap W'.heap):Below W.heap.size W W' :=
 ⟨hk.1,hk.2.1,hk.2.2,h.1,fun k hlt=>h.2 k hlt⟩
theorem walk_of {f:FuncId} {args:Array Value} {W:World}
  (h:Calls Tryz.prog f args W fun e w'=>Go.Den.keeps W w'/\match e with
   | .returned v=>v = .bool true/\Go.Den.hext W.heap w'.heap
   | .panicked c=>False
   | .outgrown=>False):Calls Tryz.prog f args W fun e W'=>e = .returned (.bool true)/\Below W.heap.size W W':=by
 refine h.mono fun e W' he=>?_
 obtain ⟨hk,he⟩:=he
 cases e with
 | returned v=>exact ⟨by rw [he.1],below_of hk he.2⟩
 | panicked c=>exact he.elim
 | outgrown=>exact he.elim
end Go.Proofs.YtbknfejmdekhpaaGreat
namespace Go.Proofs.YtbknfejmdekhpaaGreat
open Go.ChangeShapes Go.WideShapes Go.ChangeAt Go.RowKit
theorem textMoved_walk (W:World) {cs:Array Value} (hsz:cs.size=Tryz.prog.cellsOf 29) (hw:Go.Den.WDx Tryz.prog W.heap 29 cs.toList):Calls Tryz.prog 9 #[.agg cs] W fun e W'=>e = .returned (.bool true)/\Below W.heap.size W W' :=
 walk_of ((Go.Bm.tMoved_arg (h:=W.heap) (K:=fun v h'=>v = .bool true/\Go.Den.hext W.heap h') (Kp:=fun _ _=>False) hsz hw fun h' e=>⟨rfl,e⟩).2 W rfl)
theorem textMoved_lifted (os:Os) (started:os.Started) (H:Type) (enc:TypeId × Value->H) :
  ReturnsInHanded {} Tryz.checked os 9 .any (Rows.textMovedSpec.pre6 enc Tryz.prog Tryz.f9 Rows.textMovedRow.domain false) (Rows.textMovedSpec.post enc Tryz.prog Tryz.f9 false true false false):=by
 refine returnsInHanded_of_change_sized (C:=Tryz.checked) own started (by kernel_rfl) Tryz.func9
  (ChangeSpec.witness6 (enc:=enc) (C:=Tryz.checked) false ⟨#[],#[.agg #[.int .i64 0, .int .i64 0, .int .i64 0, .int .i64 0, .int .i64 0, .bool false, .int .i64 0, .int .i64 0, .slice none 0 0, .slice none 0 0]],[]⟩ 8 (by kernel_rfl) (by kernel_rfl) (by kernel_rfl) (by kernel_rfl)) ?_
 intro W base args ds gs before hval0 hW hcnd hz _
 have hval:∀ (j:Nat) t v,Tryz.f9.params[j]? = some t->args[j]? = some v->Value.okWide Tryz.prog W .any base t v:=hval0
 have hz:∀ n∈DataW.weightsEach Tryz.prog (Tryz.f9.params.toList++Rows.textMovedSpec.plain.varTypes Tryz.prog) (ds++gs),n<=reachBytes:=fun n hn=>by simpa using List.all_eq_true.1 hz n hn
 have hW':=hW
 obtain ⟨p,q,hA0,hV,rfl,hfz,hnd⟩:=hW
 have hA:DataW.TrodAll enc Tryz.prog W 0 (fun _=>true) true Tryz.f9.params.toList args.toList ds p:=hA0
 rw [Tryz.params9] at hA hval hz
 obtain ⟨v0,vs0,d0,ds0,p0,q0,hargs,rfl,rfl,h0,r0⟩:=trodAll_cons hA
 obtain ⟨rfl,rfl,rfl⟩:=trodAll_nil r0
 obtain rfl:args=#[v0]:=by cases args; simp_all
 obtain ⟨rfl,rfl⟩:=trodVars_none hV
 obtain ⟨cs,rfl,hsz⟩:=okWide_struct Tryz.underlying29 (hval 0 29 v0 rfl rfl)
 have hwd:Go.Den.WDx Tryz.prog W.heap 29 cs.toList:=by
  obtain ⟨f,hf⟩:=h0
  exact ⟨f,Go.Den.wd_of hf fun n hn=>hz n (DataW.weights_mem_each (j:=0) rfl rfl n hn)⟩
 clear hA0 hval0
 simp only [List.append_nil] at hW'
 refine (textMoved_walk W hsz hwd).mono fun e W' ⟨he,hb⟩=>?_
 subst he
 refine ⟨_,rfl,[d0],[],_,[],p0,[],hW',?_,?_,?_,hb.frame _,fun h=>Bool.noConfusion h⟩
 ·exact trodAll_cons_mk (shut_bool Go.Proofs.Tryz.underlying4 _) trodAll_mk0
 ·exact ⟨p0,[],Below.trod laidOut (by kernel_rfl) (of_decide_eq_true (by kernel_rfl)) h0 hb (fun x hx=>by simpa using hW'.lt x hx),rfl,(List.append_nil p0).symm⟩
 ·rfl
theorem textMoved_over:Rows.textMovedRow.holds Tryz.pinned (OpenSpec.ofChange Rows.textMovedSpec) :=
 OpenClaim.holds_of_wide 9 Tryz.f9 rfl rfl rfl rfl rfl rfl rfl ⟨rfl,rfl,rfl,rfl,rfl⟩ rfl rfl rfl rfl rfl (by kernel_rfl) Tryz.func9 (by kernel_rfl)
  (of_decide_eq_true (by kernel_rfl)) (by unfold Func.isWrapper; first | (rw [if_pos (by decide +kernel)]; kernel_rfl) | (rw [if_neg (by decide +kernel)]; exact ⟨rfl,rfl⟩))
  (fun os started H enc _=>textMoved_lifted os started H enc)
theorem textMoved_proved:Rows.TextMovedSaid:=textMoved_over
#print axioms textMoved_proved
end Go.Proofs.YtbknfejmdekhpaaGreat
