/- The given statement TextSortedSaid is proved of the given program; there are no further conditions. W8: put together by wip/tools/bundle.py: TyB ArLink2 TySorted. -/
import Derived.Test.YtbknfejmdekhpaaGreatW1
import Derived.Test.YtbknfejmdekhpaaGreatW2
import Derived.Test.YtbknfejmdekhpaaGreatW3
import Derived.Test.YtbknfejmdekhpaaGreatW4
import Derived.Test.YtbknfejmdekhpaaGreatW5
import Derived.Test.YtbknfejmdekhpaaGreatW6
import Derived.Test.YtbknfejmdekhpaaGreatW7
import Derived.Test.YtbknfejmdekhpaaGreatProg
import Derived.WalkKit
import Derived.ProofKit
import Derived.OpenShut
import Derived.Carry
import Derived.Deep.SlicePairs
import Derived.Lib.SmallJoins
import Derived.Test.YtbknfejmdekhpaaGreatRows
set_option linter.unusedVariables false
set_option linter.unusedSimpArgs false
set_option maxRecDepth 100000
namespace Go.Bm
open Go Go.Den Go.Den.YtbknfejmdekhpaaGreat
def Bh (st:Nat) (a b:Ins):Prop:=(keyI st a).lt (keyI st b)\/¬ (keyI st b).lt (keyI st a)/\a.s<b.s
theorem insK_bh (st:Nat) (x:Ins):∀ {l:List Ins},(∀ y∈l,x.s<y.s)->l.Pairwise (Bh st)->(insK (keyI st) x l).Pairwise (Bh st)
 | [],_,_=>List.pairwise_singleton _ _
 | y::l,hx,h=>by
  have h0:=List.pairwise_cons.1 h
  unfold insK
  split
  ·rename_i h1
   refine List.pairwise_cons.2 ⟨fun z hz=>?_,insK_bh st x (fun z hz=>hx z (List.mem_cons_of_mem _ hz)) h0.2⟩
   rcases List.mem_cons.1 (((insK_sw (key:=keyI st) x l).mem z).1 hz) with rfl | hz
   ·exact .inl h1
   ·exact h0.1 z hz
  ·rename_i h1
   refine List.pairwise_cons.2 ⟨fun z hz=>?_,h⟩
   rcases List.mem_cons.1 hz with rfl | hz'
   ·exact .inr ⟨h1,hx _ (List.mem_cons_self ..)⟩
   ·refine .inr ⟨?_,hx z hz⟩
    rcases h0.1 z hz' with h2 | h2
    ·exact Key.le_trans h1 fun hh=>Key.lt_irrefl _ (Key.lt_trans h2 hh)
    ·exact Key.le_trans h1 h2.1
theorem srtI_bh (st:Nat):∀ {l:List Ins},l.Pairwise (fun a b=>a.s<b.s)->(srtI st l).Pairwise (Bh st)
 | [],_=>List.Pairwise.nil
 | x::l,h=>by
  have h0:=List.pairwise_cons.1 h
  exact insK_bh st x (fun y hy=>h0.1 y (srtI_mem.1 hy)) (srtI_bh st h0.2)
def numO (n:Nat) (O:List OwI):List OwI:=O.mapIdx fun j o=>if j<n then { o with i:={ o.i with s:=(j:Int) } } else o
def numL (l:List Ins):List Ins:=l.mapIdx fun j i=>{ i with s:=(j:Int) }
theorem numO_len (n:Nat) (O:List OwI):(numO n O).length=O.length:=List.length_mapIdx
theorem numO_get {n:Nat} {O:List OwI} {j:Nat} {o:OwI} (h:O[j]? = some o):(numO n O)[j]? = some (if j<n then { o with i:={ o.i with s:=(j:Int) } } else o):=by
 unfold numO
 rw [List.getElem?_mapIdx,h]
 rfl
theorem numO_set {O:List OwI} {i:Nat} {o:OwI} (h:O[i]? = some o):numO (i+1) O=(numO i O).set i { o with i:={ o.i with s:=(i:Int) } }:=by
 refine List.ext_getElem? fun j=>?_
 rcases Nat.lt_or_ge j O.length with hj | hj
 ·obtain ⟨x,hx⟩:∃ x,O[j]? = some x:=⟨_,List.getElem?_eq_getElem hj⟩
  by_cases hji:j=i
  ·subst hji
   rw [h] at hx
   injection hx with hx
   subst hx
   rw [numO_get h,List.getElem?_set_self (by rw [numO_len]; exact hj),if_pos (Nat.lt_succ_self _)]
  ·rw [numO_get hx,List.getElem?_set_ne (Ne.symm hji),numO_get hx]
   by_cases h2:j<i
   ·rw [if_pos h2,if_pos (by omega)]
   ·rw [if_neg h2,if_neg (by omega)]
 ·rw [List.getElem?_eq_none (by rw [numO_len]; exact hj),List.getElem?_eq_none (by rw [List.length_set,numO_len]; exact hj)]
theorem numO_zero (O:List OwI):numO 0 O=O:=by
 refine List.ext_getElem? fun j=>?_
 unfold numO
 rw [List.getElem?_mapIdx]
 cases h:O[j]? with
 | none=>rfl
 | some o=>simp
theorem numO_ds (n:Nat) (O:List OwI):dsI (numO n O)=dsI O:=by
 have:(numO n O).map OwI.D=O.map OwI.D:=by
  refine List.ext_getElem? fun j=>?_
  unfold numO
  rw [List.getElem?_map,List.getElem?_mapIdx,List.getElem?_map]
  cases h:O[j]? with
  | none=>rfl
  | some o =>
   simp only [Option.map_some]
   split <;> rfl
 unfold dsI
 rw [List.flatMap_def,List.flatMap_def,this]
theorem numO_map {n:Nat} {O:List OwI} (h:O.length<=n):(numO n O).map OwI.i=numL (O.map OwI.i):=by
 refine List.ext_getElem? fun j=>?_
 unfold numO numL
 rw [List.getElem?_map,List.getElem?_mapIdx,List.getElem?_mapIdx,List.getElem?_map]
 cases hj:O[j]? with
 | none=>rfl
 | some o =>
  have:=(List.getElem?_eq_some_iff.1 hj).1
  simp only [Option.map_some]
  rw [if_pos (by omega)]
theorem numO_ok {n:Nat} {O:List OwI} (h:∀ o∈O,o.Ok):∀ o∈numO n O,o.Ok:=fun o ho=>by
 obtain ⟨j,hj⟩:=List.mem_iff_getElem?.1 ho
 unfold numO at hj
 rw [List.getElem?_mapIdx] at hj
 cases hx:O[j]? with
 | none=>rw [hx] at hj; cases hj
 | some x =>
  rw [hx] at hj
  have hx2:=h x (List.mem_of_getElem? hx)
  injection hj with hj
  subst hj
  split
  ·exact ⟨hx2.s,hx2.w,hx2.l⟩
  ·exact hx2
theorem csI_set2:∀ (O:List OwI) (rest:List Value) (i:Nat) (o:OwI) (s:Int),O[i]? = some o->(csI O++rest).set (i*7+2) (.int .i64 s)=csI (O.set i { o with i:={ o.i with s:=s } })++rest
 | [],_,i,o,s,h=>by cases h
 | o'::O,rest,0,o,s,h=>by
  injection h with h
  subst h
  rfl
 | o'::O,rest,i+1,o,s,h=>by
  rw [csI_cons,List.append_assoc,csI_setj,csI_set2 O rest i o s h]
  rfl
theorem numL_len (l:List Ins):(numL l).length=l.length:=List.length_mapIdx
theorem numL_s {l:List Ins} {j:Nat} {i:Ins} (h:(numL l)[j]? = some i):i.s=(j:Int):=by
 unfold numL at h
 rw [List.getElem?_mapIdx] at h
 cases hx:l[j]? with
 | none=>rw [hx] at h; cases h
 | some x =>
  rw [hx] at h
  injection h with h
  rw [<- h]
theorem numL_lt (l:List Ins):(numL l).Pairwise (fun a b=>a.s<b.s):=by
 refine List.pairwise_iff_getElem.2 fun i j hi hj hij=>?_
 have h1:=numL_s (List.getElem?_eq_getElem hi)
 have h2:=numL_s (List.getElem?_eq_getElem hj)
 omega
section
variable {hB:Heap} {K:VK} {Kp:PK}
theorem behind_ok {o o':OwI} {st:Nat} (hst:st<=3) (hk:∀ (r:Bool) h',(r=true↔Bh st o.i o'.i)->hext hB h'->K (.bool r) h'):CP F_burinlaw14_behind #[o.ag,o'.ag, .int .i64 (st:Nat)] hB K Kp:=by
 refine call_burinlaw14_behind ?_
 unfold burinlaw14_behind
 have H:=Hp.nil hB []
 refine newC_hp H fun r1 h H=>?_
 refine newC_hp H fun r2 h H=>?_
 have H:Hp _ [] h [⟨r1,true,T_api_Instance,o.cs⟩,⟨r2,true,T_api_Instance,o'.cs⟩]:=H
 refine ldI_of (hpA H 0 rfl rfl) ?_
 refine bindI_of (((st:Nat):Int)) (by exact u64_in _ (by omega) (by omega)) ?_
 refine needs_of (by omega) (bindI_of _ (shr_flo (by omega)) ?_)
 refine ldI_of (hpA H 1 rfl rfl) ?_
 refine bindI_of (((st:Nat):Int)) (by exact u64_in _ (by omega) (by omega)) ?_
 refine needs_of (by omega) (bindI_of _ (shr_flo (by omega)) ?_)
 refine bcase_ne (fun h1=>?_) fun h1=>?_
 ·refine hk _ h ?_ H.hext
  simp only [decide_eq_true_eq]
  unfold Bh Key.lt keyI
  dsimp only
  omega
 refine ldI_of (hpA H 0 rfl rfl) (ldI_of (hpA H 1 rfl rfl) (bcase_ne (fun h2=>?_) fun h2=>?_))
 ·refine ldI_of (hpA H 0 rfl rfl) (ldI_of (hpA H 1 rfl rfl) (hk _ h ?_ H.hext))
  simp only [decide_eq_true_eq]
  unfold Bh Key.lt keyI
  dsimp only
  omega
 refine ldI_of (hpA H 0 rfl rfl) (ldI_of (hpA H 1 rfl rfl) (bcase_ne (fun h3=>?_) fun h3=>?_))
 ·refine ldI_of (hpA H 0 rfl rfl) (ldI_of (hpA H 1 rfl rfl) (hk _ h ?_ H.hext))
  simp only [decide_eq_true_eq]
  unfold Bh Key.lt keyI
  dsimp only
  omega
 ·refine ldI_of (hpA H 0 rfl rfl) (ldI_of (hpA H 1 rfl rfl) (hk _ h ?_ H.hext))
  simp only [decide_eq_true_eq]
  unfold Bh Key.lt keyI
  dsimp only
  omega
theorem bls_set (l:List Bool) (i:Nat) (b:Bool):(bls l).set i (.bool b)=bls (l.set i b):=by
 unfold bls
 rw [List.map_set]
set_option maxHeartbeats 8000000 in
theorem tSorted_law {t:Reg14} {q:Option Addr} {c:Nat} {l:List Ins} (hv:InsV hB q l) (hl:l.length<=4000000000000) (hk:∀ h',hext hB h'->K (.bool true) h'):CP F_burinlaw14_TextSorted #[t.ag q l.length c] hB K Kp:=by
 refine call_burinlaw14_TextSorted ?_
 unfold burinlaw14_TextSorted
 have H:=Hp.nil hB []
 refine newC_hp H fun r10 h H=>?_
 have H:Hp hB [] h [⟨r10,true,T_api_Text,t.cs q l.length c⟩]:=H
 repeat first | with_reducible refine ldI_of (by with_unfolding_all first | exact hpA H 0 rfl rfl | exact Hp.cell H 0 rfl rfl | exact hpB H 0 rfl rfl | exact hpC H 0 rfl rfl) ?_ | with_reducible refine ldS_of (by with_unfolding_all first | exact hpA H 0 rfl rfl | exact Hp.cell H 0 rfl rfl | exact hpB H 0 rfl rfl | exact hpC H 0 rfl rfl) ?_ | with_reducible refine ldP_of (by with_unfolding_all first | exact hpA H 0 rfl rfl | exact Hp.cell H 0 rfl rfl | exact hpB H 0 rfl rfl | exact hpC H 0 rfl rfl) ?_ | with_reducible refine ldB_of (by with_unfolding_all first | exact hpA H 0 rfl rfl | exact Hp.cell H 0 rfl rfl | exact hpB H 0 rfl rfl | exact hpC H 0 rfl rfl) ?_ | with_reducible refine ldT_of (by with_unfolding_all first | exact hpA H 0 rfl rfl | exact Hp.cell H 0 rfl rfl | exact hpB H 0 rfl rfl | exact hpC H 0 rfl rfl) ?_
 refine light14_ok (t:=t) (sy:=[]) (hv.ext H.hext) (fun i b hi=>by cases hi) hl (Nat.zero_le _) fun r h' hr e=>⟨_,rfl,?_⟩
 have H:=H.ext e
 clear e
 refine bcase_not (fun _=>wakes14_ok fun h' e=>⟨_,rfl,hk _ (H.hext.trans e)⟩) fun h1=>?_
 have hlt:=hr h1
 clear h1 hr
 have hn1:=hlt.n1
 repeat first | with_reducible refine ldI_of (by with_unfolding_all first | exact hpA H 0 rfl rfl | exact Hp.cell H 0 rfl rfl | exact hpB H 0 rfl rfl | exact hpC H 0 rfl rfl) ?_ | with_reducible refine ldS_of (by with_unfolding_all first | exact hpA H 0 rfl rfl | exact Hp.cell H 0 rfl rfl | exact hpB H 0 rfl rfl | exact hpC H 0 rfl rfl) ?_ | with_reducible refine ldP_of (by with_unfolding_all first | exact hpA H 0 rfl rfl | exact Hp.cell H 0 rfl rfl | exact hpB H 0 rfl rfl | exact hpC H 0 rfl rfl) ?_ | with_reducible refine ldB_of (by with_unfolding_all first | exact hpA H 0 rfl rfl | exact Hp.cell H 0 rfl rfl | exact hpB H 0 rfl rfl | exact hpC H 0 rfl rfl) ?_ | with_reducible refine ldT_of (by with_unfolding_all first | exact hpA H 0 rfl rfl | exact Hp.cell H 0 rfl rfl | exact hpB H 0 rfl rfl | exact hpC H 0 rfl rfl) ?_
 refine cpText_ok (t:=t) (hv.ext H.hext) (by omega) (fun i hi=>Nat.le_trans (hlt.w1 i hi) (by decide)) fun R q' c' h' hL H'=>?_
 have H:=H.join H' hL.w
 clear H'
 refine ⟨_,_,_,_,_,_,_,_,_,_,_,rfl,?_⟩
 refine newC_hp H fun r47 h H=>?_
 have H:=H.rot
 refine stVsA H 0 rfl rfl rfl fun h H=>?_
 obtain ⟨O,E,ho1,ho2,hsl,rfl⟩:=hL
 have hOl:O.length=l.length:=by rw [<- ho2,List.length_map]
 have H:Hp hB [] h ((⟨r47,true,T_api_Text,t.cs q' l.length c'⟩::⟨r10,true,T_api_Text,t.cs q l.length c⟩::dsI O)++E):=H.as (by simp only [List.cons_append,List.nil_append,List.append_assoc]; rfl)
 obtain ⟨n,hn⟩:∃ n,n=l.length:=⟨_,rfl⟩
 rw [<- hn] at H hn1 hOl hsl
 refine ⟨fun m vs h'=>∃ (i:Nat) (E:List Ent),i+m=n/\vs=[.int .i64 (i:Nat)]/\Slot T_api_Instance 7 E q' n c' (csI (numO i O))/\Hp hB [] h' ((⟨r47,true,T_api_Text,t.cs q' n c'⟩::⟨r10,true,T_api_Text,t.cs q n c⟩::dsI O)++E),⟨n,0,E,by omega,rfl,by rw [numO_zero]; exact hsl,H⟩,?_⟩
 clear H hsl
 rintro m h u xi ⟨i,E,him,hxx,hsl,H⟩
 injection hxx with hx1 hxx
 injection hx1 with _ hx1
 subst xi
 refine ldS_of (hpA H 0 rfl rfl) ?_
 refine bcase_dec (fun h1=>?_) fun h1=>?_
 ·obtain ⟨o,ho⟩:∃ o,O[i]? = some o:=⟨_,List.getElem?_eq_getElem (by omega)⟩
  have hog:=numO_get (n:=i) ho
  rw [if_neg (Nat.lt_irrefl i)] at hog
  obtain ⟨hsl1,⟨rfl,rfl,hn0,rfl⟩ | ⟨b,rest,rfl,rfl,hc⟩⟩:=hsl
  ·omega
  have H:=Hp.rot (X:=_::_::dsI O) H
  have H:Hp hB [] h (⟨b,true,T_api_Instance,csI (numO i O)++rest⟩::⟨r47,true,T_api_Text,t.cs (some ⟨b,0,none⟩) n c'⟩::⟨r10,true,T_api_Text,t.cs q n c⟩::dsI O):=H
  refine ldS_of (hpA H 1 rfl rfl) (needs_of (by omega) (ptr_of (a:=⟨b,0,none⟩) ?_))
  rw [Int.toNat_natCast]
  simp only [add_mk,Nat.zero_add]
  have hlen:(csI (numO i O)++rest).length=n*7+rest.length:=by rw [List.length_append,csI_len,numO_len,hOl]
  refine stV_hp H 0 rfl (by rw [hlen]; omega) rfl fun h _ H=>?_
  refine bindI_of (((i+1:Nat):Int)) (by exact i64_at _ _ (by omega) (by omega) (by omega)) ?_
  have hset:(csI (numO i O)++rest).set (i*7+2) (.int .i64 (i:Nat))=csI (numO (i+1) O)++rest:=by rw [csI_set2 _ _ _ _ _ hog,numO_set ho]
  have H:Hp hB [] h ([⟨b,true,T_api_Instance,csI (numO (i+1) O)++rest⟩]++(⟨r47,true,T_api_Text,t.cs (some ⟨b,0,none⟩) n c'⟩::⟨r10,true,T_api_Text,t.cs q n c⟩::dsI O)):=by rw [<- hset]; exact H
  refine ⟨m-1,by omega,i+1,_,by omega,rfl,Slot.one (b:=b) (rest:=rest) (by rw [csI_len,numO_len,hOl]) ?_,H.rot⟩
  rw [<- hc,List.length_append,List.length_append,csI_len,csI_len,numO_len,numO_len]
 obtain rfl:i=n:=by omega
 have hPm:(numO i O).map OwI.i=numL l:=by rw [numO_map (by omega),ho2]
 have hLl:(numL l).length=i:=by rw [numL_len,hn]
 obtain ⟨P,hP⟩:∃ P,P=numO i O:=⟨_,rfl⟩
 have hPok:∀ o∈P,o.Ok:=by rw [hP]; exact numO_ok ho1
 have hPd:dsI P=dsI O:=by rw [hP]; exact numO_ds _ _
 rw [<- hP] at hPm hsl
 rw [<- hPd] at H
 have hPl:P.length=i:=by rw [<- hLl,<- hPm,List.length_map]
 refine ldI_of (hpA H 0 rfl rfl) ?_
 refine ⟨fun vs h'=>vs=[.int .i64 (stOf t.st:Nat)]/\h'=h,?_,?_⟩
 ·refine bcase_dec (fun h2=>?_) fun h2=>?_
  ·have e:stOf t.st=0:=if_pos h2
   rw [e]
   exact ⟨rfl,rfl⟩
  ·refine bcase_dec (fun h3=>?_) fun h3=>?_
   ·have e:stOf t.st=0:=(if_neg h2).trans (if_pos h3)
    rw [e]
    exact ⟨rfl,rfl⟩
   ·have e:stOf t.st=t.st.toNat:=(if_neg h2).trans (if_neg h3)
    have e2:((stOf t.st:Nat):Int)=t.st:=by omega
    rw [e2]
    exact ⟨rfl,rfl⟩
 rintro h' u xs ⟨hxx,rfl⟩
 injection hxx with hx1 hxx
 injection hx1 with _ hx1
 subst xs
 have hst:=stOf_le t.st
 obtain ⟨st,hstd⟩:∃ st,st=stOf t.st:=⟨_,rfl⟩
 repeat first | with_reducible refine ldI_of (by with_unfolding_all first | exact hpA H 0 rfl rfl | exact Hp.cell H 0 rfl rfl | exact hpB H 0 rfl rfl | exact hpC H 0 rfl rfl) ?_ | with_reducible refine ldS_of (by with_unfolding_all first | exact hpA H 0 rfl rfl | exact Hp.cell H 0 rfl rfl | exact hpB H 0 rfl rfl | exact hpC H 0 rfl rfl) ?_ | with_reducible refine ldP_of (by with_unfolding_all first | exact hpA H 0 rfl rfl | exact Hp.cell H 0 rfl rfl | exact hpB H 0 rfl rfl | exact hpC H 0 rfl rfl) ?_ | with_reducible refine ldB_of (by with_unfolding_all first | exact hpA H 0 rfl rfl | exact Hp.cell H 0 rfl rfl | exact hpB H 0 rfl rfl | exact hpC H 0 rfl rfl) ?_ | with_reducible refine ldT_of (by with_unfolding_all first | exact hpA H 0 rfl rfl | exact Hp.cell H 0 rfl rfl | exact hpB H 0 rfl rfl | exact hpC H 0 rfl rfl) ?_
 have rdP:∀ {h A Z},Hp hB [] h (A++(dsI P++(E++Z)))->rdO h q' (i*7) (csI P):=fun {h A Z} H=>Slot.rdO' hsl H fun e he=>List.mem_append_right _ (List.mem_append_right _ (List.mem_append_left _ he))
 have vwP:∀ {o:OwI} {h A Z},o∈P->Hp hB [] h (A++(dsI P++(E++Z)))->o.Vw h:=fun {o h A Z} ho H=>⟨Slot.rdO' (hPok o ho).s H fun e he=>List.mem_append_right _ (List.mem_append_left _ (dsI_mem ho e he)),(hPok o ho).w,(hPok o ho).l⟩
 have H0:Hp hB [] h' ([⟨r47,true,T_api_Text,t.cs q' i c'⟩,⟨r10,true,T_api_Text,t.cs q i c⟩]++(dsI P++(E++[]))):=H.as (by simp only [List.cons_append,List.nil_append,List.append_assoc,List.append_nil])
 have hsorted:∀ {K1:VK},(∀ R q2 c2 h2,ListI R q2 c2 (srtI st (numL l))->Hp h' [] h2 R->K1 (.slice q2 i c2) h2)->CP F_text_Sorted #[t.ag q' i c'] h' K1 Kp:=fun {K1} hk1=>by
  have:=sortedP_ok (hB:=h') (K:=K1) (Kp:=Kp) (t:=t) (q:=q') (c:=c') (l:=numL l) ⟨P,hPm,by rw [hLl]; exact rdP H0,fun o ho=>vwP ho H0⟩ (by omega) (fun x hx=>by
   obtain ⟨j,hj⟩:=List.mem_iff_getElem?.1 hx
   unfold numL at hj
   rw [List.getElem?_mapIdx] at hj
   cases hy:l[j]? with
   | none=>rw [hy] at hj; cases hj
   | some y =>
    rw [hy] at hj
    injection hj with hj
    subst hj
    exact Nat.le_trans (hlt.w1 y (List.mem_of_getElem? hy)) (by decide))
  rw [hLl,<- hstd] at this
  exact this hk1
 refine hsorted fun R2 q2 c2 h2 hL2 H'=>?_
 clear hsorted H0
 refine ⟨_,_,_,rfl,?_⟩
 have H:=H.join H' hL2.w
 clear H'
 obtain ⟨O2,E2,hp1,hp2,hsl2,rfl⟩:=hL2
 obtain ⟨S2,hS2⟩:∃ S2,S2=srtI st (numL l):=⟨_,rfl⟩
 rw [<- hS2] at hp2 hsl2
 have hS2l:S2.length=i:=by rw [hS2,srtI_len,hLl]
 have hbh:S2.Pairwise (Bh st):=by rw [hS2]; exact srtI_bh st (numL_lt l)
 have hne:S2.Pairwise (fun a b=>a.s≠b.s):=by
  rw [hS2]
  exact ((srtI_perm st (numL l)).pairwise_iff (fun {a b} h=>Ne.symm h)).1 ((numL_lt l).imp fun {a b} h=>by omega)
 have hmem:∀ x∈S2,x∈numL l:=fun x hx=>srtI_mem.1 (hS2 ▸ hx)
 have hO2l:O2.length=i:=by rw [<- hS2l,<- hp2,List.length_map]
 refine ldS_of (hpA H 0 rfl rfl) (bcase_ne (fun hh=>absurd rfl hh) fun _=>?_)
 refine needs_of (by omega) ?_
 rw [Int.toNat_natCast,repZ_one]
 refine newC_hp H fun r79 h3 H=>?_
 have H:=H.rot
 have hbls:List.replicate i (Value.bool false)=bls (List.replicate i false):=by simp [bls]
 rw [hbls] at H
 have H:Hp hB [] h3 (⟨r79,true,T_bool,bls (List.replicate i false)⟩::⟨r47,true,T_api_Text,t.cs q' i c'⟩::⟨r10,true,T_api_Text,t.cs q i c⟩::(dsI P++(E++(dsI O2++E2)))):=H.as (by simp only [List.cons_append,List.nil_append,List.append_assoc])
 have rdS:∀ {h A},Hp hB [] h (A++(dsI P++(E++(dsI O2++E2))))->rdO h q2 (S2.length*7) (csI O2):=fun {h A} H=>Slot.rdO' hsl2 H fun e he=>by simp [he]
 have vwS:∀ {o:OwI} {h A},o∈O2->Hp hB [] h (A++(dsI P++(E++(dsI O2++E2))))->o.Vw h:=fun {o h A} ho H=>⟨Slot.rdO' (hp1 o ho).s H fun e he=>by simp [dsI_mem ho e he],(hp1 o ho).w,(hp1 o ho).l⟩
 refine ⟨fun m vs h'=>∃ (k:Nat) (F:List Bool),k+m=i/\vs=[.int .i64 (k:Nat)]/\F.length=i/\(∀ j,F.getD j false=true->∃ j' x,j'<k/\S2[j']? = some x/\x.s=(j:Int))/\Hp hB [] h' (⟨r79,true,T_bool,bls F⟩::⟨r47,true,T_api_Text,t.cs q' i c'⟩::⟨r10,true,T_api_Text,t.cs q i c⟩::(dsI P++(E++(dsI O2++E2)))),
  ⟨i,0,_,by omega,rfl,List.length_replicate ..,(fun j hj=>by
   rw [List.getD_eq_getElem?_getD,List.getElem?_replicate] at hj
   split at hj <;> cases hj),H⟩,?_⟩
 clear H
 rintro m h u xk ⟨k,F,hkm,hxx,hFl,hF,H⟩
 injection hxx with hx1 hxx
 injection hx1 with _ hx1
 subst xk
 refine bcase_dec (fun h5=>?_) fun h5=>?_
 rotate_left
 ·exact wakes14_ok fun h' e=>⟨_,rfl,hk _ (H.hext.trans e)⟩
 obtain ⟨o,ho⟩:∃ o,O2[k]? = some o:=⟨_,List.getElem?_eq_getElem (by omega)⟩
 have hoS:S2[k]? = some o.i:=by rw [<- hp2,List.getElem?_map,ho]; rfl
 obtain ⟨z,hz⟩:=List.mem_iff_getElem?.1 (hmem _ (List.mem_of_getElem? hoS))
 have hzi:z<i:=by rw [<- hLl]; exact (List.getElem?_eq_some_iff.1 hz).1
 have hzs:=numL_s hz
 obtain ⟨p,hp,hpi⟩:∃ p,P[z]? = some p/\p.i=o.i:=by
  rw [<- hPm,List.getElem?_map] at hz
  cases hx:P[z]? with
  | none=>rw [hx] at hz; cases hz
  | some p =>
   rw [hx] at hz
   injection hz with hz
   exact ⟨p,rfl,hz⟩
 obtain ⟨a,ha,cell⟩:=ins_at (rdS (A:=[_,_,_]) H) ho
 obtain ⟨a',ha',cellP⟩:=ins_at (rdP (A:=[_,_,_]) H) hp
 have hnk:0<=((k:Nat):Int)/\((k:Nat):Int)<((i:Nat):Int):=by omega
 have hnz:0<=((z:Nat):Int)/\((z:Nat):Int)<((i:Nat):Int):=by omega
 refine needs_of hnk (ptr_eq ha ?_)
 rw [Int.toNat_natCast]
 refine ldI_of (cell 2 _ rfl) ?_
 rw [hzs]
 refine bcase_dec (fun hh=>by omega) fun _=>?_
 refine bcase_dec (fun hh=>by omega) fun _=>?_
 refine needs_of (hnz) ?_
 rw [Int.toNat_natCast,Nat.mul_one]
 have hFz:F.getD z false=false:=Bool.eq_false_iff.2 fun hh=>by
  obtain ⟨j',x,hj',hx,hxs⟩:=hF z hh
  have:=List.pairwise_iff_getElem.1 hne j' k (by omega) (by omega) hj'
  rw [(List.getElem?_eq_some_iff.1 hx).2,(List.getElem?_eq_some_iff.1 hoS).2] at this
  exact this (by omega)
 have hFc:(bls F)[0+z]? = some (.bool false):=by
  rw [Nat.zero_add]
  unfold bls
  rw [List.getElem?_map,List.getElem?_eq_getElem (by omega)]
  rw [List.getD_eq_getElem?_getD,List.getElem?_eq_getElem (by omega)] at hFz
  simpa using hFz
 refine ldB_of (hpA H 0 rfl hFc) (bcase_false rfl ?_)
 refine needs_of hnk (ptr_eq ha ?_)
 refine ldI_of (cell 0 _ rfl) (ldS_of (hpA H 1 rfl rfl) (needs_of hnz (ptr_eq ha' (ldI_of (cellP 0 _ rfl) ?_))))
 rw [hpi]
 refine bcase_ne (fun hh=>absurd rfl hh) fun _=>?_
 refine needs_of hnk (ptr_eq ha ?_)
 refine ldI_of (cell 1 _ rfl) (ldS_of (hpA H 1 rfl rfl) (needs_of hnz (ptr_eq ha' (ldI_of (cellP 1 _ rfl) ?_))))
 rw [hpi]
 refine bcase_ne (fun hh=>absurd rfl hh) fun _=>?_
 refine needs_of hnk (ptr_eq ha ?_)
 refine ldB_of (cell 3 _ rfl) (ldS_of (hpA H 1 rfl rfl) (needs_of hnz (ptr_eq ha' (ldB_of (cellP 3 _ rfl) ?_))))
 rw [hpi]
 refine bcase_false (by simp) ?_
 refine needs_of hnk (ptr_eq ha ?_)
 rw [add_zero',add_addT _ 4 1,add_addT _ 4 2]
 refine ldI_of (cell 4 _ rfl) (ldI_of (cell 5 _ rfl) (ldS_of (cell 6 _ rfl) ?_))
 refine ldS_of (hpA H 1 rfl rfl) (needs_of hnz (ptr_eq ha' ?_))
 rw [add_zero',add_addT _ 4 1,add_addT _ 4 2]
 refine ldI_of (cellP 4 _ rfl) (ldI_of (cellP 5 _ rfl) (ldS_of (cellP 6 _ rfl) ?_))
 have w1:=vwS (A:=[_,_,_]) (List.mem_of_getElem? ho) H
 have w2:=vwP (A:=[_,_,_]) (List.mem_of_getElem? hp) H
 refine eqB_ok (xs:=o.i.b.ws) (ys:=p.i.b.ws) w1.r w2.r w1.l fun h' e=>⟨_,rfl,?_⟩
 rw [hpi]
 refine bcase_false (by simp) ?_
 have H:=H.ext e
 have cell:∀ j v,o.cs[j]? = some v->hcell h' ((a.add (k*7)).add j)=some v:=fun j v hv=>e.cell (cell j v hv)
 clear e
 refine needs_of hnz ?_
 rw [add_mk]
 refine stV_hp H 0 rfl (by simp [bls]; omega) rfl fun h3 _ H=>?_
 rw [bls_set] at H
 have H:Hp hB [] h3 (⟨r79,true,T_bool,bls (F.set (0+z) true)⟩::⟨r47,true,T_api_Text,t.cs q' i c'⟩::⟨r10,true,T_api_Text,t.cs q i c⟩::(dsI P++(E++(dsI O2++E2)))):=H
 rw [Nat.zero_add] at H
 have hF':∀ j,(F.set z true).getD j false=true->∃ j' x,j'<k+1/\S2[j']? = some x/\x.s=(j:Int):=fun j hj=>by
  by_cases hjz:j=z
  ·subst hjz
   exact ⟨k,o.i,Nat.lt_succ_self k,hoS,hzs⟩
  ·rw [List.getD_eq_getElem?_getD,List.getElem?_set_ne (Ne.symm hjz),<- List.getD_eq_getElem?_getD] at hj
   obtain ⟨j',x,h1,h2,h3⟩:=hF j hj
   exact ⟨j',x,by omega,h2,h3⟩
 have nxt:∀ {h},Hp hB [] h (⟨r79,true,T_bool,bls (F.set z true)⟩::⟨r47,true,T_api_Text,t.cs q' i c'⟩::⟨r10,true,T_api_Text,t.cs q i c⟩::(dsI P++(E++(dsI O2++E2))))->∃ m_82,m_82<m/\∃ (k':Nat) (F:List Bool),k'+m_82=i/\[Value.int .i64 ((k+1:Nat):Int)]=[.int .i64 (k':Nat)]/\F.length=i/\(∀ j,F.getD j false=true->∃ j' x,j'<k'/\S2[j']? = some x/\x.s=(j:Int))/\Hp hB [] h (⟨r79,true,T_bool,bls F⟩::⟨r47,true,T_api_Text,t.cs q' i c'⟩::⟨r10,true,T_api_Text,t.cs q i c⟩::(dsI P++(E++(dsI O2++E2)))):=fun {h} H =>
  ⟨m-1,by omega,k+1,_,by omega,rfl,by rw [List.length_set]; exact hFl,hF',H⟩
 refine bcase_dec (fun h6=>?_) fun h6=>?_
 ·obtain ⟨k1,rfl⟩:∃ k1,k=k1+1:=⟨k-1,by omega⟩
  obtain ⟨o1,ho1'⟩:∃ o,O2[k1]? = some o:=⟨_,List.getElem?_eq_getElem (by omega)⟩
  have hoS1:S2[k1]? = some o1.i:=by rw [<- hp2,List.getElem?_map,ho1']; rfl
  refine bindI_of (((k1:Nat):Int)) (by exact i64_at _ _ (by omega) (by omega) (by omega)) ?_
  obtain ⟨a1,ha1,cell1⟩:=ins_at (rdS (A:=[_,_,_]) H) ho1'
  obtain ⟨a2,ha2,cell2⟩:=ins_at (rdS (A:=[_,_,_]) H) ho
  refine needs_of (by omega) (ptr_eq ha1 (needs_of hnk (ptr_eq ha2 ?_)))
  rw [Int.toNat_natCast]
  refine ld7v cell1 ?_
  refine ld7v cell2 ?_
  rw [<- hstd]
  refine behind_ok (by omega) fun r h' hr e=>⟨_,rfl,?_⟩
  have hb:Bh st o1.i o.i:=by
   have:=List.pairwise_iff_getElem.1 hbh k1 (k1+1) (by omega) (by omega) (Nat.lt_succ_self _)
   rw [(List.getElem?_eq_some_iff.1 hoS1).2,(List.getElem?_eq_some_iff.1 hoS).2] at this
   exact this
  refine bcase_not (fun hh=>by rw [hr.2 hb] at hh; cases hh) fun _=>?_
  refine bindI_of (((k1+1+1:Nat):Int)) (by exact i64_at _ _ (by omega) (by omega) (by omega)) ?_
  exact nxt (H.ext e)
 ·refine bindI_of (((k+1:Nat):Int)) (by exact i64_at _ _ (by omega) (by omega) (by omega)) ?_
  exact nxt H
theorem tSorted_arg {h:Heap} {cs:Array Value} (hsz:cs.size=TP.cellsOf T_api_Text) (hw:WDx TP h T_api_Text cs.toList) {K:VK} {Kp:PK} (hk:∀ h',hext h h'->K (.bool true) h'):CP F_burinlaw14_TextSorted #[.agg cs] h K Kp:=by
 obtain ⟨t,q,c,l,e,hv,hl⟩:=wd_text hw
 obtain rfl:cs=#[.int .i64 t.x, .int .i64 t.y, .int .i64 t.w, .int .i64 t.h, .int .i64 t.op, .bool t.rf, .int .i64 t.df, .int .i64 t.st, .slice q l.length c]:=by
  cases cs
  simpa using e
 exact tSorted_law (t:=t) hv hl hk
end
end Go.Bm
namespace Go.Proofs.YtbknfejmdekhpaaGreat
open Go.ChangeShapes Go.WideShapes Go.ChangeAt Go.RowKit
theorem own:ownKnob Tryz.prog.godebug=none:=by kernel_rfl
theorem laidOut:laidOutB Tryz.prog=true:=by kernel_rfl
theorem below_of {W W':World} (hk:Go.Den.keeps W W') (h:Go.Den.hext W.heap W'.heap):Below W.heap.size W W' :=
 ⟨hk.1,hk.2.1,hk.2.2,h.1,fun k hlt=>h.2 k hlt⟩
theorem walk_of {f:FuncId} {args:Array Value} {W:World}
  (h:Calls Tryz.prog f args W fun e w'=>Go.Den.keeps W w'/\match e with
   | .returned v=>v = .bool true/\Go.Den.hext W.heap w'.heap
   | .panicked c=>False
   | .outgrown=>False):Calls Tryz.prog f args W fun e W'=>e = .returned (.bool true)/\Below W.heap.size W W':=by
 refine h.mono fun e W' he=>?_
 obtain ⟨hk,he⟩:=he
 cases e with
 | returned v=>exact ⟨by rw [he.1],below_of hk he.2⟩
 | panicked c=>exact he.elim
 | outgrown=>exact he.elim
end Go.Proofs.YtbknfejmdekhpaaGreat
namespace Go.Proofs.YtbknfejmdekhpaaGreat
open Go.ChangeShapes Go.WideShapes Go.ChangeAt Go.RowKit
theorem textSorted_walk (W:World) {cs:Array Value} (hsz:cs.size=Tryz.prog.cellsOf 26) (hw:Go.Den.WDx Tryz.prog W.heap 26 cs.toList):Calls Tryz.prog 6 #[.agg cs] W fun e W'=>e = .returned (.bool true)/\Below W.heap.size W W' :=
 walk_of ((Go.Bm.tSorted_arg (h:=W.heap) (K:=fun v h'=>v = .bool true/\Go.Den.hext W.heap h') (Kp:=fun _ _=>False) hsz hw fun h' e=>⟨rfl,e⟩).2 W rfl)
theorem textSorted_lifted (os:Os) (started:os.Started) (H:Type) (enc:TypeId × Value->H) :
  ReturnsInHanded {} Tryz.checked os 6 .any (Rows.textSortedSpec.pre6 enc Tryz.prog Tryz.f6 Rows.textSortedRow.domain false) (Rows.textSortedSpec.post enc Tryz.prog Tryz.f6 false true false false):=by
 refine returnsInHanded_of_change_sized (C:=Tryz.checked) own started (by kernel_rfl) Tryz.func6
  (ChangeSpec.witness6 (enc:=enc) (C:=Tryz.checked) false ⟨#[],#[.agg #[.int .i64 0, .int .i64 0, .int .i64 0, .int .i64 0, .int .i64 0, .bool false, .int .i64 0, .int .i64 0, .slice none 0 0]],[]⟩ 8 (by kernel_rfl) (by kernel_rfl) (by kernel_rfl) (by kernel_rfl)) ?_
 intro W base args ds gs before hval0 hW hcnd hz _
 have hval:∀ (j:Nat) t v,Tryz.f6.params[j]? = some t->args[j]? = some v->Value.okWide Tryz.prog W .any base t v:=hval0
 have hz:∀ n∈DataW.weightsEach Tryz.prog (Tryz.f6.params.toList++Rows.textSortedSpec.plain.varTypes Tryz.prog) (ds++gs),n<=reachBytes:=fun n hn=>by simpa using List.all_eq_true.1 hz n hn
 have hW':=hW
 obtain ⟨p,q,hA0,hV,rfl,hfz,hnd⟩:=hW
 have hA:DataW.TrodAll enc Tryz.prog W 0 (fun _=>true) true Tryz.f6.params.toList args.toList ds p:=hA0
 rw [Tryz.params6] at hA hval hz
 obtain ⟨v0,vs0,d0,ds0,p0,q0,hargs,rfl,rfl,h0,r0⟩:=trodAll_cons hA
 obtain ⟨rfl,rfl,rfl⟩:=trodAll_nil r0
 obtain rfl:args=#[v0]:=by cases args; simp_all
 obtain ⟨rfl,rfl⟩:=trodVars_none hV
 obtain ⟨cs,rfl,hsz⟩:=okWide_struct Tryz.underlying26 (hval 0 26 v0 rfl rfl)
 have hwd:Go.Den.WDx Tryz.prog W.heap 26 cs.toList:=by
  obtain ⟨f,hf⟩:=h0
  exact ⟨f,Go.Den.wd_of hf fun n hn=>hz n (DataW.weights_mem_each (j:=0) rfl rfl n hn)⟩
 clear hA0 hval0
 simp only [List.append_nil] at hW'
 refine (textSorted_walk W hsz hwd).mono fun e W' ⟨he,hb⟩=>?_
 subst he
 refine ⟨_,rfl,[d0],[],_,[],p0,[],hW',?_,?_,?_,hb.frame _,fun h=>Bool.noConfusion h⟩
 ·exact trodAll_cons_mk (shut_bool Go.Proofs.Tryz.underlying4 _) trodAll_mk0
 ·exact ⟨p0,[],Below.trod laidOut (by kernel_rfl) (of_decide_eq_true (by kernel_rfl)) h0 hb (fun x hx=>by simpa using hW'.lt x hx),rfl,(List.append_nil p0).symm⟩
 ·rfl
theorem textSorted_over:Rows.textSortedRow.holds Tryz.pinned (OpenSpec.ofChange Rows.textSortedSpec) :=
 OpenClaim.holds_of_wide 6 Tryz.f6 rfl rfl rfl rfl rfl rfl rfl ⟨rfl,rfl,rfl,rfl,rfl⟩ rfl rfl rfl rfl rfl (by kernel_rfl) Tryz.func6 (by kernel_rfl)
  (of_decide_eq_true (by kernel_rfl)) (by unfold Func.isWrapper; first | (rw [if_pos (by decide +kernel)]; kernel_rfl) | (rw [if_neg (by decide +kernel)]; exact ⟨rfl,rfl⟩))
  (fun os started H enc _=>textSorted_lifted os started H enc)
theorem textSorted_proved:Rows.TextSortedSaid:=textSorted_over
#print axioms textSorted_proved
end Go.Proofs.YtbknfejmdekhpaaGreat
