/- The given statement TextMovedSaid is proved of the given program; there are no further conditions. W8: put together by wip/tools/bundle.py: TyA TyC Mlaw14TextDraws Blaw14TextDraws TyD TyE Mlaw14TextStrips Blaw14TextStrips TyG TyJ Mlaw14TextMoved Blaw14TextMoved TyK ArLink2 TyMoved. -/
import Derived.Test.YtbknfejmdekhpaaGreatW1
import Derived.Test.YtbknfejmdekhpaaGreatW2
import Derived.Test.YtbknfejmdekhpaaGreatW3
import Derived.Test.YtbknfejmdekhpaaGreatW4
import Derived.Test.YtbknfejmdekhpaaGreatW5
import Derived.Test.YtbknfejmdekhpaaGreatW6
import Derived.Test.YtbknfejmdekhpaaGreatW7
import Derived.Test.YtbknfejmdekhpaaGreatProg
import Derived.WalkKit
import Derived.ProofKit
import Derived.OpenShut
import Derived.Carry
import Derived.Deep.SlicePairs
import Derived.Lib.SmallJoins
import Derived.Test.YtbknfejmdekhpaaGreatRows
set_option linter.unusedVariables false
set_option linter.unusedSimpArgs false
set_option maxRecDepth 100000
namespace Go.Bm
open Go Go.Den Go.Den.YtbknfejmdekhpaaGreat
theorem wd_inst {h:Heap} {cs:List Value} (H:WDx TP h T_api_Instance cs):∃ o:OwI,cs=o.cs/\o.Vw h:=by
 obtain ⟨hl,hf⟩:=wd_struct Go.Proofs.Tryz.underlying47 H
 have k:TP.cellsOf T_api_Instance=7:=by kernel_rfl
 rw [k] at hl
 obtain ⟨v0,v1,v2,v3,v4,v5,v6,rfl⟩:=list7 hl
 have kb:TP.cellsOf T_api_Bitmap=3:=by kernel_rfl
 have kB:TP.cellsOf T_bool=1:=by kernel_rfl
 obtain ⟨x,e0,_⟩:=wd_int Go.Proofs.Tryz.underlying3 (one_of k_int (hf 0 _ rfl) (v:=v0) rfl)
 obtain ⟨y,e1,_⟩:=wd_int Go.Proofs.Tryz.underlying3 (one_of k_int (hf 1 _ rfl) (v:=v1) rfl)
 obtain ⟨s,e2,_⟩:=wd_int Go.Proofs.Tryz.underlying3 (one_of k_int (hf 2 _ rfl) (v:=v2) rfl)
 obtain ⟨d,e3⟩:=wd_bool Go.Proofs.Tryz.underlying4 (one_of kB (hf 3 _ rfl) (v:=v3) rfl)
 have f4:WDx TP h T_api_Bitmap (([v0,v1,v2,v3,v4,v5,v6].drop 4).take (TP.cellsOf T_api_Bitmap)):=hf 4 _ rfl
 rw [kb] at f4
 obtain ⟨w,b,q1,cap1,ws,e4,_,_,g1,g2,g3⟩:=wd_bitmap f4
 simp only [List.drop_succ_cons,List.drop_zero,List.take_succ_cons,List.take_zero,List.cons.injEq,and_true] at e0 e1 e2 e3 e4
 obtain ⟨e40,e41,e42⟩:=e4
 subst e0 e1 e2 e3 e40 e41 e42
 exact ⟨⟨⟨x,y,s,d,⟨w,b,ws⟩⟩,q1,cap1,[]⟩,rfl,g2,g3,g1⟩
theorem csI_at {O:List OwI} {j:Nat} {v:Value} (h:(csI O)[j]? = some v):∃ o,O[j / 7]? = some o/\o.cs[j % 7]? = some v:=by
 have hj:=(List.getElem?_eq_some_iff.1 h).1
 rw [csI_len] at hj
 obtain ⟨o,ho⟩:∃ o,O[j / 7]? = some o:=⟨_,List.getElem?_eq_getElem (by omega)⟩
 have h2:=csI_get' (j:=j % 7) ho (by omega)
 rw [show j / 7*7+j % 7=j by omega] at h2
 exact ⟨o,ho,h2.symm.trans h⟩
theorem wd_insts {h:Heap} {cs:List Value} (H:WDx TP h T_s_api_Instance cs):∃ q cap,∃ l:List Ins,cs=[.slice q l.length cap]/\InsV h q l/\l.length<=4000000000000:=by
 obtain ⟨q,len,cap,rfl,h1,h2,h3,h4⟩:=wd_slice Go.Proofs.Tryz.underlying24 H
 have k:TP.cellsOf T_api_Instance=7:=by kernel_rfl
 have kb:TP.bytesOf T_api_Instance=72:=by kernel_rfl
 have hrb:reachBytes=140737488351232:=rfl
 rw [k] at h4
 rw [kb] at h2
 obtain ⟨O,e1,e2⟩:=build (P:=fun i (o:OwI)=>∃ a,q=some a/\rdO h (some (a.add (i*7))) 7 o.cs/\o.Vw h) (n:=len) fun i hi=>by
  obtain ⟨a,cs',ha,hr,hd⟩:=h4 i hi
  obtain ⟨o,rfl,hv⟩:=wd_inst hd
  exact ⟨o,a,ha,hr,hv⟩
 subst e1
 refine ⟨q,cap,O.map OwI.i,by rw [List.length_map],⟨O,rfl,?_,fun o ho=>?_⟩,by rw [List.length_map]; omega⟩
 ·rw [List.length_map]
  cases q with
  | none =>
   have:=(h3 rfl).1
   obtain rfl:O=[]:=List.length_eq_zero_iff.1 this
   exact rfl
  | some a =>
   refine ⟨csI_len O,fun j v hj=>?_⟩
   obtain ⟨o,ho,hv⟩:=csI_at hj
   obtain ⟨a',ha,hr,_⟩:=e2 _ o ho
   injection ha with ha
   subst ha
   have:=hr.2 _ v hv
   rw [add_addT,show j / 7*7+j % 7=j by omega] at this
   exact this
 ·obtain ⟨i,hi⟩:=List.mem_iff_getElem?.1 ho
  obtain ⟨_,_,_,hv⟩:=e2 i o hi
  exact hv
theorem wd_text {h:Heap} {cs:List Value} (H:WDx TP h T_api_Text cs):∃ (t:Reg14) (q:Option Addr) (c:Nat) (l:List Ins),cs=t.cs q l.length c/\InsV h q l/\l.length<=4000000000000:=by
 obtain ⟨hl,hf⟩:=wd_struct Go.Proofs.Tryz.underlying26 H
 have k:TP.cellsOf T_api_Text=9:=by kernel_rfl
 rw [k] at hl
 obtain ⟨v0,v1,v2,v3,v4,v5,v6,v7,v8,rfl⟩:∃ a b c d e f g i j,cs=[a,b,c,d,e,f,g,i,j]:=by
  match cs,hl with
  | [a,b,c,d,e,f,g,i,j],_=>exact ⟨a,b,c,d,e,f,g,i,j,rfl⟩
 have kB:TP.cellsOf T_bool=1:=by kernel_rfl
 have kI:TP.cellsOf T_s_api_Instance=1:=by kernel_rfl
 obtain ⟨x,e0,_⟩:=wd_int Go.Proofs.Tryz.underlying3 (one_of k_int (hf 0 _ rfl) (v:=v0) rfl)
 obtain ⟨y,e1,_⟩:=wd_int Go.Proofs.Tryz.underlying3 (one_of k_int (hf 1 _ rfl) (v:=v1) rfl)
 obtain ⟨w,e2,_⟩:=wd_int Go.Proofs.Tryz.underlying3 (one_of k_int (hf 2 _ rfl) (v:=v2) rfl)
 obtain ⟨b,e3,_⟩:=wd_int Go.Proofs.Tryz.underlying3 (one_of k_int (hf 3 _ rfl) (v:=v3) rfl)
 obtain ⟨op,e4,_⟩:=wd_int Go.Proofs.Tryz.underlying3 (one_of k_int (hf 4 _ rfl) (v:=v4) rfl)
 obtain ⟨rf,e5⟩:=wd_bool Go.Proofs.Tryz.underlying4 (one_of kB (hf 5 _ rfl) (v:=v5) rfl)
 obtain ⟨df,e6,_⟩:=wd_int Go.Proofs.Tryz.underlying3 (one_of k_int (hf 6 _ rfl) (v:=v6) rfl)
 obtain ⟨st,e7,_⟩:=wd_int Go.Proofs.Tryz.underlying3 (one_of k_int (hf 7 _ rfl) (v:=v7) rfl)
 obtain ⟨q,c,l,e8,g1,g2⟩:=wd_insts (one_of kI (hf 8 _ rfl) (v:=v8) rfl)
 simp only [List.cons.injEq,and_true] at e0 e1 e2 e3 e4 e5 e6 e7 e8
 subst e0 e1 e2 e3 e4 e5 e6 e7 e8
 exact ⟨⟨x,y,w,b,op,rf,df,st⟩,q,c,l,rfl,g1,g2⟩
theorem wd_ask14 {h:Heap} {cs:List Value} (H:WDx TP h T_burinlaw14_Ask cs):∃ (t:Reg14) (q:Option Addr) (c:Nat) (l:List Ins) (q2:Option Addr) (c2:Nat) (sy:List Bmp),cs=t.cs q l.length c++[.slice q2 sy.length c2]/\InsV h q l/\l.length<=4000000000000/\BmsV h q2 sy/\sy.length<=4000000000000:=by
 obtain ⟨hl,hf⟩:=wd_struct Go.Proofs.Tryz.underlying29 H
 have k:TP.cellsOf T_burinlaw14_Ask=10:=by kernel_rfl
 rw [k] at hl
 obtain ⟨v0,v1,v2,v3,v4,v5,v6,v7,v8,v9,rfl⟩:∃ a b c d e f g i j k,cs=[a,b,c,d,e,f,g,i,j,k]:=by
  match cs,hl with
  | [a,b,c,d,e,f,g,i,j,k],_=>exact ⟨a,b,c,d,e,f,g,i,j,k,rfl⟩
 have kt:TP.cellsOf T_api_Text=9:=by kernel_rfl
 have k1:TP.cellsOf T_s_api_Bitmap=1:=by kernel_rfl
 have f0:WDx TP h T_api_Text (([v0,v1,v2,v3,v4,v5,v6,v7,v8,v9].drop 0).take (TP.cellsOf T_api_Text)):=hf 0 _ rfl
 rw [kt] at f0
 obtain ⟨t,q,c,l,e0,g1,g2⟩:=wd_text f0
 obtain ⟨q2,c2,sy,e9,g3,g4,_⟩:=wd_bms (one_of k1 (hf 1 _ rfl) (v:=v9) rfl)
 simp only [List.drop_zero,List.take_succ_cons,List.take_zero,List.cons.injEq,and_true] at e0 e9
 obtain ⟨e0,e1,e2,e3,e4,e5,e6,e7,e8⟩:=e0
 subst e0 e1 e2 e3 e4 e5 e6 e7 e8 e9
 exact ⟨t,q,c,l,q2,c2,sy,rfl,g1,g2,g3,g4⟩
open Classical in
noncomputable def arS (sy:List Bmp) (l:List Ins):Nat:=(l.map fun i=>if 0<=i.s/\i.s<((sy.length:Nat):Int)/\(symOf sy i.s).may then (symOf sy i.s).w.toNat*(symOf sy i.s).h.toNat else 0).sum
structure Light14 (t:Reg14) (sy:List Bmp) (l:List Ins):Prop where
 n1:l.length<=200
 n2:sy.length<=200
 w1:∀ i∈l,i.b.ws.length<=6000
 w2:∀ b∈sy,b.ws.length<=6000
 ar:arS sy l<=24000
 sz:SizeP t.w t.h->(t.w+64)*t.h<=60000
open Classical in
theorem arS_snoc (sy:List Bmp) (l:List Ins) (i:Ins):arS sy (l++[i])=arS sy l+(if 0<=i.s/\i.s<((sy.length:Nat):Int)/\(symOf sy i.s).may then (symOf sy i.s).w.toNat*(symOf sy i.s).h.toNat else 0):=by
 unfold arS
 rw [List.map_append,List.sum_append]
 simp
theorem sym_get {sy:List Bmp} {s:Int} (h:0<=s/\s<((sy.length:Nat):Int)):sy[s.toNat]? = some (symOf sy s):=by
 obtain ⟨b,hb⟩:∃ b,sy[s.toNat]? = some b:=⟨_,List.getElem?_eq_getElem (by omega)⟩
 unfold symOf
 rw [List.getD_eq_getElem?_getD,hb]
 rfl
section
variable {hB:Heap} {K:VK} {Kp:PK} {t:Reg14} {q q2:Option Addr} {c c2:Nat} {sy:List Bmp} {l:List Ins}
set_option maxHeartbeats 4000000 in
theorem light14_ok (hv:InsV hB q l) (hs:BmsV hB q2 sy) (hl:l.length<=4000000000000) (hsl:sy.length<=4000000000000) (hk:∀ (r:Bool) h',(r=true->Light14 t sy l)->hext hB h'->K (.bool r) h') :
  CP F_burinlaw14_light #[.agg #[.int .i64 t.x, .int .i64 t.y, .int .i64 t.w, .int .i64 t.h, .int .i64 t.op, .bool t.rf, .int .i64 t.df, .int .i64 t.st, .slice q l.length c, .slice q2 sy.length c2]] hB K Kp:=by
 refine call_burinlaw14_light ?_
 unfold burinlaw14_light
 have H:=Hp.nil hB []
 refine newC_hp H fun r11 h H=>?_
 have H:Hp hB [] h [⟨r11,true,T_burinlaw14_Ask,t.cs q l.length c++[.slice q2 sy.length c2]⟩]:=H
 have bad:∀ {h'},hext hB h'->K (.bool false) h':=fun e=>hk false _ (fun hh=>by cases hh) e
 obtain ⟨O,hO,hro,hvw⟩:=hv
 have hOl:O.length=l.length:=by rw [<- hO,List.length_map]
 refine ⟨fun m vs h'=>∃ (i n:Nat),i+m=sy.length/\n<=384000/\(∀ b∈sy.take i,b.ws.length<=6000)/\vs=[.int .i64 (n:Nat), .int .i64 (i:Nat)]/\h'=h,⟨sy.length,0,0,by omega,by omega,(fun b hb=>by cases hb),rfl,rfl⟩,?_⟩
 rintro m h' u xn xi ⟨i,n,him,hn,hws,hxx,rfl⟩
 injection hxx with hx1 hxx
 injection hxx with hx2 hxx
 injection hx1 with _ hx1
 injection hx2 with _ hx2
 subst xn xi
 refine ldS_of (hpA H 0 rfl rfl) ?_
 refine bcase_dec (fun h1=>?_) fun h1=>?_
 ·obtain ⟨b,hb⟩:∃ b,sy[i]? = some b:=⟨_,List.getElem?_eq_getElem (by omega)⟩
  obtain ⟨a,qa,ca,hqa,hc0⟩:=hs i b hb
  have hc:=hc0.ext H.hext
  have hbl:=hc.l1
  refine ldS_of (hpA H 0 rfl rfl) (needs_of (by omega) (ptr_at hqa ?_))
  rw [Int.toNat_natCast]
  refine ldS_of hc.c2 ?_
  refine bindI_of (((64*b.ws.length:Nat):Int)) (by exact i64_at _ _ (by omega) (by omega) (by omega)) ?_
  refine bindI_of (((n+64*b.ws.length:Nat):Int)) (by exact i64_at _ _ (by omega) (by omega) (by omega)) ?_
  refine bindI_of (((n+64*b.ws.length+8:Nat):Int)) (by exact i64_at _ _ (by omega) (by omega) (by omega)) ?_
  refine bcase_dec (fun h2=>bad H.hext) fun h2=>?_
  refine bindI_of (((i+1:Nat):Int)) (by exact i64_at _ _ (by omega) (by omega) (by omega)) ?_
  refine ⟨m-1,by omega,i+1,n+64*b.ws.length+8,by omega,by omega,fun x hx=>?_,rfl,rfl⟩
  rw [take_snocG hb] at hx
  rcases List.mem_append.1 hx with hx | hx
  ·exact hws x hx
  ·rw [List.mem_singleton.1 hx]; omega
 obtain rfl:i=sy.length:=by omega
 rw [List.take_of_length_le (Nat.le_refl _)] at hws
 refine ⟨fun m vs h''=>∃ (i n:Nat),i+m=l.length/\8*i<=n/\n<=384000/\(∀ b∈l.take i,b.b.ws.length<=6000)/\arS sy (l.take i)<=i*1048576/\vs=[.int .i64 (n:Nat), .int .i64 (arS sy (l.take i):Nat), .int .i64 (i:Nat)]/\Hp hB [] h'' [⟨r11,true,T_burinlaw14_Ask,t.cs q l.length c++[.slice q2 sy.length c2]⟩],?_,?_⟩
 ·refine ⟨l.length,0,n,by omega,by omega,by omega,(fun b hb=>by cases hb),Nat.zero_le _,rfl,H⟩
 clear H
 rintro m h u xn xa xi ⟨i,n',him,hn8,hn',hws2,har,hxx,H⟩
 injection hxx with hx1 hxx
 injection hxx with hx2 hxx
 injection hxx with hx3 hxx
 injection hx1 with _ hx1
 injection hx2 with _ hx2
 injection hx3 with _ hx3
 subst xn xa xi
 refine ldS_of (hpB H 0 rfl rfl) ?_
 refine bcase_dec (fun h1=>?_) fun h1=>?_
 ·obtain ⟨o,ho⟩:∃ o,O[i]? = some o:=⟨_,List.getElem?_eq_getElem (by omega)⟩
  have hli:l[i]? = some o.i:=by rw [<- hO,List.getElem?_map,ho]; rfl
  obtain ⟨a,ha,cell⟩:=ins_at (rdO_ext H.hext hro) ho
  have hvo:=hvw o (List.mem_of_getElem? ho)
  have hol:=hvo.l
  have hnd:0<=((i:Nat):Int)/\((i:Nat):Int)<((l.length:Nat):Int):=by omega
  refine ldS_of (hpB H 0 rfl rfl) (needs_of hnd (ptr_eq ha ?_))
  rw [Int.toNat_natCast,add_addT _ 4 2]
  refine ldS_of (cell 6 _ rfl) ?_
  refine bindI_of (((64*o.i.b.ws.length:Nat):Int)) (by exact i64_at _ _ (by omega) (by omega) (by omega)) ?_
  refine bindI_of (((n'+64*o.i.b.ws.length:Nat):Int)) (by exact i64_at _ _ (by omega) (by omega) (by omega)) ?_
  refine bindI_of (((n'+64*o.i.b.ws.length+8:Nat):Int)) (by exact i64_at _ _ (by omega) (by omega) (by omega)) ?_
  refine bcase_dec (fun h2=>bad H.hext) fun h2=>?_
  have hws3:∀ b∈l.take (i+1),b.b.ws.length<=6000:=fun x hx=>by
   rw [take_snocG hli] at hx
   rcases List.mem_append.1 hx with hx | hx
   ·exact hws2 x hx
   ·rw [List.mem_singleton.1 hx]; omega
  have hsn:=arS_snoc sy (l.take i) o.i
  rw [<- take_snocG hli] at hsn
  refine ⟨fun vs h'=>∃ r:Bool,vs=[.bool r]/\(r=true↔0<=o.i.s/\o.i.s<((sy.length:Nat):Int)/\(symOf sy o.i.s).may)/\hext h h',?_,?_⟩
  ·refine ldS_of (hpB H 0 rfl rfl) (needs_of hnd (ptr_eq ha ?_))
   refine ldI_of (cell 2 _ rfl) ?_
   refine bcase_dec (fun h3=>?_) fun h3=>⟨false,rfl,⟨(fun hh=>by cases hh),fun hh=>absurd hh.1 (by omega)⟩,hext.refl _⟩
   refine ldS_of (hpB H 0 rfl rfl) (needs_of hnd (ptr_eq ha ?_))
   refine ldI_of (cell 2 _ rfl) (ldS_of (hpA H 0 rfl rfl) ?_)
   refine bcase_dec (fun h4=>?_) fun h4=>⟨false,rfl,⟨(fun hh=>by cases hh),fun hh=>absurd hh.2.1 (by omega)⟩,hext.refl _⟩
   obtain ⟨a3,q9,c9,ha3,hc0⟩:=hs _ _ (sym_get (sy:=sy) (s:=o.i.s) ⟨by omega,h4⟩)
   have hc:=hc0.ext H.hext
   refine ldS_of (hpA H 0 rfl rfl) (ldS_of (hpB H 0 rfl rfl) (needs_of hnd (ptr_eq ha ?_)))
   refine ldI_of (cell 2 _ rfl) (needs_of (by omega) (ptr_eq ha3 ?_))
   refine ldI_of hc.c0 (ldI_of hc.c1 (ldS_of hc.c2 ?_))
   refine may_ok hc.r1 hc.w1 hc.l1 fun r h' hr e=>⟨_,rfl,r,rfl,⟨fun hh=>⟨by omega,h4,hr.1 hh⟩,fun hh=>hr.2 hh.2.2⟩,e⟩
  rintro h' u xb ⟨r,hxx,hr,e⟩
  injection hxx with hx1 hxx
  injection hx1 with hx1
  subst xb
  have H:=H.ext e
  have cell:∀ j v,o.cs[j]? = some v->hcell h' ((a.add (i*7)).add j)=some v:=fun j v hv=>e.cell (cell j v hv)
  refine bcase_of (fun h3=>?_) fun h3=>?_
  ·have hcond:=hr.1 h3
   rw [if_pos hcond] at hsn
   obtain ⟨W,X,e1,e2,hW1,hW2,hX1,hX2,hWX⟩:=size_nat hcond.2.2.1
   rw [e1,e2,Int.toNat_natCast,Int.toNat_natCast] at hsn
   obtain ⟨a3,q9,c9,ha3,hc0⟩:=hs _ _ (sym_get (sy:=sy) (s:=o.i.s) ⟨hcond.1,hcond.2.1⟩)
   have hc:=hc0.ext H.hext
   have hnd2:0<=o.i.s/\o.i.s<((sy.length:Nat):Int):=⟨hcond.1,hcond.2.1⟩
   refine ldS_of (hpA H 0 rfl rfl) (ldS_of (hpB H 0 rfl rfl) (needs_of hnd (ptr_eq ha ?_)))
   refine ldI_of (cell 2 _ rfl) (needs_of hnd2 (ptr_eq ha3 ?_))
   refine ldI_of hc.c0 ?_
   refine ldS_of (hpA H 0 rfl rfl) (ldS_of (hpB H 0 rfl rfl) (needs_of hnd (ptr_eq ha ?_)))
   refine ldI_of (cell 2 _ rfl) (needs_of hnd2 (ptr_eq ha3 ?_))
   refine ldI_of hc.c1 ?_
   have hmz:(symOf sy o.i.s).w*(symOf sy o.i.s).h=((W*X:Nat):Int):=by rw [e1,e2]; simp
   refine bindI_of (((W*X:Nat):Int)) (by exact i64_at _ _ hmz (by omega) (by omega)) ?_
   refine bindI_of (((arS sy (l.take (i+1)):Nat):Int)) (by (rw [hsn]; exact i64_at _ _ (by omega) (by omega) (by omega))) ?_
   refine bindI_of (((i+1:Nat):Int)) (by exact i64_at _ _ (by omega) (by omega) (by omega)) ?_
   exact ⟨m-1,by omega,i+1,_,by omega,by omega,by omega,hws3,by omega,rfl,H⟩
  ·rw [if_neg (fun hh=>by rw [hr.2 hh] at h3; cases h3)] at hsn
   have hsn:arS sy (l.take (i+1))=arS sy (l.take i):=hsn.trans (Nat.add_zero _)
   rw [<- hsn]
   refine bindI_of (((i+1:Nat):Int)) (by exact i64_at _ _ (by omega) (by omega) (by omega)) ?_
   exact ⟨m-1,by omega,i+1,_,by omega,by omega,by omega,hws3,by omega,rfl,H⟩
 obtain rfl:i=l.length:=by omega
 rw [List.take_of_length_le (Nat.le_refl _)] at hws2 ⊢
 refine bcase_dec (fun h2=>?_) fun h2=>bad H.hext
 refine ldS_of (hpB H 0 rfl rfl) (bcase_dec (fun h3=>?_) fun h3=>bad H.hext)
 refine ldS_of (hpA H 0 rfl rfl) (bcase_dec (fun h4=>?_) fun h4=>bad H.hext)
 refine ldI_of (hpB H 0 rfl rfl) (ldI_of (hpB H 0 rfl rfl) (rsize_ok fun b hb=>⟨_,rfl,?_⟩))
 have key:(SizeP t.w t.h->(t.w+64)*t.h<=60000)->Light14 t sy l:=fun hsz=>⟨by omega,by omega,hws2,hws,by omega,hsz⟩
 refine bcase_not (fun h5=>?_) fun h5=>?_
 ·exact hk true _ (fun _=>key fun hsz=>by rw [hb.2 hsz] at h5; cases h5) H.hext
 ·have hsz:=hb.1 h5
  obtain ⟨W,X,e1,e2,hW1,hW2,hX1,hX2,hWX⟩:=size_nat hsz
  have h64:X*64<=1048576*64:=Nat.mul_le_mul_right _ hX2
  have hmm:(t.w+64)*t.h=(((W+64)*X:Nat):Int):=by rw [e1,e2]; simp
  have hmn:(W+64)*X=W*X+64*X:=Nat.add_mul ..
  refine ldI_of (hpB H 0 rfl rfl) ?_
  refine bindI_of ((t.w+64)) (by exact i64_in _ (by omega) (by omega)) ?_
  refine ldI_of (hpB H 0 rfl rfl) ?_
  refine bindI_of ((((W+64)*X:Nat):Int)) (by exact i64_at _ _ hmm (by omega) (by omega)) ?_
  refine hk _ _ (fun hh=>key fun _=>?_) H.hext
  rw [hmm]
  exact of_decide_eq_true hh
end
end Go.Bm
namespace Go.Bm
open Go Go.Den Go.Den.YtbknfejmdekhpaaGreat
def hitP (sy:List Bmp) (x Y:Nat) (i:Ins):Bool:=getP (srcB sy i).ws (srcB sy i).w.toNat (srcB sy i).h.toNat ((x:Int)-i.x) ((Y:Int)-i.y)
def insP (sy:List Bmp) (x Y:Nat) (i:Ins):Prop:=i.x<=x/\(x:Int)<i.x+(srcB sy i).w/\i.y<=Y/\(Y:Int)<i.y+(srcB sy i).h
instance (sy:List Bmp) (x Y:Nat) (i:Ins):Decidable (insP sy x Y i):=by unfold insP; infer_instance
def lay1 (sy:List Bmp) (op x Y:Nat) (g:Bool) (i:Ins):Bool:=if insP sy x Y i then opB op g (hitP sy x Y i) else g
def cntH (sy:List Bmp) (l:List Ins) (x Y:Nat):Nat:=(l.map fun i=>(hitP sy x Y i).toNat).sum
theorem hit_in {sy:List Bmp} {x Y:Nat} {i:Ins} (h:¬ insP sy x Y i):hitP sy x Y i=false:=by
 unfold hitP getP
 rw [decide_eq_false,Bool.false_and]
 unfold insP at h
 omega
theorem layP_1 {sy:List Bmp} {op W x Y:Nat} {G:Nat->Nat->Bool} {i:Ins} (hm:(srcB sy i).may):layP sy op W G i x Y=if x<W then lay1 sy op x Y (G x Y) i else G x Y:=by
 obtain ⟨w,b,e1,e2,_⟩:=size_nat hm.1
 unfold layP lay1
 by_cases hx:x<W
 ·rw [if_pos hx]
  by_cases hi:insP sy x Y i
  ·have hi':=hi
   unfold insP at hi'
   rw [if_pos hi,if_pos (by omega)]
   unfold hitP getP
   rw [decide_eq_true (by rw [e1,e2,Int.toNat_natCast,Int.toNat_natCast]; omega),Bool.true_and]
  ·rw [if_neg hi,if_neg]
   unfold insP at hi
   omega
 ·rw [if_neg hx,if_neg (by omega)]
theorem draw_pt {sy:List Bmp} {op W x Y:Nat}:∀ (l:List Ins) (G:Nat->Nat->Bool),(∀ i∈l,(srcB sy i).may)->l.foldl (layP sy op W) G x Y=if x<W then l.foldl (lay1 sy op x Y) (G x Y) else G x Y
 | [],G,_=>by
  show G x Y=_
  split <;> rfl
 | i::l,G,h=>by
  have ih:=draw_pt (op:=op) (W:=W) (x:=x) (Y:=Y) l (layP sy op W G i) fun y hy=>h y (List.mem_cons_of_mem _ hy)
  rw [List.foldl_cons,ih,layP_1 (h i (List.mem_cons_self ..))]
  split <;> rfl
theorem drawG_pt {t:Reg14} {sy:List Bmp} {l:List Ins} {x Y:Nat} (h:∀ i∈l,(srcB sy i).may):drawG t sy l x Y=if x<t.w.toNat then l.foldl (lay1 sy t.op.toNat x Y) (decide (t.df=1)) else false:=by
 unfold drawG
 rw [draw_pt l _ h]
 unfold gndP
 by_cases hx:x<t.w.toNat
 ·rw [if_pos hx,if_pos hx]
  simp [hx]
 ·rw [if_neg hx,if_neg hx]
  simp [hx]
theorem drawG_may {t:Reg14} {sy:List Bmp} {l:List Ins} {R:List Nat} (hs:SizeP t.w t.h) (h:∀ i∈l,(srcB sy i).may) (hp:PicP t.w.toNat t.h.toNat (drawG t sy l) R):MayP t.w t.h R:=by
 obtain ⟨W,X,e1,e2,_⟩:=size_nat hs
 rw [e1,e2] at hs ⊢
 rw [e1,e2,Int.toNat_natCast,Int.toNat_natCast] at hp
 refine may_of_pix hs hp.1 hp.2.1 fun y hy x h1 h2=>?_
 rw [hp.2.2 y hy x h2,drawG_pt h,if_neg]
 rw [e1,Int.toNat_natCast]
 omega
theorem pic_get {W X:Nat} {G:Nat->Nat->Bool} {R:List Nat} (h:PicP W X G R) {x y:Nat} (hx:x<W) (hy:y<X):getP R W X (x:Int) (y:Int)=G x y:=by
 unfold getP
 rw [decide_eq_true (by omega),Bool.true_and,Int.toNat_natCast,Int.toNat_natCast]
 exact h.2.2 y hy x (by unfold wds; omega)
theorem lay1_xor {sy:List Bmp} {x Y:Nat} (g:Bool) (i:Ins):lay1 sy 2 x Y g i=(g != hitP sy x Y i):=by
 unfold lay1
 split
 ·rfl
 ·rename_i h
  rw [hit_in h]
  cases g <;> rfl
theorem cntH_cons (sy:List Bmp) (i:Ins) (l:List Ins) (x Y:Nat):cntH sy (i::l) x Y=(hitP sy x Y i).toNat+cntH sy l x Y:=rfl
theorem cntH_perm {sy:List Bmp} {a b:List Ins} (h:a.Perm b) (x Y:Nat):cntH sy a x Y=cntH sy b x Y:=(h.map _).sum_nat
theorem fold_xor {sy:List Bmp} {x Y:Nat}:∀ (l:List Ins) (g:Bool),l.foldl (lay1 sy 2 x Y) g=decide ((g.toNat+cntH sy l x Y) % 2=1)
 | [],g=>by cases g <;> rfl
 | i::l,g=>by
  rw [List.foldl_cons,fold_xor l,lay1_xor,cntH_cons,decide_eq_decide]
  cases g <;> cases hitP sy x Y i <;> simp <;> omega
theorem chkT_like {t t':Reg14} {sy:List Bmp} {l:List Ins} (h:chkT t sy l=0) (hr:RegOk t') (e:t'.rf=t.rf):chkT t' sy l=0:=by
 obtain ⟨hf,h1,h2,h3⟩:=chkT_zero h
 exact chkT_ok ⟨hf.1,hr,fun i hi=>e ▸ hf.2.2 i hi⟩ (by omega)
end Go.Bm
namespace Go.Den.YtbknfejmdekhpaaGreat
open Go Go.Den
end Go.Den.YtbknfejmdekhpaaGreat
namespace Go.Den.YtbknfejmdekhpaaGreat
open Go Go.Den
end Go.Den.YtbknfejmdekhpaaGreat
namespace Go.Bm
open Go Go.Den Go.Den.YtbknfejmdekhpaaGreat
section
variable {hB:Heap} {K:VK} {Kp:PK}
theorem getB_ok {b:Bmp} {q:Option Addr} {c:Nat} (hr:rdO hB q (b.ws.length*1) (u64s b.ws)) (hw:W64 b.ws) (hm:b.may) {x y:Int} (hk:∀ h,hext hB h->K (.int .i64 ((getP b.ws b.w.toNat b.h.toNat x y).toNat:Nat)) h) :
  CP F_burinref0_Get #[.agg #[.int .i64 b.w, .int .i64 b.h, .slice q b.ws.length c], .int .i64 x, .int .i64 y] hB K Kp:=by
 obtain ⟨bw,bh,ws⟩:=b
 obtain ⟨W,X,e1,e2,_⟩:=size_nat hm.1
 have e1:bw=(W:Int):=e1
 have e2:bh=(X:Int):=e2
 subst e1 e2
 refine get_ok hr hw hm.1 (may_len hm) fun h e=>?_
 exact hk h e
end
end Go.Bm
namespace Go.Bm
open Go Go.Den Go.Den.YtbknfejmdekhpaaGreat
theorem csI_setG:∀ (P:List OwI) (rest:List Value) (i j:Nat) (o o':OwI) (v:Value),P[i]? = some o->j<7->o'.cs=o.cs.set j v->(csI P++rest).set (i*7+j) v=csI (P.set i o')++rest
 | [],_,i,j,o,o',v,h,_,_=>by cases h
 | p::P,rest,0,j,o,o',v,h,hj,e=>by
  injection h with h
  subst h
  rw [csI_cons,List.set_cons_zero,csI_cons,e,Nat.zero_mul,Nat.zero_add,List.append_assoc,List.set_append_left _ _ (by exact hj),List.append_assoc]
 | p::P,rest,i+1,j,o,o',v,h,hj,e=>by
  rw [csI_cons,List.append_assoc,csI_setj,csI_setG P rest i j o o' v h hj e]
  rfl
section
variable {h0 h:Heap} {F:List Nat} {L:List Ent} {b:Nat} {P:List OwI} {rest:List Value} {K:Heap->Prop}
theorem stI (H:Hp h0 F h (⟨b,true,T_api_Instance,csI P++rest⟩::L)) {i j:Nat} {o o':OwI} {v:Value} (ho:P[i]? = some o) (hj:j<7) (e:o'.cs=o.cs.set j v) (hv:v.oneCell'=true)
  (hk:∀ h',Hp h0 F h' (⟨b,true,T_api_Instance,csI (P.set i o')++rest⟩::L)->K h'):stV h (((⟨b,0,none⟩:Addr).add (i*7)).add j) v K:=by
 have hi:=(List.getElem?_eq_some_iff.1 ho).1
 rw [add_mk,add_mk,Nat.zero_add]
 refine stV_hp H 0 rfl (by rw [List.length_append,csI_len]; omega) hv fun h' _ H=>hk h' ?_
 rw [<- csI_setG P rest i j o o' v ho hj e]
 exact H
end
structure HasI (G:List Ent) (P:List OwI):Prop where
 ok:∀ o∈P,o.Ok
 has:∀ o∈P,∀ e∈o.D,e∈G
end Go.Bm
namespace Go.Den.YtbknfejmdekhpaaGreat
open Go Go.Den
end Go.Den.YtbknfejmdekhpaaGreat
namespace Go.Den.YtbknfejmdekhpaaGreat
open Go Go.Den
end Go.Den.YtbknfejmdekhpaaGreat
namespace Go.Bm
open Go Go.Den Go.Den.YtbknfejmdekhpaaGreat
section
variable {hB:Heap} {K:VK} {Kp:PK}
theorem tDrawN {t:Reg14} {q q2:Option Addr} {c c2 n:Nat} {sy:List Bmp} {l:List Ins} (hn:l.length=n) (hn2:n<=1000000) (hv:InsV hB q l) (hs:BmsV hB q2 sy) (hsl:sy.length<=1000000000000) (hck:chkT t sy l=0)
  (hk:∀ R D qo co h',PicP t.w.toNat t.h.toNat (drawG t sy (srtI t.st.toNat l)) R->Slot T_uint64 1 D qo R.length co (u64s R)->Hp hB [] h' D->K (.tuple #[.agg #[.int .i64 t.w, .int .i64 t.h, .slice qo R.length co], .int .i64 0]) h') :
  CP F_text_Draw #[t.ag q n c, .slice q2 sy.length c2] hB K Kp:=by
 subst hn
 exact tDraw_ok (t:=t) hv hs hn2 hsl (fun h' hn _=>absurd hck hn) fun R D qo co h' _=>hk R D qo co h'
end
end Go.Bm
namespace Go.Bm
open Go Go.Den Go.Den.YtbknfejmdekhpaaGreat
def mvI (dx dy:Int) (i:Ins):Ins:={ i with x:=i.x+dx,y:=i.y+dy }
def mvO (dx dy:Int) (n:Nat) (O:List OwI):List OwI:=O.mapIdx fun j o=>if j<n then { o with i:=mvI dx dy o.i } else o
section
variable {dx dy:Int}
theorem mvO_len (n:Nat) (O:List OwI):(mvO dx dy n O).length=O.length:=List.length_mapIdx
theorem mvO_get {n:Nat} {O:List OwI} {j:Nat} {o:OwI} (h:O[j]? = some o):(mvO dx dy n O)[j]? = some (if j<n then { o with i:=mvI dx dy o.i } else o):=by
 unfold mvO
 rw [List.getElem?_mapIdx,h]
 rfl
theorem mvO_set {O:List OwI} {i:Nat} {o:OwI} (h:O[i]? = some o):mvO dx dy (i+1) O=(mvO dx dy i O).set i { o with i:=mvI dx dy o.i }:=by
 refine List.ext_getElem? fun j=>?_
 rcases Nat.lt_or_ge j O.length with hj | hj
 ·obtain ⟨x,hx⟩:∃ x,O[j]? = some x:=⟨_,List.getElem?_eq_getElem hj⟩
  by_cases hji:j=i
  ·subst hji
   rw [h] at hx
   injection hx with hx
   subst hx
   rw [mvO_get h,List.getElem?_set_self (by rw [mvO_len]; exact hj),if_pos (Nat.lt_succ_self _)]
  ·rw [mvO_get hx,List.getElem?_set_ne (Ne.symm hji),mvO_get hx]
   by_cases h2:j<i
   ·rw [if_pos h2,if_pos (by omega)]
   ·rw [if_neg h2,if_neg (by omega)]
 ·rw [List.getElem?_eq_none (by rw [mvO_len]; exact hj),List.getElem?_eq_none (by rw [List.length_set,mvO_len]; exact hj)]
theorem mvO_zero (O:List OwI):mvO dx dy 0 O=O:=by
 refine List.ext_getElem? fun j=>?_
 unfold mvO
 rw [List.getElem?_mapIdx]
 cases h:O[j]? with
 | none=>rfl
 | some o=>simp
theorem mvO_map {n:Nat} {O:List OwI} (h:O.length<=n):(mvO dx dy n O).map OwI.i=(O.map OwI.i).map (mvI dx dy):=by
 refine List.ext_getElem? fun j=>?_
 unfold mvO
 rw [List.getElem?_map,List.getElem?_mapIdx,List.getElem?_map,List.getElem?_map]
 cases hj:O[j]? with
 | none=>rfl
 | some o =>
  have:=(List.getElem?_eq_some_iff.1 hj).1
  simp only [Option.map_some]
  rw [if_pos (by omega)]
theorem mvO_has {n:Nat} {O:List OwI} {G:List Ent} (h:HasI G O):HasI G (mvO dx dy n O):=by
 have key:∀ o∈mvO dx dy n O,∃ x∈O,o.D=x.D/\o.i.b=x.i.b/\o.q=x.q/\o.c=x.c:=fun o ho=>by
  obtain ⟨j,hj⟩:=List.mem_iff_getElem?.1 ho
  unfold mvO at hj
  rw [List.getElem?_mapIdx] at hj
  cases hx:O[j]? with
  | none=>rw [hx] at hj; cases hj
  | some x =>
   rw [hx] at hj
   injection hj with hj
   subst hj
   refine ⟨x,List.mem_of_getElem? hx,?_⟩
   split <;> exact ⟨rfl,rfl,rfl,rfl⟩
 refine ⟨fun o ho=>?_,fun o ho e he=>?_⟩
 ·obtain ⟨x,hx,e1,e2,e3,e4⟩:=key o ho
  have:=h.ok x hx
  refine ⟨by rw [e1,e2,e3,e4]; exact this.s,by rw [e2]; exact this.w,by rw [e2]; exact this.l⟩
 ·obtain ⟨x,hx,e1,_⟩:=key o ho
  exact h.has x hx e (by rw [<- e1]; exact he)
end
theorem srcB_mv (sy:List Bmp) (dx dy:Int) (i:Ins):srcB sy (mvI dx dy i)=srcB sy i:=rfl
theorem hit_mv {sy:List Bmp} {a b:Nat} {i:Ins} {x Y:Nat}:hitP sy (x+a) (Y+b) (mvI (a:Int) (b:Int) i)=hitP sy x Y i:=by
 unfold hitP
 rw [srcB_mv]
 congr 1
 ·show ((x+a:Nat):Int)-(i.x+(a:Int))=_
  omega
 ·show ((Y+b:Nat):Int)-(i.y+(b:Int))=_
  omega
theorem cnt_mv {sy:List Bmp} {a b:Nat} {x Y:Nat}:∀ l:List Ins,cntH sy (l.map (mvI (a:Int) (b:Int))) (x+a) (Y+b)=cntH sy l x Y
 | []=>rfl
 | i::l=>by rw [List.map_cons,cntH_cons,cntH_cons,hit_mv,cnt_mv l]
theorem InsOk.mv {rf:Bool} {sy:List Bmp} {i:Ins} {dx dy:Int} (h:InsOk rf sy i) (h1:-1048576<=i.x+dx/\i.x+dx<=1048576) (h2:-1048576<=i.y+dy/\i.y+dy<=1048576):InsOk rf sy (mvI dx dy i):=⟨h.1,h1,h2,h.2.2.2.1,h.2.2.2.2⟩
theorem arI_mv (dx dy:Int):∀ l:List Ins,arI (l.map (mvI dx dy))=arI l
 | []=>rfl
 | i::l=>by rw [List.map_cons,arI_cons,arI_cons,arI_mv dx dy l]; rfl
theorem arI_app (a b:List Ins):arI (a++b)=arI a+arI b:=by
 unfold arI
 rw [List.map_append,List.sum_append]
theorem cntH_app (sy:List Bmp) (a b:List Ins) (x Y:Nat):cntH sy (a++b) x Y=cntH sy a x Y+cntH sy b x Y:=by
 unfold cntH
 rw [List.map_append,List.sum_append]
def outL (W:Int):List Ins:=[⟨W,0,0,false,⟨0,0,[]⟩⟩,⟨0,-1048576,0,false,⟨0,0,[]⟩⟩]
theorem cnt_out {sy:List Bmp} {W:Int} {x Y:Nat} (hx:(x:Int)<W) (hh:(symOf sy 0).h<1048576) (hY:0<=(symOf sy 0).h):cntH sy (outL W) x Y=0:=by
 unfold outL
 rw [cntH_cons,cntH_cons]
 rw [hit_in (i:=⟨W,0,0,false,⟨0,0,[]⟩⟩) (by
  unfold insP
  show ¬ (W<=(x:Int)/\_)
  omega),hit_in (i:=⟨0,-1048576,0,false,⟨0,0,[]⟩⟩) (by
  unfold insP
  show ¬ (_/\_/\_/\(Y:Int) < -1048576+(symOf sy 0).h)
  omega)]
 rfl
theorem outL_ok {rf:Bool} {sy:List Bmp} {W:Int} (hW:0<=W/\W<=1048576) (h:0<sy.length):∀ i∈outL W,InsOk rf sy i:=fun i hi=>by
 unfold outL at hi
 rcases List.mem_cons.1 hi with rfl | hi
 ·exact ⟨⟨Int.le_refl 0,by show (0:Int)<_; omega⟩,⟨by show -1048576<=W; omega,hW.2⟩,by show (-1048576:Int)<=0/\(0:Int)<=1048576; decide,fun _=>⟨rfl,rfl,rfl⟩,fun hh=>by cases hh⟩
 ·rw [List.mem_singleton.1 hi]
  exact ⟨⟨Int.le_refl 0,by show (0:Int)<_; omega⟩,by decide,by decide,fun _=>⟨rfl,rfl,rfl⟩,fun hh=>by cases hh⟩
end Go.Bm
namespace Go.Den.YtbknfejmdekhpaaGreat
open Go Go.Den
def burinlaw14_TextMoved (C:CallP) (p_1:Int) (p_2:Int) (p_3:Int) (p_4:Int) (p_5:Int) (p_6:Bool) (p_7:Int) (p_8:Int) (p_9:Option Addr) (p_9n:Nat) (p_9c:Nat) (p_10:Option Addr) (p_10n:Nat) (p_10c:Nat) (h:Heap) (K:VK) (Kp:PK):Prop :=
newC h [.int .i64 p_1, .int .i64 p_2, .int .i64 p_3, .int .i64 p_4, .int .i64 p_5, .bool p_6, .int .i64 p_7, .int .i64 p_8, .slice p_9 p_9n p_9c, .slice p_10 p_10n p_10c] T_burinlaw14_Ask fun r_11 h_12 =>
ldI h_12 ((⟨r_11,0,none⟩:Addr).add 0) .i64 fun x_13 =>
ldI h_12 ((⟨r_11,0,none⟩:Addr).add 1) .i64 fun x_14 =>
ldI h_12 ((⟨r_11,0,none⟩:Addr).add 2) .i64 fun x_15 =>
ldI h_12 ((⟨r_11,0,none⟩:Addr).add 3) .i64 fun x_16 =>
ldI h_12 ((⟨r_11,0,none⟩:Addr).add 4) .i64 fun x_17 =>
ldB h_12 ((⟨r_11,0,none⟩:Addr).add 5) fun x_18 =>
ldI h_12 ((⟨r_11,0,none⟩:Addr).add 6) .i64 fun x_19 =>
ldI h_12 ((⟨r_11,0,none⟩:Addr).add 7) .i64 fun x_20 =>
ldS h_12 ((⟨r_11,0,none⟩:Addr).add 8) fun x_21 x_21n x_21c =>
ldS h_12 ((⟨r_11,0,none⟩:Addr).add 9) fun x_22 x_22n x_22c =>
C F_burinlaw14_light #[.agg #[.int .i64 x_13, .int .i64 x_14, .int .i64 x_15, .int .i64 x_16, .int .i64 x_17, .bool x_18, .int .i64 x_19, .int .i64 x_20, .slice x_21 x_21n x_21c, .slice x_22 x_22n x_22c]] h_12 (fun v_23 h_24 =>
∃ (r_25:Bool),v_23 = .bool r_25/\(
bcase (!r_25) (
C F_burinlaw14_wakes #[] h_24 (fun v_26 h_27 =>
∃ (r_28:Bool),v_26 = .bool r_28/\(
K (.bool r_28) h_27)) (Kp)) <|
ldI h_24 (((⟨r_11,0,none⟩:Addr).add 0).add 0) .i64 fun x_29 =>
ldI h_24 (((⟨r_11,0,none⟩:Addr).add 0).add 1) .i64 fun x_30 =>
ldI h_24 (((⟨r_11,0,none⟩:Addr).add 0).add 2) .i64 fun x_31 =>
ldI h_24 (((⟨r_11,0,none⟩:Addr).add 0).add 3) .i64 fun x_32 =>
ldI h_24 (((⟨r_11,0,none⟩:Addr).add 0).add 4) .i64 fun x_33 =>
ldB h_24 (((⟨r_11,0,none⟩:Addr).add 0).add 5) fun x_34 =>
ldI h_24 (((⟨r_11,0,none⟩:Addr).add 0).add 6) .i64 fun x_35 =>
ldI h_24 (((⟨r_11,0,none⟩:Addr).add 0).add 7) .i64 fun x_36 =>
ldS h_24 (((⟨r_11,0,none⟩:Addr).add 0).add 8) fun x_37 x_37n x_37c =>
ldS h_24 ((⟨r_11,0,none⟩:Addr).add 9) fun x_38 x_38n x_38c =>
C F_burinref14_Bad #[.agg #[.int .i64 x_29, .int .i64 x_30, .int .i64 x_31, .int .i64 x_32, .int .i64 x_33, .bool x_34, .int .i64 x_35, .int .i64 x_36, .slice x_37 x_37n x_37c], .slice x_38 x_38n x_38c] h_24 (fun v_39 h_40 =>
∃ (r_41:Int),v_39 = .int .i64 r_41/\(
bcase (r_41 != (0:Int)) (
C F_burinlaw14_wakes #[] h_40 (fun v_42 h_43 =>
∃ (r_44:Bool),v_42 = .bool r_44/\(
K (.bool r_44) h_43)) (Kp)) <|
ldI h_40 (((⟨r_11,0,none⟩:Addr).add 0).add 2) .i64 fun x_45 =>
bindI (IntKind.i64.wrap (x_45+(100:Int))) fun z_46 =>
ldI h_40 (((⟨r_11,0,none⟩:Addr).add 0).add 3) .i64 fun x_47 =>
bindI (IntKind.i64.wrap (x_47+(20:Int))) fun z_48 =>
bindI (IntKind.i64.wrap (z_46*z_48)) fun z_49 =>
bcase (decide (z_49 > (30000:Int))) (
C F_burinlaw14_wakes #[] h_40 (fun v_50 h_51 =>
∃ (r_52:Bool),v_50 = .bool r_52/\(
K (.bool r_52) h_51)) (Kp)) <|
ldI h_40 (((⟨r_11,0,none⟩:Addr).add 0).add 0) .i64 fun x_53 =>
C F_burinkit_Within #[.int .i64 x_53, .int .i64 70] h_40 (fun v_54 h_55 =>
∃ (r_56:Int),v_54 = .int .i64 r_56/\(
ldI h_55 (((⟨r_11,0,none⟩:Addr).add 0).add 1) .i64 fun x_57 =>
C F_burinkit_Within #[.int .i64 x_57, .int .i64 3] h_55 (fun v_58 h_59 =>
∃ (r_60:Int),v_58 = .int .i64 r_60/\(
bindI (IntKind.i64.wrap ((8:Int)*r_60)) fun z_61 =>
ldI h_59 (((⟨r_11,0,none⟩:Addr).add 0).add 0) .i64 fun x_62 =>
ldI h_59 (((⟨r_11,0,none⟩:Addr).add 0).add 1) .i64 fun x_63 =>
ldI h_59 (((⟨r_11,0,none⟩:Addr).add 0).add 2) .i64 fun x_64 =>
ldI h_59 (((⟨r_11,0,none⟩:Addr).add 0).add 3) .i64 fun x_65 =>
ldI h_59 (((⟨r_11,0,none⟩:Addr).add 0).add 4) .i64 fun x_66 =>
ldB h_59 (((⟨r_11,0,none⟩:Addr).add 0).add 5) fun x_67 =>
ldI h_59 (((⟨r_11,0,none⟩:Addr).add 0).add 6) .i64 fun x_68 =>
ldI h_59 (((⟨r_11,0,none⟩:Addr).add 0).add 7) .i64 fun x_69 =>
ldS h_59 (((⟨r_11,0,none⟩:Addr).add 0).add 8) fun x_70 x_70n x_70c =>
C F_burinref0_CopyText #[.agg #[.int .i64 x_62, .int .i64 x_63, .int .i64 x_64, .int .i64 x_65, .int .i64 x_66, .bool x_67, .int .i64 x_68, .int .i64 x_69, .slice x_70 x_70n x_70c]] h_59 (fun v_71 h_72 =>
∃ (r_73:Int) (r_74:Int) (r_75:Int) (r_76:Int) (r_77:Int) (r_78:Bool) (r_79:Int) (r_80:Int) (r_81:Option Addr) (r_81n:Nat) (r_81c:Nat),v_71 = .agg #[.int .i64 r_73, .int .i64 r_74, .int .i64 r_75, .int .i64 r_76, .int .i64 r_77, .bool r_78, .int .i64 r_79, .int .i64 r_80, .slice r_81 r_81n r_81c]/\(
newC h_72 [.int .i64 0, .int .i64 0, .int .i64 0, .int .i64 0, .int .i64 0, .bool false, .int .i64 0, .int .i64 0, .slice none 0 0] T_api_Text fun r_82 h_83 =>
stVs h_83 (⟨r_82,0,none⟩:Addr) 0 [.int .i64 r_73, .int .i64 r_74, .int .i64 r_75, .int .i64 r_76, .int .i64 r_77, .bool r_78, .int .i64 r_79, .int .i64 r_80, .slice r_81 r_81n r_81c] fun h_84 =>
stV h_84 ((⟨r_82,0,none⟩:Addr).add 6) (.int .i64 0) fun h_85 =>
stV h_85 ((⟨r_82,0,none⟩:Addr).add 4) (.int .i64 2) fun h_86 =>
ldI h_86 ((⟨r_82,0,none⟩:Addr).add 0) .i64 fun x_87 =>
ldI h_86 ((⟨r_82,0,none⟩:Addr).add 1) .i64 fun x_88 =>
ldI h_86 ((⟨r_82,0,none⟩:Addr).add 2) .i64 fun x_89 =>
ldI h_86 ((⟨r_82,0,none⟩:Addr).add 3) .i64 fun x_90 =>
ldI h_86 ((⟨r_82,0,none⟩:Addr).add 4) .i64 fun x_91 =>
ldB h_86 ((⟨r_82,0,none⟩:Addr).add 5) fun x_92 =>
ldI h_86 ((⟨r_82,0,none⟩:Addr).add 6) .i64 fun x_93 =>
ldI h_86 ((⟨r_82,0,none⟩:Addr).add 7) .i64 fun x_94 =>
ldS h_86 ((⟨r_82,0,none⟩:Addr).add 8) fun x_95 x_95n x_95c =>
C F_burinref0_CopyText #[.agg #[.int .i64 x_87, .int .i64 x_88, .int .i64 x_89, .int .i64 x_90, .int .i64 x_91, .bool x_92, .int .i64 x_93, .int .i64 x_94, .slice x_95 x_95n x_95c]] h_86 (fun v_96 h_97 =>
∃ (r_98:Int) (r_99:Int) (r_100:Int) (r_101:Int) (r_102:Int) (r_103:Bool) (r_104:Int) (r_105:Int) (r_106:Option Addr) (r_106n:Nat) (r_106c:Nat),v_96 = .agg #[.int .i64 r_98, .int .i64 r_99, .int .i64 r_100, .int .i64 r_101, .int .i64 r_102, .bool r_103, .int .i64 r_104, .int .i64 r_105, .slice r_106 r_106n r_106c]/\(
newC h_97 [.int .i64 0, .int .i64 0, .int .i64 0, .int .i64 0, .int .i64 0, .bool false, .int .i64 0, .int .i64 0, .slice none 0 0] T_api_Text fun r_107 h_108 =>
stVs h_108 (⟨r_107,0,none⟩:Addr) 0 [.int .i64 r_98, .int .i64 r_99, .int .i64 r_100, .int .i64 r_101, .int .i64 r_102, .bool r_103, .int .i64 r_104, .int .i64 r_105, .slice r_106 r_106n r_106c] fun h_109 =>
ldI h_109 ((⟨r_107,0,none⟩:Addr).add 2) .i64 fun x_110 =>
bindI (IntKind.i64.wrap (x_110+r_56)) fun z_111 =>
stV h_109 ((⟨r_107,0,none⟩:Addr).add 2) (.int .i64 z_111) fun h_112 =>
ldI h_112 ((⟨r_107,0,none⟩:Addr).add 3) .i64 fun x_113 =>
bindI (IntKind.i64.wrap (x_113+z_61)) fun z_114 =>
stV h_112 ((⟨r_107,0,none⟩:Addr).add 3) (.int .i64 z_114) fun h_115 =>
∃ J_116:Nat->List Value->Heap->Prop,(∃ n_118,J_116 n_118 [.int .i64 0] h_115)/\∀ (n_118:Nat) (h_119:Heap) (u_120:Nat->Value) (i_121:Int),J_116 n_118 [.int .i64 i_121] h_119->(
ldS h_119 ((⟨r_107,0,none⟩:Addr).add 8) fun x_122 x_122n x_122c =>
bcase (decide (i_121<(x_122n:Int))) (
ldS h_119 ((⟨r_107,0,none⟩:Addr).add 8) fun x_123 x_123n x_123c =>
needs (0<=i_121/\i_121<(x_123n:Int)) <|
ptr x_123 fun a_124 =>
ldI h_119 ((a_124.add (i_121.toNat*7)).add 0) .i64 fun x_125 =>
bcase (decide (x_125 > (1048476:Int))) (
C F_burinlaw14_wakes #[] h_119 (fun v_126 h_127 =>
∃ (r_128:Bool),v_126 = .bool r_128/\(
K (.bool r_128) h_127)) (Kp)) <|
ldS h_119 ((⟨r_107,0,none⟩:Addr).add 8) fun x_129 x_129n x_129c =>
needs (0<=i_121/\i_121<(x_129n:Int)) <|
ptr x_129 fun a_130 =>
ldI h_119 ((a_130.add (i_121.toNat*7)).add 1) .i64 fun x_131 =>
bcase (decide (x_131 > (1048476:Int))) (
C F_burinlaw14_wakes #[] h_119 (fun v_132 h_133 =>
∃ (r_134:Bool),v_132 = .bool r_134/\(
K (.bool r_134) h_133)) (Kp)) <|
ldS h_119 ((⟨r_107,0,none⟩:Addr).add 8) fun x_135 x_135n x_135c =>
ldS h_119 ((⟨r_107,0,none⟩:Addr).add 8) fun x_136 x_136n x_136c =>
needs (0<=i_121/\i_121<(x_136n:Int)) <|
ptr x_136 fun a_137 =>
ldI h_119 ((a_137.add (i_121.toNat*7)).add 0) .i64 fun x_138 =>
bindI (IntKind.i64.wrap (x_138+r_56)) fun z_139 =>
needs (0<=i_121/\i_121<(x_135n:Int)) <|
ptr x_135 fun a_140 =>
stV h_119 ((a_140.add (i_121.toNat*7)).add 0) (.int .i64 z_139) fun h_141 =>
ldS h_141 ((⟨r_107,0,none⟩:Addr).add 8) fun x_142 x_142n x_142c =>
ldS h_141 ((⟨r_107,0,none⟩:Addr).add 8) fun x_143 x_143n x_143c =>
needs (0<=i_121/\i_121<(x_143n:Int)) <|
ptr x_143 fun a_144 =>
ldI h_141 ((a_144.add (i_121.toNat*7)).add 1) .i64 fun x_145 =>
bindI (IntKind.i64.wrap (x_145+z_61)) fun z_146 =>
needs (0<=i_121/\i_121<(x_142n:Int)) <|
ptr x_142 fun a_147 =>
stV h_141 ((a_147.add (i_121.toNat*7)).add 1) (.int .i64 z_146) fun h_148 =>
bindI (IntKind.i64.wrap (i_121+(1:Int))) fun z_149 =>
∃ m_117,m_117<n_118/\J_116 m_117 [.int .i64 z_149] h_148) <|
ldS h_119 ((⟨r_107,0,none⟩:Addr).add 8) fun x_150 x_150n x_150c =>
ldI h_119 ((⟨r_107,0,none⟩:Addr).add 2) .i64 fun x_151 =>
newC h_119 [.int .i64 x_151, .int .i64 0, .int .i64 0, .bool false, .int .i64 0, .int .i64 0, .slice none 0 0, .int .i64 0, .int .i64 (-1048576), .int .i64 0, .bool false, .int .i64 0, .int .i64 0, .slice none 0 0] T_api_Instance fun r_152 h_153 =>
appC h_153 T_api_Instance 7 72 [.int .i64 0, .int .i64 0, .int .i64 0, .bool false, .int .i64 0, .int .i64 0, .slice none 0 0] x_150 (x_150n) (x_150c) (some ⟨r_152,0,none⟩) (2) fun q_154 q_154n q_154c h_155 =>
stV h_155 ((⟨r_107,0,none⟩:Addr).add 8) (.slice q_154 q_154n q_154c) fun h_156 =>
∃ K_157:List Value->Heap->Prop,(
ldS h_156 ((⟨r_11,0,none⟩:Addr).add 9) fun x_160 x_160n x_160c =>
bcase ((x_160n:Int) == (0:Int)) (
ldS h_156 ((⟨r_107,0,none⟩:Addr).add 8) fun x_161 x_161n x_161c =>
ldS h_156 ((⟨r_107,0,none⟩:Addr).add 8) fun x_162 x_162n x_162c =>
bindI (IntKind.i64.wrap ((x_162n:Int)-(2:Int))) fun z_163 =>
needs (0<=z_163/\z_163<=((x_161c:Nat):Int)) <|
stV h_156 ((⟨r_107,0,none⟩:Addr).add 8) (.slice (subA x_161 (x_161c) (0) 7) (z_163.toNat-0) (x_161c-0)) fun h_164 =>
K_157 [] h_164) <|
ldS h_156 ((⟨r_11,0,none⟩:Addr).add 9) fun x_165 x_165n x_165c =>
needs (0<=(0:Int)/\(0:Int)<(x_165n:Int)) <|
ptr x_165 fun a_166 =>
ldI h_156 ((a_166.add ((0:Int).toNat*3)).add 1) .i64 fun x_167 =>
bcase (decide (x_167≥(1048576:Int))) (
C F_burinlaw14_wakes #[] h_156 (fun v_168 h_169 =>
∃ (r_170:Bool),v_168 = .bool r_170/\(
K (.bool r_170) h_169)) (Kp)) <|
K_157 [] h_156)/\∀ (h_158:Heap) (u_159:Nat->Value) ,K_157 [] h_158->(
ldI h_158 ((⟨r_82,0,none⟩:Addr).add 0) .i64 fun x_171 =>
ldI h_158 ((⟨r_82,0,none⟩:Addr).add 1) .i64 fun x_172 =>
ldI h_158 ((⟨r_82,0,none⟩:Addr).add 2) .i64 fun x_173 =>
ldI h_158 ((⟨r_82,0,none⟩:Addr).add 3) .i64 fun x_174 =>
ldI h_158 ((⟨r_82,0,none⟩:Addr).add 4) .i64 fun x_175 =>
ldB h_158 ((⟨r_82,0,none⟩:Addr).add 5) fun x_176 =>
ldI h_158 ((⟨r_82,0,none⟩:Addr).add 6) .i64 fun x_177 =>
ldI h_158 ((⟨r_82,0,none⟩:Addr).add 7) .i64 fun x_178 =>
ldS h_158 ((⟨r_82,0,none⟩:Addr).add 8) fun x_179 x_179n x_179c =>
ldS h_158 ((⟨r_11,0,none⟩:Addr).add 9) fun x_180 x_180n x_180c =>
C F_text_Draw #[.agg #[.int .i64 x_171, .int .i64 x_172, .int .i64 x_173, .int .i64 x_174, .int .i64 x_175, .bool x_176, .int .i64 x_177, .int .i64 x_178, .slice x_179 x_179n x_179c], .slice x_180 x_180n x_180c] h_158 (fun v_181 h_182 =>
∃ (r_183:Int) (r_184:Int) (r_185:Option Addr) (r_185n:Nat) (r_185c:Nat),∃ (r_186:Int),v_181 = .tuple #[.agg #[.int .i64 r_183, .int .i64 r_184, .slice r_185 r_185n r_185c], .int .i64 r_186]/\(
newC h_182 [.int .i64 0, .int .i64 0, .slice none 0 0] T_api_Bitmap fun r_187 h_188 =>
stV h_188 ((⟨r_187,0,none⟩:Addr).add 0) (.int .i64 r_183) fun h_189 =>
stV h_189 ((⟨r_187,0,none⟩:Addr).add 1) (.int .i64 r_184) fun h_190 =>
stV h_190 ((⟨r_187,0,none⟩:Addr).add 2) (.slice r_185 r_185n r_185c) fun h_191 =>
ldI h_191 ((⟨r_107,0,none⟩:Addr).add 0) .i64 fun x_192 =>
ldI h_191 ((⟨r_107,0,none⟩:Addr).add 1) .i64 fun x_193 =>
ldI h_191 ((⟨r_107,0,none⟩:Addr).add 2) .i64 fun x_194 =>
ldI h_191 ((⟨r_107,0,none⟩:Addr).add 3) .i64 fun x_195 =>
ldI h_191 ((⟨r_107,0,none⟩:Addr).add 4) .i64 fun x_196 =>
ldB h_191 ((⟨r_107,0,none⟩:Addr).add 5) fun x_197 =>
ldI h_191 ((⟨r_107,0,none⟩:Addr).add 6) .i64 fun x_198 =>
ldI h_191 ((⟨r_107,0,none⟩:Addr).add 7) .i64 fun x_199 =>
ldS h_191 ((⟨r_107,0,none⟩:Addr).add 8) fun x_200 x_200n x_200c =>
ldS h_191 ((⟨r_11,0,none⟩:Addr).add 9) fun x_201 x_201n x_201c =>
C F_text_Draw #[.agg #[.int .i64 x_192, .int .i64 x_193, .int .i64 x_194, .int .i64 x_195, .int .i64 x_196, .bool x_197, .int .i64 x_198, .int .i64 x_199, .slice x_200 x_200n x_200c], .slice x_201 x_201n x_201c] h_191 (fun v_202 h_203 =>
∃ (r_204:Int) (r_205:Int) (r_206:Option Addr) (r_206n:Nat) (r_206c:Nat),∃ (r_207:Int),v_202 = .tuple #[.agg #[.int .i64 r_204, .int .i64 r_205, .slice r_206 r_206n r_206c], .int .i64 r_207]/\(
newC h_203 [.int .i64 0, .int .i64 0, .slice none 0 0] T_api_Bitmap fun r_208 h_209 =>
stV h_209 ((⟨r_208,0,none⟩:Addr).add 0) (.int .i64 r_204) fun h_210 =>
stV h_210 ((⟨r_208,0,none⟩:Addr).add 1) (.int .i64 r_205) fun h_211 =>
stV h_211 ((⟨r_208,0,none⟩:Addr).add 2) (.slice r_206 r_206n r_206c) fun h_212 =>
bcase (r_186 != (0:Int)) (
K (.bool false) h_212) <|
bcase (r_207 != (0:Int)) (
K (.bool false) h_212) <|
ldI h_212 ((⟨r_187,0,none⟩:Addr).add 0) .i64 fun x_213 =>
ldI h_212 ((⟨r_187,0,none⟩:Addr).add 1) .i64 fun x_214 =>
ldS h_212 ((⟨r_187,0,none⟩:Addr).add 2) fun x_215 x_215n x_215c =>
C F_burinref0_May #[.agg #[.int .i64 x_213, .int .i64 x_214, .slice x_215 x_215n x_215c]] h_212 (fun v_216 h_217 =>
∃ (r_218:Bool),v_216 = .bool r_218/\(
bcase (!r_218) (
K (.bool false) h_217) <|
ldI h_217 ((⟨r_208,0,none⟩:Addr).add 0) .i64 fun x_219 =>
ldI h_217 ((⟨r_208,0,none⟩:Addr).add 1) .i64 fun x_220 =>
ldS h_217 ((⟨r_208,0,none⟩:Addr).add 2) fun x_221 x_221n x_221c =>
C F_burinref0_May #[.agg #[.int .i64 x_219, .int .i64 x_220, .slice x_221 x_221n x_221c]] h_217 (fun v_222 h_223 =>
∃ (r_224:Bool),v_222 = .bool r_224/\(
bcase (!r_224) (
K (.bool false) h_223) <|
ldI h_223 ((⟨r_187,0,none⟩:Addr).add 0) .i64 fun x_225 =>
ldI h_223 ((⟨r_82,0,none⟩:Addr).add 2) .i64 fun x_226 =>
bcase (x_225 != x_226) (
K (.bool false) h_223) <|
ldI h_223 ((⟨r_208,0,none⟩:Addr).add 0) .i64 fun x_227 =>
ldI h_223 ((⟨r_107,0,none⟩:Addr).add 2) .i64 fun x_228 =>
bcase (x_227 != x_228) (
K (.bool false) h_223) <|
ldI h_223 ((⟨r_187,0,none⟩:Addr).add 1) .i64 fun x_229 =>
ldI h_223 ((⟨r_82,0,none⟩:Addr).add 3) .i64 fun x_230 =>
bcase (x_229 != x_230) (
K (.bool false) h_223) <|
ldI h_223 ((⟨r_208,0,none⟩:Addr).add 1) .i64 fun x_231 =>
ldI h_223 ((⟨r_107,0,none⟩:Addr).add 3) .i64 fun x_232 =>
bcase (x_231 != x_232) (
K (.bool false) h_223) <|
∃ J_233:Nat->List Value->Heap->Prop,(∃ n_235,J_233 n_235 [.int .i64 0] h_223)/\∀ (n_235:Nat) (h_236:Heap) (u_237:Nat->Value) (j_238:Int),J_233 n_235 [.int .i64 j_238] h_236->(
ldI h_236 ((⟨r_82,0,none⟩:Addr).add 3) .i64 fun x_239 =>
bcase (decide (j_238<x_239)) (
∃ J_240:Nat->List Value->Heap->Prop,(∃ n_242,J_240 n_242 [.int .i64 0] h_236)/\∀ (n_242:Nat) (h_243:Heap) (u_244:Nat->Value) (i_245:Int),J_240 n_242 [.int .i64 i_245] h_243->(
ldI h_243 ((⟨r_82,0,none⟩:Addr).add 2) .i64 fun x_246 =>
bcase (decide (i_245<x_246)) (
bindI (IntKind.i64.wrap (i_245+r_56)) fun z_247 =>
bindI (IntKind.i64.wrap (j_238+z_61)) fun z_248 =>
ldI h_243 ((⟨r_187,0,none⟩:Addr).add 0) .i64 fun x_249 =>
ldI h_243 ((⟨r_187,0,none⟩:Addr).add 1) .i64 fun x_250 =>
ldS h_243 ((⟨r_187,0,none⟩:Addr).add 2) fun x_251 x_251n x_251c =>
ldI h_243 ((⟨r_208,0,none⟩:Addr).add 0) .i64 fun x_252 =>
ldI h_243 ((⟨r_208,0,none⟩:Addr).add 1) .i64 fun x_253 =>
ldS h_243 ((⟨r_208,0,none⟩:Addr).add 2) fun x_254 x_254n x_254c =>
C F_burinref0_Get #[.agg #[.int .i64 x_249, .int .i64 x_250, .slice x_251 x_251n x_251c], .int .i64 i_245, .int .i64 j_238] h_243 (fun v_255 h_256 =>
∃ (r_257:Int),v_255 = .int .i64 r_257/\(
hext h_243 h_256/\(
C F_burinref0_Get #[.agg #[.int .i64 x_252, .int .i64 x_253, .slice x_254 x_254n x_254c], .int .i64 z_247, .int .i64 z_248] h_256 (fun v_258 h_259 =>
∃ (r_260:Int),v_258 = .int .i64 r_260/\(
bcase (r_257 != r_260) (
K (.bool false) h_259) <|
bindI (IntKind.i64.wrap (i_245+(1:Int))) fun z_261 =>
∃ m_241,m_241<n_242/\J_240 m_241 [.int .i64 z_261] h_259)) (Kp)))) (Kp)) <|
bindI (IntKind.i64.wrap (j_238+(1:Int))) fun z_262 =>
∃ m_234,m_234<n_235/\J_233 m_234 [.int .i64 z_262] h_243)) <|
C F_burinlaw14_wakes #[] h_236 (fun v_263 h_264 =>
∃ (r_265:Bool),v_263 = .bool r_265/\(
K (.bool r_265) h_264)) (Kp)))) (Kp))) (Kp))) (Kp))) (Kp))))) (Kp))) (Kp))) (Kp))) (Kp))) (Kp))) (Kp)
end Go.Den.YtbknfejmdekhpaaGreat
namespace Go.Den.YtbknfejmdekhpaaGreat
open Go Go.Den
theorem call_burinlaw14_TextMoved {p_1:Int} {p_2:Int} {p_3:Int} {p_4:Int} {p_5:Int} {p_6:Bool} {p_7:Int} {p_8:Int} {p_9:Option Addr} {p_9n:Nat} {p_9c:Nat} {p_10:Option Addr} {p_10n:Nat} {p_10c:Nat} {h:Heap} {K:VK} {Kp:PK} (H:burinlaw14_TextMoved (CallsHP Go.Proofs.Tryz.prog) p_1 p_2 p_3 p_4 p_5 p_6 p_7 p_8 p_9 p_9n p_9c p_10 p_10n p_10c h K Kp):CallsHP Go.Proofs.Tryz.prog F_burinlaw14_TextMoved #[.agg #[.int .i64 p_1, .int .i64 p_2, .int .i64 p_3, .int .i64 p_4, .int .i64 p_5, .bool p_6, .int .i64 p_7, .int .i64 p_8, .slice p_9 p_9n p_9c, .slice p_10 p_10n p_10c]] h K Kp :=
 callsHP_ofE (Hints.mk (fun i=>bif Nat.beq i 16 then some ([13], .take 0 <| .take 2 <| .take 3 <| .take 5 <| .take 9 <| .take 1 <| .take 4 <| .take 6 <| .take 7 <| .take 8 <| .take 10 <| .take 11 <| .take 12 <| .bar 13 [] <| .done) else (bif Nat.beq i 17 then some ([13], .take 0 <| .take 2 <| .take 3 <| .take 5 <| .take 9 <| .take 1 <| .take 4 <| .take 6 <| .take 7 <| .take 8 <| .take 10 <| .take 11 <| .take 12 <| .bar 13 [] <| .done) else (bif Nat.beq i 33 then some ([11], .take 1 <| .take 2 <| .take 5 <| .take 6 <| .take 7 <| .take 8 <| .take 9 <| .take 10 <| .take 0 <| .take 4 <| .go 3 <| .bar 11 [] <| .take 12 <| .done) else (none)))) (fun i=>bif Nat.beq i 12 then some ([(7, .int .i64)],20769187434139292067377911607328900) else (bif Nat.beq i 28 then some ([(12, .int .i64)],53919891727363235330343754632077169006111686322878151179414385209348) else (bif Nat.beq i 31 then some ([(13, .int .i64)],53919790490266447013956395488465351512867727424089542863465761218564) else (none)))) (fun i=>bif Nat.beq i 23 then some ([],5575175665808689506056946337705608133738500) else (none)) []) (by kernel_rfl) Go.Proofs.Tryz.func9 (by kernel_rfl) (fun C=>burinlaw14_TextMoved C p_1 p_2 p_3 p_4 p_5 p_6 p_7 p_8 p_9 p_9n p_9c p_10 p_10n p_10c h K Kp) (fun C=>by kernel_rfl) H
end Go.Den.YtbknfejmdekhpaaGreat
namespace Go.Bm
open Go Go.Den Go.Den.YtbknfejmdekhpaaGreat
section
variable {hB:Heap} {K:VK} {Kp:PK}
theorem rdO_nil (h:Heap) (q:Option Addr):rdO h q (0*7) []:=by
 cases q with
 | none=>exact rfl
 | some a=>exact ⟨rfl,fun j v hj=>by cases hj⟩
set_option maxHeartbeats 8000000 in
theorem tMoved_law {t:Reg14} {q q2:Option Addr} {c c2:Nat} {l:List Ins} {sy:List Bmp} (hv:InsV hB q l) (hl:l.length<=4000000000000) (hs:BmsV hB q2 sy) (hsl:sy.length<=4000000000000) (hk:∀ h',hext hB h'->K (.bool true) h') :
  CP F_burinlaw14_TextMoved #[.agg #[.int .i64 t.x, .int .i64 t.y, .int .i64 t.w, .int .i64 t.h, .int .i64 t.op, .bool t.rf, .int .i64 t.df, .int .i64 t.st, .slice q l.length c, .slice q2 sy.length c2]] hB K Kp:=by
 refine call_burinlaw14_TextMoved ?_
 unfold burinlaw14_TextMoved
 have H:=Hp.nil hB []
 refine newC_hp H fun r11 h H=>?_
 have H:Hp hB [] h [⟨r11,true,T_burinlaw14_Ask,t.cs q l.length c++[Value.slice q2 sy.length c2]⟩]:=H
 have wk:∀ {h},hext hB h->CP F_burinlaw14_wakes #[] h (fun v_26 h_27=>∃ (r_28:Bool),v_26 = .bool r_28/\(K (.bool r_28) h_27)) (Kp):=fun e=>wakes14_ok fun h' e'=>⟨_,rfl,hk _ (e.trans e')⟩
 repeat first | with_reducible refine ldI_of (by with_unfolding_all first | exact hpA H 0 rfl rfl | exact Hp.cell H 0 rfl rfl | exact hpB H 0 rfl rfl | exact hpC H 0 rfl rfl) ?_ | with_reducible refine ldS_of (by with_unfolding_all first | exact hpA H 0 rfl rfl | exact Hp.cell H 0 rfl rfl | exact hpB H 0 rfl rfl | exact hpC H 0 rfl rfl) ?_ | with_reducible refine ldP_of (by with_unfolding_all first | exact hpA H 0 rfl rfl | exact Hp.cell H 0 rfl rfl | exact hpB H 0 rfl rfl | exact hpC H 0 rfl rfl) ?_ | with_reducible refine ldB_of (by with_unfolding_all first | exact hpA H 0 rfl rfl | exact Hp.cell H 0 rfl rfl | exact hpB H 0 rfl rfl | exact hpC H 0 rfl rfl) ?_ | with_reducible refine ldT_of (by with_unfolding_all first | exact hpA H 0 rfl rfl | exact Hp.cell H 0 rfl rfl | exact hpB H 0 rfl rfl | exact hpC H 0 rfl rfl) ?_
 refine light14_ok (t:=t) (hv.ext H.hext) (hs.ext H.hext) hl hsl fun r h' hr e=>⟨_,rfl,?_⟩
 have H:=H.ext e
 clear e
 refine bcase_not (fun _=>wk H.hext) fun h1=>?_
 have hlt:=hr h1
 clear h1 hr
 have hn1:=hlt.n1
 have hn2:=hlt.n2
 have hws:∀ i∈l,i.b.ws.length<=1000000000000:=fun i hi=>Nat.le_trans (hlt.w1 i hi) (by decide)
 repeat first | with_reducible refine ldI_of (by with_unfolding_all first | exact hpA H 0 rfl rfl | exact Hp.cell H 0 rfl rfl | exact hpB H 0 rfl rfl | exact hpC H 0 rfl rfl) ?_ | with_reducible refine ldS_of (by with_unfolding_all first | exact hpA H 0 rfl rfl | exact Hp.cell H 0 rfl rfl | exact hpB H 0 rfl rfl | exact hpC H 0 rfl rfl) ?_ | with_reducible refine ldP_of (by with_unfolding_all first | exact hpA H 0 rfl rfl | exact Hp.cell H 0 rfl rfl | exact hpB H 0 rfl rfl | exact hpC H 0 rfl rfl) ?_ | with_reducible refine ldB_of (by with_unfolding_all first | exact hpA H 0 rfl rfl | exact Hp.cell H 0 rfl rfl | exact hpB H 0 rfl rfl | exact hpC H 0 rfl rfl) ?_ | with_reducible refine ldT_of (by with_unfolding_all first | exact hpA H 0 rfl rfl | exact Hp.cell H 0 rfl rfl | exact hpB H 0 rfl rfl | exact hpC H 0 rfl rfl) ?_
 refine bad14_ok (t:=t) (hv.ext H.hext) (hs.ext H.hext) (by omega) (by omega) fun h' e=>⟨_,rfl,?_⟩
 have H:=H.ext e
 clear e
 refine bcase_ne (fun _=>wk H.hext) fun hck=>?_
 obtain ⟨hf,_,_,har⟩:=chkT_zero hck
 have hreg:=hf.2.1
 obtain ⟨W,XX,e1,e2,hW1,hW2,hX1,hX2,hWX⟩:=size_nat hreg.1
 have hsrc:∀ i∈l,(srcB sy i).may:=fun i hi=>(hf.2.2 i hi).src hf.1
 refine ldI_of (hpB H 0 rfl rfl) ?_
 refine bindI_of (((W+100:Nat):Int)) (by (rw [e1]; exact i64_at _ _ (by omega) (by omega) (by omega))) ?_
 refine ldI_of (hpB H 0 rfl rfl) ?_
 refine bindI_of (((XX+20:Nat):Int)) (by (rw [e2]; exact i64_at _ _ (by omega) (by omega) (by omega))) ?_
 have hbig:(W+100)*(XX+20)=W*XX+20*W+100*XX+2000:=by
  rw [Nat.add_mul,Nat.mul_add,Nat.mul_add]
  omega
 refine bindI_of ((((W+100)*(XX+20):Nat):Int)) (by exact i64_at _ _ (by simp) (by omega) (by omega)) ?_
 refine bcase_dec (fun _=>wk H.hext) fun hsm=>?_
 refine ldI_of (hpB H 0 rfl rfl) ?_
 refine wi_ok (n:=70) (by decide) (by decide) fun dx hdx1 hdx2=>⟨_,rfl,?_⟩
 refine ldI_of (hpB H 0 rfl rfl) ?_
 refine wi_ok (n:=3) (by decide) (by decide) fun dz hdz1 hdz2=>⟨_,rfl,?_⟩
 obtain ⟨A,rfl⟩:∃ A:Nat,dx=(A:Int):=⟨dx.toNat,by omega⟩
 obtain ⟨B,hBd⟩:∃ B:Nat,(8:Int)*dz=(B:Int):=⟨(8*dz).toNat,by omega⟩
 refine bindI_of (((B:Nat):Int)) (by (rw [hBd]; exact i64_in _ (by omega) (by omega))) ?_
 repeat first | with_reducible refine ldI_of (by with_unfolding_all first | exact hpA H 0 rfl rfl | exact Hp.cell H 0 rfl rfl | exact hpB H 0 rfl rfl | exact hpC H 0 rfl rfl) ?_ | with_reducible refine ldS_of (by with_unfolding_all first | exact hpA H 0 rfl rfl | exact Hp.cell H 0 rfl rfl | exact hpB H 0 rfl rfl | exact hpC H 0 rfl rfl) ?_ | with_reducible refine ldP_of (by with_unfolding_all first | exact hpA H 0 rfl rfl | exact Hp.cell H 0 rfl rfl | exact hpB H 0 rfl rfl | exact hpC H 0 rfl rfl) ?_ | with_reducible refine ldB_of (by with_unfolding_all first | exact hpA H 0 rfl rfl | exact Hp.cell H 0 rfl rfl | exact hpB H 0 rfl rfl | exact hpC H 0 rfl rfl) ?_ | with_reducible refine ldT_of (by with_unfolding_all first | exact hpA H 0 rfl rfl | exact Hp.cell H 0 rfl rfl | exact hpB H 0 rfl rfl | exact hpC H 0 rfl rfl) ?_
 refine cpText_ok (t:=t) (hv.ext H.hext) (by omega) hws fun R1 q1 c1 h' hL1 H'=>?_
 have H:=H.join H' hL1.w
 clear H'
 refine ⟨_,_,_,_,_,_,_,_,_,_,_,rfl,?_⟩
 refine newC_hp H fun r82 h H=>?_
 have H:=H.rot
 refine stVsA H 0 rfl rfl rfl fun h H=>?_
 refine stA H 0 rfl rfl rfl fun h H=>?_
 refine stA H 0 rfl rfl rfl fun h H=>?_
 obtain ⟨ta,hta⟩:∃ ta:Reg14,ta = { t with df:=0,op:=2 }:=⟨_,rfl⟩
 have H:Hp hB [] h (⟨r82,true,T_api_Text,ta.cs q1 l.length c1⟩::⟨r11,true,T_burinlaw14_Ask,t.cs q l.length c++[Value.slice q2 sy.length c2]⟩::R1):=by rw [hta]; exact H
 have hta':ta.w=t.w/\ta.h=t.h/\ta.st=t.st/\ta.rf=t.rf/\ta.op=2/\ta.df=0:=by rw [hta]; exact ⟨rfl,rfl,rfl,rfl,rfl,rfl⟩
 have hcka:chkT ta sy l=0:=chkT_like hck (by rw [hta]; exact ⟨hreg.1,hreg.2.1,hreg.2.2.1,⟨by show (0:Int)<=2; decide,by show (2:Int)<=4; decide⟩,⟨Int.le_refl 0,by show (0:Int)<=1; decide⟩,hreg.2.2.2.2.2⟩) hta'.2.2.2.1
 have hta2:∀ q n c,ta.ag q n c=ta.ag q n c:=fun _ _ _=>rfl
 repeat first | with_reducible refine ldI_of (by with_unfolding_all first | exact hpA H 0 rfl rfl | exact Hp.cell H 0 rfl rfl | exact hpB H 0 rfl rfl | exact hpC H 0 rfl rfl) ?_ | with_reducible refine ldS_of (by with_unfolding_all first | exact hpA H 0 rfl rfl | exact Hp.cell H 0 rfl rfl | exact hpB H 0 rfl rfl | exact hpC H 0 rfl rfl) ?_ | with_reducible refine ldP_of (by with_unfolding_all first | exact hpA H 0 rfl rfl | exact Hp.cell H 0 rfl rfl | exact hpB H 0 rfl rfl | exact hpC H 0 rfl rfl) ?_ | with_reducible refine ldB_of (by with_unfolding_all first | exact hpA H 0 rfl rfl | exact Hp.cell H 0 rfl rfl | exact hpB H 0 rfl rfl | exact hpC H 0 rfl rfl) ?_ | with_reducible refine ldT_of (by with_unfolding_all first | exact hpA H 0 rfl rfl | exact Hp.cell H 0 rfl rfl | exact hpB H 0 rfl rfl | exact hpC H 0 rfl rfl) ?_
 refine cpText_ok (t:=ta) (hL1.view H fun e he=>by simp [he]) (by omega) hws fun R2 q3 c3 h' hL2 H'=>?_
 have H:=H.join H' hL2.w
 clear H'
 refine ⟨_,_,_,_,_,_,_,_,_,_,_,rfl,?_⟩
 refine newC_hp H fun r107 h H=>?_
 have H:=H.rot
 refine stVsA H 0 rfl rfl rfl fun h H=>?_
 refine ldI_of (hpA H 0 rfl rfl) ?_
 refine bindI_of (((W+A:Nat):Int)) (by (rw [hta'.1,e1]; exact i64_at _ _ (by omega) (by omega) (by omega))) ?_
 refine stA H 0 rfl rfl rfl fun h H=>?_
 refine ldI_of (hpA H 0 rfl rfl) ?_
 refine bindI_of (((XX+B:Nat):Int)) (by (show IntKind.i64.wrap (ta.h+(B:Int))=_; rw [hta'.2.1,e2]; exact i64_at _ _ (by omega) (by omega) (by omega))) ?_
 refine stA H 0 rfl rfl rfl fun h H=>?_
 obtain ⟨tb,htb⟩:∃ tb:Reg14,tb = { ta with w:=((W+A:Nat):Int),h:=((XX+B:Nat):Int) }:=⟨_,rfl⟩
 have htb':tb.w=((W+A:Nat):Int)/\tb.h=((XX+B:Nat):Int)/\tb.st=t.st/\tb.rf=t.rf/\tb.op=2/\tb.df=0:=by rw [htb,hta]; exact ⟨rfl,rfl,rfl,rfl,rfl,rfl⟩
 obtain ⟨O,E,ho1,hO,hslO,rfl⟩:=hL2
 have hOl:O.length=l.length:=by rw [<- hO,List.length_map]
 obtain ⟨G,hG⟩:∃ G,G=R1++dsI O:=⟨_,rfl⟩
 have hGO:HasI G O:=⟨ho1,fun o ho e he=>by rw [hG]; exact List.mem_append_right _ (dsI_mem ho e he)⟩
 have H:Hp hB [] h ((⟨r107,true,T_api_Text,tb.cs q3 l.length c3⟩::⟨r82,true,T_api_Text,ta.cs q1 l.length c1⟩::⟨r11,true,T_burinlaw14_Ask,t.cs q l.length c++[Value.slice q2 sy.length c2]⟩::G)++E):=by
  rw [htb,hG]
  exact H.as (by simp only [List.cons_append,List.nil_append,List.append_assoc]; rfl)
 refine ⟨fun m vs h'=>∃ (i:Nat) (E:List Ent),i+m=l.length/\vs=[.int .i64 (i:Nat)]/\Slot T_api_Instance 7 E q3 l.length c3 (csI (mvO (A:Int) (B:Int) i O))/\(∀ x∈l.take i,x.x<=1048476/\x.y<=1048476)/\Hp hB [] h' ((⟨r107,true,T_api_Text,tb.cs q3 l.length c3⟩::⟨r82,true,T_api_Text,ta.cs q1 l.length c1⟩::⟨r11,true,T_burinlaw14_Ask,t.cs q l.length c++[Value.slice q2 sy.length c2]⟩::G)++E),⟨l.length,0,E,by omega,rfl,by rw [mvO_zero]; exact hslO,(fun x hx=>by cases hx),H⟩,?_⟩
 clear H hslO
 rintro m h u xi ⟨i,E,him,hxx,hsl,hlo,H⟩
 injection hxx with hx1 hxx
 injection hx1 with _ hx1
 subst xi
 refine ldS_of (hpA H 0 rfl rfl) ?_
 refine bcase_dec (fun h1=>?_) fun h1=>?_
 ·obtain ⟨o,ho⟩:∃ o,O[i]? = some o:=⟨_,List.getElem?_eq_getElem (by omega)⟩
  have hli:l[i]? = some o.i:=by rw [<- hO,List.getElem?_map,ho]; rfl
  have hio:=hf.2.2 _ (List.mem_of_getElem? hli)
  have hxb:=hio.2.1
  have hyb:=hio.2.2.1
  have hog:=mvO_get (dx:=(A:Int)) (dy:=(B:Int)) (n:=i) ho
  rw [if_neg (Nat.lt_irrefl i)] at hog
  have hnk:0<=((i:Nat):Int)/\((i:Nat):Int)<((l.length:Nat):Int):=by omega
  obtain ⟨hsl1,⟨rfl,rfl,hn0,rfl⟩ | ⟨b,rest,rfl,rfl,hc⟩⟩:=hsl
  ·omega
  have H:=Hp.rot (X:=_::_::_::G) H
  have H:Hp hB [] h (⟨b,true,T_api_Instance,csI (mvO (A:Int) (B:Int) i O)++rest⟩::(⟨r107,true,T_api_Text,tb.cs (some ⟨b,0,none⟩) l.length c3⟩::⟨r82,true,T_api_Text,ta.cs q1 l.length c1⟩::⟨r11,true,T_burinlaw14_Ask,t.cs q l.length c++[Value.slice q2 sy.length c2]⟩::G)):=H
  have cell:∀ {h P} {p:OwI},Hp hB [] h (⟨b,true,T_api_Instance,csI P++rest⟩::(⟨r107,true,T_api_Text,tb.cs (some ⟨b,0,none⟩) l.length c3⟩::⟨r82,true,T_api_Text,ta.cs q1 l.length c1⟩::⟨r11,true,T_burinlaw14_Ask,t.cs q l.length c++[Value.slice q2 sy.length c2]⟩::G))->P[i]? = some p->∀ j v,j<7->p.cs[j]? = some v->hcell h (((⟨b,0,none⟩:Addr).add (i*7)).add j)=some v:=fun {h P p} H hp j v hj hv=>by
   rw [add_mk,add_mk,Nat.zero_add]
   exact H.cell 0 rfl ((csI_get P rest i j p hp hj).trans hv)
  refine ldS_of (hpA H 1 rfl rfl) (needs_of hnk (ptr_of (a:=⟨b,0,none⟩) ?_))
  rw [Int.toNat_natCast]
  refine ldI_of (cell H hog 0 _ (by decide) rfl) (bcase_dec (fun _=>wk H.hext) fun h2=>?_)
  refine ldS_of (hpA H 1 rfl rfl) (needs_of hnk (ptr_of (a:=⟨b,0,none⟩) ?_))
  refine ldI_of (cell H hog 1 _ (by decide) rfl) (bcase_dec (fun _=>wk H.hext) fun h3=>?_)
  refine ldS_of (hpA H 1 rfl rfl) (ldS_of (hpA H 1 rfl rfl) (needs_of hnk (ptr_of (a:=⟨b,0,none⟩) ?_)))
  refine ldI_of (cell H hog 0 _ (by decide) rfl) ?_
  refine bindI_of ((o.i.x+(A:Int))) (by exact i64_in _ (by omega) (by omega)) ?_
  refine needs_of hnk (ptr_of (a:=⟨b,0,none⟩) ?_)
  refine stI (o':=⟨{ o.i with x:=o.i.x+(A:Int) },o.q,o.c,o.D⟩) H hog (by decide) rfl rfl fun h H=>?_
  have hog2:((mvO (A:Int) (B:Int) i O).set i ⟨{ o.i with x:=o.i.x+(A:Int) },o.q,o.c,o.D⟩)[i]? = some ⟨{ o.i with x:=o.i.x+(A:Int) },o.q,o.c,o.D⟩:=List.getElem?_set_self (by rw [mvO_len]; omega)
  refine ldS_of (hpA H 1 rfl rfl) (ldS_of (hpA H 1 rfl rfl) (needs_of hnk (ptr_of (a:=⟨b,0,none⟩) ?_)))
  refine ldI_of (cell H hog2 1 (.int .i64 o.i.y) (by decide) rfl) ?_
  refine bindI_of ((o.i.y+(B:Int))) (by exact i64_in _ (by omega) (by omega)) ?_
  refine needs_of hnk (ptr_of (a:=⟨b,0,none⟩) ?_)
  refine stI (o':=⟨mvI (A:Int) (B:Int) o.i,o.q,o.c,o.D⟩) H hog2 (by decide) rfl rfl fun h H=>?_
  rw [List.set_set] at H
  refine bindI_of (((i+1:Nat):Int)) (by exact i64_at _ _ (by omega) (by omega) (by omega)) ?_
  have hset:=mvO_set (dx:=(A:Int)) (dy:=(B:Int)) ho
  have hlen2:∀ n,(csI (mvO (A:Int) (B:Int) n O)).length=l.length*7:=fun n=>by rw [csI_len,mvO_len,hOl]
  have H:Hp hB [] h ([⟨b,true,T_api_Instance,csI (mvO (A:Int) (B:Int) (i+1) O)++rest⟩]++(⟨r107,true,T_api_Text,tb.cs (some ⟨b,0,none⟩) l.length c3⟩::⟨r82,true,T_api_Text,ta.cs q1 l.length c1⟩::⟨r11,true,T_burinlaw14_Ask,t.cs q l.length c++[Value.slice q2 sy.length c2]⟩::G)):=by rw [hset]; exact H
  refine ⟨m-1,by omega,i+1,_,by omega,rfl,Slot.one (b:=b) (rest:=rest) (hlen2 _) ?_,fun x hx=>?_,H.rot⟩
  ·rw [<- hc,List.length_append,List.length_append,hlen2,hlen2]
  ·rw [take_snocG hli] at hx
   rcases List.mem_append.1 hx with hx | hx
   ·exact hlo x hx
   ·rw [List.mem_singleton.1 hx]
    omega
 obtain rfl:i=l.length:=by omega
 rw [List.take_of_length_le (Nat.le_refl _)] at hlo
 obtain ⟨P,hP⟩:∃ P,P=mvO (A:Int) (B:Int) l.length O:=⟨_,rfl⟩
 rw [<- hP] at hsl
 have hPm:P.map OwI.i=l.map (mvI (A:Int) (B:Int)):=by rw [hP,mvO_map (by omega),hO]
 have hPG:HasI G P:=by rw [hP]; exact mvO_has hGO
 have hPl:P.length=l.length:=by rw [hP,mvO_len,hOl]
 obtain ⟨w1,hw1⟩:∃ w1:OwI,w1=⟨⟨tb.w,0,0,false,⟨0,0,[]⟩⟩,none,0,[]⟩:=⟨_,rfl⟩
 obtain ⟨w2,hw2⟩:∃ w2:OwI,w2=⟨⟨0,-1048576,0,false,⟨0,0,[]⟩⟩,none,0,[]⟩:=⟨_,rfl⟩
 have hout:[w1.i,w2.i]=outL tb.w:=by rw [hw1,hw2]; rfl
 have hwk:∀ o∈[w1,w2],o.Ok/\o.D=[]:=fun o ho=>by
  rcases List.mem_cons.1 ho with rfl | ho
  ·rw [hw1]
   exact ⟨⟨Slot.nil _ _,(fun v hv=>by cases hv),by show 0<140737488351300; decide⟩,rfl⟩
  ·rw [List.mem_singleton.1 ho,hw2]
   exact ⟨⟨Slot.nil _ _,(fun v hv=>by cases hv),by show 0<140737488351300; decide⟩,rfl⟩
 refine ldS_of (hpA H 0 rfl rfl) (ldI_of (hpA H 0 rfl rfl) ?_)
 refine newC_hp H fun r152 h H=>?_
 have H:Hp hB [] h ((⟨r107,true,T_api_Text,tb.cs q3 l.length c3⟩::⟨r82,true,T_api_Text,ta.cs q1 l.length c1⟩::⟨r11,true,T_burinlaw14_Ask,t.cs q l.length c++[Value.slice q2 sy.length c2]⟩::G)++(E++[⟨r152,true,T_api_Instance,csI [w1,w2]⟩])):=by
  rw [hw1,hw2]
  exact H.asc
 refine Slot.app (m:=2) (new:=csI [w1,w2]) hsl H rfl (Hp.rdO_mem (rest:=[]) (cs:=csI [w1,w2]) H (by rw [List.append_nil]; exact List.mem_append_right _ (List.mem_append_right _ (List.mem_singleton.2 rfl))) (csI_len _)) (csI_len _) (csI_cells _) (by decide) (by omega) fun E' q5 c5 h' hs5 H=>?_
 rw [<- csI_app] at hs5
 have H:Hp hB [] h' (⟨r107,true,T_api_Text,tb.cs q3 l.length c3⟩::⟨r82,true,T_api_Text,ta.cs q1 l.length c1⟩::⟨r11,true,T_burinlaw14_Ask,t.cs q l.length c++[Value.slice q2 sy.length c2]⟩::(G++(E'++[⟨r152,true,T_api_Instance,csI [w1,w2]⟩]))):=H
 refine stA H 0 rfl rfl rfl fun h H=>?_
 obtain ⟨G2,hG2⟩:∃ G2,G2=G++(E'++[⟨r152,true,T_api_Instance,csI [w1,w2]⟩]):=⟨_,rfl⟩
 have H:Hp hB [] h (⟨r107,true,T_api_Text,tb.cs q5 (l.length+2) c5⟩::⟨r82,true,T_api_Text,ta.cs q1 l.length c1⟩::⟨r11,true,T_burinlaw14_Ask,t.cs q l.length c++[Value.slice q2 sy.length c2]⟩::G2):=by rw [hG2]; exact H
 have hszb:SizeP tb.w tb.h:=by
  rw [htb'.1,htb'.2.1]
  have hmm:(W+A)*(XX+B)<=(W+100)*(XX+20):=Nat.mul_le_mul (by omega) (by omega)
  refine ⟨by omega,by omega,by omega,by omega,?_⟩
  have:(((W+A:Nat):Int)*((XX+B:Nat):Int))=(((W+A)*(XX+B):Nat):Int):=by simp
  rw [this]
  omega
 have hregb:RegOk tb:=by
  refine ⟨hszb,?_⟩
  rw [htb,hta]
  exact ⟨hreg.2.1,hreg.2.2.1,⟨by show (0:Int)<=2; decide,by show (2:Int)<=4; decide⟩,⟨Int.le_refl 0,by show (0:Int)<=1; decide⟩,hreg.2.2.2.2.2⟩
 have hR1G:∀ e∈R1,e∈G2:=fun e he=>by rw [hG2,hG]; simp [he]
 refine ⟨fun _ h'=>∃ (q8:Option Addr) (n8 c8:Nat) (Lb:List Ins),Lb.length=n8/\n8<=202/\(∀ {h A},Hp hB [] h (A++G2)->InsV h q8 Lb)/\chkT tb sy Lb=0/\(∀ x Y,x<W->Y<XX->cntH sy Lb (x+A) (Y+B)=cntH sy l x Y)/\Hp hB [] h' (⟨r107,true,T_api_Text,tb.cs q8 n8 c8⟩::⟨r82,true,T_api_Text,ta.cs q1 l.length c1⟩::⟨r11,true,T_burinlaw14_Ask,t.cs q l.length c++[Value.slice q2 sy.length c2]⟩::G2),?_,?_⟩
 ·refine ldS_of (hpA H 2 rfl rfl) (bcase_eq (fun h0=>?_) fun h0=>?_)
  ·have hl0:l.length=0:=by
    rcases Nat.eq_zero_or_pos l.length with h2 | h2
    ·exact h2
    ·obtain ⟨i,hi⟩:∃ i,l[0]? = some i:=⟨_,List.getElem?_eq_getElem h2⟩
     have:=(hf.2.2 i (List.mem_of_getElem? hi)).1
     omega
   have hlnil:l=[]:=List.eq_nil_of_length_eq_zero hl0
   refine ldS_of (hpA H 0 rfl rfl) (ldS_of (hpA H 0 rfl rfl) ?_)
   refine bindI_of (((0:Nat):Int)) (by exact i64_at _ _ (by omega) (by omega) (by omega)) ?_
   refine needs_of (by omega) ?_
   refine stA H 0 rfl rfl rfl fun h H=>?_
   refine ⟨subA q5 c5 0 7,0,c5,[],rfl,by decide,fun {h A} _=>⟨[],rfl,rdO_nil h _,fun o ho=>by cases ho⟩,chkT_ok ⟨hf.1,hregb,fun i hi=>by cases hi⟩ (by show ¬ (_\/16384<0\/1048576<0); omega),fun x Y _ _=>by rw [hlnil]; rfl,H⟩
  ·have hsy0:0<sy.length:=by omega
   obtain ⟨a3,q9,c9,ha3,hc0⟩:=hs 0 _ (List.getElem?_eq_getElem hsy0)
   have hc:=hc0.ext H.hext
   have hsy:symOf sy 0=sy[0]:=by
    unfold symOf
    rw [List.getD_eq_getElem?_getD,List.getElem?_eq_getElem (by exact hsy0)]
    rfl
   refine ldS_of (hpA H 2 rfl rfl) (needs_of (by omega) (ptr_eq ha3 ?_))
   refine ldI_of hc.c1 (bcase_dec (fun _=>wk H.hext) fun h2=>?_)
   have hhh:(symOf sy 0).h<1048576:=by rw [hsy]; omega
   have hmay0:=hf.1 _ (List.getElem_mem hsy0)
   have hh0:0<=(symOf sy 0).h:=by rw [hsy]; exact Int.le_trans (by decide) hmay0.1.2.1
   have hLm:(P++[w1,w2]).map OwI.i=l.map (mvI (A:Int) (B:Int))++outL tb.w:=by rw [List.map_append,hPm,<- hout]; rfl
   have hLl:(l.map (mvI (A:Int) (B:Int))++outL tb.w).length=l.length+2:=by rw [List.length_append,List.length_map]; rfl
   refine ⟨q5,l.length+2,c5,l.map (mvI (A:Int) (B:Int))++outL tb.w,hLl,by omega,fun {h A'} H=>?_,?_,fun x Y hx hY=>?_,H⟩
   ·refine ⟨P++[w1,w2],hLm,?_,fun o ho=>?_⟩
    ·rw [hLl]
     exact Slot.rdO' hs5 H fun e he=>by rw [hG2]; simp [he]
    ·have hokD:o.Ok/\∀ e∈o.D,e∈A'++G2:=by
      rcases List.mem_append.1 ho with ho | ho
      ·exact ⟨hPG.ok o ho,fun e he=>by rw [hG2]; simp [hPG.has o ho e he]⟩
      ·obtain ⟨k1,k2⟩:=hwk o ho
       exact ⟨k1,fun e he=>by rw [k2] at he; cases he⟩
     exact ⟨Slot.rdO' hokD.1.s H hokD.2,hokD.1.w,hokD.1.l⟩
   ·refine chkT_ok ⟨hf.1,hregb,fun i hi=>?_⟩ ?_
    ·rw [htb'.2.2.2.1]
     rcases List.mem_append.1 hi with hi | hi
     ·obtain ⟨j,hj,rfl⟩:=List.mem_map.1 hi
      have hj2:=hf.2.2 j hj
      have hj3:=hlo j hj
      have hj4:=hj2.2.1
      have hj5:=hj2.2.2.1
      exact hj2.mv (by omega) (by omega)
     ·exact outL_ok (by rw [htb'.1]; omega) hsy0 i hi
    ·rw [hLl,arI_app,arI_mv]
     have:arI (outL tb.w)=0:=rfl
     omega
   ·rw [cntH_app,cnt_mv,cnt_out (by rw [htb'.1]; omega) hhh hh0,Nat.add_zero]
 clear H
 rintro h u ⟨q8,n8,c8,Lb,hLbl,hn8,hLbv,hckb,hcnt,H⟩
 have hsrcb:∀ i∈Lb,(srcB sy i).may:=fun i hi=>((chkT_zero hckb).1.2.2 i hi).src hf.1
 refine ldI_of (hpA H 1 rfl rfl) (ldI_of (hpA H 1 rfl rfl) (ldI_of (hpA H 1 rfl rfl) (ldI_of (hpA H 1 rfl rfl) (ldI_of (hpA H 1 rfl rfl) (ldB_of (hpA H 1 rfl rfl) (ldI_of (hpA H 1 rfl rfl) (ldI_of (hpA H 1 rfl rfl) (ldS_of (hpA H 1 rfl rfl) (ldS_of (hpA H 2 rfl rfl) ?_)))))))))
 refine tDrawN (t:=ta) (l:=l) rfl (by omega) (hL1.view H fun e he=>List.mem_cons_of_mem _ (List.mem_cons_of_mem _ (List.mem_cons_of_mem _ (hR1G e he)))) (hs.ext H.hext) (by omega) hcka fun RA DA qA cA h' hpa hsA H'=>?_
 have H:=H.join H' hsA.w
 clear H'
 refine ⟨_,_,_,_,_,_,rfl,?_⟩
 refine newC_hp H fun r187 h H=>?_
 have H:=H.rot
 refine stA H 0 rfl rfl rfl fun h H=>?_
 refine stA H 0 rfl rfl rfl fun h H=>?_
 refine stA H 0 rfl rfl rfl fun h H=>?_
 have H:Hp hB [] h (⟨r187,true,T_api_Bitmap,[.int .i64 ta.w, .int .i64 ta.h, .slice qA RA.length cA]⟩::⟨r107,true,T_api_Text,tb.cs q8 n8 c8⟩::⟨r82,true,T_api_Text,ta.cs q1 l.length c1⟩::⟨r11,true,T_burinlaw14_Ask,t.cs q l.length c++[Value.slice q2 sy.length c2]⟩::(G2++DA)):=H
 repeat first | with_reducible refine ldI_of (by with_unfolding_all first | exact hpA H 1 rfl rfl | exact Hp.cell H 1 rfl rfl | exact hpB H 1 rfl rfl | exact hpC H 1 rfl rfl) ?_ | with_reducible refine ldS_of (by with_unfolding_all first | exact hpA H 1 rfl rfl | exact Hp.cell H 1 rfl rfl | exact hpB H 1 rfl rfl | exact hpC H 1 rfl rfl) ?_ | with_reducible refine ldP_of (by with_unfolding_all first | exact hpA H 1 rfl rfl | exact Hp.cell H 1 rfl rfl | exact hpB H 1 rfl rfl | exact hpC H 1 rfl rfl) ?_ | with_reducible refine ldB_of (by with_unfolding_all first | exact hpA H 1 rfl rfl | exact Hp.cell H 1 rfl rfl | exact hpB H 1 rfl rfl | exact hpC H 1 rfl rfl) ?_ | with_reducible refine ldT_of (by with_unfolding_all first | exact hpA H 1 rfl rfl | exact Hp.cell H 1 rfl rfl | exact hpB H 1 rfl rfl | exact hpC H 1 rfl rfl) ?_
 refine ldS_of (hpA H 3 rfl rfl) ?_
 have H2:Hp hB [] h ((⟨r187,true,T_api_Bitmap,[.int .i64 ta.w, .int .i64 ta.h, .slice qA RA.length cA]⟩::⟨r107,true,T_api_Text,tb.cs q8 n8 c8⟩::⟨r82,true,T_api_Text,ta.cs q1 l.length c1⟩::⟨r11,true,T_burinlaw14_Ask,t.cs q l.length c++[Value.slice q2 sy.length c2]⟩::G2)++DA):=H
 refine tDrawN (t:=tb) (l:=Lb) hLbl (by omega) (hLbv (A:=[_,_,_,_]) (Hp.pre H2)) (hs.ext H.hext) (by omega) hckb fun RB DB qB cB h' hpb hsB H'=>?_
 clear H2
 have H:=H.join H' hsB.w
 clear H'
 refine ⟨_,_,_,_,_,_,rfl,?_⟩
 refine newC_hp H fun r208 h H=>?_
 have H:=H.rot
 refine stA H 0 rfl rfl rfl fun h H=>?_
 refine stA H 0 rfl rfl rfl fun h H=>?_
 refine stA H 0 rfl rfl rfl fun h H=>?_
 obtain ⟨ba,hba⟩:∃ ba:Bmp,ba=⟨(W:Nat),(XX:Nat),RA⟩:=⟨_,rfl⟩
 obtain ⟨bb,hbb⟩:∃ bb:Bmp,bb=⟨((W+A:Nat):Int),((XX+B:Nat):Int),RB⟩:=⟨_,rfl⟩
 have eta:ta.w=(W:Nat)/\ta.h=(XX:Nat):=⟨hta'.1.trans e1,hta'.2.1.trans e2⟩
 have hpmA:=srtI_perm ta.st.toNat l
 have hpmB:=srtI_perm tb.st.toNat Lb
 have hsA2:∀ i∈srtI ta.st.toNat l,(srcB sy i).may:=fun i hi=>hsrc i (srtI_mem.1 hi)
 have hsB2:∀ i∈srtI tb.st.toNat Lb,(srcB sy i).may:=fun i hi=>hsrcb i (srtI_mem.1 hi)
 have hmA:ba.may:=by
  have:=drawG_may (t:=ta) (by rw [eta.1,eta.2,<- e1,<- e2]; exact hreg.1) hsA2 hpa
  rw [eta.1,eta.2] at this
  rw [hba]
  exact this
 have hmB:bb.may:=by
  have:=drawG_may (t:=tb) hszb hsB2 hpb
  rw [htb'.1,htb'.2.1] at this
  rw [hbb]
  exact this
 have hpa2:PicP W XX (drawG ta sy (srtI ta.st.toNat l)) RA:=by rw [eta.1,eta.2,Int.toNat_natCast,Int.toNat_natCast] at hpa; exact hpa
 have hpb2:PicP (W+A) (XX+B) (drawG tb sy (srtI tb.st.toNat Lb)) RB:=by rw [htb'.1,htb'.2.1,Int.toNat_natCast,Int.toNat_natCast] at hpb; exact hpb
 have hwA:W64 ba.ws:=by rw [hba]; exact hpa2.2.1
 have hwB:W64 bb.ws:=by rw [hbb]; exact hpb2.2.1
 have hlA:ba.ws.length<140737488351300:=by
  rw [hba]
  have:=hpa2.1
  have:=hw_le hW1 hWX
  show RA.length<_
  omega
 have hlB:bb.ws.length<140737488351300:=by
  rw [hbb]
  have:=hpb2.1
  have hmm:(W+A)*(XX+B)<=(W+100)*(XX+20):=Nat.mul_le_mul (by omega) (by omega)
  have:=hw_le (W:=W+A) (H:=XX+B) (by omega) (by omega)
  show RB.length<_
  omega
 have H:Hp hB [] h (⟨r208,true,T_api_Bitmap,[.int .i64 bb.w, .int .i64 bb.h, .slice qB bb.ws.length cB]⟩::⟨r187,true,T_api_Bitmap,[.int .i64 ba.w, .int .i64 ba.h, .slice qA ba.ws.length cA]⟩::⟨r107,true,T_api_Text,tb.cs q8 n8 c8⟩::⟨r82,true,T_api_Text,ta.cs q1 l.length c1⟩::⟨r11,true,T_burinlaw14_Ask,t.cs q l.length c++[Value.slice q2 sy.length c2]⟩::(G2++DA++DB)):=by
  rw [hba,hbb,<- eta.1,<- eta.2,<- htb'.1,<- htb'.2.1]
  exact H
 obtain ⟨V,hV⟩:∃ V,V=G2++DA++DB:=⟨_,rfl⟩
 rw [<- hV] at H
 have rdA':∀ {h A},Hp hB [] h (A++V)->rdO h qA (ba.ws.length*1) (u64s ba.ws):=fun H=>by
  rw [hba]
  exact Slot.rdO' hsA H fun e he=>by rw [hV]; simp [he]
 have rdB':∀ {h A},Hp hB [] h (A++V)->rdO h qB (bb.ws.length*1) (u64s bb.ws):=fun H=>by
  rw [hbb]
  exact Slot.rdO' hsB H fun e he=>by rw [hV]; simp [he]
 have eba:ba.w=(W:Nat)/\ba.h=(XX:Nat):=by rw [hba]; exact ⟨rfl,rfl⟩
 have ebb:bb.w=((W+A:Nat):Int)/\bb.h=((XX+B:Nat):Int):=by rw [hbb]; exact ⟨rfl,rfl⟩
 refine bcase_ne (fun hh=>absurd rfl hh) fun _=>?_
 refine bcase_ne (fun hh=>absurd rfl hh) fun _=>?_
 refine ldI_of (hpA H 1 rfl rfl) (ldI_of (hpA H 1 rfl rfl) (ldS_of (hpA H 1 rfl rfl) ?_))
 refine may_ok (rdA' (A:=[_,_,_,_,_]) H) hwA hlA fun r h' hr e=>⟨_,rfl,?_⟩
 have H:=H.ext e
 clear e
 refine bcase_not (fun hh=>by rw [hr.2 hmA] at hh; cases hh) fun _=>?_
 refine ldI_of (hpA H 0 rfl rfl) (ldI_of (hpA H 0 rfl rfl) (ldS_of (hpA H 0 rfl rfl) ?_))
 refine may_ok (rdB' (A:=[_,_,_,_,_]) H) hwB hlB fun r h' hr e=>⟨_,rfl,?_⟩
 have H:=H.ext e
 clear e
 refine bcase_not (fun hh=>by rw [hr.2 hmB] at hh; cases hh) fun _=>?_
 refine ldI_of (hpA H 1 rfl rfl) (ldI_of (hpA H 3 rfl rfl) (bcase_ne (fun hh=>absurd (by rw [eba.1,eta.1]) hh) fun _=>?_))
 refine ldI_of (hpA H 0 rfl rfl) (ldI_of (hpA H 2 rfl rfl) (bcase_ne (fun hh=>absurd (by rw [ebb.1,htb'.1]) hh) fun _=>?_))
 refine ldI_of (hpA H 1 rfl rfl) (ldI_of (hpA H 3 rfl rfl) (bcase_ne (fun hh=>absurd (by rw [eba.2,eta.2]) hh) fun _=>?_))
 refine ldI_of (hpA H 0 rfl rfl) (ldI_of (hpA H 2 rfl rfl) (bcase_ne (fun hh=>absurd (by rw [ebb.2,htb'.2.1]) hh) fun _=>?_))
 refine ⟨fun m vs h'=>∃ y:Nat,y+m=XX/\vs=[.int .i64 (y:Nat)]/\Hp hB [] h' (⟨r208,true,T_api_Bitmap,[.int .i64 bb.w, .int .i64 bb.h, .slice qB bb.ws.length cB]⟩::⟨r187,true,T_api_Bitmap,[.int .i64 ba.w, .int .i64 ba.h, .slice qA ba.ws.length cA]⟩::⟨r107,true,T_api_Text,tb.cs q8 n8 c8⟩::⟨r82,true,T_api_Text,ta.cs q1 l.length c1⟩::⟨r11,true,T_burinlaw14_Ask,t.cs q l.length c++[Value.slice q2 sy.length c2]⟩::V),⟨XX,0,by omega,rfl,H⟩,?_⟩
 clear H
 rintro m h u xy ⟨y,hym,hxx,H⟩
 injection hxx with hx1 hxx
 injection hx1 with _ hx1
 subst xy
 refine ldI_of (hpA H 3 rfl rfl) ?_
 rw [eta.2]
 refine bcase_dec (fun hy=>?_) fun hy=>wk H.hext
 refine ⟨fun m2 vs h'=>∃ x:Nat,x+m2=W/\vs=[.int .i64 (x:Nat)]/\Hp hB [] h' (⟨r208,true,T_api_Bitmap,[.int .i64 bb.w, .int .i64 bb.h, .slice qB bb.ws.length cB]⟩::⟨r187,true,T_api_Bitmap,[.int .i64 ba.w, .int .i64 ba.h, .slice qA ba.ws.length cA]⟩::⟨r107,true,T_api_Text,tb.cs q8 n8 c8⟩::⟨r82,true,T_api_Text,ta.cs q1 l.length c1⟩::⟨r11,true,T_burinlaw14_Ask,t.cs q l.length c++[Value.slice q2 sy.length c2]⟩::V),⟨W,0,by omega,rfl,H⟩,?_⟩
 clear H
 rintro m2 h u xx ⟨x,hxm,hxx,H⟩
 injection hxx with hx1 hxx
 injection hx1 with _ hx1
 subst xx
 refine ldI_of (hpA H 3 rfl rfl) ?_
 rw [eta.1]
 refine bcase_dec (fun hx=>?_) fun hx=>?_
 rotate_left
 ·refine bindI_of (((y+1:Nat):Int)) (by exact i64_at _ _ (by omega) (by omega) (by omega)) ?_
  exact ⟨m-1,by omega,y+1,by omega,rfl,H⟩
 refine bindI_of (((x+A:Nat):Int)) (by exact i64_at _ _ (by omega) (by omega) (by omega)) ?_
 refine bindI_of (((y+B:Nat):Int)) (by exact i64_at _ _ (by omega) (by omega) (by omega)) ?_
 have gA:getP ba.ws ba.w.toNat ba.h.toNat (x:Int) (y:Int)=decide (cntH sy l x y % 2=1):=by
  rw [hba]
  show getP RA W XX (x:Int) (y:Int)=_
  rw [pic_get hpa2 (by omega) (by omega),drawG_pt hsA2,if_pos (by rw [eta.1,Int.toNat_natCast]; omega),hta'.2.2.2.2.1,hta'.2.2.2.2.2]
  show List.foldl (lay1 sy 2 x y) _ _=_
  rw [fold_xor,cntH_perm hpmA x y]
  simp
 have gB:getP bb.ws bb.w.toNat bb.h.toNat ((x+A:Nat):Int) ((y+B:Nat):Int)=decide (cntH sy l x y % 2=1):=by
  rw [hbb]
  show getP RB (W+A) (XX+B) ((x+A:Nat):Int) ((y+B:Nat):Int)=_
  rw [pic_get hpb2 (by omega) (by omega),drawG_pt hsB2,if_pos (by rw [htb'.1,Int.toNat_natCast]; omega),htb'.2.2.2.2.1,htb'.2.2.2.2.2]
  show List.foldl (lay1 sy 2 (x+A) (y+B)) _ _=_
  rw [fold_xor,<- cntH_perm hpmB (x+A) (y+B),hcnt x y (by omega) (by omega)]
  simp
 refine ldI_of (hpA H 1 rfl rfl) (ldI_of (hpA H 1 rfl rfl) (ldS_of (hpA H 1 rfl rfl) ?_))
 refine ldI_of (hpA H 0 rfl rfl) (ldI_of (hpA H 0 rfl rfl) (ldS_of (hpA H 0 rfl rfl) ?_))
 refine getB_ok (rdA' (A:=[_,_,_,_,_]) H) hwA hmA fun h' e=>⟨_,rfl,e,?_⟩
 have H:=H.ext e
 clear e
 refine getB_ok (rdB' (A:=[_,_,_,_,_]) H) hwB hmB fun h' e=>⟨_,rfl,?_⟩
 have H:=H.ext e
 clear e
 rw [gA,gB]
 refine bcase_ne (fun hh=>absurd rfl hh) fun _=>?_
 refine bindI_of (((x+1:Nat):Int)) (by exact i64_at _ _ (by omega) (by omega) (by omega)) ?_
 exact ⟨m2-1,by omega,x+1,by omega,rfl,H⟩
theorem tMoved_arg {h:Heap} {cs:Array Value} (hsz:cs.size=TP.cellsOf T_burinlaw14_Ask) (hw:WDx TP h T_burinlaw14_Ask cs.toList) {K:VK} {Kp:PK} (hk:∀ h',hext h h'->K (.bool true) h'):CP F_burinlaw14_TextMoved #[.agg cs] h K Kp:=by
 obtain ⟨t,q,c,l,q2,c2,sy,e,hv,hl,hs,hsl⟩:=wd_ask14 hw
 obtain rfl:cs=#[.int .i64 t.x, .int .i64 t.y, .int .i64 t.w, .int .i64 t.h, .int .i64 t.op, .bool t.rf, .int .i64 t.df, .int .i64 t.st, .slice q l.length c, .slice q2 sy.length c2]:=by
  cases cs
  simpa using e
 exact tMoved_law (t:=t) hv hl hs hsl hk
end
end Go.Bm
namespace Go.Proofs.YtbknfejmdekhpaaGreat
open Go.ChangeShapes Go.WideShapes Go.ChangeAt Go.RowKit
theorem own:ownKnob Tryz.prog.godebug=none:=by kernel_rfl
theorem laidOut:laidOutB Tryz.prog=true:=by kernel_rfl
theorem below_of {W W':World} (hk:Go.Den.keeps W W') (h:Go.Den.hext W.heap W'.heap):Below W.heap.size W W' :=
 ⟨hk.1,hk.2.1,hk.2.2,h.1,fun k hlt=>h.2 k hlt⟩
theorem walk_of {f:FuncId} {args:Array Value} {W:World}
  (h:Calls Tryz.prog f args W fun e w'=>Go.Den.keeps W w'/\match e with
   | .returned v=>v = .bool true/\Go.Den.hext W.heap w'.heap
   | .panicked c=>False
   | .outgrown=>False):Calls Tryz.prog f args W fun e W'=>e = .returned (.bool true)/\Below W.heap.size W W':=by
 refine h.mono fun e W' he=>?_
 obtain ⟨hk,he⟩:=he
 cases e with
 | returned v=>exact ⟨by rw [he.1],below_of hk he.2⟩
 | panicked c=>exact he.elim
 | outgrown=>exact he.elim
end Go.Proofs.YtbknfejmdekhpaaGreat
namespace Go.Proofs.YtbknfejmdekhpaaGreat
open Go.ChangeShapes Go.WideShapes Go.ChangeAt Go.RowKit
theorem textMoved_walk (W:World) {cs:Array Value} (hsz:cs.size=Tryz.prog.cellsOf 29) (hw:Go.Den.WDx Tryz.prog W.heap 29 cs.toList):Calls Tryz.prog 9 #[.agg cs] W fun e W'=>e = .returned (.bool true)/\Below W.heap.size W W' :=
 walk_of ((Go.Bm.tMoved_arg (h:=W.heap) (K:=fun v h'=>v = .bool true/\Go.Den.hext W.heap h') (Kp:=fun _ _=>False) hsz hw fun h' e=>⟨rfl,e⟩).2 W rfl)
theorem textMoved_lifted (os:Os) (started:os.Started) (H:Type) (enc:TypeId × Value->H) :
  ReturnsInHanded {} Tryz.checked os 9 .any (Rows.textMovedSpec.pre6 enc Tryz.prog Tryz.f9 Rows.textMovedRow.domain false) (Rows.textMovedSpec.post enc Tryz.prog Tryz.f9 false true false false):=by
 refine returnsInHanded_of_change_sized (C:=Tryz.checked) own started (by kernel_rfl) Tryz.func9
  (ChangeSpec.witness6 (enc:=enc) (C:=Tryz.checked) false ⟨#[],#[.agg #[.int .i64 0, .int .i64 0, .int .i64 0, .int .i64 0, .int .i64 0, .bool false, .int .i64 0, .int .i64 0, .slice none 0 0, .slice none 0 0]],[]⟩ 8 (by kernel_rfl) (by kernel_rfl) (by kernel_rfl) (by kernel_rfl)) ?_
 intro W base args ds gs before hval0 hW hcnd hz _
 have hval:∀ (j:Nat) t v,Tryz.f9.params[j]? = some t->args[j]? = some v->Value.okWide Tryz.prog W .any base t v:=hval0
 have hz:∀ n∈DataW.weightsEach Tryz.prog (Tryz.f9.params.toList++Rows.textMovedSpec.plain.varTypes Tryz.prog) (ds++gs),n<=reachBytes:=fun n hn=>by simpa using List.all_eq_true.1 hz n hn
 have hW':=hW
 obtain ⟨p,q,hA0,hV,rfl,hfz,hnd⟩:=hW
 have hA:DataW.TrodAll enc Tryz.prog W 0 (fun _=>true) true Tryz.f9.params.toList args.toList ds p:=hA0
 rw [Tryz.params9] at hA hval hz
 obtain ⟨v0,vs0,d0,ds0,p0,q0,hargs,rfl,rfl,h0,r0⟩:=trodAll_cons hA
 obtain ⟨rfl,rfl,rfl⟩:=trodAll_nil r0
 obtain rfl:args=#[v0]:=by cases args; simp_all
 obtain ⟨rfl,rfl⟩:=trodVars_none hV
 obtain ⟨cs,rfl,hsz⟩:=okWide_struct Tryz.underlying29 (hval 0 29 v0 rfl rfl)
 have hwd:Go.Den.WDx Tryz.prog W.heap 29 cs.toList:=by
  obtain ⟨f,hf⟩:=h0
  exact ⟨f,Go.Den.wd_of hf fun n hn=>hz n (DataW.weights_mem_each (j:=0) rfl rfl n hn)⟩
 clear hA0 hval0
 simp only [List.append_nil] at hW'
 refine (textMoved_walk W hsz hwd).mono fun e W' ⟨he,hb⟩=>?_
 subst he
 refine ⟨_,rfl,[d0],[],_,[],p0,[],hW',?_,?_,?_,hb.frame _,fun h=>Bool.noConfusion h⟩
 ·exact trodAll_cons_mk (shut_bool Go.Proofs.Tryz.underlying4 _) trodAll_mk0
 ·exact ⟨p0,[],Below.trod laidOut (by kernel_rfl) (of_decide_eq_true (by kernel_rfl)) h0 hb (fun x hx=>by simpa using hW'.lt x hx),rfl,(List.append_nil p0).symm⟩
 ·rfl
theorem textMoved_over:Rows.textMovedRow.holds Tryz.pinned (OpenSpec.ofChange Rows.textMovedSpec) :=
 OpenClaim.holds_of_wide 9 Tryz.f9 rfl rfl rfl rfl rfl rfl rfl ⟨rfl,rfl,rfl,rfl,rfl⟩ rfl rfl rfl rfl rfl (by kernel_rfl) Tryz.func9 (by kernel_rfl)
  (of_decide_eq_true (by kernel_rfl)) (by unfold Func.isWrapper; first | (rw [if_pos (by decide +kernel)]; kernel_rfl) | (rw [if_neg (by decide +kernel)]; exact ⟨rfl,rfl⟩))
  (fun os started H enc _=>textMoved_lifted os started H enc)
theorem textMoved_proved:Rows.TextMovedSaid:=textMoved_over
#print axioms textMoved_proved
end Go.Proofs.YtbknfejmdekhpaaGreat
