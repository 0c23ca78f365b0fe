/- The given statement TextStripsSaid is proved of the given program; there are no further conditions. W8: put together by wip/tools/bundle.py: TyA TyC Mlaw14TextDraws Blaw14TextDraws TyD TyE Mlaw14TextStrips Blaw14TextStrips TyG ArLink2 TyStrips. -/
import Derived.Test.YtbknfejmdekhpaaGreatW1
import Derived.Test.YtbknfejmdekhpaaGreatW2
import Derived.Test.YtbknfejmdekhpaaGreatW3
import Derived.Test.YtbknfejmdekhpaaGreatW4
import Derived.Test.YtbknfejmdekhpaaGreatW5
import Derived.Test.YtbknfejmdekhpaaGreatW6
import Derived.Test.YtbknfejmdekhpaaGreatW7
import Derived.Test.YtbknfejmdekhpaaGreatProg
import Derived.WalkKit
import Derived.ProofKit
import Derived.OpenShut
import Derived.Carry
import Derived.Deep.SlicePairs
import Derived.Lib.SmallJoins
import Derived.Test.YtbknfejmdekhpaaGreatRows
set_option linter.unusedVariables false
set_option linter.unusedSimpArgs false
set_option maxRecDepth 100000
namespace Go.Bm
open Go Go.Den Go.Den.YtbknfejmdekhpaaGreat
theorem wd_inst {h:Heap} {cs:List Value} (H:WDx TP h T_api_Instance cs):∃ o:OwI,cs=o.cs/\o.Vw h:=by
 obtain ⟨hl,hf⟩:=wd_struct Go.Proofs.Tryz.underlying47 H
 have k:TP.cellsOf T_api_Instance=7:=by kernel_rfl
 rw [k] at hl
 obtain ⟨v0,v1,v2,v3,v4,v5,v6,rfl⟩:=list7 hl
 have kb:TP.cellsOf T_api_Bitmap=3:=by kernel_rfl
 have kB:TP.cellsOf T_bool=1:=by kernel_rfl
 obtain ⟨x,e0,_⟩:=wd_int Go.Proofs.Tryz.underlying3 (one_of k_int (hf 0 _ rfl) (v:=v0) rfl)
 obtain ⟨y,e1,_⟩:=wd_int Go.Proofs.Tryz.underlying3 (one_of k_int (hf 1 _ rfl) (v:=v1) rfl)
 obtain ⟨s,e2,_⟩:=wd_int Go.Proofs.Tryz.underlying3 (one_of k_int (hf 2 _ rfl) (v:=v2) rfl)
 obtain ⟨d,e3⟩:=wd_bool Go.Proofs.Tryz.underlying4 (one_of kB (hf 3 _ rfl) (v:=v3) rfl)
 have f4:WDx TP h T_api_Bitmap (([v0,v1,v2,v3,v4,v5,v6].drop 4).take (TP.cellsOf T_api_Bitmap)):=hf 4 _ rfl
 rw [kb] at f4
 obtain ⟨w,b,q1,cap1,ws,e4,_,_,g1,g2,g3⟩:=wd_bitmap f4
 simp only [List.drop_succ_cons,List.drop_zero,List.take_succ_cons,List.take_zero,List.cons.injEq,and_true] at e0 e1 e2 e3 e4
 obtain ⟨e40,e41,e42⟩:=e4
 subst e0 e1 e2 e3 e40 e41 e42
 exact ⟨⟨⟨x,y,s,d,⟨w,b,ws⟩⟩,q1,cap1,[]⟩,rfl,g2,g3,g1⟩
theorem csI_at {O:List OwI} {j:Nat} {v:Value} (h:(csI O)[j]? = some v):∃ o,O[j / 7]? = some o/\o.cs[j % 7]? = some v:=by
 have hj:=(List.getElem?_eq_some_iff.1 h).1
 rw [csI_len] at hj
 obtain ⟨o,ho⟩:∃ o,O[j / 7]? = some o:=⟨_,List.getElem?_eq_getElem (by omega)⟩
 have h2:=csI_get' (j:=j % 7) ho (by omega)
 rw [show j / 7*7+j % 7=j by omega] at h2
 exact ⟨o,ho,h2.symm.trans h⟩
theorem wd_insts {h:Heap} {cs:List Value} (H:WDx TP h T_s_api_Instance cs):∃ q cap,∃ l:List Ins,cs=[.slice q l.length cap]/\InsV h q l/\l.length<=4000000000000:=by
 obtain ⟨q,len,cap,rfl,h1,h2,h3,h4⟩:=wd_slice Go.Proofs.Tryz.underlying24 H
 have k:TP.cellsOf T_api_Instance=7:=by kernel_rfl
 have kb:TP.bytesOf T_api_Instance=72:=by kernel_rfl
 have hrb:reachBytes=140737488351232:=rfl
 rw [k] at h4
 rw [kb] at h2
 obtain ⟨O,e1,e2⟩:=build (P:=fun i (o:OwI)=>∃ a,q=some a/\rdO h (some (a.add (i*7))) 7 o.cs/\o.Vw h) (n:=len) fun i hi=>by
  obtain ⟨a,cs',ha,hr,hd⟩:=h4 i hi
  obtain ⟨o,rfl,hv⟩:=wd_inst hd
  exact ⟨o,a,ha,hr,hv⟩
 subst e1
 refine ⟨q,cap,O.map OwI.i,by rw [List.length_map],⟨O,rfl,?_,fun o ho=>?_⟩,by rw [List.length_map]; omega⟩
 ·rw [List.length_map]
  cases q with
  | none =>
   have:=(h3 rfl).1
   obtain rfl:O=[]:=List.length_eq_zero_iff.1 this
   exact rfl
  | some a =>
   refine ⟨csI_len O,fun j v hj=>?_⟩
   obtain ⟨o,ho,hv⟩:=csI_at hj
   obtain ⟨a',ha,hr,_⟩:=e2 _ o ho
   injection ha with ha
   subst ha
   have:=hr.2 _ v hv
   rw [add_addT,show j / 7*7+j % 7=j by omega] at this
   exact this
 ·obtain ⟨i,hi⟩:=List.mem_iff_getElem?.1 ho
  obtain ⟨_,_,_,hv⟩:=e2 i o hi
  exact hv
theorem wd_text {h:Heap} {cs:List Value} (H:WDx TP h T_api_Text cs):∃ (t:Reg14) (q:Option Addr) (c:Nat) (l:List Ins),cs=t.cs q l.length c/\InsV h q l/\l.length<=4000000000000:=by
 obtain ⟨hl,hf⟩:=wd_struct Go.Proofs.Tryz.underlying26 H
 have k:TP.cellsOf T_api_Text=9:=by kernel_rfl
 rw [k] at hl
 obtain ⟨v0,v1,v2,v3,v4,v5,v6,v7,v8,rfl⟩:∃ a b c d e f g i j,cs=[a,b,c,d,e,f,g,i,j]:=by
  match cs,hl with
  | [a,b,c,d,e,f,g,i,j],_=>exact ⟨a,b,c,d,e,f,g,i,j,rfl⟩
 have kB:TP.cellsOf T_bool=1:=by kernel_rfl
 have kI:TP.cellsOf T_s_api_Instance=1:=by kernel_rfl
 obtain ⟨x,e0,_⟩:=wd_int Go.Proofs.Tryz.underlying3 (one_of k_int (hf 0 _ rfl) (v:=v0) rfl)
 obtain ⟨y,e1,_⟩:=wd_int Go.Proofs.Tryz.underlying3 (one_of k_int (hf 1 _ rfl) (v:=v1) rfl)
 obtain ⟨w,e2,_⟩:=wd_int Go.Proofs.Tryz.underlying3 (one_of k_int (hf 2 _ rfl) (v:=v2) rfl)
 obtain ⟨b,e3,_⟩:=wd_int Go.Proofs.Tryz.underlying3 (one_of k_int (hf 3 _ rfl) (v:=v3) rfl)
 obtain ⟨op,e4,_⟩:=wd_int Go.Proofs.Tryz.underlying3 (one_of k_int (hf 4 _ rfl) (v:=v4) rfl)
 obtain ⟨rf,e5⟩:=wd_bool Go.Proofs.Tryz.underlying4 (one_of kB (hf 5 _ rfl) (v:=v5) rfl)
 obtain ⟨df,e6,_⟩:=wd_int Go.Proofs.Tryz.underlying3 (one_of k_int (hf 6 _ rfl) (v:=v6) rfl)
 obtain ⟨st,e7,_⟩:=wd_int Go.Proofs.Tryz.underlying3 (one_of k_int (hf 7 _ rfl) (v:=v7) rfl)
 obtain ⟨q,c,l,e8,g1,g2⟩:=wd_insts (one_of kI (hf 8 _ rfl) (v:=v8) rfl)
 simp only [List.cons.injEq,and_true] at e0 e1 e2 e3 e4 e5 e6 e7 e8
 subst e0 e1 e2 e3 e4 e5 e6 e7 e8
 exact ⟨⟨x,y,w,b,op,rf,df,st⟩,q,c,l,rfl,g1,g2⟩
theorem wd_ask14 {h:Heap} {cs:List Value} (H:WDx TP h T_burinlaw14_Ask cs):∃ (t:Reg14) (q:Option Addr) (c:Nat) (l:List Ins) (q2:Option Addr) (c2:Nat) (sy:List Bmp),cs=t.cs q l.length c++[.slice q2 sy.length c2]/\InsV h q l/\l.length<=4000000000000/\BmsV h q2 sy/\sy.length<=4000000000000:=by
 obtain ⟨hl,hf⟩:=wd_struct Go.Proofs.Tryz.underlying29 H
 have k:TP.cellsOf T_burinlaw14_Ask=10:=by kernel_rfl
 rw [k] at hl
 obtain ⟨v0,v1,v2,v3,v4,v5,v6,v7,v8,v9,rfl⟩:∃ a b c d e f g i j k,cs=[a,b,c,d,e,f,g,i,j,k]:=by
  match cs,hl with
  | [a,b,c,d,e,f,g,i,j,k],_=>exact ⟨a,b,c,d,e,f,g,i,j,k,rfl⟩
 have kt:TP.cellsOf T_api_Text=9:=by kernel_rfl
 have k1:TP.cellsOf T_s_api_Bitmap=1:=by kernel_rfl
 have f0:WDx TP h T_api_Text (([v0,v1,v2,v3,v4,v5,v6,v7,v8,v9].drop 0).take (TP.cellsOf T_api_Text)):=hf 0 _ rfl
 rw [kt] at f0
 obtain ⟨t,q,c,l,e0,g1,g2⟩:=wd_text f0
 obtain ⟨q2,c2,sy,e9,g3,g4,_⟩:=wd_bms (one_of k1 (hf 1 _ rfl) (v:=v9) rfl)
 simp only [List.drop_zero,List.take_succ_cons,List.take_zero,List.cons.injEq,and_true] at e0 e9
 obtain ⟨e0,e1,e2,e3,e4,e5,e6,e7,e8⟩:=e0
 subst e0 e1 e2 e3 e4 e5 e6 e7 e8 e9
 exact ⟨t,q,c,l,q2,c2,sy,rfl,g1,g2,g3,g4⟩
open Classical in
noncomputable def arS (sy:List Bmp) (l:List Ins):Nat:=(l.map fun i=>if 0<=i.s/\i.s<((sy.length:Nat):Int)/\(symOf sy i.s).may then (symOf sy i.s).w.toNat*(symOf sy i.s).h.toNat else 0).sum
structure Light14 (t:Reg14) (sy:List Bmp) (l:List Ins):Prop where
 n1:l.length<=200
 n2:sy.length<=200
 w1:∀ i∈l,i.b.ws.length<=6000
 w2:∀ b∈sy,b.ws.length<=6000
 ar:arS sy l<=24000
 sz:SizeP t.w t.h->(t.w+64)*t.h<=60000
open Classical in
theorem arS_snoc (sy:List Bmp) (l:List Ins) (i:Ins):arS sy (l++[i])=arS sy l+(if 0<=i.s/\i.s<((sy.length:Nat):Int)/\(symOf sy i.s).may then (symOf sy i.s).w.toNat*(symOf sy i.s).h.toNat else 0):=by
 unfold arS
 rw [List.map_append,List.sum_append]
 simp
theorem sym_get {sy:List Bmp} {s:Int} (h:0<=s/\s<((sy.length:Nat):Int)):sy[s.toNat]? = some (symOf sy s):=by
 obtain ⟨b,hb⟩:∃ b,sy[s.toNat]? = some b:=⟨_,List.getElem?_eq_getElem (by omega)⟩
 unfold symOf
 rw [List.getD_eq_getElem?_getD,hb]
 rfl
section
variable {hB:Heap} {K:VK} {Kp:PK} {t:Reg14} {q q2:Option Addr} {c c2:Nat} {sy:List Bmp} {l:List Ins}
set_option maxHeartbeats 4000000 in
theorem light14_ok (hv:InsV hB q l) (hs:BmsV hB q2 sy) (hl:l.length<=4000000000000) (hsl:sy.length<=4000000000000) (hk:∀ (r:Bool) h',(r=true->Light14 t sy l)->hext hB h'->K (.bool r) h') :
  CP F_burinlaw14_light #[.agg #[.int .i64 t.x, .int .i64 t.y, .int .i64 t.w, .int .i64 t.h, .int .i64 t.op, .bool t.rf, .int .i64 t.df, .int .i64 t.st, .slice q l.length c, .slice q2 sy.length c2]] hB K Kp:=by
 refine call_burinlaw14_light ?_
 unfold burinlaw14_light
 have H:=Hp.nil hB []
 refine newC_hp H fun r11 h H=>?_
 have H:Hp hB [] h [⟨r11,true,T_burinlaw14_Ask,t.cs q l.length c++[.slice q2 sy.length c2]⟩]:=H
 have bad:∀ {h'},hext hB h'->K (.bool false) h':=fun e=>hk false _ (fun hh=>by cases hh) e
 obtain ⟨O,hO,hro,hvw⟩:=hv
 have hOl:O.length=l.length:=by rw [<- hO,List.length_map]
 refine ⟨fun m vs h'=>∃ (i n:Nat),i+m=sy.length/\n<=384000/\(∀ b∈sy.take i,b.ws.length<=6000)/\vs=[.int .i64 (n:Nat), .int .i64 (i:Nat)]/\h'=h,⟨sy.length,0,0,by omega,by omega,(fun b hb=>by cases hb),rfl,rfl⟩,?_⟩
 rintro m h' u xn xi ⟨i,n,him,hn,hws,hxx,rfl⟩
 injection hxx with hx1 hxx
 injection hxx with hx2 hxx
 injection hx1 with _ hx1
 injection hx2 with _ hx2
 subst xn xi
 refine ldS_of (hpA H 0 rfl rfl) ?_
 refine bcase_dec (fun h1=>?_) fun h1=>?_
 ·obtain ⟨b,hb⟩:∃ b,sy[i]? = some b:=⟨_,List.getElem?_eq_getElem (by omega)⟩
  obtain ⟨a,qa,ca,hqa,hc0⟩:=hs i b hb
  have hc:=hc0.ext H.hext
  have hbl:=hc.l1
  refine ldS_of (hpA H 0 rfl rfl) (needs_of (by omega) (ptr_at hqa ?_))
  rw [Int.toNat_natCast]
  refine ldS_of hc.c2 ?_
  refine bindI_of (((64*b.ws.length:Nat):Int)) (by exact i64_at _ _ (by omega) (by omega) (by omega)) ?_
  refine bindI_of (((n+64*b.ws.length:Nat):Int)) (by exact i64_at _ _ (by omega) (by omega) (by omega)) ?_
  refine bindI_of (((n+64*b.ws.length+8:Nat):Int)) (by exact i64_at _ _ (by omega) (by omega) (by omega)) ?_
  refine bcase_dec (fun h2=>bad H.hext) fun h2=>?_
  refine bindI_of (((i+1:Nat):Int)) (by exact i64_at _ _ (by omega) (by omega) (by omega)) ?_
  refine ⟨m-1,by omega,i+1,n+64*b.ws.length+8,by omega,by omega,fun x hx=>?_,rfl,rfl⟩
  rw [take_snocG hb] at hx
  rcases List.mem_append.1 hx with hx | hx
  ·exact hws x hx
  ·rw [List.mem_singleton.1 hx]; omega
 obtain rfl:i=sy.length:=by omega
 rw [List.take_of_length_le (Nat.le_refl _)] at hws
 refine ⟨fun m vs h''=>∃ (i n:Nat),i+m=l.length/\8*i<=n/\n<=384000/\(∀ b∈l.take i,b.b.ws.length<=6000)/\arS sy (l.take i)<=i*1048576/\vs=[.int .i64 (n:Nat), .int .i64 (arS sy (l.take i):Nat), .int .i64 (i:Nat)]/\Hp hB [] h'' [⟨r11,true,T_burinlaw14_Ask,t.cs q l.length c++[.slice q2 sy.length c2]⟩],?_,?_⟩
 ·refine ⟨l.length,0,n,by omega,by omega,by omega,(fun b hb=>by cases hb),Nat.zero_le _,rfl,H⟩
 clear H
 rintro m h u xn xa xi ⟨i,n',him,hn8,hn',hws2,har,hxx,H⟩
 injection hxx with hx1 hxx
 injection hxx with hx2 hxx
 injection hxx with hx3 hxx
 injection hx1 with _ hx1
 injection hx2 with _ hx2
 injection hx3 with _ hx3
 subst xn xa xi
 refine ldS_of (hpB H 0 rfl rfl) ?_
 refine bcase_dec (fun h1=>?_) fun h1=>?_
 ·obtain ⟨o,ho⟩:∃ o,O[i]? = some o:=⟨_,List.getElem?_eq_getElem (by omega)⟩
  have hli:l[i]? = some o.i:=by rw [<- hO,List.getElem?_map,ho]; rfl
  obtain ⟨a,ha,cell⟩:=ins_at (rdO_ext H.hext hro) ho
  have hvo:=hvw o (List.mem_of_getElem? ho)
  have hol:=hvo.l
  have hnd:0<=((i:Nat):Int)/\((i:Nat):Int)<((l.length:Nat):Int):=by omega
  refine ldS_of (hpB H 0 rfl rfl) (needs_of hnd (ptr_eq ha ?_))
  rw [Int.toNat_natCast,add_addT _ 4 2]
  refine ldS_of (cell 6 _ rfl) ?_
  refine bindI_of (((64*o.i.b.ws.length:Nat):Int)) (by exact i64_at _ _ (by omega) (by omega) (by omega)) ?_
  refine bindI_of (((n'+64*o.i.b.ws.length:Nat):Int)) (by exact i64_at _ _ (by omega) (by omega) (by omega)) ?_
  refine bindI_of (((n'+64*o.i.b.ws.length+8:Nat):Int)) (by exact i64_at _ _ (by omega) (by omega) (by omega)) ?_
  refine bcase_dec (fun h2=>bad H.hext) fun h2=>?_
  have hws3:∀ b∈l.take (i+1),b.b.ws.length<=6000:=fun x hx=>by
   rw [take_snocG hli] at hx
   rcases List.mem_append.1 hx with hx | hx
   ·exact hws2 x hx
   ·rw [List.mem_singleton.1 hx]; omega
  have hsn:=arS_snoc sy (l.take i) o.i
  rw [<- take_snocG hli] at hsn
  refine ⟨fun vs h'=>∃ r:Bool,vs=[.bool r]/\(r=true↔0<=o.i.s/\o.i.s<((sy.length:Nat):Int)/\(symOf sy o.i.s).may)/\hext h h',?_,?_⟩
  ·refine ldS_of (hpB H 0 rfl rfl) (needs_of hnd (ptr_eq ha ?_))
   refine ldI_of (cell 2 _ rfl) ?_
   refine bcase_dec (fun h3=>?_) fun h3=>⟨false,rfl,⟨(fun hh=>by cases hh),fun hh=>absurd hh.1 (by omega)⟩,hext.refl _⟩
   refine ldS_of (hpB H 0 rfl rfl) (needs_of hnd (ptr_eq ha ?_))
   refine ldI_of (cell 2 _ rfl) (ldS_of (hpA H 0 rfl rfl) ?_)
   refine bcase_dec (fun h4=>?_) fun h4=>⟨false,rfl,⟨(fun hh=>by cases hh),fun hh=>absurd hh.2.1 (by omega)⟩,hext.refl _⟩
   obtain ⟨a3,q9,c9,ha3,hc0⟩:=hs _ _ (sym_get (sy:=sy) (s:=o.i.s) ⟨by omega,h4⟩)
   have hc:=hc0.ext H.hext
   refine ldS_of (hpA H 0 rfl rfl) (ldS_of (hpB H 0 rfl rfl) (needs_of hnd (ptr_eq ha ?_)))
   refine ldI_of (cell 2 _ rfl) (needs_of (by omega) (ptr_eq ha3 ?_))
   refine ldI_of hc.c0 (ldI_of hc.c1 (ldS_of hc.c2 ?_))
   refine may_ok hc.r1 hc.w1 hc.l1 fun r h' hr e=>⟨_,rfl,r,rfl,⟨fun hh=>⟨by omega,h4,hr.1 hh⟩,fun hh=>hr.2 hh.2.2⟩,e⟩
  rintro h' u xb ⟨r,hxx,hr,e⟩
  injection hxx with hx1 hxx
  injection hx1 with hx1
  subst xb
  have H:=H.ext e
  have cell:∀ j v,o.cs[j]? = some v->hcell h' ((a.add (i*7)).add j)=some v:=fun j v hv=>e.cell (cell j v hv)
  refine bcase_of (fun h3=>?_) fun h3=>?_
  ·have hcond:=hr.1 h3
   rw [if_pos hcond] at hsn
   obtain ⟨W,X,e1,e2,hW1,hW2,hX1,hX2,hWX⟩:=size_nat hcond.2.2.1
   rw [e1,e2,Int.toNat_natCast,Int.toNat_natCast] at hsn
   obtain ⟨a3,q9,c9,ha3,hc0⟩:=hs _ _ (sym_get (sy:=sy) (s:=o.i.s) ⟨hcond.1,hcond.2.1⟩)
   have hc:=hc0.ext H.hext
   have hnd2:0<=o.i.s/\o.i.s<((sy.length:Nat):Int):=⟨hcond.1,hcond.2.1⟩
   refine ldS_of (hpA H 0 rfl rfl) (ldS_of (hpB H 0 rfl rfl) (needs_of hnd (ptr_eq ha ?_)))
   refine ldI_of (cell 2 _ rfl) (needs_of hnd2 (ptr_eq ha3 ?_))
   refine ldI_of hc.c0 ?_
   refine ldS_of (hpA H 0 rfl rfl) (ldS_of (hpB H 0 rfl rfl) (needs_of hnd (ptr_eq ha ?_)))
   refine ldI_of (cell 2 _ rfl) (needs_of hnd2 (ptr_eq ha3 ?_))
   refine ldI_of hc.c1 ?_
   have hmz:(symOf sy o.i.s).w*(symOf sy o.i.s).h=((W*X:Nat):Int):=by rw [e1,e2]; simp
   refine bindI_of (((W*X:Nat):Int)) (by exact i64_at _ _ hmz (by omega) (by omega)) ?_
   refine bindI_of (((arS sy (l.take (i+1)):Nat):Int)) (by (rw [hsn]; exact i64_at _ _ (by omega) (by omega) (by omega))) ?_
   refine bindI_of (((i+1:Nat):Int)) (by exact i64_at _ _ (by omega) (by omega) (by omega)) ?_
   exact ⟨m-1,by omega,i+1,_,by omega,by omega,by omega,hws3,by omega,rfl,H⟩
  ·rw [if_neg (fun hh=>by rw [hr.2 hh] at h3; cases h3)] at hsn
   have hsn:arS sy (l.take (i+1))=arS sy (l.take i):=hsn.trans (Nat.add_zero _)
   rw [<- hsn]
   refine bindI_of (((i+1:Nat):Int)) (by exact i64_at _ _ (by omega) (by omega) (by omega)) ?_
   exact ⟨m-1,by omega,i+1,_,by omega,by omega,by omega,hws3,by omega,rfl,H⟩
 obtain rfl:i=l.length:=by omega
 rw [List.take_of_length_le (Nat.le_refl _)] at hws2 ⊢
 refine bcase_dec (fun h2=>?_) fun h2=>bad H.hext
 refine ldS_of (hpB H 0 rfl rfl) (bcase_dec (fun h3=>?_) fun h3=>bad H.hext)
 refine ldS_of (hpA H 0 rfl rfl) (bcase_dec (fun h4=>?_) fun h4=>bad H.hext)
 refine ldI_of (hpB H 0 rfl rfl) (ldI_of (hpB H 0 rfl rfl) (rsize_ok fun b hb=>⟨_,rfl,?_⟩))
 have key:(SizeP t.w t.h->(t.w+64)*t.h<=60000)->Light14 t sy l:=fun hsz=>⟨by omega,by omega,hws2,hws,by omega,hsz⟩
 refine bcase_not (fun h5=>?_) fun h5=>?_
 ·exact hk true _ (fun _=>key fun hsz=>by rw [hb.2 hsz] at h5; cases h5) H.hext
 ·have hsz:=hb.1 h5
  obtain ⟨W,X,e1,e2,hW1,hW2,hX1,hX2,hWX⟩:=size_nat hsz
  have h64:X*64<=1048576*64:=Nat.mul_le_mul_right _ hX2
  have hmm:(t.w+64)*t.h=(((W+64)*X:Nat):Int):=by rw [e1,e2]; simp
  have hmn:(W+64)*X=W*X+64*X:=Nat.add_mul ..
  refine ldI_of (hpB H 0 rfl rfl) ?_
  refine bindI_of ((t.w+64)) (by exact i64_in _ (by omega) (by omega)) ?_
  refine ldI_of (hpB H 0 rfl rfl) ?_
  refine bindI_of ((((W+64)*X:Nat):Int)) (by exact i64_at _ _ hmm (by omega) (by omega)) ?_
  refine hk _ _ (fun hh=>key fun _=>?_) H.hext
  rw [hmm]
  exact of_decide_eq_true hh
end
end Go.Bm
namespace Go.Bm
open Go Go.Den Go.Den.YtbknfejmdekhpaaGreat
def hitP (sy:List Bmp) (x Y:Nat) (i:Ins):Bool:=getP (srcB sy i).ws (srcB sy i).w.toNat (srcB sy i).h.toNat ((x:Int)-i.x) ((Y:Int)-i.y)
def insP (sy:List Bmp) (x Y:Nat) (i:Ins):Prop:=i.x<=x/\(x:Int)<i.x+(srcB sy i).w/\i.y<=Y/\(Y:Int)<i.y+(srcB sy i).h
instance (sy:List Bmp) (x Y:Nat) (i:Ins):Decidable (insP sy x Y i):=by unfold insP; infer_instance
def lay1 (sy:List Bmp) (op x Y:Nat) (g:Bool) (i:Ins):Bool:=if insP sy x Y i then opB op g (hitP sy x Y i) else g
theorem layP_1 {sy:List Bmp} {op W x Y:Nat} {G:Nat->Nat->Bool} {i:Ins} (hm:(srcB sy i).may):layP sy op W G i x Y=if x<W then lay1 sy op x Y (G x Y) i else G x Y:=by
 obtain ⟨w,b,e1,e2,_⟩:=size_nat hm.1
 unfold layP lay1
 by_cases hx:x<W
 ·rw [if_pos hx]
  by_cases hi:insP sy x Y i
  ·have hi':=hi
   unfold insP at hi'
   rw [if_pos hi,if_pos (by omega)]
   unfold hitP getP
   rw [decide_eq_true (by rw [e1,e2,Int.toNat_natCast,Int.toNat_natCast]; omega),Bool.true_and]
  ·rw [if_neg hi,if_neg]
   unfold insP at hi
   omega
 ·rw [if_neg hx,if_neg (by omega)]
theorem draw_pt {sy:List Bmp} {op W x Y:Nat}:∀ (l:List Ins) (G:Nat->Nat->Bool),(∀ i∈l,(srcB sy i).may)->l.foldl (layP sy op W) G x Y=if x<W then l.foldl (lay1 sy op x Y) (G x Y) else G x Y
 | [],G,_=>by
  show G x Y=_
  split <;> rfl
 | i::l,G,h=>by
  have ih:=draw_pt (op:=op) (W:=W) (x:=x) (Y:=Y) l (layP sy op W G i) fun y hy=>h y (List.mem_cons_of_mem _ hy)
  rw [List.foldl_cons,ih,layP_1 (h i (List.mem_cons_self ..))]
  split <;> rfl
theorem drawG_pt {t:Reg14} {sy:List Bmp} {l:List Ins} {x Y:Nat} (h:∀ i∈l,(srcB sy i).may):drawG t sy l x Y=if x<t.w.toNat then l.foldl (lay1 sy t.op.toNat x Y) (decide (t.df=1)) else false:=by
 unfold drawG
 rw [draw_pt l _ h]
 unfold gndP
 by_cases hx:x<t.w.toNat
 ·rw [if_pos hx,if_pos hx]
  simp [hx]
 ·rw [if_neg hx,if_neg hx]
  simp [hx]
theorem lay1_comm {sy:List Bmp} {op x Y:Nat} (hop:op<3) (g:Bool) (a b:Ins):lay1 sy op x Y (lay1 sy op x Y g a) b=lay1 sy op x Y (lay1 sy op x Y g b) a:=by
 have h:∀ g p q:Bool,opB op (opB op g p) q=opB op (opB op g q) p:=fun g p q=>by
  rcases (by omega:op=0\/op=1\/op=2) with rfl | rfl | rfl <;> cases g <;> cases p <;> cases q <;> rfl
 unfold lay1
 by_cases h1:insP sy x Y a <;> by_cases h2:insP sy x Y b <;> simp only [h1,h2,if_true,if_false]
 exact h _ _ _
theorem fold_perm {sy:List Bmp} {op x Y:Nat} (hop:op<3) {a b:List Ins} (h:a.Perm b):∀ g,a.foldl (lay1 sy op x Y) g=b.foldl (lay1 sy op x Y) g:=by
 induction h with
 | nil=>exact fun _=>rfl
 | cons x _ ih=>exact fun g=>ih _
 | swap a b l=>exact fun g=>by rw [List.foldl_cons,List.foldl_cons,List.foldl_cons,List.foldl_cons,lay1_comm hop]
 | trans _ _ h1 h2=>exact fun g=>(h1 g).trans (h2 g)
theorem drawG_perm {t t':Reg14} {sy:List Bmp} {a b:List Ins} (h:a.Perm b) (hop:0<=t.op/\t.op<3) (e1:t'.op=t.op) (e2:t'.df=t.df) (e3:t'.w=t.w) (hm:∀ i∈a,(srcB sy i).may):drawG t sy a=drawG t' sy b:=by
 funext x Y
 rw [drawG_pt hm,drawG_pt fun i hi=>hm i (h.mem_iff.2 hi),e1,e2,e3,fold_perm (by omega) h]
theorem chkT_like {t t':Reg14} {sy:List Bmp} {l:List Ins} (h:chkT t sy l=0) (hr:RegOk t') (e:t'.rf=t.rf):chkT t' sy l=0:=by
 obtain ⟨hf,h1,h2,h3⟩:=chkT_zero h
 exact chkT_ok ⟨hf.1,hr,fun i hi=>e ▸ hf.2.2 i hi⟩ (by omega)
end Go.Bm
namespace Go.Den.YtbknfejmdekhpaaGreat
open Go Go.Den
end Go.Den.YtbknfejmdekhpaaGreat
namespace Go.Den.YtbknfejmdekhpaaGreat
open Go Go.Den
end Go.Den.YtbknfejmdekhpaaGreat
namespace Go.Bm
open Go Go.Den Go.Den.YtbknfejmdekhpaaGreat
section
variable {hB:Heap} {K:VK} {Kp:PK}
end
end Go.Bm
namespace Go.Bm
open Go Go.Den Go.Den.YtbknfejmdekhpaaGreat
section
variable {h0 h:Heap} {F:List Nat} {L:List Ent} {b:Nat} {P:List OwI} {rest:List Value} {K:Heap->Prop}
end
end Go.Bm
namespace Go.Den.YtbknfejmdekhpaaGreat
open Go Go.Den
def burinlaw14_TextStrips (C:CallP) (p_1:Int) (p_2:Int) (p_3:Int) (p_4:Int) (p_5:Int) (p_6:Bool) (p_7:Int) (p_8:Int) (p_9:Option Addr) (p_9n:Nat) (p_9c:Nat) (p_10:Option Addr) (p_10n:Nat) (p_10c:Nat) (h:Heap) (K:VK) (Kp:PK):Prop :=
newC h [.int .i64 p_1, .int .i64 p_2, .int .i64 p_3, .int .i64 p_4, .int .i64 p_5, .bool p_6, .int .i64 p_7, .int .i64 p_8, .slice p_9 p_9n p_9c, .slice p_10 p_10n p_10c] T_burinlaw14_Ask fun r_11 h_12 =>
ldI h_12 ((⟨r_11,0,none⟩:Addr).add 0) .i64 fun x_13 =>
ldI h_12 ((⟨r_11,0,none⟩:Addr).add 1) .i64 fun x_14 =>
ldI h_12 ((⟨r_11,0,none⟩:Addr).add 2) .i64 fun x_15 =>
ldI h_12 ((⟨r_11,0,none⟩:Addr).add 3) .i64 fun x_16 =>
ldI h_12 ((⟨r_11,0,none⟩:Addr).add 4) .i64 fun x_17 =>
ldB h_12 ((⟨r_11,0,none⟩:Addr).add 5) fun x_18 =>
ldI h_12 ((⟨r_11,0,none⟩:Addr).add 6) .i64 fun x_19 =>
ldI h_12 ((⟨r_11,0,none⟩:Addr).add 7) .i64 fun x_20 =>
ldS h_12 ((⟨r_11,0,none⟩:Addr).add 8) fun x_21 x_21n x_21c =>
ldS h_12 ((⟨r_11,0,none⟩:Addr).add 9) fun x_22 x_22n x_22c =>
C F_burinlaw14_light #[.agg #[.int .i64 x_13, .int .i64 x_14, .int .i64 x_15, .int .i64 x_16, .int .i64 x_17, .bool x_18, .int .i64 x_19, .int .i64 x_20, .slice x_21 x_21n x_21c, .slice x_22 x_22n x_22c]] h_12 (fun v_23 h_24 =>
∃ (r_25:Bool),v_23 = .bool r_25/\(
bcase (!r_25) (
C F_burinlaw14_wakes #[] h_24 (fun v_26 h_27 =>
∃ (r_28:Bool),v_26 = .bool r_28/\(
K (.bool r_28) h_27)) (Kp)) <|
ldI h_24 (((⟨r_11,0,none⟩:Addr).add 0).add 0) .i64 fun x_29 =>
ldI h_24 (((⟨r_11,0,none⟩:Addr).add 0).add 1) .i64 fun x_30 =>
ldI h_24 (((⟨r_11,0,none⟩:Addr).add 0).add 2) .i64 fun x_31 =>
ldI h_24 (((⟨r_11,0,none⟩:Addr).add 0).add 3) .i64 fun x_32 =>
ldI h_24 (((⟨r_11,0,none⟩:Addr).add 0).add 4) .i64 fun x_33 =>
ldB h_24 (((⟨r_11,0,none⟩:Addr).add 0).add 5) fun x_34 =>
ldI h_24 (((⟨r_11,0,none⟩:Addr).add 0).add 6) .i64 fun x_35 =>
ldI h_24 (((⟨r_11,0,none⟩:Addr).add 0).add 7) .i64 fun x_36 =>
ldS h_24 (((⟨r_11,0,none⟩:Addr).add 0).add 8) fun x_37 x_37n x_37c =>
ldS h_24 ((⟨r_11,0,none⟩:Addr).add 9) fun x_38 x_38n x_38c =>
C F_burinref14_Bad #[.agg #[.int .i64 x_29, .int .i64 x_30, .int .i64 x_31, .int .i64 x_32, .int .i64 x_33, .bool x_34, .int .i64 x_35, .int .i64 x_36, .slice x_37 x_37n x_37c], .slice x_38 x_38n x_38c] h_24 (fun v_39 h_40 =>
∃ (r_41:Int),v_39 = .int .i64 r_41/\(
bcase (r_41 != (0:Int)) (
C F_burinlaw14_wakes #[] h_40 (fun v_42 h_43 =>
∃ (r_44:Bool),v_42 = .bool r_44/\(
K (.bool r_44) h_43)) (Kp)) <|
newC h_40 [.int .i64 0, .int .i64 0, .slice none 0 0] T_api_Bitmap fun r_45 h_46 =>
∃ J_47:Nat->List Value->Heap->Prop,(∃ n_49,J_47 n_49 [.int .i64 0] h_46)/\∀ (n_49:Nat) (h_50:Heap) (u_51:Nat->Value) (strip_52:Int),J_47 n_49 [.int .i64 strip_52] h_50->(
bcase (decide (strip_52<(4:Int))) (
ldI h_50 (((⟨r_11,0,none⟩:Addr).add 0).add 0) .i64 fun x_53 =>
ldI h_50 (((⟨r_11,0,none⟩:Addr).add 0).add 1) .i64 fun x_54 =>
ldI h_50 (((⟨r_11,0,none⟩:Addr).add 0).add 2) .i64 fun x_55 =>
ldI h_50 (((⟨r_11,0,none⟩:Addr).add 0).add 3) .i64 fun x_56 =>
ldI h_50 (((⟨r_11,0,none⟩:Addr).add 0).add 4) .i64 fun x_57 =>
ldB h_50 (((⟨r_11,0,none⟩:Addr).add 0).add 5) fun x_58 =>
ldI h_50 (((⟨r_11,0,none⟩:Addr).add 0).add 6) .i64 fun x_59 =>
ldI h_50 (((⟨r_11,0,none⟩:Addr).add 0).add 7) .i64 fun x_60 =>
ldS h_50 (((⟨r_11,0,none⟩:Addr).add 0).add 8) fun x_61 x_61n x_61c =>
C F_burinref0_CopyText #[.agg #[.int .i64 x_53, .int .i64 x_54, .int .i64 x_55, .int .i64 x_56, .int .i64 x_57, .bool x_58, .int .i64 x_59, .int .i64 x_60, .slice x_61 x_61n x_61c]] h_50 (fun v_62 h_63 =>
∃ (r_64:Int) (r_65:Int) (r_66:Int) (r_67:Int) (r_68:Int) (r_69:Bool) (r_70:Int) (r_71:Int) (r_72:Option Addr) (r_72n:Nat) (r_72c:Nat),v_62 = .agg #[.int .i64 r_64, .int .i64 r_65, .int .i64 r_66, .int .i64 r_67, .int .i64 r_68, .bool r_69, .int .i64 r_70, .int .i64 r_71, .slice r_72 r_72n r_72c]/\(
newC h_63 [.int .i64 0, .int .i64 0, .int .i64 0, .int .i64 0, .int .i64 0, .bool false, .int .i64 0, .int .i64 0, .slice none 0 0] T_api_Text fun r_73 h_74 =>
stVs h_74 (⟨r_73,0,none⟩:Addr) 0 [.int .i64 r_64, .int .i64 r_65, .int .i64 r_66, .int .i64 r_67, .int .i64 r_68, .bool r_69, .int .i64 r_70, .int .i64 r_71, .slice r_72 r_72n r_72c] fun h_75 =>
stV h_75 ((⟨r_73,0,none⟩:Addr).add 7) (.int .i64 strip_52) fun h_76 =>
ldI h_76 ((⟨r_73,0,none⟩:Addr).add 4) .i64 fun x_77 =>
bindI (x_77.tmod (3:Int)) fun z_78 =>
stV h_76 ((⟨r_73,0,none⟩:Addr).add 4) (.int .i64 z_78) fun h_79 =>
ldI h_79 ((⟨r_73,0,none⟩:Addr).add 0) .i64 fun x_80 =>
ldI h_79 ((⟨r_73,0,none⟩:Addr).add 1) .i64 fun x_81 =>
ldI h_79 ((⟨r_73,0,none⟩:Addr).add 2) .i64 fun x_82 =>
ldI h_79 ((⟨r_73,0,none⟩:Addr).add 3) .i64 fun x_83 =>
ldI h_79 ((⟨r_73,0,none⟩:Addr).add 4) .i64 fun x_84 =>
ldB h_79 ((⟨r_73,0,none⟩:Addr).add 5) fun x_85 =>
ldI h_79 ((⟨r_73,0,none⟩:Addr).add 6) .i64 fun x_86 =>
ldI h_79 ((⟨r_73,0,none⟩:Addr).add 7) .i64 fun x_87 =>
ldS h_79 ((⟨r_73,0,none⟩:Addr).add 8) fun x_88 x_88n x_88c =>
ldS h_79 ((⟨r_11,0,none⟩:Addr).add 9) fun x_89 x_89n x_89c =>
C F_text_Encode #[.agg #[.int .i64 x_80, .int .i64 x_81, .int .i64 x_82, .int .i64 x_83, .int .i64 x_84, .bool x_85, .int .i64 x_86, .int .i64 x_87, .slice x_88 x_88n x_88c], .slice x_89 x_89n x_89c] h_79 (fun v_90 h_91 =>
∃ (r_92:Option Addr) (r_92n:Nat) (r_92c:Nat),∃ (r_93:Int),v_90 = .tuple #[.slice r_92 r_92n r_92c, .int .i64 r_93]/\(
ldS h_91 ((⟨r_11,0,none⟩:Addr).add 9) fun x_94 x_94n x_94c =>
C F_text_Decode #[.slice r_92 r_92n r_92c, .slice x_94 x_94n x_94c] h_91 (fun v_95 h_96 =>
∃ (r_97:Int) (r_98:Int) (r_99:Int) (r_100:Int) (r_101:Int) (r_102:Bool) (r_103:Int) (r_104:Int) (r_105:Option Addr) (r_105n:Nat) (r_105c:Nat),∃ (r_106:Int),v_95 = .tuple #[.agg #[.int .i64 r_97, .int .i64 r_98, .int .i64 r_99, .int .i64 r_100, .int .i64 r_101, .bool r_102, .int .i64 r_103, .int .i64 r_104, .slice r_105 r_105n r_105c], .int .i64 r_106]/\(
newC h_96 [.int .i64 0, .int .i64 0, .int .i64 0, .int .i64 0, .int .i64 0, .bool false, .int .i64 0, .int .i64 0, .slice none 0 0] T_api_Text fun r_107 h_108 =>
stVs h_108 (⟨r_107,0,none⟩:Addr) 0 [.int .i64 r_97, .int .i64 r_98, .int .i64 r_99, .int .i64 r_100, .int .i64 r_101, .bool r_102, .int .i64 r_103, .int .i64 r_104, .slice r_105 r_105n r_105c] fun h_109 =>
ldI h_109 ((⟨r_107,0,none⟩:Addr).add 0) .i64 fun x_110 =>
ldI h_109 ((⟨r_107,0,none⟩:Addr).add 1) .i64 fun x_111 =>
ldI h_109 ((⟨r_107,0,none⟩:Addr).add 2) .i64 fun x_112 =>
ldI h_109 ((⟨r_107,0,none⟩:Addr).add 3) .i64 fun x_113 =>
ldI h_109 ((⟨r_107,0,none⟩:Addr).add 4) .i64 fun x_114 =>
ldB h_109 ((⟨r_107,0,none⟩:Addr).add 5) fun x_115 =>
ldI h_109 ((⟨r_107,0,none⟩:Addr).add 6) .i64 fun x_116 =>
ldI h_109 ((⟨r_107,0,none⟩:Addr).add 7) .i64 fun x_117 =>
ldS h_109 ((⟨r_107,0,none⟩:Addr).add 8) fun x_118 x_118n x_118c =>
ldS h_109 ((⟨r_11,0,none⟩:Addr).add 9) fun x_119 x_119n x_119c =>
C F_text_Draw #[.agg #[.int .i64 x_110, .int .i64 x_111, .int .i64 x_112, .int .i64 x_113, .int .i64 x_114, .bool x_115, .int .i64 x_116, .int .i64 x_117, .slice x_118 x_118n x_118c], .slice x_119 x_119n x_119c] h_109 (fun v_120 h_121 =>
∃ (r_122:Int) (r_123:Int) (r_124:Option Addr) (r_124n:Nat) (r_124c:Nat),∃ (r_125:Int),v_120 = .tuple #[.agg #[.int .i64 r_122, .int .i64 r_123, .slice r_124 r_124n r_124c], .int .i64 r_125]/\(
newC h_121 [.int .i64 0, .int .i64 0, .slice none 0 0] T_api_Bitmap fun r_126 h_127 =>
stV h_127 ((⟨r_126,0,none⟩:Addr).add 0) (.int .i64 r_122) fun h_128 =>
stV h_128 ((⟨r_126,0,none⟩:Addr).add 1) (.int .i64 r_123) fun h_129 =>
stV h_129 ((⟨r_126,0,none⟩:Addr).add 2) (.slice r_124 r_124n r_124c) fun h_130 =>
bcase (r_93 != (0:Int)) (
K (.bool false) h_130) <|
bcase (r_106 != (0:Int)) (
K (.bool false) h_130) <|
bcase (r_125 != (0:Int)) (
K (.bool false) h_130) <|
ldI h_130 ((⟨r_107,0,none⟩:Addr).add 7) .i64 fun x_131 =>
bcase (x_131 != strip_52) (
K (.bool false) h_130) <|
ldS h_130 ((⟨r_107,0,none⟩:Addr).add 8) fun x_132 x_132n x_132c =>
ldS h_130 ((⟨r_73,0,none⟩:Addr).add 8) fun x_133 x_133n x_133c =>
bcase ((x_132n:Int) != (x_133n:Int)) (
K (.bool false) h_130) <|
bcase (decide (strip_52 > (0:Int))) (
ldI h_130 ((⟨r_126,0,none⟩:Addr).add 0) .i64 fun x_134 =>
ldI h_130 ((⟨r_126,0,none⟩:Addr).add 1) .i64 fun x_135 =>
ldS h_130 ((⟨r_126,0,none⟩:Addr).add 2) fun x_136 x_136n x_136c =>
ldI h_130 ((⟨r_45,0,none⟩:Addr).add 0) .i64 fun x_137 =>
ldI h_130 ((⟨r_45,0,none⟩:Addr).add 1) .i64 fun x_138 =>
ldS h_130 ((⟨r_45,0,none⟩:Addr).add 2) fun x_139 x_139n x_139c =>
C F_burinref0_EqBitmap #[.agg #[.int .i64 x_134, .int .i64 x_135, .slice x_136 x_136n x_136c], .agg #[.int .i64 x_137, .int .i64 x_138, .slice x_139 x_139n x_139c]] h_130 (fun v_140 h_141 =>
∃ (r_142:Bool),v_140 = .bool r_142/\(
bcase (!r_142) (
K (.bool false) h_141) <|
ldI h_141 ((⟨r_126,0,none⟩:Addr).add 0) .i64 fun x_143 =>
ldI h_141 ((⟨r_126,0,none⟩:Addr).add 1) .i64 fun x_144 =>
ldS h_141 ((⟨r_126,0,none⟩:Addr).add 2) fun x_145 x_145n x_145c =>
stV h_141 ((⟨r_45,0,none⟩:Addr).add 0) (.int .i64 x_143) fun h_146 =>
stV h_146 ((⟨r_45,0,none⟩:Addr).add 1) (.int .i64 x_144) fun h_147 =>
stV h_147 ((⟨r_45,0,none⟩:Addr).add 2) (.slice x_145 x_145n x_145c) fun h_148 =>
bindI (IntKind.i64.wrap (strip_52+(1:Int))) fun z_149 =>
∃ m_48,m_48<n_49/\J_47 m_48 [.int .i64 z_149] h_148)) (Kp)) <|
ldI h_130 ((⟨r_126,0,none⟩:Addr).add 0) .i64 fun x_150 =>
ldI h_130 ((⟨r_126,0,none⟩:Addr).add 1) .i64 fun x_151 =>
ldS h_130 ((⟨r_126,0,none⟩:Addr).add 2) fun x_152 x_152n x_152c =>
stV h_130 ((⟨r_45,0,none⟩:Addr).add 0) (.int .i64 x_150) fun h_153 =>
stV h_153 ((⟨r_45,0,none⟩:Addr).add 1) (.int .i64 x_151) fun h_154 =>
stV h_154 ((⟨r_45,0,none⟩:Addr).add 2) (.slice x_152 x_152n x_152c) fun h_155 =>
bindI (IntKind.i64.wrap (strip_52+(1:Int))) fun z_156 =>
∃ m_48,m_48<n_49/\J_47 m_48 [.int .i64 z_156] h_155)) (Kp))) (Kp))) (Kp))) (Kp)) <|
C F_burinlaw14_wakes #[] h_50 (fun v_157 h_158 =>
∃ (r_159:Bool),v_157 = .bool r_159/\(
K (.bool r_159) h_158)) (Kp)))) (Kp))) (Kp)
end Go.Den.YtbknfejmdekhpaaGreat
namespace Go.Den.YtbknfejmdekhpaaGreat
open Go Go.Den
theorem call_burinlaw14_TextStrips {p_1:Int} {p_2:Int} {p_3:Int} {p_4:Int} {p_5:Int} {p_6:Bool} {p_7:Int} {p_8:Int} {p_9:Option Addr} {p_9n:Nat} {p_9c:Nat} {p_10:Option Addr} {p_10n:Nat} {p_10c:Nat} {h:Heap} {K:VK} {Kp:PK} (H:burinlaw14_TextStrips (CallsHP Go.Proofs.Tryz.prog) p_1 p_2 p_3 p_4 p_5 p_6 p_7 p_8 p_9 p_9n p_9c p_10 p_10n p_10c h K Kp):CallsHP Go.Proofs.Tryz.prog F_burinlaw14_TextStrips #[.agg #[.int .i64 p_1, .int .i64 p_2, .int .i64 p_3, .int .i64 p_4, .int .i64 p_5, .bool p_6, .int .i64 p_7, .int .i64 p_8, .slice p_9 p_9n p_9c, .slice p_10 p_10n p_10c]] h K Kp :=
 callsHP_ofE (Hints.mk (fun i=>none) (fun i=>bif Nat.beq i 5 then some ([(4, .int .i64)],19807040628566084398369214452) else (none)) (fun i=>none) []) (by kernel_rfl) Go.Proofs.Tryz.func10 (by kernel_rfl) (fun C=>burinlaw14_TextStrips C p_1 p_2 p_3 p_4 p_5 p_6 p_7 p_8 p_9 p_9n p_9c p_10 p_10n p_10c h K Kp) (fun C=>by kernel_rfl) H
end Go.Den.YtbknfejmdekhpaaGreat
namespace Go.Bm
open Go Go.Den Go.Den.YtbknfejmdekhpaaGreat
theorem chkT_perm {t:Reg14} {sy:List Bmp} {l l':List Ins} (hp:l.Perm l') (h:chkT t sy l=0):chkT t sy l'=0:=by
 obtain ⟨hf,h1,h2,h3⟩:=chkT_zero h
 exact chkT_ok ⟨hf.1,hf.2.1,fun i hi=>hf.2.2 i (hp.mem_iff.2 hi)⟩ (by rw [<- hp.length_eq,<- arI_perm hp]; omega)
theorem InsV.w64 {h:Heap} {q:Option Addr} {l:List Ins} (hv:InsV h q l):∀ i∈l,W64 i.b.ws:=fun i hi=>by
 obtain ⟨O,rfl,_,hvw⟩:=hv
 obtain ⟨o,ho,rfl⟩:=List.mem_map.1 hi
 exact (hvw o ho).w
section
variable {hB:Heap} {K:VK} {Kp:PK}
theorem tDrawN {t:Reg14} {q q2:Option Addr} {c c2 n:Nat} {sy:List Bmp} {l:List Ins} (hn:l.length=n) (hn2:n<=1000000) (hv:InsV hB q l) (hs:BmsV hB q2 sy) (hsl:sy.length<=1000000000000) (hck:chkT t sy l=0)
  (hk:∀ R D qo co h',PicP t.w.toNat t.h.toNat (drawG t sy (srtI t.st.toNat l)) R->Slot T_uint64 1 D qo R.length co (u64s R)->Hp hB [] h' D->K (.tuple #[.agg #[.int .i64 t.w, .int .i64 t.h, .slice qo R.length co], .int .i64 0]) h') :
  CP F_text_Draw #[t.ag q n c, .slice q2 sy.length c2] hB K Kp:=by
 subst hn
 exact tDraw_ok (t:=t) hv hs hn2 hsl (fun h' hn _=>absurd hck hn) fun R D qo co h' _=>hk R D qo co h'
set_option maxHeartbeats 8000000 in
theorem tStrips_law {t:Reg14} {q q2:Option Addr} {c c2:Nat} {l:List Ins} {sy:List Bmp} (hv:InsV hB q l) (hl:l.length<=4000000000000) (hs:BmsV hB q2 sy) (hsl:sy.length<=4000000000000) (hk:∀ h',hext hB h'->K (.bool true) h') :
  CP F_burinlaw14_TextStrips #[.agg #[.int .i64 t.x, .int .i64 t.y, .int .i64 t.w, .int .i64 t.h, .int .i64 t.op, .bool t.rf, .int .i64 t.df, .int .i64 t.st, .slice q l.length c, .slice q2 sy.length c2]] hB K Kp:=by
 refine call_burinlaw14_TextStrips ?_
 unfold burinlaw14_TextStrips
 have H:=Hp.nil hB []
 refine newC_hp H fun r11 h H=>?_
 have H:Hp hB [] h [⟨r11,true,T_burinlaw14_Ask,t.cs q l.length c++[Value.slice q2 sy.length c2]⟩]:=H
 have wk:∀ {h},hext hB h->CP F_burinlaw14_wakes #[] h (fun v_26 h_27=>∃ (r_28:Bool),v_26 = .bool r_28/\(K (.bool r_28) h_27)) (Kp):=fun e=>wakes14_ok fun h' e'=>⟨_,rfl,hk _ (e.trans e')⟩
 repeat first | with_reducible refine ldI_of (by with_unfolding_all first | exact hpA H 0 rfl rfl | exact Hp.cell H 0 rfl rfl | exact hpB H 0 rfl rfl | exact hpC H 0 rfl rfl) ?_ | with_reducible refine ldS_of (by with_unfolding_all first | exact hpA H 0 rfl rfl | exact Hp.cell H 0 rfl rfl | exact hpB H 0 rfl rfl | exact hpC H 0 rfl rfl) ?_ | with_reducible refine ldP_of (by with_unfolding_all first | exact hpA H 0 rfl rfl | exact Hp.cell H 0 rfl rfl | exact hpB H 0 rfl rfl | exact hpC H 0 rfl rfl) ?_ | with_reducible refine ldB_of (by with_unfolding_all first | exact hpA H 0 rfl rfl | exact Hp.cell H 0 rfl rfl | exact hpB H 0 rfl rfl | exact hpC H 0 rfl rfl) ?_ | with_reducible refine ldT_of (by with_unfolding_all first | exact hpA H 0 rfl rfl | exact Hp.cell H 0 rfl rfl | exact hpB H 0 rfl rfl | exact hpC H 0 rfl rfl) ?_
 refine light14_ok (t:=t) (hv.ext H.hext) (hs.ext H.hext) hl hsl fun r h' hr e=>⟨_,rfl,?_⟩
 have H:=H.ext e
 clear e
 refine bcase_not (fun _=>wk H.hext) fun h1=>?_
 have hlt:=hr h1
 clear h1 hr
 have hn1:=hlt.n1
 have hn2:=hlt.n2
 repeat first | with_reducible refine ldI_of (by with_unfolding_all first | exact hpA H 0 rfl rfl | exact Hp.cell H 0 rfl rfl | exact hpB H 0 rfl rfl | exact hpC H 0 rfl rfl) ?_ | with_reducible refine ldS_of (by with_unfolding_all first | exact hpA H 0 rfl rfl | exact Hp.cell H 0 rfl rfl | exact hpB H 0 rfl rfl | exact hpC H 0 rfl rfl) ?_ | with_reducible refine ldP_of (by with_unfolding_all first | exact hpA H 0 rfl rfl | exact Hp.cell H 0 rfl rfl | exact hpB H 0 rfl rfl | exact hpC H 0 rfl rfl) ?_ | with_reducible refine ldB_of (by with_unfolding_all first | exact hpA H 0 rfl rfl | exact Hp.cell H 0 rfl rfl | exact hpB H 0 rfl rfl | exact hpC H 0 rfl rfl) ?_ | with_reducible refine ldT_of (by with_unfolding_all first | exact hpA H 0 rfl rfl | exact Hp.cell H 0 rfl rfl | exact hpB H 0 rfl rfl | exact hpC H 0 rfl rfl) ?_
 refine bad14_ok (t:=t) (hv.ext H.hext) (hs.ext H.hext) (by omega) (by omega) fun h' e=>⟨_,rfl,?_⟩
 have H:=H.ext e
 clear e
 refine bcase_ne (fun _=>wk H.hext) fun hck=>?_
 obtain ⟨hf,_,_,har⟩:=chkT_zero hck
 have hreg:=hf.2.1
 have hop:=hreg.2.2.2.1
 obtain ⟨OP,hOP⟩:∃ OP:Nat,t.op=(OP:Int):=⟨t.op.toNat,by omega⟩
 have hw64:=hv.w64
 have hsrc:∀ i∈l,(srcB sy i).may:=fun i hi=>(hf.2.2 i hi).src hf.1
 refine newC_hp H fun r45 h H=>?_
 have H:=H.rot
 obtain ⟨ts,htsd⟩:∃ ts:Nat->Reg14,ts=fun s=>{ t with st:=(s:Int),op:=((OP % 3:Nat):Int) }:=⟨_,rfl⟩
 have hts:∀ s,ts s = { t with st:=(s:Int),op:=((OP % 3:Nat):Int) }:=fun s=>by rw [htsd]
 have hsf:∀ s,(ts s).w=t.w/\(ts s).h=t.h/\(ts s).df=t.df/\(ts s).op=((OP % 3:Nat):Int)/\(ts s).st=(s:Int)/\(ts s).rf=t.rf:=fun s=>by rw [hts]; exact ⟨rfl,rfl,rfl,rfl,rfl,rfl⟩
 obtain ⟨Gc,hGc⟩:∃ Gc,Gc=drawG (ts 0) sy l:=⟨_,rfl⟩
 refine ⟨fun m vs h'=>∃ (s:Nat) (cs45:List Value) (D:List Ent),s+m=4/\vs=[.int .i64 (s:Nat)]/\cs45.length=3/\(0<s->∃ q9 c9 R,cs45=[.int .i64 t.w, .int .i64 t.h, .slice q9 (List.length R) c9]/\Slot T_uint64 1 D q9 R.length c9 (u64s R)/\PicP t.w.toNat t.h.toNat Gc R) /\
   Hp hB [] h' (⟨r45,true,T_api_Bitmap,cs45⟩::⟨r11,true,T_burinlaw14_Ask,t.cs q l.length c++[Value.slice q2 sy.length c2]⟩::D),⟨4,0,[.int .i64 0, .int .i64 0, .slice none 0 0],[],rfl,rfl,rfl,(fun hh=>absurd hh (Nat.lt_irrefl 0)),H⟩,?_⟩
 clear H
 rintro m h u xs ⟨s,cs45,D,hsm,hxx,hcl,hcs,H⟩
 injection hxx with hx1 hxx
 injection hx1 with _ hx1
 subst xs
 refine bcase_dec (fun h5=>?_) fun h5=>wk H.hext
 obtain ⟨y1,y2,y3,rfl⟩:=list3 hcl
 repeat first | with_reducible refine ldI_of (by with_unfolding_all first | exact hpA H 1 rfl rfl | exact Hp.cell H 1 rfl rfl | exact hpB H 1 rfl rfl | exact hpC H 1 rfl rfl) ?_ | with_reducible refine ldS_of (by with_unfolding_all first | exact hpA H 1 rfl rfl | exact Hp.cell H 1 rfl rfl | exact hpB H 1 rfl rfl | exact hpC H 1 rfl rfl) ?_ | with_reducible refine ldP_of (by with_unfolding_all first | exact hpA H 1 rfl rfl | exact Hp.cell H 1 rfl rfl | exact hpB H 1 rfl rfl | exact hpC H 1 rfl rfl) ?_ | with_reducible refine ldB_of (by with_unfolding_all first | exact hpA H 1 rfl rfl | exact Hp.cell H 1 rfl rfl | exact hpB H 1 rfl rfl | exact hpC H 1 rfl rfl) ?_ | with_reducible refine ldT_of (by with_unfolding_all first | exact hpA H 1 rfl rfl | exact Hp.cell H 1 rfl rfl | exact hpB H 1 rfl rfl | exact hpC H 1 rfl rfl) ?_
 refine cpText_ok (t:=t) (hv.ext H.hext) (by omega) (fun i hi=>Nat.le_trans (hlt.w1 i hi) (by decide)) fun R q' c' h' hL H'=>?_
 have H:=H.join H' hL.w
 clear H'
 refine ⟨_,_,_,_,_,_,_,_,_,_,_,rfl,?_⟩
 refine newC_hp H fun r73 h H=>?_
 have H:=H.rot
 refine stVsA H 0 rfl rfl rfl fun h H=>?_
 refine stA H 0 rfl rfl rfl fun h H=>?_
 refine ldI_of (hpA H 0 rfl rfl) ?_
 rw [hOP]
 refine bindI_of (((OP % 3:Nat):Int)) (by exact tmod_nat OP 3) ?_
 refine stA H 0 rfl rfl rfl fun h H=>?_
 obtain ⟨V,hV⟩:∃ V,V=D++R:=⟨_,rfl⟩
 have H:Hp hB [] h (⟨r73,true,T_api_Text,(ts s).cs q' l.length c'⟩::⟨r45,true,T_api_Bitmap,[y1,y2,y3]⟩::⟨r11,true,T_burinlaw14_Ask,t.cs q l.length c++[Value.slice q2 sy.length c2]⟩::V):=by
  rw [hts,hV]
  exact H
 have hcks:chkT (ts s) sy l=0:=chkT_like hck (by rw [hts]; exact ⟨hreg.1,hreg.2.1,hreg.2.2.1,⟨by show (0:Int)<=((OP % 3:Nat):Int); omega,by show ((OP % 3:Nat):Int)<=4; omega⟩,hreg.2.2.2.2.1,⟨by show (0:Int)<=(s:Int); omega,by show (s:Int)<=3; omega⟩⟩) (hsf s).2.2.2.2.2
 obtain ⟨hfs,_,_,hars⟩:=chkT_zero hcks
 repeat first | with_reducible refine ldI_of (by with_unfolding_all first | exact hpA H 0 rfl rfl | exact Hp.cell H 0 rfl rfl | exact hpB H 0 rfl rfl | exact hpC H 0 rfl rfl) ?_ | with_reducible refine ldS_of (by with_unfolding_all first | exact hpA H 0 rfl rfl | exact Hp.cell H 0 rfl rfl | exact hpB H 0 rfl rfl | exact hpC H 0 rfl rfl) ?_ | with_reducible refine ldP_of (by with_unfolding_all first | exact hpA H 0 rfl rfl | exact Hp.cell H 0 rfl rfl | exact hpB H 0 rfl rfl | exact hpC H 0 rfl rfl) ?_ | with_reducible refine ldB_of (by with_unfolding_all first | exact hpA H 0 rfl rfl | exact Hp.cell H 0 rfl rfl | exact hpB H 0 rfl rfl | exact hpC H 0 rfl rfl) ?_ | with_reducible refine ldT_of (by with_unfolding_all first | exact hpA H 0 rfl rfl | exact Hp.cell H 0 rfl rfl | exact hpB H 0 rfl rfl | exact hpC H 0 rfl rfl) ?_
 refine ldS_of (hpA H 2 rfl rfl) ?_
 refine tEnc_ok (t:=ts s) (hL.view H fun e he=>by rw [hV]; simp [he]) (hs.ext H.hext) (by omega) (by omega) fun D1 q3 c3 h' hs1 H'=>?_
 rw [encT_ok hcks] at hs1 ⊢
 rw [hcks]
 have H:=H.join H' hs1.w
 clear H'
 refine ⟨_,_,_,_,rfl,?_⟩
 refine ldS_of (hpA H 2 rfl rfl) ?_
 refine tDec_ok (t:=ts s) (sy:=sy) (l:=l) (Slot.rdO' hs1 H fun e he=>List.mem_append_right _ he) (by
  obtain ⟨hl',⟨_,_,h4,_⟩ | ⟨b,rest,_,_,h4⟩⟩:=hs1
  ·omega
  ·rw [List.length_append] at h4; omega) (hs.ext H.hext) hfs (by omega) (by omega) hars hw64 fun R2 q4 c4 h' hL2 H'=>?_
 have H:=H.join H' hL2.w
 clear H'
 refine ⟨_,_,_,_,_,_,_,_,_,_,_,_,rfl,?_⟩
 refine newC_hp H fun r107 h H=>?_
 have H:=H.rot
 refine stVsA H 0 rfl rfl rfl fun h H=>?_
 have H:Hp hB [] h (⟨r107,true,T_api_Text,(ts s).cs q4 l.length c4⟩::⟨r73,true,T_api_Text,(ts s).cs q' l.length c'⟩::⟨r45,true,T_api_Bitmap,[y1,y2,y3]⟩::⟨r11,true,T_burinlaw14_Ask,t.cs q l.length c++[Value.slice q2 sy.length c2]⟩::(V++D1++R2)):=H
 repeat first | with_reducible refine ldI_of (by with_unfolding_all first | exact hpA H 0 rfl rfl | exact Hp.cell H 0 rfl rfl | exact hpB H 0 rfl rfl | exact hpC H 0 rfl rfl) ?_ | with_reducible refine ldS_of (by with_unfolding_all first | exact hpA H 0 rfl rfl | exact Hp.cell H 0 rfl rfl | exact hpB H 0 rfl rfl | exact hpC H 0 rfl rfl) ?_ | with_reducible refine ldP_of (by with_unfolding_all first | exact hpA H 0 rfl rfl | exact Hp.cell H 0 rfl rfl | exact hpB H 0 rfl rfl | exact hpC H 0 rfl rfl) ?_ | with_reducible refine ldB_of (by with_unfolding_all first | exact hpA H 0 rfl rfl | exact Hp.cell H 0 rfl rfl | exact hpB H 0 rfl rfl | exact hpC H 0 rfl rfl) ?_ | with_reducible refine ldT_of (by with_unfolding_all first | exact hpA H 0 rfl rfl | exact Hp.cell H 0 rfl rfl | exact hpB H 0 rfl rfl | exact hpC H 0 rfl rfl) ?_
 refine ldS_of (hpA H 3 rfl rfl) ?_
 rw [(hsf s).2.2.2.2.1,Int.toNat_natCast] at hL2
 have hpm:=srtI_perm s l
 refine tDrawN (t:=ts s) (l:=srtI s l) (srtI_len s l) (by omega) (hL2.view H fun e he=>by simp [he]) (hs.ext H.hext) (by omega) (chkT_perm hpm hcks) fun R9 D9 q9 c9 h' hp9 hs9 H'=>?_
 have H:=H.join H' hs9.w
 clear H'
 rw [(hsf s).2.2.2.2.1,Int.toNat_natCast,srtI_idem,(hsf s).1,(hsf s).2.1] at hp9
 have hGs:drawG (ts s) sy (srtI s l)=Gc:=by
  rw [hGc]
  refine (drawG_perm (t:=ts 0) (t':=ts s) hpm ?_ ?_ ?_ ?_ hsrc).symm
  ·rw [(hsf 0).2.2.2.1]; omega
  ·rw [(hsf 0).2.2.2.1,(hsf s).2.2.2.1]
  ·rw [(hsf 0).2.2.1,(hsf s).2.2.1]
  ·rw [(hsf 0).1,(hsf s).1]
 rw [hGs] at hp9
 refine ⟨_,_,_,_,_,_,rfl,?_⟩
 refine newC_hp H fun r126 h H=>?_
 have H:=H.rot
 refine stA H 0 rfl rfl rfl fun h H=>?_
 refine stA H 0 rfl rfl rfl fun h H=>?_
 refine stA H 0 rfl rfl rfl fun h H=>?_
 have H:Hp hB [] h (⟨r126,true,T_api_Bitmap,[.int .i64 t.w, .int .i64 t.h, .slice q9 R9.length c9]⟩::⟨r107,true,T_api_Text,(ts s).cs q4 l.length c4⟩::⟨r73,true,T_api_Text,(ts s).cs q' l.length c'⟩::⟨r45,true,T_api_Bitmap,[y1,y2,y3]⟩::⟨r11,true,T_burinlaw14_Ask,t.cs q l.length c++[Value.slice q2 sy.length c2]⟩::(V++D1++R2++D9)):=by
  rw [<- (hsf s).1,<- (hsf s).2.1]
  exact H
 refine bcase_ne (fun hh=>absurd rfl hh) fun _=>?_
 refine bcase_ne (fun hh=>absurd rfl hh) fun _=>?_
 refine bcase_ne (fun hh=>absurd rfl hh) fun _=>?_
 refine ldI_of (hpA H 1 rfl rfl) (bcase_ne (fun hh=>absurd (hsf s).2.2.2.2.1 hh) fun _=>?_)
 refine ldS_of (hpA H 1 rfl rfl) (ldS_of (hpA H 2 rfl rfl) (bcase_ne (fun hh=>absurd rfl hh) fun _=>?_))
 have fin:∀ {h:Heap},Hp hB [] h (⟨r126,true,T_api_Bitmap,[.int .i64 t.w, .int .i64 t.h, .slice q9 R9.length c9]⟩::⟨r107,true,T_api_Text,(ts s).cs q4 l.length c4⟩::⟨r73,true,T_api_Text,(ts s).cs q' l.length c'⟩::⟨r45,true,T_api_Bitmap,[y1,y2,y3]⟩::⟨r11,true,T_burinlaw14_Ask,t.cs q l.length c++[Value.slice q2 sy.length c2]⟩::(V++D1++R2++D9)) ->
   ldI h ((⟨r126,0,none⟩:Addr).add 0) .i64 fun x_150=>ldI h ((⟨r126,0,none⟩:Addr).add 1) .i64 fun x_151=>ldS h ((⟨r126,0,none⟩:Addr).add 2) fun x_152 x_152n x_152c =>
   stV h ((⟨r45,0,none⟩:Addr).add 0) (.int .i64 x_150) fun h_153=>stV h_153 ((⟨r45,0,none⟩:Addr).add 1) (.int .i64 x_151) fun h_154=>stV h_154 ((⟨r45,0,none⟩:Addr).add 2) (.slice x_152 x_152n x_152c) fun h_155 =>
   bindI (IntKind.i64.wrap (((s:Nat):Int)+(1:Int))) fun z_156=>∃ m_48,m_48<m/\∃ (s:Nat) (cs45:List Value) (D:List Ent),s+m_48=4/\[Value.int .i64 z_156]=[.int .i64 (s:Nat)]/\cs45.length=3/\(0<s->∃ q9 c9 R,cs45=[.int .i64 t.w, .int .i64 t.h, .slice q9 (List.length R) c9]/\Slot T_uint64 1 D q9 R.length c9 (u64s R)/\PicP t.w.toNat t.h.toNat Gc R) /\
   Hp hB [] h_155 (⟨r45,true,T_api_Bitmap,cs45⟩::⟨r11,true,T_burinlaw14_Ask,t.cs q l.length c++[Value.slice q2 sy.length c2]⟩::D):=fun {h} H=>by
  refine ldI_of (hpA H 0 rfl rfl) (ldI_of (hpA H 0 rfl rfl) (ldS_of (hpA H 0 rfl rfl) ?_))
  refine stA H 3 rfl rfl rfl fun h H=>?_
  refine stA H 3 rfl rfl rfl fun h H=>?_
  refine stA H 3 rfl rfl rfl fun h H=>?_
  refine bindI_of (((s+1:Nat):Int)) (by exact i64_at _ _ (by omega) (by omega) (by omega)) ?_
  refine ⟨m-1,by omega,s+1,_,D9,by omega,rfl,rfl,fun _=>⟨q9,c9,R9,rfl,hs9,hp9⟩,?_⟩
  have H:Hp hB [] h (⟨r126,true,T_api_Bitmap,[.int .i64 t.w, .int .i64 t.h, .slice q9 R9.length c9]⟩::⟨r107,true,T_api_Text,(ts s).cs q4 l.length c4⟩::⟨r73,true,T_api_Text,(ts s).cs q' l.length c'⟩::⟨r45,true,T_api_Bitmap,[.int .i64 t.w, .int .i64 t.h, .slice q9 R9.length c9]⟩::⟨r11,true,T_burinlaw14_Ask,t.cs q l.length c++[Value.slice q2 sy.length c2]⟩::(V++D1++R2++D9)):=H
  exact Hp.sub H (List.Sublist.cons _ (List.Sublist.cons _ (List.Sublist.cons _ (List.Sublist.cons_cons _ (List.Sublist.cons_cons _ (List.sublist_append_right _ _))))))
 refine bcase_dec (fun h6=>?_) fun h6=>fin H
 obtain ⟨q8,c8,R8,e8,hs8,hp8⟩:=hcs (by omega)
 injection e8 with ea e8
 injection e8 with eb e8
 injection e8 with ec e8
 subst ea eb ec
 have e98:R9=R8:=hp9.eq hp8
 have hsz:=hreg.1
 obtain ⟨W,XX,e1,e2,hW1,hW2,hX1,hX2,hWX⟩:=size_nat hsz
 have hR9:R9.length<140737488351300:=by
  have:=hp9.1
  rw [e1,e2,Int.toNat_natCast,Int.toNat_natCast] at this
  have:=hw_le hW1 hWX
  omega
 refine ldI_of (hpA H 0 rfl rfl) (ldI_of (hpA H 0 rfl rfl) (ldS_of (hpA H 0 rfl rfl) ?_))
 refine ldI_of (hpA H 3 rfl rfl) (ldI_of (hpA H 3 rfl rfl) (ldS_of (hpA H 3 rfl rfl) ?_))
 refine eqB_ok (xs:=R9) (ys:=R8) (Slot.rdO' hs9 H fun e he=>by simp [he]) (Slot.rdO' hs8 H fun e he=>by rw [hV]; simp [he]) hR9 fun h' e=>⟨_,rfl,?_⟩
 rw [decide_eq_true (by exact ⟨rfl,rfl,e98⟩)]
 refine bcase_false rfl ?_
 exact fin (H.ext e)
theorem tStrips_arg {h:Heap} {cs:Array Value} (hsz:cs.size=TP.cellsOf T_burinlaw14_Ask) (hw:WDx TP h T_burinlaw14_Ask cs.toList) {K:VK} {Kp:PK} (hk:∀ h',hext h h'->K (.bool true) h'):CP F_burinlaw14_TextStrips #[.agg cs] h K Kp:=by
 obtain ⟨t,q,c,l,q2,c2,sy,e,hv,hl,hs,hsl⟩:=wd_ask14 hw
 obtain rfl:cs=#[.int .i64 t.x, .int .i64 t.y, .int .i64 t.w, .int .i64 t.h, .int .i64 t.op, .bool t.rf, .int .i64 t.df, .int .i64 t.st, .slice q l.length c, .slice q2 sy.length c2]:=by
  cases cs
  simpa using e
 exact tStrips_law (t:=t) hv hl hs hsl hk
end
end Go.Bm
namespace Go.Proofs.YtbknfejmdekhpaaGreat
open Go.ChangeShapes Go.WideShapes Go.ChangeAt Go.RowKit
theorem own:ownKnob Tryz.prog.godebug=none:=by kernel_rfl
theorem laidOut:laidOutB Tryz.prog=true:=by kernel_rfl
theorem below_of {W W':World} (hk:Go.Den.keeps W W') (h:Go.Den.hext W.heap W'.heap):Below W.heap.size W W' :=
 ⟨hk.1,hk.2.1,hk.2.2,h.1,fun k hlt=>h.2 k hlt⟩
theorem walk_of {f:FuncId} {args:Array Value} {W:World}
  (h:Calls Tryz.prog f args W fun e w'=>Go.Den.keeps W w'/\match e with
   | .returned v=>v = .bool true/\Go.Den.hext W.heap w'.heap
   | .panicked c=>False
   | .outgrown=>False):Calls Tryz.prog f args W fun e W'=>e = .returned (.bool true)/\Below W.heap.size W W':=by
 refine h.mono fun e W' he=>?_
 obtain ⟨hk,he⟩:=he
 cases e with
 | returned v=>exact ⟨by rw [he.1],below_of hk he.2⟩
 | panicked c=>exact he.elim
 | outgrown=>exact he.elim
end Go.Proofs.YtbknfejmdekhpaaGreat
namespace Go.Proofs.YtbknfejmdekhpaaGreat
open Go.ChangeShapes Go.WideShapes Go.ChangeAt Go.RowKit
theorem textStrips_walk (W:World) {cs:Array Value} (hsz:cs.size=Tryz.prog.cellsOf 29) (hw:Go.Den.WDx Tryz.prog W.heap 29 cs.toList):Calls Tryz.prog 10 #[.agg cs] W fun e W'=>e = .returned (.bool true)/\Below W.heap.size W W' :=
 walk_of ((Go.Bm.tStrips_arg (h:=W.heap) (K:=fun v h'=>v = .bool true/\Go.Den.hext W.heap h') (Kp:=fun _ _=>False) hsz hw fun h' e=>⟨rfl,e⟩).2 W rfl)
theorem textStrips_lifted (os:Os) (started:os.Started) (H:Type) (enc:TypeId × Value->H) :
  ReturnsInHanded {} Tryz.checked os 10 .any (Rows.textStripsSpec.pre6 enc Tryz.prog Tryz.f10 Rows.textStripsRow.domain false) (Rows.textStripsSpec.post enc Tryz.prog Tryz.f10 false true false false):=by
 refine returnsInHanded_of_change_sized (C:=Tryz.checked) own started (by kernel_rfl) Tryz.func10
  (ChangeSpec.witness6 (enc:=enc) (C:=Tryz.checked) false ⟨#[],#[.agg #[.int .i64 0, .int .i64 0, .int .i64 0, .int .i64 0, .int .i64 0, .bool false, .int .i64 0, .int .i64 0, .slice none 0 0, .slice none 0 0]],[]⟩ 8 (by kernel_rfl) (by kernel_rfl) (by kernel_rfl) (by kernel_rfl)) ?_
 intro W base args ds gs before hval0 hW hcnd hz _
 have hval:∀ (j:Nat) t v,Tryz.f10.params[j]? = some t->args[j]? = some v->Value.okWide Tryz.prog W .any base t v:=hval0
 have hz:∀ n∈DataW.weightsEach Tryz.prog (Tryz.f10.params.toList++Rows.textStripsSpec.plain.varTypes Tryz.prog) (ds++gs),n<=reachBytes:=fun n hn=>by simpa using List.all_eq_true.1 hz n hn
 have hW':=hW
 obtain ⟨p,q,hA0,hV,rfl,hfz,hnd⟩:=hW
 have hA:DataW.TrodAll enc Tryz.prog W 0 (fun _=>true) true Tryz.f10.params.toList args.toList ds p:=hA0
 rw [Tryz.params10] at hA hval hz
 obtain ⟨v0,vs0,d0,ds0,p0,q0,hargs,rfl,rfl,h0,r0⟩:=trodAll_cons hA
 obtain ⟨rfl,rfl,rfl⟩:=trodAll_nil r0
 obtain rfl:args=#[v0]:=by cases args; simp_all
 obtain ⟨rfl,rfl⟩:=trodVars_none hV
 obtain ⟨cs,rfl,hsz⟩:=okWide_struct Tryz.underlying29 (hval 0 29 v0 rfl rfl)
 have hwd:Go.Den.WDx Tryz.prog W.heap 29 cs.toList:=by
  obtain ⟨f,hf⟩:=h0
  exact ⟨f,Go.Den.wd_of hf fun n hn=>hz n (DataW.weights_mem_each (j:=0) rfl rfl n hn)⟩
 clear hA0 hval0
 simp only [List.append_nil] at hW'
 refine (textStrips_walk W hsz hwd).mono fun e W' ⟨he,hb⟩=>?_
 subst he
 refine ⟨_,rfl,[d0],[],_,[],p0,[],hW',?_,?_,?_,hb.frame _,fun h=>Bool.noConfusion h⟩
 ·exact trodAll_cons_mk (shut_bool Go.Proofs.Tryz.underlying4 _) trodAll_mk0
 ·exact ⟨p0,[],Below.trod laidOut (by kernel_rfl) (of_decide_eq_true (by kernel_rfl)) h0 hb (fun x hx=>by simpa using hW'.lt x hx),rfl,(List.append_nil p0).symm⟩
 ·rfl
theorem textStrips_over:Rows.textStripsRow.holds Tryz.pinned (OpenSpec.ofChange Rows.textStripsSpec) :=
 OpenClaim.holds_of_wide 10 Tryz.f10 rfl rfl rfl rfl rfl rfl rfl ⟨rfl,rfl,rfl,rfl,rfl⟩ rfl rfl rfl rfl rfl (by kernel_rfl) Tryz.func10 (by kernel_rfl)
  (of_decide_eq_true (by kernel_rfl)) (by unfold Func.isWrapper; first | (rw [if_pos (by decide +kernel)]; kernel_rfl) | (rw [if_neg (by decide +kernel)]; exact ⟨rfl,rfl⟩))
  (fun os started H enc _=>textStrips_lifted os started H enc)
theorem textStrips_proved:Rows.TextStripsSaid:=textStrips_over
#print axioms textStrips_proved
end Go.Proofs.YtbknfejmdekhpaaGreat
