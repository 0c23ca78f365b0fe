/- The given statement TextRefinedSaid is proved of the given program; there are no further conditions. W8: put together by wip/tools/bundle.py: TyA TyC Mlaw14TextDraws Blaw14TextDraws TyD TyE Mlaw14TextRefined Blaw14TextRefined TyF ArLink2 TyRefined. -/
import Derived.Test.YtbknfejmdekhpaaGreatW1
import Derived.Test.YtbknfejmdekhpaaGreatW2
import Derived.Test.YtbknfejmdekhpaaGreatW3
import Derived.Test.YtbknfejmdekhpaaGreatW4
import Derived.Test.YtbknfejmdekhpaaGreatW5
import Derived.Test.YtbknfejmdekhpaaGreatW6
import Derived.Test.YtbknfejmdekhpaaGreatW7
import Derived.Test.YtbknfejmdekhpaaGreatProg
import Derived.WalkKit
import Derived.ProofKit
import Derived.OpenShut
import Derived.Carry
import Derived.Deep.SlicePairs
import Derived.Lib.SmallJoins
import Derived.Test.YtbknfejmdekhpaaGreatRows
set_option linter.unusedVariables false
set_option linter.unusedSimpArgs false
set_option maxRecDepth 100000
namespace Go.Bm
open Go Go.Den Go.Den.YtbknfejmdekhpaaGreat
theorem wd_inst {h:Heap} {cs:List Value} (H:WDx TP h T_api_Instance cs):∃ o:OwI,cs=o.cs/\o.Vw h:=by
 obtain ⟨hl,hf⟩:=wd_struct Go.Proofs.Tryz.underlying47 H
 have k:TP.cellsOf T_api_Instance=7:=by kernel_rfl
 rw [k] at hl
 obtain ⟨v0,v1,v2,v3,v4,v5,v6,rfl⟩:=list7 hl
 have kb:TP.cellsOf T_api_Bitmap=3:=by kernel_rfl
 have kB:TP.cellsOf T_bool=1:=by kernel_rfl
 obtain ⟨x,e0,_⟩:=wd_int Go.Proofs.Tryz.underlying3 (one_of k_int (hf 0 _ rfl) (v:=v0) rfl)
 obtain ⟨y,e1,_⟩:=wd_int Go.Proofs.Tryz.underlying3 (one_of k_int (hf 1 _ rfl) (v:=v1) rfl)
 obtain ⟨s,e2,_⟩:=wd_int Go.Proofs.Tryz.underlying3 (one_of k_int (hf 2 _ rfl) (v:=v2) rfl)
 obtain ⟨d,e3⟩:=wd_bool Go.Proofs.Tryz.underlying4 (one_of kB (hf 3 _ rfl) (v:=v3) rfl)
 have f4:WDx TP h T_api_Bitmap (([v0,v1,v2,v3,v4,v5,v6].drop 4).take (TP.cellsOf T_api_Bitmap)):=hf 4 _ rfl
 rw [kb] at f4
 obtain ⟨w,b,q1,cap1,ws,e4,_,_,g1,g2,g3⟩:=wd_bitmap f4
 simp only [List.drop_succ_cons,List.drop_zero,List.take_succ_cons,List.take_zero,List.cons.injEq,and_true] at e0 e1 e2 e3 e4
 obtain ⟨e40,e41,e42⟩:=e4
 subst e0 e1 e2 e3 e40 e41 e42
 exact ⟨⟨⟨x,y,s,d,⟨w,b,ws⟩⟩,q1,cap1,[]⟩,rfl,g2,g3,g1⟩
theorem csI_at {O:List OwI} {j:Nat} {v:Value} (h:(csI O)[j]? = some v):∃ o,O[j / 7]? = some o/\o.cs[j % 7]? = some v:=by
 have hj:=(List.getElem?_eq_some_iff.1 h).1
 rw [csI_len] at hj
 obtain ⟨o,ho⟩:∃ o,O[j / 7]? = some o:=⟨_,List.getElem?_eq_getElem (by omega)⟩
 have h2:=csI_get' (j:=j % 7) ho (by omega)
 rw [show j / 7*7+j % 7=j by omega] at h2
 exact ⟨o,ho,h2.symm.trans h⟩
theorem wd_insts {h:Heap} {cs:List Value} (H:WDx TP h T_s_api_Instance cs):∃ q cap,∃ l:List Ins,cs=[.slice q l.length cap]/\InsV h q l/\l.length<=4000000000000:=by
 obtain ⟨q,len,cap,rfl,h1,h2,h3,h4⟩:=wd_slice Go.Proofs.Tryz.underlying24 H
 have k:TP.cellsOf T_api_Instance=7:=by kernel_rfl
 have kb:TP.bytesOf T_api_Instance=72:=by kernel_rfl
 have hrb:reachBytes=140737488351232:=rfl
 rw [k] at h4
 rw [kb] at h2
 obtain ⟨O,e1,e2⟩:=build (P:=fun i (o:OwI)=>∃ a,q=some a/\rdO h (some (a.add (i*7))) 7 o.cs/\o.Vw h) (n:=len) fun i hi=>by
  obtain ⟨a,cs',ha,hr,hd⟩:=h4 i hi
  obtain ⟨o,rfl,hv⟩:=wd_inst hd
  exact ⟨o,a,ha,hr,hv⟩
 subst e1
 refine ⟨q,cap,O.map OwI.i,by rw [List.length_map],⟨O,rfl,?_,fun o ho=>?_⟩,by rw [List.length_map]; omega⟩
 ·rw [List.length_map]
  cases q with
  | none =>
   have:=(h3 rfl).1
   obtain rfl:O=[]:=List.length_eq_zero_iff.1 this
   exact rfl
  | some a =>
   refine ⟨csI_len O,fun j v hj=>?_⟩
   obtain ⟨o,ho,hv⟩:=csI_at hj
   obtain ⟨a',ha,hr,_⟩:=e2 _ o ho
   injection ha with ha
   subst ha
   have:=hr.2 _ v hv
   rw [add_addT,show j / 7*7+j % 7=j by omega] at this
   exact this
 ·obtain ⟨i,hi⟩:=List.mem_iff_getElem?.1 ho
  obtain ⟨_,_,_,hv⟩:=e2 i o hi
  exact hv
theorem wd_text {h:Heap} {cs:List Value} (H:WDx TP h T_api_Text cs):∃ (t:Reg14) (q:Option Addr) (c:Nat) (l:List Ins),cs=t.cs q l.length c/\InsV h q l/\l.length<=4000000000000:=by
 obtain ⟨hl,hf⟩:=wd_struct Go.Proofs.Tryz.underlying26 H
 have k:TP.cellsOf T_api_Text=9:=by kernel_rfl
 rw [k] at hl
 obtain ⟨v0,v1,v2,v3,v4,v5,v6,v7,v8,rfl⟩:∃ a b c d e f g i j,cs=[a,b,c,d,e,f,g,i,j]:=by
  match cs,hl with
  | [a,b,c,d,e,f,g,i,j],_=>exact ⟨a,b,c,d,e,f,g,i,j,rfl⟩
 have kB:TP.cellsOf T_bool=1:=by kernel_rfl
 have kI:TP.cellsOf T_s_api_Instance=1:=by kernel_rfl
 obtain ⟨x,e0,_⟩:=wd_int Go.Proofs.Tryz.underlying3 (one_of k_int (hf 0 _ rfl) (v:=v0) rfl)
 obtain ⟨y,e1,_⟩:=wd_int Go.Proofs.Tryz.underlying3 (one_of k_int (hf 1 _ rfl) (v:=v1) rfl)
 obtain ⟨w,e2,_⟩:=wd_int Go.Proofs.Tryz.underlying3 (one_of k_int (hf 2 _ rfl) (v:=v2) rfl)
 obtain ⟨b,e3,_⟩:=wd_int Go.Proofs.Tryz.underlying3 (one_of k_int (hf 3 _ rfl) (v:=v3) rfl)
 obtain ⟨op,e4,_⟩:=wd_int Go.Proofs.Tryz.underlying3 (one_of k_int (hf 4 _ rfl) (v:=v4) rfl)
 obtain ⟨rf,e5⟩:=wd_bool Go.Proofs.Tryz.underlying4 (one_of kB (hf 5 _ rfl) (v:=v5) rfl)
 obtain ⟨df,e6,_⟩:=wd_int Go.Proofs.Tryz.underlying3 (one_of k_int (hf 6 _ rfl) (v:=v6) rfl)
 obtain ⟨st,e7,_⟩:=wd_int Go.Proofs.Tryz.underlying3 (one_of k_int (hf 7 _ rfl) (v:=v7) rfl)
 obtain ⟨q,c,l,e8,g1,g2⟩:=wd_insts (one_of kI (hf 8 _ rfl) (v:=v8) rfl)
 simp only [List.cons.injEq,and_true] at e0 e1 e2 e3 e4 e5 e6 e7 e8
 subst e0 e1 e2 e3 e4 e5 e6 e7 e8
 exact ⟨⟨x,y,w,b,op,rf,df,st⟩,q,c,l,rfl,g1,g2⟩
theorem wd_ask14 {h:Heap} {cs:List Value} (H:WDx TP h T_burinlaw14_Ask cs):∃ (t:Reg14) (q:Option Addr) (c:Nat) (l:List Ins) (q2:Option Addr) (c2:Nat) (sy:List Bmp),cs=t.cs q l.length c++[.slice q2 sy.length c2]/\InsV h q l/\l.length<=4000000000000/\BmsV h q2 sy/\sy.length<=4000000000000:=by
 obtain ⟨hl,hf⟩:=wd_struct Go.Proofs.Tryz.underlying29 H
 have k:TP.cellsOf T_burinlaw14_Ask=10:=by kernel_rfl
 rw [k] at hl
 obtain ⟨v0,v1,v2,v3,v4,v5,v6,v7,v8,v9,rfl⟩:∃ a b c d e f g i j k,cs=[a,b,c,d,e,f,g,i,j,k]:=by
  match cs,hl with
  | [a,b,c,d,e,f,g,i,j,k],_=>exact ⟨a,b,c,d,e,f,g,i,j,k,rfl⟩
 have kt:TP.cellsOf T_api_Text=9:=by kernel_rfl
 have k1:TP.cellsOf T_s_api_Bitmap=1:=by kernel_rfl
 have f0:WDx TP h T_api_Text (([v0,v1,v2,v3,v4,v5,v6,v7,v8,v9].drop 0).take (TP.cellsOf T_api_Text)):=hf 0 _ rfl
 rw [kt] at f0
 obtain ⟨t,q,c,l,e0,g1,g2⟩:=wd_text f0
 obtain ⟨q2,c2,sy,e9,g3,g4,_⟩:=wd_bms (one_of k1 (hf 1 _ rfl) (v:=v9) rfl)
 simp only [List.drop_zero,List.take_succ_cons,List.take_zero,List.cons.injEq,and_true] at e0 e9
 obtain ⟨e0,e1,e2,e3,e4,e5,e6,e7,e8⟩:=e0
 subst e0 e1 e2 e3 e4 e5 e6 e7 e8 e9
 exact ⟨t,q,c,l,q2,c2,sy,rfl,g1,g2,g3,g4⟩
open Classical in
noncomputable def arS (sy:List Bmp) (l:List Ins):Nat:=(l.map fun i=>if 0<=i.s/\i.s<((sy.length:Nat):Int)/\(symOf sy i.s).may then (symOf sy i.s).w.toNat*(symOf sy i.s).h.toNat else 0).sum
structure Light14 (t:Reg14) (sy:List Bmp) (l:List Ins):Prop where
 n1:l.length<=200
 n2:sy.length<=200
 w1:∀ i∈l,i.b.ws.length<=6000
 w2:∀ b∈sy,b.ws.length<=6000
 ar:arS sy l<=24000
 sz:SizeP t.w t.h->(t.w+64)*t.h<=60000
open Classical in
theorem arS_snoc (sy:List Bmp) (l:List Ins) (i:Ins):arS sy (l++[i])=arS sy l+(if 0<=i.s/\i.s<((sy.length:Nat):Int)/\(symOf sy i.s).may then (symOf sy i.s).w.toNat*(symOf sy i.s).h.toNat else 0):=by
 unfold arS
 rw [List.map_append,List.sum_append]
 simp
theorem sym_get {sy:List Bmp} {s:Int} (h:0<=s/\s<((sy.length:Nat):Int)):sy[s.toNat]? = some (symOf sy s):=by
 obtain ⟨b,hb⟩:∃ b,sy[s.toNat]? = some b:=⟨_,List.getElem?_eq_getElem (by omega)⟩
 unfold symOf
 rw [List.getD_eq_getElem?_getD,hb]
 rfl
section
variable {hB:Heap} {K:VK} {Kp:PK} {t:Reg14} {q q2:Option Addr} {c c2:Nat} {sy:List Bmp} {l:List Ins}
set_option maxHeartbeats 4000000 in
theorem light14_ok (hv:InsV hB q l) (hs:BmsV hB q2 sy) (hl:l.length<=4000000000000) (hsl:sy.length<=4000000000000) (hk:∀ (r:Bool) h',(r=true->Light14 t sy l)->hext hB h'->K (.bool r) h') :
  CP F_burinlaw14_light #[.agg #[.int .i64 t.x, .int .i64 t.y, .int .i64 t.w, .int .i64 t.h, .int .i64 t.op, .bool t.rf, .int .i64 t.df, .int .i64 t.st, .slice q l.length c, .slice q2 sy.length c2]] hB K Kp:=by
 refine call_burinlaw14_light ?_
 unfold burinlaw14_light
 have H:=Hp.nil hB []
 refine newC_hp H fun r11 h H=>?_
 have H:Hp hB [] h [⟨r11,true,T_burinlaw14_Ask,t.cs q l.length c++[.slice q2 sy.length c2]⟩]:=H
 have bad:∀ {h'},hext hB h'->K (.bool false) h':=fun e=>hk false _ (fun hh=>by cases hh) e
 obtain ⟨O,hO,hro,hvw⟩:=hv
 have hOl:O.length=l.length:=by rw [<- hO,List.length_map]
 refine ⟨fun m vs h'=>∃ (i n:Nat),i+m=sy.length/\n<=384000/\(∀ b∈sy.take i,b.ws.length<=6000)/\vs=[.int .i64 (n:Nat), .int .i64 (i:Nat)]/\h'=h,⟨sy.length,0,0,by omega,by omega,(fun b hb=>by cases hb),rfl,rfl⟩,?_⟩
 rintro m h' u xn xi ⟨i,n,him,hn,hws,hxx,rfl⟩
 injection hxx with hx1 hxx
 injection hxx with hx2 hxx
 injection hx1 with _ hx1
 injection hx2 with _ hx2
 subst xn xi
 refine ldS_of (hpA H 0 rfl rfl) ?_
 refine bcase_dec (fun h1=>?_) fun h1=>?_
 ·obtain ⟨b,hb⟩:∃ b,sy[i]? = some b:=⟨_,List.getElem?_eq_getElem (by omega)⟩
  obtain ⟨a,qa,ca,hqa,hc0⟩:=hs i b hb
  have hc:=hc0.ext H.hext
  have hbl:=hc.l1
  refine ldS_of (hpA H 0 rfl rfl) (needs_of (by omega) (ptr_at hqa ?_))
  rw [Int.toNat_natCast]
  refine ldS_of hc.c2 ?_
  refine bindI_of (((64*b.ws.length:Nat):Int)) (by exact i64_at _ _ (by omega) (by omega) (by omega)) ?_
  refine bindI_of (((n+64*b.ws.length:Nat):Int)) (by exact i64_at _ _ (by omega) (by omega) (by omega)) ?_
  refine bindI_of (((n+64*b.ws.length+8:Nat):Int)) (by exact i64_at _ _ (by omega) (by omega) (by omega)) ?_
  refine bcase_dec (fun h2=>bad H.hext) fun h2=>?_
  refine bindI_of (((i+1:Nat):Int)) (by exact i64_at _ _ (by omega) (by omega) (by omega)) ?_
  refine ⟨m-1,by omega,i+1,n+64*b.ws.length+8,by omega,by omega,fun x hx=>?_,rfl,rfl⟩
  rw [take_snocG hb] at hx
  rcases List.mem_append.1 hx with hx | hx
  ·exact hws x hx
  ·rw [List.mem_singleton.1 hx]; omega
 obtain rfl:i=sy.length:=by omega
 rw [List.take_of_length_le (Nat.le_refl _)] at hws
 refine ⟨fun m vs h''=>∃ (i n:Nat),i+m=l.length/\8*i<=n/\n<=384000/\(∀ b∈l.take i,b.b.ws.length<=6000)/\arS sy (l.take i)<=i*1048576/\vs=[.int .i64 (n:Nat), .int .i64 (arS sy (l.take i):Nat), .int .i64 (i:Nat)]/\Hp hB [] h'' [⟨r11,true,T_burinlaw14_Ask,t.cs q l.length c++[.slice q2 sy.length c2]⟩],?_,?_⟩
 ·refine ⟨l.length,0,n,by omega,by omega,by omega,(fun b hb=>by cases hb),Nat.zero_le _,rfl,H⟩
 clear H
 rintro m h u xn xa xi ⟨i,n',him,hn8,hn',hws2,har,hxx,H⟩
 injection hxx with hx1 hxx
 injection hxx with hx2 hxx
 injection hxx with hx3 hxx
 injection hx1 with _ hx1
 injection hx2 with _ hx2
 injection hx3 with _ hx3
 subst xn xa xi
 refine ldS_of (hpB H 0 rfl rfl) ?_
 refine bcase_dec (fun h1=>?_) fun h1=>?_
 ·obtain ⟨o,ho⟩:∃ o,O[i]? = some o:=⟨_,List.getElem?_eq_getElem (by omega)⟩
  have hli:l[i]? = some o.i:=by rw [<- hO,List.getElem?_map,ho]; rfl
  obtain ⟨a,ha,cell⟩:=ins_at (rdO_ext H.hext hro) ho
  have hvo:=hvw o (List.mem_of_getElem? ho)
  have hol:=hvo.l
  have hnd:0<=((i:Nat):Int)/\((i:Nat):Int)<((l.length:Nat):Int):=by omega
  refine ldS_of (hpB H 0 rfl rfl) (needs_of hnd (ptr_eq ha ?_))
  rw [Int.toNat_natCast,add_addT _ 4 2]
  refine ldS_of (cell 6 _ rfl) ?_
  refine bindI_of (((64*o.i.b.ws.length:Nat):Int)) (by exact i64_at _ _ (by omega) (by omega) (by omega)) ?_
  refine bindI_of (((n'+64*o.i.b.ws.length:Nat):Int)) (by exact i64_at _ _ (by omega) (by omega) (by omega)) ?_
  refine bindI_of (((n'+64*o.i.b.ws.length+8:Nat):Int)) (by exact i64_at _ _ (by omega) (by omega) (by omega)) ?_
  refine bcase_dec (fun h2=>bad H.hext) fun h2=>?_
  have hws3:∀ b∈l.take (i+1),b.b.ws.length<=6000:=fun x hx=>by
   rw [take_snocG hli] at hx
   rcases List.mem_append.1 hx with hx | hx
   ·exact hws2 x hx
   ·rw [List.mem_singleton.1 hx]; omega
  have hsn:=arS_snoc sy (l.take i) o.i
  rw [<- take_snocG hli] at hsn
  refine ⟨fun vs h'=>∃ r:Bool,vs=[.bool r]/\(r=true↔0<=o.i.s/\o.i.s<((sy.length:Nat):Int)/\(symOf sy o.i.s).may)/\hext h h',?_,?_⟩
  ·refine ldS_of (hpB H 0 rfl rfl) (needs_of hnd (ptr_eq ha ?_))
   refine ldI_of (cell 2 _ rfl) ?_
   refine bcase_dec (fun h3=>?_) fun h3=>⟨false,rfl,⟨(fun hh=>by cases hh),fun hh=>absurd hh.1 (by omega)⟩,hext.refl _⟩
   refine ldS_of (hpB H 0 rfl rfl) (needs_of hnd (ptr_eq ha ?_))
   refine ldI_of (cell 2 _ rfl) (ldS_of (hpA H 0 rfl rfl) ?_)
   refine bcase_dec (fun h4=>?_) fun h4=>⟨false,rfl,⟨(fun hh=>by cases hh),fun hh=>absurd hh.2.1 (by omega)⟩,hext.refl _⟩
   obtain ⟨a3,q9,c9,ha3,hc0⟩:=hs _ _ (sym_get (sy:=sy) (s:=o.i.s) ⟨by omega,h4⟩)
   have hc:=hc0.ext H.hext
   refine ldS_of (hpA H 0 rfl rfl) (ldS_of (hpB H 0 rfl rfl) (needs_of hnd (ptr_eq ha ?_)))
   refine ldI_of (cell 2 _ rfl) (needs_of (by omega) (ptr_eq ha3 ?_))
   refine ldI_of hc.c0 (ldI_of hc.c1 (ldS_of hc.c2 ?_))
   refine may_ok hc.r1 hc.w1 hc.l1 fun r h' hr e=>⟨_,rfl,r,rfl,⟨fun hh=>⟨by omega,h4,hr.1 hh⟩,fun hh=>hr.2 hh.2.2⟩,e⟩
  rintro h' u xb ⟨r,hxx,hr,e⟩
  injection hxx with hx1 hxx
  injection hx1 with hx1
  subst xb
  have H:=H.ext e
  have cell:∀ j v,o.cs[j]? = some v->hcell h' ((a.add (i*7)).add j)=some v:=fun j v hv=>e.cell (cell j v hv)
  refine bcase_of (fun h3=>?_) fun h3=>?_
  ·have hcond:=hr.1 h3
   rw [if_pos hcond] at hsn
   obtain ⟨W,X,e1,e2,hW1,hW2,hX1,hX2,hWX⟩:=size_nat hcond.2.2.1
   rw [e1,e2,Int.toNat_natCast,Int.toNat_natCast] at hsn
   obtain ⟨a3,q9,c9,ha3,hc0⟩:=hs _ _ (sym_get (sy:=sy) (s:=o.i.s) ⟨hcond.1,hcond.2.1⟩)
   have hc:=hc0.ext H.hext
   have hnd2:0<=o.i.s/\o.i.s<((sy.length:Nat):Int):=⟨hcond.1,hcond.2.1⟩
   refine ldS_of (hpA H 0 rfl rfl) (ldS_of (hpB H 0 rfl rfl) (needs_of hnd (ptr_eq ha ?_)))
   refine ldI_of (cell 2 _ rfl) (needs_of hnd2 (ptr_eq ha3 ?_))
   refine ldI_of hc.c0 ?_
   refine ldS_of (hpA H 0 rfl rfl) (ldS_of (hpB H 0 rfl rfl) (needs_of hnd (ptr_eq ha ?_)))
   refine ldI_of (cell 2 _ rfl) (needs_of hnd2 (ptr_eq ha3 ?_))
   refine ldI_of hc.c1 ?_
   have hmz:(symOf sy o.i.s).w*(symOf sy o.i.s).h=((W*X:Nat):Int):=by rw [e1,e2]; simp
   refine bindI_of (((W*X:Nat):Int)) (by exact i64_at _ _ hmz (by omega) (by omega)) ?_
   refine bindI_of (((arS sy (l.take (i+1)):Nat):Int)) (by (rw [hsn]; exact i64_at _ _ (by omega) (by omega) (by omega))) ?_
   refine bindI_of (((i+1:Nat):Int)) (by exact i64_at _ _ (by omega) (by omega) (by omega)) ?_
   exact ⟨m-1,by omega,i+1,_,by omega,by omega,by omega,hws3,by omega,rfl,H⟩
  ·rw [if_neg (fun hh=>by rw [hr.2 hh] at h3; cases h3)] at hsn
   have hsn:arS sy (l.take (i+1))=arS sy (l.take i):=hsn.trans (Nat.add_zero _)
   rw [<- hsn]
   refine bindI_of (((i+1:Nat):Int)) (by exact i64_at _ _ (by omega) (by omega) (by omega)) ?_
   exact ⟨m-1,by omega,i+1,_,by omega,by omega,by omega,hws3,by omega,rfl,H⟩
 obtain rfl:i=l.length:=by omega
 rw [List.take_of_length_le (Nat.le_refl _)] at hws2 ⊢
 refine bcase_dec (fun h2=>?_) fun h2=>bad H.hext
 refine ldS_of (hpB H 0 rfl rfl) (bcase_dec (fun h3=>?_) fun h3=>bad H.hext)
 refine ldS_of (hpA H 0 rfl rfl) (bcase_dec (fun h4=>?_) fun h4=>bad H.hext)
 refine ldI_of (hpB H 0 rfl rfl) (ldI_of (hpB H 0 rfl rfl) (rsize_ok fun b hb=>⟨_,rfl,?_⟩))
 have key:(SizeP t.w t.h->(t.w+64)*t.h<=60000)->Light14 t sy l:=fun hsz=>⟨by omega,by omega,hws2,hws,by omega,hsz⟩
 refine bcase_not (fun h5=>?_) fun h5=>?_
 ·exact hk true _ (fun _=>key fun hsz=>by rw [hb.2 hsz] at h5; cases h5) H.hext
 ·have hsz:=hb.1 h5
  obtain ⟨W,X,e1,e2,hW1,hW2,hX1,hX2,hWX⟩:=size_nat hsz
  have h64:X*64<=1048576*64:=Nat.mul_le_mul_right _ hX2
  have hmm:(t.w+64)*t.h=(((W+64)*X:Nat):Int):=by rw [e1,e2]; simp
  have hmn:(W+64)*X=W*X+64*X:=Nat.add_mul ..
  refine ldI_of (hpB H 0 rfl rfl) ?_
  refine bindI_of ((t.w+64)) (by exact i64_in _ (by omega) (by omega)) ?_
  refine ldI_of (hpB H 0 rfl rfl) ?_
  refine bindI_of ((((W+64)*X:Nat):Int)) (by exact i64_at _ _ hmm (by omega) (by omega)) ?_
  refine hk _ _ (fun hh=>key fun _=>?_) H.hext
  rw [hmm]
  exact of_decide_eq_true hh
end
end Go.Bm
namespace Go.Bm
open Go Go.Den Go.Den.YtbknfejmdekhpaaGreat
def insP (sy:List Bmp) (x Y:Nat) (i:Ins):Prop:=i.x<=x/\(x:Int)<i.x+(srcB sy i).w/\i.y<=Y/\(Y:Int)<i.y+(srcB sy i).h
instance (sy:List Bmp) (x Y:Nat) (i:Ins):Decidable (insP sy x Y i):=by unfold insP; infer_instance
end Go.Bm
namespace Go.Den.YtbknfejmdekhpaaGreat
open Go Go.Den
end Go.Den.YtbknfejmdekhpaaGreat
namespace Go.Den.YtbknfejmdekhpaaGreat
open Go Go.Den
end Go.Den.YtbknfejmdekhpaaGreat
namespace Go.Bm
open Go Go.Den Go.Den.YtbknfejmdekhpaaGreat
section
variable {hB:Heap} {K:VK} {Kp:PK}
theorem getB_ok {b:Bmp} {q:Option Addr} {c:Nat} (hr:rdO hB q (b.ws.length*1) (u64s b.ws)) (hw:W64 b.ws) (hm:b.may) {x y:Int} (hk:∀ h,hext hB h->K (.int .i64 ((getP b.ws b.w.toNat b.h.toNat x y).toNat:Nat)) h) :
  CP F_burinref0_Get #[.agg #[.int .i64 b.w, .int .i64 b.h, .slice q b.ws.length c], .int .i64 x, .int .i64 y] hB K Kp:=by
 obtain ⟨bw,bh,ws⟩:=b
 obtain ⟨W,X,e1,e2,_⟩:=size_nat hm.1
 have e1:bw=(W:Int):=e1
 have e2:bh=(X:Int):=e2
 subst e1 e2
 refine get_ok hr hw hm.1 (may_len hm) fun h e=>?_
 exact hk h e
end
end Go.Bm
namespace Go.Bm
open Go Go.Den Go.Den.YtbknfejmdekhpaaGreat
theorem csI_setG:∀ (P:List OwI) (rest:List Value) (i j:Nat) (o o':OwI) (v:Value),P[i]? = some o->j<7->o'.cs=o.cs.set j v->(csI P++rest).set (i*7+j) v=csI (P.set i o')++rest
 | [],_,i,j,o,o',v,h,_,_=>by cases h
 | p::P,rest,0,j,o,o',v,h,hj,e=>by
  injection h with h
  subst h
  rw [csI_cons,List.set_cons_zero,csI_cons,e,Nat.zero_mul,Nat.zero_add,List.append_assoc,List.set_append_left _ _ (by exact hj),List.append_assoc]
 | p::P,rest,i+1,j,o,o',v,h,hj,e=>by
  rw [csI_cons,List.append_assoc,csI_setj,csI_setG P rest i j o o' v h hj e]
  rfl
section
variable {h0 h:Heap} {F:List Nat} {L:List Ent} {b:Nat} {P:List OwI} {rest:List Value} {K:Heap->Prop}
theorem stI (H:Hp h0 F h (⟨b,true,T_api_Instance,csI P++rest⟩::L)) {i j:Nat} {o o':OwI} {v:Value} (ho:P[i]? = some o) (hj:j<7) (e:o'.cs=o.cs.set j v) (hv:v.oneCell'=true)
  (hk:∀ h',Hp h0 F h' (⟨b,true,T_api_Instance,csI (P.set i o')++rest⟩::L)->K h'):stV h (((⟨b,0,none⟩:Addr).add (i*7)).add j) v K:=by
 have hi:=(List.getElem?_eq_some_iff.1 ho).1
 rw [add_mk,add_mk,Nat.zero_add]
 refine stV_hp H 0 rfl (by rw [List.length_append,csI_len]; omega) hv fun h' _ H=>hk h' ?_
 rw [<- csI_setG P rest i j o o' v ho hj e]
 exact H
theorem stM (H:Hp h0 F h (⟨b,true,T_api_Instance,csI P++rest⟩::L)) {i:Nat} {o:OwI} (ho:P[i]? = some o) (m:Bmp) (q:Option Addr) (c:Nat) (D:List Ent)
  (hk:∀ h',Hp h0 F h' (⟨b,true,T_api_Instance,csI (P.set i ⟨{ o.i with b:=m },q,c,D⟩)++rest⟩::L)->K h') :
  stV h ((((⟨b,0,none⟩:Addr).add (i*7)).add 4).add 0) (.int .i64 m.w) fun h1=>stV h1 ((((⟨b,0,none⟩:Addr).add (i*7)).add 4).add 1) (.int .i64 m.h) fun h2=>stV h2 ((((⟨b,0,none⟩:Addr).add (i*7)).add 4).add 2) (.slice q m.ws.length c) K:=by
 have hi:=(List.getElem?_eq_some_iff.1 ho).1
 rw [add_zero',add_addT _ 4 1,add_addT _ 4 2,add_mk,add_mk,add_mk,add_mk,Nat.zero_add]
 have hlen:(csI P++rest).length=P.length*7+rest.length:=by rw [List.length_append,csI_len]
 refine stV_hp H 0 rfl (by rw [hlen]; omega) rfl fun h _ H=>?_
 refine stV_hp H 0 rfl (by rw [List.length_set,hlen]; omega) rfl fun h _ H=>?_
 refine stV_hp H 0 rfl (by rw [List.length_set,List.length_set,hlen]; omega) rfl fun h _ H=>?_
 refine hk h ?_
 have e:(((csI P++rest).set (i*7+4) (.int .i64 m.w)).set (i*7+5) (.int .i64 m.h)).set (i*7+6) (.slice q m.ws.length c)=csI (P.set i ⟨{ o.i with b:=m },q,c,D⟩)++rest:=by
  rw [csI_setG P rest i 4 o ⟨{ o.i with b:={ o.i.b with w:=m.w } },o.q,o.c,o.D⟩ _ ho (by decide) rfl,
   csI_setG _ rest i 5 ⟨{ o.i with b:={ o.i.b with w:=m.w } },o.q,o.c,o.D⟩ ⟨{ o.i with b:=⟨m.w,m.h,o.i.b.ws⟩ },o.q,o.c,o.D⟩ _ (List.getElem?_set_self hi) (by decide) rfl,List.set_set,
   csI_setG _ rest i 6 ⟨{ o.i with b:=⟨m.w,m.h,o.i.b.ws⟩ },o.q,o.c,o.D⟩ ⟨{ o.i with b:=m },q,c,D⟩ _ (List.getElem?_set_self hi) (by decide) rfl,List.set_set]
 rw [<- e]
 exact H
end
structure HasI (G:List Ent) (P:List OwI):Prop where
 ok:∀ o∈P,o.Ok
 has:∀ o∈P,∀ e∈o.D,e∈G
theorem HasI.set {G G':List Ent} {P:List OwI} {i:Nat} {o:OwI} (h:HasI G P) (hG:∀ e∈G,e∈G') (ho:o.Ok) (hD:∀ e∈o.D,e∈G'):HasI G' (P.set i o) :=
 ⟨fun x hx=>by
  rcases List.mem_or_eq_of_mem_set hx with hx | rfl
  ·exact h.ok x hx
  ·exact ho,fun x hx e he=>by
  rcases List.mem_or_eq_of_mem_set hx with hx | rfl
  ·exact hG e (h.has x hx e he)
  ·exact hD e he⟩
theorem HasI.mono {G G':List Ent} {P:List OwI} (h:HasI G P) (hG:∀ e∈G,e∈G'):HasI G' P:=⟨h.ok,fun o ho e he=>hG e (h.has o ho e he)⟩
theorem HasI.view {h0 h:Heap} {F:List Nat} {G A:List Ent} {b:Nat} {P:List OwI} {rest:List Value} (hG:HasI G P) (H:Hp h0 F h (⟨b,true,T_api_Instance,csI P++rest⟩::(A++G))):InsV h (some ⟨b,0,none⟩) (P.map OwI.i):=by
 refine ⟨P,rfl,?_,fun o ho=>⟨Slot.rdO' (hG.ok o ho).s H fun e he=>List.mem_cons_of_mem _ (List.mem_append_right _ (hG.has o ho e he)),(hG.ok o ho).w,(hG.ok o ho).l⟩⟩
 rw [List.length_map]
 exact Hp.rdO_mem (rest:=rest) (cs:=csI P) H (List.mem_cons_self ..) (csI_len P)
theorem TForm.of_set {t:Reg14} {sy:List Bmp} {l:List Ins} {k:Nat} {i:Ins} (hk:k<l.length) (h:TForm t sy (l.set k i)):InsOk t.rf sy i:=h.2.2 i (by
 refine List.mem_of_getElem? (i:=k) ?_
 rw [List.getElem?_set_self hk])
theorem InsOk.mono {sy:List Bmp} {i:Ins} {rf:Bool} (h:InsOk rf sy i):InsOk true sy i:=⟨h.1,h.2.1,h.2.2.1,h.2.2.2.1,fun hd=>⟨rfl,(h.2.2.2.2 hd).2⟩⟩
theorem arI_arS {sy:List Bmp} {rf:Bool} (hm:MayL sy):∀ l:List Ins,(∀ i∈l,InsOk rf sy i)->arI l<=arS sy l
 | [],_=>Nat.le_refl _
 | i::l,h=>by
  have ih:=arI_arS hm l fun x hx=>h x (List.mem_cons_of_mem _ hx)
  have hi:=h i (List.mem_cons_self ..)
  have e:arS sy (i::l)=(symOf sy i.s).w.toNat*(symOf sy i.s).h.toNat+arS sy l:=by
   unfold arS
   rw [List.map_cons,List.sum_cons,if_pos ⟨hi.1.1,hi.1.2,hm _ (List.mem_of_getElem? (sym_at hi))⟩]
  rw [arI_cons,e]
  have:i.b.w.toNat*i.b.h.toNat<=(symOf sy i.s).w.toNat*(symOf sy i.s).h.toNat:=by
   cases hd:i.d with
   | false=>rw [(hi.2.2.2.1 hd).1]; simp
   | true=>rw [(hi.2.2.2.2 hd).2.2.1,(hi.2.2.2.2 hd).2.2.2.1]; exact Nat.le_refl _
  omega
theorem arS_set {sy:List Bmp}:∀ {l:List Ins} {k:Nat} {i i':Ins},l[k]? = some i->i'.s=i.s->arS sy (l.set k i')=arS sy l
 | [],k,i,i',h,_=>by cases h
 | x::l,0,i,i',h,e=>by
  injection h with h
  subst h
  unfold arS
  rw [List.set_cons_zero,List.map_cons,List.map_cons,e]
 | x::l,k+1,i,i',h,e=>by
  have ih:=arS_set (sy:=sy) (l:=l) (k:=k) (i:=i) (i':=i') h e
  unfold arS at ih ⊢
  rw [List.set_cons_succ,List.map_cons,List.map_cons,List.sum_cons,List.sum_cons,ih]
theorem arS_mem {sy:List Bmp} {l:List Ins} {i:Ins} {rf:Bool} (hm:MayL sy) (hi:InsOk rf sy i) (h:i∈l):(symOf sy i.s).w.toNat*(symOf sy i.s).h.toNat<=arS sy l:=by
 induction l with
 | nil=>cases h
 | cons x l ih =>
  rcases List.mem_cons.1 h with rfl | h
  ·have e:arS sy (i::l)=(symOf sy i.s).w.toNat*(symOf sy i.s).h.toNat+arS sy l:=by
    unfold arS
    rw [List.map_cons,List.sum_cons,if_pos ⟨hi.1.1,hi.1.2,hm _ (List.mem_of_getElem? (sym_at hi))⟩]
   omega
  ·have:=ih h
   have e:arS sy l<=arS sy (x::l):=by
    unfold arS
    rw [List.map_cons,List.sum_cons]
    exact Nat.le_add_left _ _
   omega
end Go.Bm
namespace Go.Den.YtbknfejmdekhpaaGreat
open Go Go.Den
def burinlaw14_TextRefined (C:CallP) (p_1:Int) (p_2:Int) (p_3:Int) (p_4:Int) (p_5:Int) (p_6:Bool) (p_7:Int) (p_8:Int) (p_9:Option Addr) (p_9n:Nat) (p_9c:Nat) (p_10:Option Addr) (p_10n:Nat) (p_10c:Nat) (h:Heap) (K:VK) (Kp:PK):Prop :=
newC h [.int .i64 p_1, .int .i64 p_2, .int .i64 p_3, .int .i64 p_4, .int .i64 p_5, .bool p_6, .int .i64 p_7, .int .i64 p_8, .slice p_9 p_9n p_9c, .slice p_10 p_10n p_10c] T_burinlaw14_Ask fun r_11 h_12 =>
ldI h_12 ((⟨r_11,0,none⟩:Addr).add 0) .i64 fun x_13 =>
ldI h_12 ((⟨r_11,0,none⟩:Addr).add 1) .i64 fun x_14 =>
ldI h_12 ((⟨r_11,0,none⟩:Addr).add 2) .i64 fun x_15 =>
ldI h_12 ((⟨r_11,0,none⟩:Addr).add 3) .i64 fun x_16 =>
ldI h_12 ((⟨r_11,0,none⟩:Addr).add 4) .i64 fun x_17 =>
ldB h_12 ((⟨r_11,0,none⟩:Addr).add 5) fun x_18 =>
ldI h_12 ((⟨r_11,0,none⟩:Addr).add 6) .i64 fun x_19 =>
ldI h_12 ((⟨r_11,0,none⟩:Addr).add 7) .i64 fun x_20 =>
ldS h_12 ((⟨r_11,0,none⟩:Addr).add 8) fun x_21 x_21n x_21c =>
ldS h_12 ((⟨r_11,0,none⟩:Addr).add 9) fun x_22 x_22n x_22c =>
C F_burinlaw14_light #[.agg #[.int .i64 x_13, .int .i64 x_14, .int .i64 x_15, .int .i64 x_16, .int .i64 x_17, .bool x_18, .int .i64 x_19, .int .i64 x_20, .slice x_21 x_21n x_21c, .slice x_22 x_22n x_22c]] h_12 (fun v_23 h_24 =>
∃ (r_25:Bool),v_23 = .bool r_25/\(
bcase (!r_25) (
C F_burinlaw14_wakes #[] h_24 (fun v_26 h_27 =>
∃ (r_28:Bool),v_26 = .bool r_28/\(
K (.bool r_28) h_27)) (Kp)) <|
ldI h_24 (((⟨r_11,0,none⟩:Addr).add 0).add 0) .i64 fun x_29 =>
ldI h_24 (((⟨r_11,0,none⟩:Addr).add 0).add 1) .i64 fun x_30 =>
ldI h_24 (((⟨r_11,0,none⟩:Addr).add 0).add 2) .i64 fun x_31 =>
ldI h_24 (((⟨r_11,0,none⟩:Addr).add 0).add 3) .i64 fun x_32 =>
ldI h_24 (((⟨r_11,0,none⟩:Addr).add 0).add 4) .i64 fun x_33 =>
ldB h_24 (((⟨r_11,0,none⟩:Addr).add 0).add 5) fun x_34 =>
ldI h_24 (((⟨r_11,0,none⟩:Addr).add 0).add 6) .i64 fun x_35 =>
ldI h_24 (((⟨r_11,0,none⟩:Addr).add 0).add 7) .i64 fun x_36 =>
ldS h_24 (((⟨r_11,0,none⟩:Addr).add 0).add 8) fun x_37 x_37n x_37c =>
ldS h_24 ((⟨r_11,0,none⟩:Addr).add 9) fun x_38 x_38n x_38c =>
C F_burinref14_Bad #[.agg #[.int .i64 x_29, .int .i64 x_30, .int .i64 x_31, .int .i64 x_32, .int .i64 x_33, .bool x_34, .int .i64 x_35, .int .i64 x_36, .slice x_37 x_37n x_37c], .slice x_38 x_38n x_38c] h_24 (fun v_39 h_40 =>
∃ (r_41:Int),v_39 = .int .i64 r_41/\(
bcase (r_41 != (0:Int)) (
C F_burinlaw14_wakes #[] h_40 (fun v_42 h_43 =>
∃ (r_44:Bool),v_42 = .bool r_44/\(
K (.bool r_44) h_43)) (Kp)) <|
∃ J_45:Nat->List Value->Heap->Prop,(∃ n_47,J_45 n_47 [.int .i64 0] h_40)/\∀ (n_47:Nat) (h_48:Heap) (u_49:Nat->Value) (i_50:Int),J_45 n_47 [.int .i64 i_50] h_48->(
ldS h_48 (((⟨r_11,0,none⟩:Addr).add 0).add 8) fun x_51 x_51n x_51c =>
bcase (decide (i_50<(x_51n:Int))) (
bcase (decide (i_50<(6:Int))) (
ldS h_48 ((⟨r_11,0,none⟩:Addr).add 9) fun x_52 x_52n x_52c =>
ldS h_48 (((⟨r_11,0,none⟩:Addr).add 0).add 8) fun x_53 x_53n x_53c =>
needs (0<=i_50/\i_50<(x_53n:Int)) <|
ptr x_53 fun a_54 =>
ldI h_48 ((a_54.add (i_50.toNat*7)).add 2) .i64 fun x_55 =>
needs (0<=x_55/\x_55<(x_52n:Int)) <|
ptr x_52 fun a_56 =>
ldI h_48 ((a_56.add (x_55.toNat*3)).add 0) .i64 fun x_57 =>
ldI h_48 ((a_56.add (x_55.toNat*3)).add 1) .i64 fun x_58 =>
ldS h_48 ((a_56.add (x_55.toNat*3)).add 2) fun x_59 x_59n x_59c =>
newC h_48 [.int .i64 0, .int .i64 0, .slice none 0 0] T_api_Bitmap fun r_60 h_61 =>
stV h_61 ((⟨r_60,0,none⟩:Addr).add 0) (.int .i64 x_57) fun h_62 =>
stV h_62 ((⟨r_60,0,none⟩:Addr).add 1) (.int .i64 x_58) fun h_63 =>
stV h_63 ((⟨r_60,0,none⟩:Addr).add 2) (.slice x_59 x_59n x_59c) fun h_64 =>
ldI h_64 (((⟨r_11,0,none⟩:Addr).add 0).add 0) .i64 fun x_65 =>
ldI h_64 (((⟨r_11,0,none⟩:Addr).add 0).add 1) .i64 fun x_66 =>
ldI h_64 (((⟨r_11,0,none⟩:Addr).add 0).add 2) .i64 fun x_67 =>
ldI h_64 (((⟨r_11,0,none⟩:Addr).add 0).add 3) .i64 fun x_68 =>
ldI h_64 (((⟨r_11,0,none⟩:Addr).add 0).add 4) .i64 fun x_69 =>
ldB h_64 (((⟨r_11,0,none⟩:Addr).add 0).add 5) fun x_70 =>
ldI h_64 (((⟨r_11,0,none⟩:Addr).add 0).add 6) .i64 fun x_71 =>
ldI h_64 (((⟨r_11,0,none⟩:Addr).add 0).add 7) .i64 fun x_72 =>
ldS h_64 (((⟨r_11,0,none⟩:Addr).add 0).add 8) fun x_73 x_73n x_73c =>
C F_burinref0_CopyText #[.agg #[.int .i64 x_65, .int .i64 x_66, .int .i64 x_67, .int .i64 x_68, .int .i64 x_69, .bool x_70, .int .i64 x_71, .int .i64 x_72, .slice x_73 x_73n x_73c]] h_64 (fun v_74 h_75 =>
∃ (r_76:Int) (r_77:Int) (r_78:Int) (r_79:Int) (r_80:Int) (r_81:Bool) (r_82:Int) (r_83:Int) (r_84:Option Addr) (r_84n:Nat) (r_84c:Nat),v_74 = .agg #[.int .i64 r_76, .int .i64 r_77, .int .i64 r_78, .int .i64 r_79, .int .i64 r_80, .bool r_81, .int .i64 r_82, .int .i64 r_83, .slice r_84 r_84n r_84c]/\(
newC h_75 [.int .i64 0, .int .i64 0, .int .i64 0, .int .i64 0, .int .i64 0, .bool false, .int .i64 0, .int .i64 0, .slice none 0 0] T_api_Text fun r_85 h_86 =>
stVs h_86 (⟨r_85,0,none⟩:Addr) 0 [.int .i64 r_76, .int .i64 r_77, .int .i64 r_78, .int .i64 r_79, .int .i64 r_80, .bool r_81, .int .i64 r_82, .int .i64 r_83, .slice r_84 r_84n r_84c] fun h_87 =>
stV h_87 ((⟨r_85,0,none⟩:Addr).add 5) (.bool true) fun h_88 =>
ldS h_88 ((⟨r_85,0,none⟩:Addr).add 8) fun x_89 x_89n x_89c =>
needs (0<=i_50/\i_50<(x_89n:Int)) <|
ptr x_89 fun a_90 =>
stV h_88 ((a_90.add (i_50.toNat*7)).add 3) (.bool true) fun h_91 =>
ldS h_91 ((⟨r_85,0,none⟩:Addr).add 8) fun x_92 x_92n x_92c =>
ldI h_91 ((⟨r_60,0,none⟩:Addr).add 0) .i64 fun x_93 =>
ldI h_91 ((⟨r_60,0,none⟩:Addr).add 1) .i64 fun x_94 =>
ldS h_91 ((⟨r_60,0,none⟩:Addr).add 2) fun x_95 x_95n x_95c =>
C F_burinref0_CopyBitmap #[.agg #[.int .i64 x_93, .int .i64 x_94, .slice x_95 x_95n x_95c]] h_91 (fun v_96 h_97 =>
∃ (r_98:Int) (r_99:Int) (r_100:Option Addr) (r_100n:Nat) (r_100c:Nat),v_96 = .agg #[.int .i64 r_98, .int .i64 r_99, .slice r_100 r_100n r_100c]/\(
hext h_91 h_97/\(
needs (0<=i_50/\i_50<(x_92n:Int)) <|
ptr x_92 fun a_101 =>
stV h_97 (((a_101.add (i_50.toNat*7)).add 4).add 0) (.int .i64 r_98) fun h_102 =>
stV h_102 (((a_101.add (i_50.toNat*7)).add 4).add 1) (.int .i64 r_99) fun h_103 =>
stV h_103 (((a_101.add (i_50.toNat*7)).add 4).add 2) (.slice r_100 r_100n r_100c) fun h_104 =>
ldI h_104 ((⟨r_85,0,none⟩:Addr).add 0) .i64 fun x_105 =>
ldI h_104 ((⟨r_85,0,none⟩:Addr).add 1) .i64 fun x_106 =>
ldI h_104 ((⟨r_85,0,none⟩:Addr).add 2) .i64 fun x_107 =>
ldI h_104 ((⟨r_85,0,none⟩:Addr).add 3) .i64 fun x_108 =>
ldI h_104 ((⟨r_85,0,none⟩:Addr).add 4) .i64 fun x_109 =>
ldB h_104 ((⟨r_85,0,none⟩:Addr).add 5) fun x_110 =>
ldI h_104 ((⟨r_85,0,none⟩:Addr).add 6) .i64 fun x_111 =>
ldI h_104 ((⟨r_85,0,none⟩:Addr).add 7) .i64 fun x_112 =>
ldS h_104 ((⟨r_85,0,none⟩:Addr).add 8) fun x_113 x_113n x_113c =>
ldS h_104 ((⟨r_11,0,none⟩:Addr).add 9) fun x_114 x_114n x_114c =>
C F_text_Encode #[.agg #[.int .i64 x_105, .int .i64 x_106, .int .i64 x_107, .int .i64 x_108, .int .i64 x_109, .bool x_110, .int .i64 x_111, .int .i64 x_112, .slice x_113 x_113n x_113c], .slice x_114 x_114n x_114c] h_104 (fun v_115 h_116 =>
∃ (r_117:Option Addr) (r_117n:Nat) (r_117c:Nat),∃ (r_118:Int),v_115 = .tuple #[.slice r_117 r_117n r_117c, .int .i64 r_118]/\(
ldS h_116 ((⟨r_85,0,none⟩:Addr).add 8) fun x_119 x_119n x_119c =>
ldI h_116 ((⟨r_60,0,none⟩:Addr).add 0) .i64 fun x_120 =>
bindI (IntKind.i64.wrap (x_120+(1:Int))) fun z_121 =>
ldI h_116 ((⟨r_60,0,none⟩:Addr).add 1) .i64 fun x_122 =>
C F_burinref0_White #[.int .i64 z_121, .int .i64 x_122] h_116 (fun v_123 h_124 =>
∃ (r_125:Int) (r_126:Int) (r_127:Option Addr) (r_127n:Nat) (r_127c:Nat),v_123 = .agg #[.int .i64 r_125, .int .i64 r_126, .slice r_127 r_127n r_127c]/\(
hext h_116 h_124/\(
needs (0<=i_50/\i_50<(x_119n:Int)) <|
ptr x_119 fun a_128 =>
stV h_124 (((a_128.add (i_50.toNat*7)).add 4).add 0) (.int .i64 r_125) fun h_129 =>
stV h_129 (((a_128.add (i_50.toNat*7)).add 4).add 1) (.int .i64 r_126) fun h_130 =>
stV h_130 (((a_128.add (i_50.toNat*7)).add 4).add 2) (.slice r_127 r_127n r_127c) fun h_131 =>
ldI h_131 ((⟨r_85,0,none⟩:Addr).add 0) .i64 fun x_132 =>
ldI h_131 ((⟨r_85,0,none⟩:Addr).add 1) .i64 fun x_133 =>
ldI h_131 ((⟨r_85,0,none⟩:Addr).add 2) .i64 fun x_134 =>
ldI h_131 ((⟨r_85,0,none⟩:Addr).add 3) .i64 fun x_135 =>
ldI h_131 ((⟨r_85,0,none⟩:Addr).add 4) .i64 fun x_136 =>
ldB h_131 ((⟨r_85,0,none⟩:Addr).add 5) fun x_137 =>
ldI h_131 ((⟨r_85,0,none⟩:Addr).add 6) .i64 fun x_138 =>
ldI h_131 ((⟨r_85,0,none⟩:Addr).add 7) .i64 fun x_139 =>
ldS h_131 ((⟨r_85,0,none⟩:Addr).add 8) fun x_140 x_140n x_140c =>
ldS h_131 ((⟨r_11,0,none⟩:Addr).add 9) fun x_141 x_141n x_141c =>
C F_text_Encode #[.agg #[.int .i64 x_132, .int .i64 x_133, .int .i64 x_134, .int .i64 x_135, .int .i64 x_136, .bool x_137, .int .i64 x_138, .int .i64 x_139, .slice x_140 x_140n x_140c], .slice x_141 x_141n x_141c] h_131 (fun v_142 h_143 =>
∃ (r_144:Option Addr) (r_144n:Nat) (r_144c:Nat),∃ (r_145:Int),v_142 = .tuple #[.slice r_144 r_144n r_144c, .int .i64 r_145]/\(
ldS h_143 ((⟨r_85,0,none⟩:Addr).add 8) fun x_146 x_146n x_146c =>
ldI h_143 ((⟨r_60,0,none⟩:Addr).add 0) .i64 fun x_147 =>
ldI h_143 ((⟨r_60,0,none⟩:Addr).add 1) .i64 fun x_148 =>
ldS h_143 ((⟨r_60,0,none⟩:Addr).add 2) fun x_149 x_149n x_149c =>
C F_burinref0_CopyBitmap #[.agg #[.int .i64 x_147, .int .i64 x_148, .slice x_149 x_149n x_149c]] h_143 (fun v_150 h_151 =>
∃ (r_152:Int) (r_153:Int) (r_154:Option Addr) (r_154n:Nat) (r_154c:Nat),v_150 = .agg #[.int .i64 r_152, .int .i64 r_153, .slice r_154 r_154n r_154c]/\(
hext h_143 h_151/\(
needs (0<=i_50/\i_50<(x_146n:Int)) <|
ptr x_146 fun a_155 =>
stV h_151 (((a_155.add (i_50.toNat*7)).add 4).add 0) (.int .i64 r_152) fun h_156 =>
stV h_156 (((a_155.add (i_50.toNat*7)).add 4).add 1) (.int .i64 r_153) fun h_157 =>
stV h_157 (((a_155.add (i_50.toNat*7)).add 4).add 2) (.slice r_154 r_154n r_154c) fun h_158 =>
ldS h_158 ((⟨r_85,0,none⟩:Addr).add 8) fun x_159 x_159n x_159c =>
needs (0<=i_50/\i_50<(x_159n:Int)) <|
ptr x_159 fun a_160 =>
ldI h_158 (((a_160.add (i_50.toNat*7)).add 4).add 0) .i64 fun x_161 =>
ldI h_158 (((a_160.add (i_50.toNat*7)).add 4).add 1) .i64 fun x_162 =>
ldS h_158 (((a_160.add (i_50.toNat*7)).add 4).add 2) fun x_163 x_163n x_163c =>
ldI h_158 ((⟨r_60,0,none⟩:Addr).add 0) .i64 fun x_164 =>
ldI h_158 ((⟨r_60,0,none⟩:Addr).add 1) .i64 fun x_165 =>
ldS h_158 ((⟨r_60,0,none⟩:Addr).add 2) fun x_166 x_166n x_166c =>
C F_burinref0_Get #[.agg #[.int .i64 x_164, .int .i64 x_165, .slice x_166 x_166n x_166c], .int .i64 0, .int .i64 0] h_158 (fun v_167 h_168 =>
∃ (r_169:Int),v_167 = .int .i64 r_169/\(
hext h_158 h_168/\(
bindI (IntKind.i64.wrap ((1:Int)-r_169)) fun z_170 =>
C F_burinref0_Put #[.agg #[.int .i64 x_161, .int .i64 x_162, .slice x_163 x_163n x_163c], .int .i64 0, .int .i64 0, .int .i64 z_170] h_168 (fun v_171 h_172 =>
ldI h_172 ((⟨r_85,0,none⟩:Addr).add 0) .i64 fun x_173 =>
ldI h_172 ((⟨r_85,0,none⟩:Addr).add 1) .i64 fun x_174 =>
ldI h_172 ((⟨r_85,0,none⟩:Addr).add 2) .i64 fun x_175 =>
ldI h_172 ((⟨r_85,0,none⟩:Addr).add 3) .i64 fun x_176 =>
ldI h_172 ((⟨r_85,0,none⟩:Addr).add 4) .i64 fun x_177 =>
ldB h_172 ((⟨r_85,0,none⟩:Addr).add 5) fun x_178 =>
ldI h_172 ((⟨r_85,0,none⟩:Addr).add 6) .i64 fun x_179 =>
ldI h_172 ((⟨r_85,0,none⟩:Addr).add 7) .i64 fun x_180 =>
ldS h_172 ((⟨r_85,0,none⟩:Addr).add 8) fun x_181 x_181n x_181c =>
ldS h_172 ((⟨r_11,0,none⟩:Addr).add 9) fun x_182 x_182n x_182c =>
C F_text_Encode #[.agg #[.int .i64 x_173, .int .i64 x_174, .int .i64 x_175, .int .i64 x_176, .int .i64 x_177, .bool x_178, .int .i64 x_179, .int .i64 x_180, .slice x_181 x_181n x_181c], .slice x_182 x_182n x_182c] h_172 (fun v_183 h_184 =>
∃ (r_185:Option Addr) (r_185n:Nat) (r_185c:Nat),∃ (r_186:Int),v_183 = .tuple #[.slice r_185 r_185n r_185c, .int .i64 r_186]/\(
stV h_184 ((⟨r_85,0,none⟩:Addr).add 5) (.bool false) fun h_187 =>
ldI h_187 ((⟨r_85,0,none⟩:Addr).add 0) .i64 fun x_188 =>
ldI h_187 ((⟨r_85,0,none⟩:Addr).add 1) .i64 fun x_189 =>
ldI h_187 ((⟨r_85,0,none⟩:Addr).add 2) .i64 fun x_190 =>
ldI h_187 ((⟨r_85,0,none⟩:Addr).add 3) .i64 fun x_191 =>
ldI h_187 ((⟨r_85,0,none⟩:Addr).add 4) .i64 fun x_192 =>
ldB h_187 ((⟨r_85,0,none⟩:Addr).add 5) fun x_193 =>
ldI h_187 ((⟨r_85,0,none⟩:Addr).add 6) .i64 fun x_194 =>
ldI h_187 ((⟨r_85,0,none⟩:Addr).add 7) .i64 fun x_195 =>
ldS h_187 ((⟨r_85,0,none⟩:Addr).add 8) fun x_196 x_196n x_196c =>
ldS h_187 ((⟨r_11,0,none⟩:Addr).add 9) fun x_197 x_197n x_197c =>
C F_text_Encode #[.agg #[.int .i64 x_188, .int .i64 x_189, .int .i64 x_190, .int .i64 x_191, .int .i64 x_192, .bool x_193, .int .i64 x_194, .int .i64 x_195, .slice x_196 x_196n x_196c], .slice x_197 x_197n x_197c] h_187 (fun v_198 h_199 =>
∃ (r_200:Option Addr) (r_200n:Nat) (r_200c:Nat),∃ (r_201:Int),v_198 = .tuple #[.slice r_200 r_200n r_200c, .int .i64 r_201]/\(
stV h_199 ((⟨r_85,0,none⟩:Addr).add 5) (.bool true) fun h_202 =>
ldS h_202 ((⟨r_85,0,none⟩:Addr).add 8) fun x_203 x_203n x_203c =>
ldS h_202 ((⟨r_11,0,none⟩:Addr).add 9) fun x_204 x_204n x_204c =>
needs (0<=i_50/\i_50<(x_203n:Int)) <|
ptr x_203 fun a_205 =>
stV h_202 ((a_205.add (i_50.toNat*7)).add 2) (.int .i64 (x_204n:Int)) fun h_206 =>
ldI h_206 ((⟨r_85,0,none⟩:Addr).add 0) .i64 fun x_207 =>
ldI h_206 ((⟨r_85,0,none⟩:Addr).add 1) .i64 fun x_208 =>
ldI h_206 ((⟨r_85,0,none⟩:Addr).add 2) .i64 fun x_209 =>
ldI h_206 ((⟨r_85,0,none⟩:Addr).add 3) .i64 fun x_210 =>
ldI h_206 ((⟨r_85,0,none⟩:Addr).add 4) .i64 fun x_211 =>
ldB h_206 ((⟨r_85,0,none⟩:Addr).add 5) fun x_212 =>
ldI h_206 ((⟨r_85,0,none⟩:Addr).add 6) .i64 fun x_213 =>
ldI h_206 ((⟨r_85,0,none⟩:Addr).add 7) .i64 fun x_214 =>
ldS h_206 ((⟨r_85,0,none⟩:Addr).add 8) fun x_215 x_215n x_215c =>
ldS h_206 ((⟨r_11,0,none⟩:Addr).add 9) fun x_216 x_216n x_216c =>
C F_text_Encode #[.agg #[.int .i64 x_207, .int .i64 x_208, .int .i64 x_209, .int .i64 x_210, .int .i64 x_211, .bool x_212, .int .i64 x_213, .int .i64 x_214, .slice x_215 x_215n x_215c], .slice x_216 x_216n x_216c] h_206 (fun v_217 h_218 =>
∃ (r_219:Option Addr) (r_219n:Nat) (r_219c:Nat),∃ (r_220:Int),v_217 = .tuple #[.slice r_219 r_219n r_219c, .int .i64 r_220]/\(
bcase (r_118 != (140:Int)) (
K (.bool false) h_218) <|
bcase (r_145 != (140:Int)) (
K (.bool false) h_218) <|
bcase (r_186 != (0:Int)) (
K (.bool false) h_218) <|
bcase (r_201 != (140:Int)) (
K (.bool false) h_218) <|
bcase (r_220 != (140:Int)) (
K (.bool false) h_218) <|
bindI (IntKind.i64.wrap (i_50+(1:Int))) fun z_221 =>
∃ m_46,m_46<n_47/\J_45 m_46 [.int .i64 z_221] h_218)) (Kp))) (Kp))) (Kp)) (Kp)))) (Kp)))) (Kp))) (Kp)))) (Kp))) (Kp)))) (Kp))) (Kp)) <|
C F_burinlaw14_wakes #[] h_48 (fun v_222 h_223 =>
∃ (r_224:Bool),v_222 = .bool r_224/\(
K (.bool r_224) h_223)) (Kp)) <|
C F_burinlaw14_wakes #[] h_48 (fun v_225 h_226 =>
∃ (r_227:Bool),v_225 = .bool r_227/\(
K (.bool r_227) h_226)) (Kp)))) (Kp))) (Kp)
end Go.Den.YtbknfejmdekhpaaGreat
namespace Go.Den.YtbknfejmdekhpaaGreat
open Go Go.Den
theorem call_burinlaw14_TextRefined {p_1:Int} {p_2:Int} {p_3:Int} {p_4:Int} {p_5:Int} {p_6:Bool} {p_7:Int} {p_8:Int} {p_9:Option Addr} {p_9n:Nat} {p_9c:Nat} {p_10:Option Addr} {p_10n:Nat} {p_10c:Nat} {h:Heap} {K:VK} {Kp:PK} (H:burinlaw14_TextRefined (CallsHP Go.Proofs.Tryz.prog) p_1 p_2 p_3 p_4 p_5 p_6 p_7 p_8 p_9 p_9n p_9c p_10 p_10n p_10c h K Kp):CallsHP Go.Proofs.Tryz.prog F_burinlaw14_TextRefined #[.agg #[.int .i64 p_1, .int .i64 p_2, .int .i64 p_3, .int .i64 p_4, .int .i64 p_5, .bool p_6, .int .i64 p_7, .int .i64 p_8, .slice p_9 p_9n p_9c, .slice p_10 p_10n p_10c]] h K Kp :=
 callsHP_ofE (Hints.mk (fun i=>bif Nat.beq i 6 then some ([12], .take 0 <| .take 2 <| .take 3 <| .take 5 <| .take 1 <| .take 4 <| .take 6 <| .take 7 <| .take 8 <| .take 9 <| .take 10 <| .go 11 <| .bar 12 [] <| .done) else (bif Nat.beq i 10 then some ([7], .take 0 <| .take 2 <| .take 1 <| .take 3 <| .go 4 <| .take 5 <| .take 6 <| .bar 7 [] <| .done) else (bif Nat.beq i 12 then some ([11], .take 0 <| .take 2 <| .take 3 <| .take 6 <| .take 1 <| .take 4 <| .take 5 <| .take 7 <| .go 8 <| .take 9 <| .take 10 <| .bar 11 [] <| .done) else (bif Nat.beq i 14 then some ([7], .take 0 <| .take 2 <| .take 1 <| .take 3 <| .go 4 <| .take 5 <| .take 6 <| .bar 7 [] <| .done) else (bif Nat.beq i 15 then some ([9], .take 0 <| .take 2 <| .take 1 <| .take 3 <| .take 4 <| .take 5 <| .take 6 <| .go 7 <| .take 8 <| .bar 9 [] <| .done) else (none)))))) (fun i=>bif Nat.beq i 4 then some ([(3, .int .i64)],365375409332725729550921208179070754913714765820) else (none)) (fun i=>none) []) (by kernel_rfl) Go.Proofs.Tryz.func8 (by kernel_rfl) (fun C=>burinlaw14_TextRefined C p_1 p_2 p_3 p_4 p_5 p_6 p_7 p_8 p_9 p_9n p_9c p_10 p_10n p_10c h K Kp) (fun C=>by kernel_rfl) H
end Go.Den.YtbknfejmdekhpaaGreat
namespace Go.Bm
open Go Go.Den Go.Den.YtbknfejmdekhpaaGreat
theorem csI_same:∀ {O:List OwI} {k:Nat} {o o':OwI},o'.cs=o.cs->csI (O.set k o')=csI (O.set k o)
 | [],_,_,_,_=>rfl
 | x::O,0,o,o',e=>by rw [List.set_cons_zero,List.set_cons_zero,csI_cons,csI_cons,e]
 | x::O,k+1,o,o',e=>by rw [List.set_cons_succ,List.set_cons_succ,csI_cons,csI_cons,csI_same e]
theorem flip_may {b:Bmp} {R:List Nat} (hm:b.may) (hl:R.length=b.ws.length) (hw:W64 R) (hp:∀ y,y<b.h.toNat->∀ x,x<64*wds b.w.toNat->pix R (wds b.w.toNat) x y=if y=0/\x=0 then !(getP b.ws b.w.toNat b.h.toNat 0 0) else pix b.ws (wds b.w.toNat) x y) :
  (⟨b.w,b.h,R⟩:Bmp).may/\R≠b.ws:=by
 obtain ⟨bw,bh,ws⟩:=b
 obtain ⟨W,X,e1,e2,hW1,hW2,hX1,hX2,hWX⟩:=size_nat hm.1
 have e1:bw=(W:Int):=e1
 have e2:bh=(X:Int):=e2
 subst e1 e2
 simp only [Int.toNat_natCast] at *
 refine ⟨may_of_pix hm.1 (hl.trans (may_len hm)) hw fun y hy x h1 h2=>?_,fun e=>?_⟩
 ·rw [hp y hy x h2,if_neg (by omega)]
  exact pix_of_may hm hy h1 h2
 ·have h0:=hp 0 (by omega) 0 (by have:=wds_pos hW1; omega)
  rw [if_pos ⟨rfl,rfl⟩,e] at h0
  have h1:getP ws W X 0 0=pix ws (wds W) 0 0:=by
   unfold getP
   rw [decide_eq_true (by omega),Bool.true_and]
   rfl
  rw [h1] at h0
  cases hh:pix ws (wds W) 0 0 <;> rw [hh] at h0 <;> cases h0
section
variable {hB:Heap} {K:VK} {Kp:PK}
theorem tEncN {h:Heap} {tt:Reg14} {q q2:Option Addr} {c c2 n:Nat} {sy:List Bmp} {P:List OwI} (hn:P.length=n) (hn2:n<=1000000) (hv:InsV h q (P.map OwI.i)) (hs:BmsV h q2 sy) (hsl:sy.length<=1000000000000)
  (hk:∀ D qo no co h',D.all Ent.w=true->Hp h [] h' D->K (.tuple #[.slice qo no co, .int .i64 (chkT tt sy (P.map OwI.i))]) h'):CP F_text_Encode #[tt.ag q n c, .slice q2 sy.length c2] h K Kp:=by
 subst hn
 have:=tEnc_ok (t:=tt) (q:=q) (q2:=q2) (c:=c) (c2:=c2) (sy:=sy) (l:=P.map OwI.i) (hB:=h) (K:=K) (Kp:=Kp) hv hs (by rw [List.length_map]; exact hn2) hsl fun D qo co h' hsl' H=>hk D qo _ co h' hsl'.w H
 rw [List.length_map] at this
 exact this
set_option maxHeartbeats 8000000 in
theorem tRefined_law {t:Reg14} {q q2:Option Addr} {c c2:Nat} {l:List Ins} {sy:List Bmp} (hv:InsV hB q l) (hl:l.length<=4000000000000) (hs:BmsV hB q2 sy) (hsl:sy.length<=4000000000000) (hk:∀ h',hext hB h'->K (.bool true) h') :
  CP F_burinlaw14_TextRefined #[.agg #[.int .i64 t.x, .int .i64 t.y, .int .i64 t.w, .int .i64 t.h, .int .i64 t.op, .bool t.rf, .int .i64 t.df, .int .i64 t.st, .slice q l.length c, .slice q2 sy.length c2]] hB K Kp:=by
 refine call_burinlaw14_TextRefined ?_
 unfold burinlaw14_TextRefined
 have H:=Hp.nil hB []
 refine newC_hp H fun r11 h H=>?_
 have H:Hp hB [] h [⟨r11,true,T_burinlaw14_Ask,t.cs q l.length c++[.slice q2 sy.length c2]⟩]:=H
 have wk:∀ {h},hext hB h->CP F_burinlaw14_wakes #[] h (fun v_26 h_27=>∃ (r_28:Bool),v_26 = .bool r_28/\(K (.bool r_28) h_27)) (Kp):=fun e=>wakes14_ok fun h' e'=>⟨_,rfl,hk _ (e.trans e')⟩
 repeat first | with_reducible refine ldI_of (by with_unfolding_all first | exact hpA H 0 rfl rfl | exact Hp.cell H 0 rfl rfl | exact hpB H 0 rfl rfl | exact hpC H 0 rfl rfl) ?_ | with_reducible refine ldS_of (by with_unfolding_all first | exact hpA H 0 rfl rfl | exact Hp.cell H 0 rfl rfl | exact hpB H 0 rfl rfl | exact hpC H 0 rfl rfl) ?_ | with_reducible refine ldP_of (by with_unfolding_all first | exact hpA H 0 rfl rfl | exact Hp.cell H 0 rfl rfl | exact hpB H 0 rfl rfl | exact hpC H 0 rfl rfl) ?_ | with_reducible refine ldB_of (by with_unfolding_all first | exact hpA H 0 rfl rfl | exact Hp.cell H 0 rfl rfl | exact hpB H 0 rfl rfl | exact hpC H 0 rfl rfl) ?_ | with_reducible refine ldT_of (by with_unfolding_all first | exact hpA H 0 rfl rfl | exact Hp.cell H 0 rfl rfl | exact hpB H 0 rfl rfl | exact hpC H 0 rfl rfl) ?_
 refine light14_ok (t:=t) (hv.ext H.hext) (hs.ext H.hext) hl hsl fun r h' hr e=>⟨_,rfl,?_⟩
 have H:=H.ext e
 clear e
 refine bcase_not (fun _=>wk H.hext) fun h1=>?_
 have hlt:=hr h1
 clear h1 hr
 have hn1:=hlt.n1
 have hn2:=hlt.n2
 repeat first | with_reducible refine ldI_of (by with_unfolding_all first | exact hpA H 0 rfl rfl | exact Hp.cell H 0 rfl rfl | exact hpB H 0 rfl rfl | exact hpC H 0 rfl rfl) ?_ | with_reducible refine ldS_of (by with_unfolding_all first | exact hpA H 0 rfl rfl | exact Hp.cell H 0 rfl rfl | exact hpB H 0 rfl rfl | exact hpC H 0 rfl rfl) ?_ | with_reducible refine ldP_of (by with_unfolding_all first | exact hpA H 0 rfl rfl | exact Hp.cell H 0 rfl rfl | exact hpB H 0 rfl rfl | exact hpC H 0 rfl rfl) ?_ | with_reducible refine ldB_of (by with_unfolding_all first | exact hpA H 0 rfl rfl | exact Hp.cell H 0 rfl rfl | exact hpB H 0 rfl rfl | exact hpC H 0 rfl rfl) ?_ | with_reducible refine ldT_of (by with_unfolding_all first | exact hpA H 0 rfl rfl | exact Hp.cell H 0 rfl rfl | exact hpB H 0 rfl rfl | exact hpC H 0 rfl rfl) ?_
 refine bad14_ok (t:=t) (hv.ext H.hext) (hs.ext H.hext) (by omega) (by omega) fun h' e=>⟨_,rfl,?_⟩
 have H:=H.ext e
 clear e
 refine bcase_ne (fun _=>wk H.hext) fun hck=>?_
 have hf:=(chkT_zero hck).1
 have hreg:=hf.2.1
 obtain ⟨O0,hO0,hro0,_⟩:=hv
 have hv:InsV hB q l:=⟨O0,hO0,hro0,by assumption⟩
 have hO0l:O0.length=l.length:=by rw [<- hO0,List.length_map]
 refine ⟨fun m vs h'=>∃ k:Nat,k+m=l.length/\vs=[.int .i64 (k:Nat)]/\Hp hB [] h' [⟨r11,true,T_burinlaw14_Ask,t.cs q l.length c++[.slice q2 sy.length c2]⟩],⟨l.length,0,by omega,rfl,H⟩,?_⟩
 clear H
 rintro m h u xk ⟨k,hkm,hxx,H⟩
 injection hxx with hx1 hxx
 injection hx1 with _ hx1
 subst xk
 refine ldS_of (hpB H 0 rfl rfl) ?_
 refine bcase_dec (fun h5=>?_) fun h5=>wk H.hext
 refine bcase_dec (fun _=>?_) fun _=>wk H.hext
 have hkl:k<l.length:=by omega
 have hnk:0<=((k:Nat):Int)/\((k:Nat):Int)<((l.length:Nat):Int):=by omega
 obtain ⟨o0,ho0⟩:∃ o,O0[k]? = some o:=⟨_,List.getElem?_eq_getElem (by omega)⟩
 have hli:l[k]? = some o0.i:=by rw [<- hO0,List.getElem?_map,ho0]; rfl
 have hio:=hf.2.2 _ (List.mem_of_getElem? hli)
 obtain ⟨a,ha,cell⟩:=ins_at (rdO_ext H.hext hro0) ho0
 refine ldS_of (hpA H 0 rfl rfl) (ldS_of (hpB H 0 rfl rfl) (needs_of hnk (ptr_eq ha ?_)))
 rw [Int.toNat_natCast]
 obtain ⟨a3,q9,c9,ha3,hc0⟩:=hs _ _ (sym_at hio)
 have hc:=hc0.ext H.hext
 have hid:=hio.1
 refine ldI_of (cell 2 _ rfl) (needs_of (by omega) (ptr_eq ha3 ?_))
 refine ldI_of hc.c0 (ldI_of hc.c1 (ldS_of hc.c2 ?_))
 obtain ⟨S,hSd⟩:∃ S,S=symOf sy o0.i.s:=⟨_,rfl⟩
 rw [<- hSd] at hc0 ⊢
 have hSm:S.may:=hSd ▸ hf.1 _ (List.mem_of_getElem? (sym_at hio))
 have hSar:S.w.toNat*S.h.toNat<=24000:=hSd ▸ Nat.le_trans (arS_mem hf.1 hio (List.mem_of_getElem? hli)) hlt.ar
 obtain ⟨W,XX,e1,e2,hW1,hW2,hX1,hX2,hWX⟩:=size_nat hSm.1
 rw [e1,e2,Int.toNat_natCast,Int.toNat_natCast] at hSar
 refine newC_hp H fun r60 h H=>?_
 have H:=H.rot
 refine stA H 0 rfl rfl rfl fun h H=>?_
 refine stA H 0 rfl rfl rfl fun h H=>?_
 refine stA H 0 rfl rfl rfl fun h H=>?_
 have H:Hp hB [] h [⟨r60,true,T_api_Bitmap,[.int .i64 S.w, .int .i64 S.h, .slice q9 S.ws.length c9]⟩,⟨r11,true,T_burinlaw14_Ask,t.cs q l.length c++[.slice q2 sy.length c2]⟩]:=H
 repeat first | with_reducible refine ldI_of (by with_unfolding_all first | exact hpA H 1 rfl rfl | exact Hp.cell H 1 rfl rfl | exact hpB H 1 rfl rfl | exact hpC H 1 rfl rfl) ?_ | with_reducible refine ldS_of (by with_unfolding_all first | exact hpA H 1 rfl rfl | exact Hp.cell H 1 rfl rfl | exact hpB H 1 rfl rfl | exact hpC H 1 rfl rfl) ?_ | with_reducible refine ldP_of (by with_unfolding_all first | exact hpA H 1 rfl rfl | exact Hp.cell H 1 rfl rfl | exact hpB H 1 rfl rfl | exact hpC H 1 rfl rfl) ?_ | with_reducible refine ldB_of (by with_unfolding_all first | exact hpA H 1 rfl rfl | exact Hp.cell H 1 rfl rfl | exact hpB H 1 rfl rfl | exact hpC H 1 rfl rfl) ?_ | with_reducible refine ldT_of (by with_unfolding_all first | exact hpA H 1 rfl rfl | exact Hp.cell H 1 rfl rfl | exact hpB H 1 rfl rfl | exact hpC H 1 rfl rfl) ?_
 refine cpText_ok (t:=t) (hv.ext H.hext) (by omega) (fun i hi=>Nat.le_trans (hlt.w1 i hi) (by decide)) fun R q' c' h' hL H'=>?_
 have H:=H.join H' hL.w
 clear H'
 refine ⟨_,_,_,_,_,_,_,_,_,_,_,rfl,?_⟩
 refine newC_hp H fun r85 h H=>?_
 have H:=H.rot
 refine stVsA H 0 rfl rfl rfl fun h H=>?_
 refine stA H 0 rfl rfl rfl fun h H=>?_
 obtain ⟨tt,htt⟩:∃ tt:Bool->Reg14,tt=fun r=>{ t with rf:=r }:=⟨_,rfl⟩
 have httd:∀ r,tt r = { t with rf:=r }:=fun r=>by rw [htt]
 have htrf:∀ r,(tt r).rf=r:=fun r=>by rw [httd]
 obtain ⟨O,E,ho1,hO,hslO,rfl⟩:=hL
 have hOl:O.length=l.length:=by rw [<- hO,List.length_map]
 obtain ⟨hsl1,⟨_,_,hn0,_⟩ | ⟨b,rest,rfl,rfl,hcap⟩⟩:=hslO
 ·omega
 obtain ⟨o,ho⟩:∃ o,O[k]? = some o:=⟨_,List.getElem?_eq_getElem (by omega)⟩
 have hoi:o.i=o0.i:=by
  have:l[k]? = some o.i:=by rw [<- hO,List.getElem?_map,ho]; rfl
  rw [hli] at this
  injection this with this
  exact this.symm
 have hmap:∀ o':OwI,(O.set k o').map OwI.i=l.set k o'.i:=fun o'=>by rw [List.map_set,hO]
 have hlen:∀ o':OwI,(O.set k o').length=l.length:=fun o'=>by rw [List.length_set,hOl]
 have hget:∀ o':OwI,(O.set k o')[k]? = some o':=fun o'=>List.getElem?_set_self (by omega)
 have H:Hp hB [] h (((⟨r85,true,T_api_Text,(tt true).cs (some ⟨b,0,none⟩) l.length c'⟩::⟨r60,true,T_api_Bitmap,[.int .i64 S.w, .int .i64 S.h, .slice q9 S.ws.length c9]⟩::⟨r11,true,T_burinlaw14_Ask,t.cs q l.length c++[.slice q2 sy.length c2]⟩::dsI O)++[⟨b,true,T_api_Instance,csI O++rest⟩])):=by rw [httd]; exact H
 have H:=Hp.rot (X:=⟨r85,true,T_api_Text,(tt true).cs (some ⟨b,0,none⟩) l.length c'⟩::⟨r60,true,T_api_Bitmap,[.int .i64 S.w, .int .i64 S.h, .slice q9 S.ws.length c9]⟩::⟨r11,true,T_burinlaw14_Ask,t.cs q l.length c++[.slice q2 sy.length c2]⟩::dsI O) H
 obtain ⟨Z,hZ⟩:∃ Z:List OwI->Bool->List Ent->List Ent,Z=fun P r G=>⟨b,true,T_api_Instance,csI P++rest⟩::⟨r85,true,T_api_Text,(tt r).cs (some ⟨b,0,none⟩) l.length c'⟩::⟨r60,true,T_api_Bitmap,[.int .i64 S.w, .int .i64 S.h, .slice q9 S.ws.length c9]⟩::⟨r11,true,T_burinlaw14_Ask,t.cs q l.length c++[.slice q2 sy.length c2]⟩::G:=⟨_,rfl⟩
 have hZd:∀ P r G,Z P r G=⟨b,true,T_api_Instance,csI P++rest⟩::⟨r85,true,T_api_Text,(tt r).cs (some ⟨b,0,none⟩) l.length c'⟩::⟨r60,true,T_api_Bitmap,[.int .i64 S.w, .int .i64 S.h, .slice q9 S.ws.length c9]⟩::⟨r11,true,T_burinlaw14_Ask,t.cs q l.length c++[.slice q2 sy.length c2]⟩::G:=fun P r G=>by rw [hZ]
 have H:Hp hB [] h (Z O true (dsI O)):=by rw [hZd]; exact H
 have hG0:HasI (dsI O) O:=⟨ho1,fun o ho e he=>dsI_mem ho e he⟩
 have c85:∀ {h P r G},Hp hB [] h (Z P r G)->∀ j v,((tt r).cs (some ⟨b,0,none⟩) l.length c')[j]? = some v->hcell h ((⟨r85,0,none⟩:Addr).add j)=some v:=fun {h P r G} H j v hv=>by
  rw [hZd] at H
  exact hpA H 1 rfl (by rw [Nat.zero_add]; exact hv)
 have c60:∀ {h P r G},Hp hB [] h (Z P r G)->∀ j v,[Value.int .i64 S.w, .int .i64 S.h, .slice q9 S.ws.length c9][j]? = some v->hcell h ((⟨r60,0,none⟩:Addr).add j)=some v:=fun {h P r G} H j v hv=>by
  rw [hZd] at H
  exact hpA H 2 rfl (by rw [Nat.zero_add]; exact hv)
 have c11:∀ {h P r G},Hp hB [] h (Z P r G)->hcell h ((⟨r11,0,none⟩:Addr).add 9)=some (.slice q2 sy.length c2):=fun {h P r G} H=>by
  rw [hZd] at H
  exact hpA H 3 rfl rfl
 have joinZ:∀ {h h' P r G D},Hp hB [] h (Z P r G)->D.all Ent.w=true->Hp h [] h' D->Hp hB [] h' (Z P r (G++D)):=fun {h h' P r G D} H hD H'=>by
  have H:=H.join H' hD
  rw [hZd] at H ⊢
  exact H
 have viewZ:∀ {h P r G},Hp hB [] h (Z P r G)->HasI G P->InsV h (some ⟨b,0,none⟩) (P.map OwI.i):=fun {h P r G} H hG=>by
  rw [hZd] at H
  exact hG.view (A:=[_,_,_]) H
 have st1:∀ {h P r G o o' v j} {K1:Heap->Prop},Hp hB [] h (Z P r G)->P[k]? = some o->j<7->o'.cs=o.cs.set j v->v.oneCell'=true->(∀ h',Hp hB [] h' (Z (P.set k o') r G)->K1 h')->stV h (((⟨b,0,none⟩:Addr).add (k*7)).add j) v K1:=fun {h P r G o o' v j K1} H ho hj e hv hk1=>by
  rw [hZd] at H
  exact stI H ho hj e hv fun h' H=>hk1 h' (by rw [hZd]; exact H)
 have st3:∀ {h P r G o} {K1:Heap->Prop},Hp hB [] h (Z P r G)->P[k]? = some o->∀ (m:Bmp) (q:Option Addr) (c:Nat) (D:List Ent),(∀ h',Hp hB [] h' (Z (P.set k ⟨{ o.i with b:=m },q,c,D⟩) r G)->K1 h') ->
   stV h ((((⟨b,0,none⟩:Addr).add (k*7)).add 4).add 0) (.int .i64 m.w) fun h1=>stV h1 ((((⟨b,0,none⟩:Addr).add (k*7)).add 4).add 1) (.int .i64 m.h) fun h2=>stV h2 ((((⟨b,0,none⟩:Addr).add (k*7)).add 4).add 2) (.slice q m.ws.length c) K1:=fun {h P r G o K1} H ho m q c D hk1=>by
  rw [hZd] at H
  exact stM H ho m q c D fun h' H=>hk1 h' (by rw [hZd]; exact H)
 have enc:∀ {h P r G} {K1:VK},Hp hB [] h (Z P r G)->HasI G P->P.length=l.length->(∀ D qo no co h',Hp hB [] h' (Z P r (G++D))->K1 (.tuple #[.slice qo no co, .int .i64 (chkT (tt r) sy (P.map OwI.i))]) h') ->
   ldI h ((⟨r85,0,none⟩:Addr).add 0) .i64 fun y0=>ldI h ((⟨r85,0,none⟩:Addr).add 1) .i64 fun y1=>ldI h ((⟨r85,0,none⟩:Addr).add 2) .i64 fun y2=>ldI h ((⟨r85,0,none⟩:Addr).add 3) .i64 fun y3=>ldI h ((⟨r85,0,none⟩:Addr).add 4) .i64 fun y4=>ldB h ((⟨r85,0,none⟩:Addr).add 5) fun y5=>ldI h ((⟨r85,0,none⟩:Addr).add 6) .i64 fun y6=>ldI h ((⟨r85,0,none⟩:Addr).add 7) .i64 fun y7=>ldS h ((⟨r85,0,none⟩:Addr).add 8) fun y8 y8n y8c=>ldS h ((⟨r11,0,none⟩:Addr).add 9) fun y9 y9n y9c =>
    CP F_text_Encode #[.agg #[.int .i64 y0, .int .i64 y1, .int .i64 y2, .int .i64 y3, .int .i64 y4, .bool y5, .int .i64 y6, .int .i64 y7, .slice y8 y8n y8c], .slice y9 y9n y9c] h K1 Kp:=fun {h P r G K1} H hG hP hk1=>by
  refine ldI_of (c85 H 0 _ rfl) (ldI_of (c85 H 1 _ rfl) (ldI_of (c85 H 2 _ rfl) (ldI_of (c85 H 3 _ rfl) (ldI_of (c85 H 4 _ rfl) (ldB_of (c85 H 5 _ rfl) (ldI_of (c85 H 6 _ rfl) (ldI_of (c85 H 7 _ rfl) (ldS_of (c85 H 8 _ rfl) (ldS_of (c11 H) ?_)))))))))
  exact tEncN (tt:=tt r) hP (by omega) (viewZ H hG) (hs.ext H.hext) (by omega) fun D qo no co h' hD H'=>hk1 D qo no co h' (joinZ H hD H')
 refine ldS_of (c85 H 8 _ rfl) (needs_of hnk (ptr_of (a:=⟨b,0,none⟩) ?_))
 refine st1 (o:=o) (o':=⟨{ o.i with d:=true },o.q,o.c,o.D⟩) H ho (by decide) rfl rfl fun h H=>?_
 have hoOk:=ho1 o (List.mem_of_getElem? ho)
 have hSl:S.ws.length<=6000:=hSd ▸ hlt.w2 _ (List.mem_of_getElem? (sym_at hio))
 have hSlen:S.ws.length=XX*wds W:=by
  have:=hSm.2.1
  rw [e1,e2,Int.toNat_natCast,Int.toNat_natCast] at this
  exact this
 have hpos:1<=XX*wds W:=Nat.mul_pos hX1 (wds_pos hW1)
 have chkB:∀ r (o':OwI),¬ InsOk r sy o'.i->chkT (tt r) sy ((O.set k o').map OwI.i)=140:=fun r o' hn=>by
  rw [hmap]
  exact chkT_bad fun hh=>hn (by have:=hh.of_set hkl; rw [htrf] at this; exact this)
 have cP:∀ {h P r G} {o:OwI},Hp hB [] h (Z P r G)->P[k]? = some o->∀ j v,j<7->o.cs[j]? = some v->hcell h (((⟨b,0,none⟩:Addr).add (k*7)).add j)=some v:=fun {h P r G o} H ho j v hj hv=>by
  rw [hZd] at H
  rw [add_mk,add_mk,Nat.zero_add]
  exact H.cell 0 rfl ((csI_get P rest k j o ho hj).trans hv)
 have setrf:∀ {h P r G} (r':Bool) {K1:Heap->Prop},Hp hB [] h (Z P r G)->(∀ h',Hp hB [] h' (Z P r' G)->K1 h')->stV h ((⟨r85,0,none⟩:Addr).add 5) (.bool r') K1:=fun {h P r G} r' {K1} H hk1=>by
  rw [hZd] at H
  refine stA H 1 rfl rfl rfl fun h' H=>hk1 h' ?_
  rw [hZd]
  rw [httd] at H ⊢
  exact H
 have back:∀ {h P r G D},Hp hB [] h (Z P r (G++D))->Hp hB [] h (D++Z P r G):=fun {h P r G D} H=>by
  rw [hZd] at H ⊢
  exact Hp.rot (X:=⟨b,true,T_api_Instance,csI P++rest⟩::⟨r85,true,T_api_Text,(tt r).cs (some ⟨b,0,none⟩) l.length c'⟩::⟨r60,true,T_api_Bitmap,[.int .i64 S.w, .int .i64 S.h, .slice q9 S.ws.length c9]⟩::⟨r11,true,T_burinlaw14_Ask,t.cs q l.length c++[.slice q2 sy.length c2]⟩::G) H
 have forth:∀ {h P r G D},Hp hB [] h (D++Z P r G)->Hp hB [] h (Z P r (G++D)):=fun {h P r G D} H=>by
  rw [hZd] at H ⊢
  exact Hp.rot H
 refine ldS_of (c85 H 8 _ rfl) (ldI_of (c60 H 0 _ rfl) (ldI_of (c60 H 1 _ rfl) (ldS_of (c60 H 2 _ rfl) ?_)))
 refine cpB_ok (b:=S) (H.rdO hc0.r1) hc0.w1 (by omega) fun o9 h' h9ok h9b H'=>?_
 refine ⟨_,_,_,_,_,rfl,H'.hext,?_⟩
 replace H:=joinZ H h9ok.s.w H'
 clear H'
 have h9s:=h9ok.s
 rw [h9b] at h9s
 refine needs_of hnk (ptr_of (a:=⟨b,0,none⟩) ?_)
 refine st3 H (hget _) S o9.q o9.c o9.D fun h H=>?_
 rw [List.set_set] at H
 obtain ⟨i1,hi1⟩:∃ i1:Ins,i1 = { o.i with d:=true }:=⟨_,rfl⟩
 have hi1s:i1.s=o0.i.s/\i1.x=o0.i.x/\i1.y=o0.i.y/\i1.d=true:=by rw [hi1,<- hoi]; exact ⟨rfl,rfl,rfl,rfl⟩
 have hsyS:symOf sy i1.s=S:=by rw [hi1s.1,hSd]
 obtain ⟨P2,hP2⟩:∃ P2:OwI,P2=⟨{ i1 with b:=S },o9.q,o9.c,o9.D⟩:=⟨_,rfl⟩
 have H:Hp hB [] h (Z (O.set k P2) true (dsI O++o9.D)):=by rw [hP2,hi1]; exact H
 have hG2:HasI (dsI O++o9.D) (O.set k P2):=hG0.set (fun e he=>List.mem_append_left _ he) (by rw [hP2]; exact ⟨h9s,hc0.w1,hc0.l1⟩) (fun e he=>List.mem_append_right _ (by rw [hP2] at he; exact he))
 refine enc H hG2 (hlen _) fun D1 z1 z2 z3 h H=>⟨_,_,_,_,rfl,?_⟩
 have chk1:=chkB true P2 (fun hh=>(hh.2.2.2.2 (by rw [hP2]; exact hi1s.2.2.2)).2.2.2.2 (by rw [hP2]; show S.ws=(symOf sy i1.s).ws; rw [hsyS]))
 rw [chk1]
 refine ldS_of (c85 H 8 _ rfl) (ldI_of (c60 H 0 _ rfl) ?_)
 have hWX1:(W+1)*XX=W*XX+XX:=by rw [Nat.add_mul,Nat.one_mul]
 have hXle:1*XX<=W*XX:=Nat.mul_le_mul_right _ hW1
 refine bindI_of (((W+1:Nat):Int)) (by (rw [e1]; exact i64_at _ _ (by omega) (by omega) (by omega))) ?_
 refine ldI_of (c60 H 1 _ rfl) ?_
 rw [e2]
 have hszW:SizeP ((W+1:Nat):Int) ((XX:Nat):Int):=by
  refine ⟨by omega,by omega,?_,?_,?_⟩
  ·have:W*1<=W*XX:=Nat.mul_le_mul_left _ hX1
   omega
  ·omega
  ·have:(((W+1:Nat):Int)*((XX:Nat):Int))=(((W+1)*XX:Nat):Int):=by simp
   rw [this]
   omega
 refine white_ok (W:=W+1) (X:=XX) hszW fun qw h' H'=>?_
 refine ⟨_,_,_,_,_,rfl,H'.hext,?_⟩
 obtain ⟨ws3,hws3⟩:∃ ws3:List Nat,ws3=List.replicate (XX*wds (W+1)) 0:=⟨_,rfl⟩
 have hl3:ws3.length=XX*wds (W+1):=by rw [hws3,List.length_replicate]
 rw [<- hws3] at H'
 rw [<- hl3]
 replace H:=joinZ H rfl H'
 clear H'
 refine needs_of hnk (ptr_of (a:=⟨b,0,none⟩) ?_)
 refine st3 H (hget _) ⟨((W+1:Nat):Int),((XX:Nat):Int),ws3⟩ (at0 qw) ws3.length [⟨qw,true,T_uint64,u64s ws3⟩] fun h H=>?_
 rw [List.set_set] at H
 obtain ⟨P3,hP3⟩:∃ P3:OwI,P3=⟨{ i1 with b:=⟨((W+1:Nat):Int),((XX:Nat):Int),ws3⟩ },at0 qw,ws3.length,[⟨qw,true,T_uint64,u64s ws3⟩]⟩:=⟨_,rfl⟩
 have H:Hp hB [] h (Z (O.set k P3) true (dsI O++o9.D++D1++[⟨qw,true,T_uint64,u64s ws3⟩])):=by rw [hP3]; rw [hP2] at H; exact H
 have hhw3:=hw_le (W:=W+1) (H:=XX) (by omega) (by omega)
 have hG3:HasI (dsI O++o9.D++D1++[⟨qw,true,T_uint64,u64s ws3⟩]) (O.set k P3):=hG0.set (fun e he=>by simp [he]) (by
  rw [hP3]
  refine ⟨?_,by rw [hws3]; exact W64.zero _,by show ws3.length<_; omega⟩
  have:=Slot.one (t:=T_uint64) (sz:=1) (b:=qw) (xs:=u64s ws3) (rest:=[]) (n:=ws3.length) (c:=ws3.length) (by rw [u64s_length,Nat.mul_one]) (by rw [List.append_nil,u64s_length,Nat.mul_one])
  rw [List.append_nil] at this
  exact this) (fun e he=>by rw [hP3] at he; exact List.mem_append_right _ he)
 refine enc H hG3 (hlen _) fun D2 z1 z2 z3 h H=>⟨_,_,_,_,rfl,?_⟩
 have chk2:=chkB true P3 (fun hh=>by
  have:=(hh.2.2.2.2 (by rw [hP3]; exact hi1s.2.2.2)).2.2.1
  rw [hP3] at this
  have this:((W+1:Nat):Int)=(symOf sy i1.s).w:=this
  rw [hsyS,e1] at this
  omega)
 rw [chk2]
 refine ldS_of (c85 H 8 _ rfl) (ldI_of (c60 H 0 _ rfl) (ldI_of (c60 H 1 _ rfl) (ldS_of (c60 H 2 _ rfl) ?_)))
 refine cpB_ok (b:=S) (H.rdO hc0.r1) hc0.w1 (by omega) fun o8 h' h8ok h8b H'=>?_
 refine ⟨_,_,_,_,_,rfl,H'.hext,?_⟩
 have h8s:=h8ok.s
 rw [h8b] at h8s
 replace H:=joinZ H h8s.w H'
 clear H'
 obtain ⟨G4,hG4⟩:∃ G4,G4=dsI O++o9.D++D1++[⟨qw,true,T_uint64,u64s ws3⟩]++D2:=⟨_,rfl⟩
 rw [<- hG4] at H
 have hG4O:∀ e∈dsI O,e∈G4:=fun e he=>by rw [hG4]; simp [he]
 obtain ⟨b8,q8,c8,D8⟩:=o8
 have h8b:b8=S:=h8b
 subst h8b
 dsimp only at h8s H ⊢
 obtain ⟨hs1,⟨_,_,hz,_⟩ | ⟨qr,rr,rfl,rfl,hcc⟩⟩:=h8s
 ·omega
 refine needs_of hnk (ptr_of (a:=⟨b,0,none⟩) ?_)
 refine st3 H (hget _) b8 _ c8 [⟨qr,true,T_uint64,u64s b8.ws++rr⟩] fun h H=>?_
 rw [List.set_set] at H
 obtain ⟨P4,hP4⟩:∃ P4:OwI,P4=⟨{ i1 with b:=b8 },some ⟨qr,0,none⟩,c8,[⟨qr,true,T_uint64,u64s b8.ws++rr⟩]⟩:=⟨_,rfl⟩
 have H:Hp hB [] h (Z (O.set k P4) true (G4++[⟨qr,true,T_uint64,u64s b8.ws++rr⟩])):=by rw [hP4]; rw [hP3] at H; exact H
 have c4:=cP H (hget P4)
 refine ldS_of (c85 H 8 _ rfl) (needs_of hnk (ptr_of (a:=⟨b,0,none⟩) ?_))
 rw [add_zero',add_addT _ 4 1,add_addT _ 4 2]
 refine ldI_of (c4 4 (.int .i64 b8.w) (by decide) (by rw [hP4]; rfl)) (ldI_of (c4 5 (.int .i64 b8.h) (by decide) (by rw [hP4]; rfl)) (ldS_of (c4 6 (.slice (some ⟨qr,0,none⟩) b8.ws.length c8) (by decide) (by rw [hP4]; rfl)) ?_))
 refine ldI_of (c60 H 0 _ rfl) (ldI_of (c60 H 1 _ rfl) (ldS_of (c60 H 2 _ rfl) ?_))
 refine getB_ok (b:=b8) (H.rdO hc0.r1) hc0.w1 hSm fun h' e=>⟨_,rfl,e,?_⟩
 have H:=H.ext e
 clear e c4
 obtain ⟨g,hg⟩:∃ g,g=getP b8.ws b8.w.toNat b8.h.toNat 0 0:=⟨_,rfl⟩
 rw [<- hg]
 refine bindI_of ((((!g).toNat:Nat):Int)) (by (cases g <;> rfl)) ?_
 have H:=back H
 rw [e1,e2]
 refine put_ok (W:=W) (X:=XX) (ws:=b8.ws) (a:=0) (b:=0) (bit:=!g) H 0 rfl hc0.w1 (by rw [<- e1,<- e2]; exact hSm.1) hSlen (by omega) (by omega) fun R h' hRl hRw hRp H=>?_
 have H:Hp hB [] h' ([⟨qr,true,T_uint64,u64s R++rr⟩]++Z (O.set k P4) true G4):=H
 have H:=forth H
 obtain ⟨hRm,hRne⟩:=flip_may (R:=R) hSm hRl hRw (by rw [<- hg,e1,e2,Int.toNat_natCast,Int.toNat_natCast]; exact hRp)
 obtain ⟨P5,hP5⟩:∃ P5:OwI,P5=⟨{ i1 with b:=⟨b8.w,b8.h,R⟩ },some ⟨qr,0,none⟩,c8,[⟨qr,true,T_uint64,u64s R++rr⟩]⟩:=⟨_,rfl⟩
 have hcs:P5.cs=P4.cs:=by
  rw [hP5,hP4]
  show [Value.int .i64 i1.x, .int .i64 i1.y, .int .i64 i1.s, .bool i1.d, .int .i64 b8.w, .int .i64 b8.h, .slice (some ⟨qr,0,none⟩) R.length c8]=[Value.int .i64 i1.x, .int .i64 i1.y, .int .i64 i1.s, .bool i1.d, .int .i64 b8.w, .int .i64 b8.h, .slice (some ⟨qr,0,none⟩) b8.ws.length c8]
  rw [hRl]
 have H:Hp hB [] h' (Z (O.set k P5) true (G4++[⟨qr,true,T_uint64,u64s R++rr⟩])):=by
  rw [hZd] at H ⊢
  rw [csI_same hcs]
  exact H
 have h5ok:P5.Ok:=by
  rw [hP5]
  refine ⟨?_,hRw,by show R.length<_; omega⟩
  show Slot T_uint64 1 [⟨qr,true,T_uint64,u64s R++rr⟩] (some ⟨qr,0,none⟩) R.length c8 (u64s R)
  refine Slot.one (by rw [u64s_length,Nat.mul_one]) ?_
  rw [<- hcc,List.length_append,List.length_append,u64s_length,u64s_length,hRl]
 have hG5:HasI (G4++[⟨qr,true,T_uint64,u64s R++rr⟩]) (O.set k P5):=hG0.set (fun e he=>List.mem_append_left _ (hG4O e he)) h5ok (fun e he=>by rw [hP5] at he; exact List.mem_append_right _ he)
 have h5i:InsOk true sy P5.i:=by
  rw [hP5]
  refine ⟨by show 0<=i1.s/\i1.s<_; rw [hi1s.1]; exact hio.1,by show _/\i1.x<=_; rw [hi1s.2.1]; exact hio.2.1,by show _/\i1.y<=_; rw [hi1s.2.2.1]; exact hio.2.2.1,fun hd=>?_,fun _=>⟨rfl,hRm,?_,?_,?_⟩⟩
  ·have hd:i1.d=false:=hd
   rw [hi1s.2.2.2] at hd
   cases hd
  ·show b8.w=(symOf sy i1.s).w
   rw [hsyS]
  ·show b8.h=(symOf sy i1.s).h
   rw [hsyS]
  ·show R≠(symOf sy i1.s).ws
   rw [hsyS]
   exact hRne
 refine enc H hG5 (hlen _) fun D3 z1 z2 z3 h H=>⟨_,_,_,_,rfl,?_⟩
 have hall:∀ x∈l.set k P5.i,InsOk true sy x:=fun x hx=>by
  rcases List.mem_or_eq_of_mem_set hx with hx | rfl
  ·exact (hf.2.2 x hx).mono
  ·exact h5i
 have chk3:chkT (tt true) sy ((O.set k P5).map OwI.i)=0:=by
  rw [hmap]
  have h1:=arI_arS hf.1 _ hall
  have h2:=arS_set (sy:=sy) (i':=P5.i) hli (by rw [hP5]; exact hi1s.1)
  have h3:=hlt.ar
  refine chkT_ok ⟨hf.1,by rw [httd]; exact hreg,fun x hx=>by rw [htrf]; exact hall x hx⟩ ?_
  rw [List.length_set]
  omega
 rw [chk3]
 refine setrf false H fun h H=>?_
 have hG6:=hG5.mono (G':=G4++[⟨qr,true,T_uint64,u64s R++rr⟩]++D3) fun e he=>List.mem_append_left _ he
 refine enc H hG6 (hlen _) fun D4 z1 z2 z3 h H=>⟨_,_,_,_,rfl,?_⟩
 have chk4:=chkB false P5 (fun hh=>by
  have:=(hh.2.2.2.2 (by rw [hP5]; exact hi1s.2.2.2)).1
  cases this)
 rw [chk4]
 refine setrf true H fun h H=>?_
 refine ldS_of (c85 H 8 _ rfl) (ldS_of (c11 H) (needs_of hnk (ptr_of (a:=⟨b,0,none⟩) ?_)))
 refine st1 (o:=P5) (o':=⟨{ P5.i with s:=((sy.length:Nat):Int) },P5.q,P5.c,P5.D⟩) H (hget _) (by decide) rfl rfl fun h H=>?_
 rw [List.set_set] at H
 have hG7:HasI (G4++[⟨qr,true,T_uint64,u64s R++rr⟩]++D3++D4) (O.set k ⟨{ P5.i with s:=((sy.length:Nat):Int) },P5.q,P5.c,P5.D⟩):=hG0.set (fun e he=>by simp [hG4O e he]) ⟨h5ok.s,h5ok.w,h5ok.l⟩ (fun e he=>by
  have he:e∈P5.D:=he
  rw [hP5] at he
  rw [List.mem_singleton.1 he]
  simp)
 refine enc H hG7 (hlen _) fun D5 z1 z2 z3 h H=>⟨_,_,_,_,rfl,?_⟩
 have chk5:=chkB true ⟨{ P5.i with s:=((sy.length:Nat):Int) },P5.q,P5.c,P5.D⟩ (fun hh=>by
  have:=hh.1.2
  have this:((sy.length:Nat):Int)<((sy.length:Nat):Int):=this
  omega)
 rw [chk5]
 refine bcase_ne (fun hh=>absurd rfl hh) fun _=>?_
 refine bcase_ne (fun hh=>absurd rfl hh) fun _=>?_
 refine bcase_ne (fun hh=>absurd rfl hh) fun _=>?_
 refine bcase_ne (fun hh=>absurd rfl hh) fun _=>?_
 refine bcase_ne (fun hh=>absurd rfl hh) fun _=>?_
 refine bindI_of (((k+1:Nat):Int)) (by exact i64_at _ _ (by omega) (by omega) (by omega)) ?_
 refine ⟨m-1,by omega,k+1,by omega,rfl,?_⟩
 rw [hZd] at H
 exact Hp.sub H (by
  refine List.Sublist.cons _ (List.Sublist.cons _ (List.Sublist.cons _ (List.Sublist.cons_cons _ (List.nil_sublist _)))))
theorem tRefined_arg {h:Heap} {cs:Array Value} (hsz:cs.size=TP.cellsOf T_burinlaw14_Ask) (hw:WDx TP h T_burinlaw14_Ask cs.toList) {K:VK} {Kp:PK} (hk:∀ h',hext h h'->K (.bool true) h'):CP F_burinlaw14_TextRefined #[.agg cs] h K Kp:=by
 obtain ⟨t,q,c,l,q2,c2,sy,e,hv,hl,hs,hsl⟩:=wd_ask14 hw
 obtain rfl:cs=#[.int .i64 t.x, .int .i64 t.y, .int .i64 t.w, .int .i64 t.h, .int .i64 t.op, .bool t.rf, .int .i64 t.df, .int .i64 t.st, .slice q l.length c, .slice q2 sy.length c2]:=by
  cases cs
  simpa using e
 exact tRefined_law (t:=t) hv hl hs hsl hk
end
end Go.Bm
namespace Go.Proofs.YtbknfejmdekhpaaGreat
open Go.ChangeShapes Go.WideShapes Go.ChangeAt Go.RowKit
theorem own:ownKnob Tryz.prog.godebug=none:=by kernel_rfl
theorem laidOut:laidOutB Tryz.prog=true:=by kernel_rfl
theorem below_of {W W':World} (hk:Go.Den.keeps W W') (h:Go.Den.hext W.heap W'.heap):Below W.heap.size W W' :=
 ⟨hk.1,hk.2.1,hk.2.2,h.1,fun k hlt=>h.2 k hlt⟩
theorem walk_of {f:FuncId} {args:Array Value} {W:World}
  (h:Calls Tryz.prog f args W fun e w'=>Go.Den.keeps W w'/\match e with
   | .returned v=>v = .bool true/\Go.Den.hext W.heap w'.heap
   | .panicked c=>False
   | .outgrown=>False):Calls Tryz.prog f args W fun e W'=>e = .returned (.bool true)/\Below W.heap.size W W':=by
 refine h.mono fun e W' he=>?_
 obtain ⟨hk,he⟩:=he
 cases e with
 | returned v=>exact ⟨by rw [he.1],below_of hk he.2⟩
 | panicked c=>exact he.elim
 | outgrown=>exact he.elim
end Go.Proofs.YtbknfejmdekhpaaGreat
namespace Go.Proofs.YtbknfejmdekhpaaGreat
open Go.ChangeShapes Go.WideShapes Go.ChangeAt Go.RowKit
theorem textRefined_walk (W:World) {cs:Array Value} (hsz:cs.size=Tryz.prog.cellsOf 29) (hw:Go.Den.WDx Tryz.prog W.heap 29 cs.toList):Calls Tryz.prog 8 #[.agg cs] W fun e W'=>e = .returned (.bool true)/\Below W.heap.size W W' :=
 walk_of ((Go.Bm.tRefined_arg (h:=W.heap) (K:=fun v h'=>v = .bool true/\Go.Den.hext W.heap h') (Kp:=fun _ _=>False) hsz hw fun h' e=>⟨rfl,e⟩).2 W rfl)
theorem textRefined_lifted (os:Os) (started:os.Started) (H:Type) (enc:TypeId × Value->H) :
  ReturnsInHanded {} Tryz.checked os 8 .any (Rows.textRefinedSpec.pre6 enc Tryz.prog Tryz.f8 Rows.textRefinedRow.domain false) (Rows.textRefinedSpec.post enc Tryz.prog Tryz.f8 false true false false):=by
 refine returnsInHanded_of_change_sized (C:=Tryz.checked) own started (by kernel_rfl) Tryz.func8
  (ChangeSpec.witness6 (enc:=enc) (C:=Tryz.checked) false ⟨#[],#[.agg #[.int .i64 0, .int .i64 0, .int .i64 0, .int .i64 0, .int .i64 0, .bool false, .int .i64 0, .int .i64 0, .slice none 0 0, .slice none 0 0]],[]⟩ 8 (by kernel_rfl) (by kernel_rfl) (by kernel_rfl) (by kernel_rfl)) ?_
 intro W base args ds gs before hval0 hW hcnd hz _
 have hval:∀ (j:Nat) t v,Tryz.f8.params[j]? = some t->args[j]? = some v->Value.okWide Tryz.prog W .any base t v:=hval0
 have hz:∀ n∈DataW.weightsEach Tryz.prog (Tryz.f8.params.toList++Rows.textRefinedSpec.plain.varTypes Tryz.prog) (ds++gs),n<=reachBytes:=fun n hn=>by simpa using List.all_eq_true.1 hz n hn
 have hW':=hW
 obtain ⟨p,q,hA0,hV,rfl,hfz,hnd⟩:=hW
 have hA:DataW.TrodAll enc Tryz.prog W 0 (fun _=>true) true Tryz.f8.params.toList args.toList ds p:=hA0
 rw [Tryz.params8] at hA hval hz
 obtain ⟨v0,vs0,d0,ds0,p0,q0,hargs,rfl,rfl,h0,r0⟩:=trodAll_cons hA
 obtain ⟨rfl,rfl,rfl⟩:=trodAll_nil r0
 obtain rfl:args=#[v0]:=by cases args; simp_all
 obtain ⟨rfl,rfl⟩:=trodVars_none hV
 obtain ⟨cs,rfl,hsz⟩:=okWide_struct Tryz.underlying29 (hval 0 29 v0 rfl rfl)
 have hwd:Go.Den.WDx Tryz.prog W.heap 29 cs.toList:=by
  obtain ⟨f,hf⟩:=h0
  exact ⟨f,Go.Den.wd_of hf fun n hn=>hz n (DataW.weights_mem_each (j:=0) rfl rfl n hn)⟩
 clear hA0 hval0
 simp only [List.append_nil] at hW'
 refine (textRefined_walk W hsz hwd).mono fun e W' ⟨he,hb⟩=>?_
 subst he
 refine ⟨_,rfl,[d0],[],_,[],p0,[],hW',?_,?_,?_,hb.frame _,fun h=>Bool.noConfusion h⟩
 ·exact trodAll_cons_mk (shut_bool Go.Proofs.Tryz.underlying4 _) trodAll_mk0
 ·exact ⟨p0,[],Below.trod laidOut (by kernel_rfl) (of_decide_eq_true (by kernel_rfl)) h0 hb (fun x hx=>by simpa using hW'.lt x hx),rfl,(List.append_nil p0).symm⟩
 ·rfl
theorem textRefined_over:Rows.textRefinedRow.holds Tryz.pinned (OpenSpec.ofChange Rows.textRefinedSpec) :=
 OpenClaim.holds_of_wide 8 Tryz.f8 rfl rfl rfl rfl rfl rfl rfl ⟨rfl,rfl,rfl,rfl,rfl⟩ rfl rfl rfl rfl rfl (by kernel_rfl) Tryz.func8 (by kernel_rfl)
  (of_decide_eq_true (by kernel_rfl)) (by unfold Func.isWrapper; first | (rw [if_pos (by decide +kernel)]; kernel_rfl) | (rw [if_neg (by decide +kernel)]; exact ⟨rfl,rfl⟩))
  (fun os started H enc _=>textRefined_lifted os started H enc)
theorem textRefined_proved:Rows.TextRefinedSaid:=textRefined_over
#print axioms textRefined_proved
end Go.Proofs.YtbknfejmdekhpaaGreat
