/- W8: put together by wip/tools/bundle.py: TyA TyC Mlaw14TextDraws Blaw14TextDraws TyD TyE Mlaw14TextStrips Blaw14TextStrips TyG TyJ. -/
import Derived.Test.YtbknfejmdekhpaaGreatW1
import Derived.Test.YtbknfejmdekhpaaGreatW2
import Derived.Test.YtbknfejmdekhpaaGreatW3
import Derived.Test.YtbknfejmdekhpaaGreatW4
import Derived.Test.YtbknfejmdekhpaaGreatW5
import Derived.Test.YtbknfejmdekhpaaGreatW6
import Derived.Test.YtbknfejmdekhpaaGreatW7
import Derived.Test.YtbknfejmdekhpaaGreatProg
set_option linter.unusedVariables false
set_option linter.unusedSimpArgs false
set_option maxRecDepth 100000
namespace Go.Bm
open Go Go.Den Go.Den.YtbknfejmdekhpaaGreat
theorem wd_inst {h:Heap} {cs:List Value} (H:WDx TP h T_api_Instance cs):∃ o:OwI,cs=o.cs/\o.Vw h:=by
 obtain ⟨hl,hf⟩:=wd_struct Go.Proofs.Tryz.underlying47 H
 have k:TP.cellsOf T_api_Instance=7:=by kernel_rfl
 rw [k] at hl
 obtain ⟨v0,v1,v2,v3,v4,v5,v6,rfl⟩:=list7 hl
 have kb:TP.cellsOf T_api_Bitmap=3:=by kernel_rfl
 have kB:TP.cellsOf T_bool=1:=by kernel_rfl
 obtain ⟨x,e0,_⟩:=wd_int Go.Proofs.Tryz.underlying3 (one_of k_int (hf 0 _ rfl) (v:=v0) rfl)
 obtain ⟨y,e1,_⟩:=wd_int Go.Proofs.Tryz.underlying3 (one_of k_int (hf 1 _ rfl) (v:=v1) rfl)
 obtain ⟨s,e2,_⟩:=wd_int Go.Proofs.Tryz.underlying3 (one_of k_int (hf 2 _ rfl) (v:=v2) rfl)
 obtain ⟨d,e3⟩:=wd_bool Go.Proofs.Tryz.underlying4 (one_of kB (hf 3 _ rfl) (v:=v3) rfl)
 have f4:WDx TP h T_api_Bitmap (([v0,v1,v2,v3,v4,v5,v6].drop 4).take (TP.cellsOf T_api_Bitmap)):=hf 4 _ rfl
 rw [kb] at f4
 obtain ⟨w,b,q1,cap1,ws,e4,_,_,g1,g2,g3⟩:=wd_bitmap f4
 simp only [List.drop_succ_cons,List.drop_zero,List.take_succ_cons,List.take_zero,List.cons.injEq,and_true] at e0 e1 e2 e3 e4
 obtain ⟨e40,e41,e42⟩:=e4
 subst e0 e1 e2 e3 e40 e41 e42
 exact ⟨⟨⟨x,y,s,d,⟨w,b,ws⟩⟩,q1,cap1,[]⟩,rfl,g2,g3,g1⟩
theorem csI_at {O:List OwI} {j:Nat} {v:Value} (h:(csI O)[j]? = some v):∃ o,O[j / 7]? = some o/\o.cs[j % 7]? = some v:=by
 have hj:=(List.getElem?_eq_some_iff.1 h).1
 rw [csI_len] at hj
 obtain ⟨o,ho⟩:∃ o,O[j / 7]? = some o:=⟨_,List.getElem?_eq_getElem (by omega)⟩
 have h2:=csI_get' (j:=j % 7) ho (by omega)
 rw [show j / 7*7+j % 7=j by omega] at h2
 exact ⟨o,ho,h2.symm.trans h⟩
theorem wd_insts {h:Heap} {cs:List Value} (H:WDx TP h T_s_api_Instance cs):∃ q cap,∃ l:List Ins,cs=[.slice q l.length cap]/\InsV h q l/\l.length<=4000000000000:=by
 obtain ⟨q,len,cap,rfl,h1,h2,h3,h4⟩:=wd_slice Go.Proofs.Tryz.underlying24 H
 have k:TP.cellsOf T_api_Instance=7:=by kernel_rfl
 have kb:TP.bytesOf T_api_Instance=72:=by kernel_rfl
 have hrb:reachBytes=140737488351232:=rfl
 rw [k] at h4
 rw [kb] at h2
 obtain ⟨O,e1,e2⟩:=build (P:=fun i (o:OwI)=>∃ a,q=some a/\rdO h (some (a.add (i*7))) 7 o.cs/\o.Vw h) (n:=len) fun i hi=>by
  obtain ⟨a,cs',ha,hr,hd⟩:=h4 i hi
  obtain ⟨o,rfl,hv⟩:=wd_inst hd
  exact ⟨o,a,ha,hr,hv⟩
 subst e1
 refine ⟨q,cap,O.map OwI.i,by rw [List.length_map],⟨O,rfl,?_,fun o ho=>?_⟩,by rw [List.length_map]; omega⟩
 ·rw [List.length_map]
  cases q with
  | none =>
   have:=(h3 rfl).1
   obtain rfl:O=[]:=List.length_eq_zero_iff.1 this
   exact rfl
  | some a =>
   refine ⟨csI_len O,fun j v hj=>?_⟩
   obtain ⟨o,ho,hv⟩:=csI_at hj
   obtain ⟨a',ha,hr,_⟩:=e2 _ o ho
   injection ha with ha
   subst ha
   have:=hr.2 _ v hv
   rw [add_addT,show j / 7*7+j % 7=j by omega] at this
   exact this
 ·obtain ⟨i,hi⟩:=List.mem_iff_getElem?.1 ho
  obtain ⟨_,_,_,hv⟩:=e2 i o hi
  exact hv
theorem wd_text {h:Heap} {cs:List Value} (H:WDx TP h T_api_Text cs):∃ (t:Reg14) (q:Option Addr) (c:Nat) (l:List Ins),cs=t.cs q l.length c/\InsV h q l/\l.length<=4000000000000:=by
 obtain ⟨hl,hf⟩:=wd_struct Go.Proofs.Tryz.underlying26 H
 have k:TP.cellsOf T_api_Text=9:=by kernel_rfl
 rw [k] at hl
 obtain ⟨v0,v1,v2,v3,v4,v5,v6,v7,v8,rfl⟩:∃ a b c d e f g i j,cs=[a,b,c,d,e,f,g,i,j]:=by
  match cs,hl with
  | [a,b,c,d,e,f,g,i,j],_=>exact ⟨a,b,c,d,e,f,g,i,j,rfl⟩
 have kB:TP.cellsOf T_bool=1:=by kernel_rfl
 have kI:TP.cellsOf T_s_api_Instance=1:=by kernel_rfl
 obtain ⟨x,e0,_⟩:=wd_int Go.Proofs.Tryz.underlying3 (one_of k_int (hf 0 _ rfl) (v:=v0) rfl)
 obtain ⟨y,e1,_⟩:=wd_int Go.Proofs.Tryz.underlying3 (one_of k_int (hf 1 _ rfl) (v:=v1) rfl)
 obtain ⟨w,e2,_⟩:=wd_int Go.Proofs.Tryz.underlying3 (one_of k_int (hf 2 _ rfl) (v:=v2) rfl)
 obtain ⟨b,e3,_⟩:=wd_int Go.Proofs.Tryz.underlying3 (one_of k_int (hf 3 _ rfl) (v:=v3) rfl)
 obtain ⟨op,e4,_⟩:=wd_int Go.Proofs.Tryz.underlying3 (one_of k_int (hf 4 _ rfl) (v:=v4) rfl)
 obtain ⟨rf,e5⟩:=wd_bool Go.Proofs.Tryz.underlying4 (one_of kB (hf 5 _ rfl) (v:=v5) rfl)
 obtain ⟨df,e6,_⟩:=wd_int Go.Proofs.Tryz.underlying3 (one_of k_int (hf 6 _ rfl) (v:=v6) rfl)
 obtain ⟨st,e7,_⟩:=wd_int Go.Proofs.Tryz.underlying3 (one_of k_int (hf 7 _ rfl) (v:=v7) rfl)
 obtain ⟨q,c,l,e8,g1,g2⟩:=wd_insts (one_of kI (hf 8 _ rfl) (v:=v8) rfl)
 simp only [List.cons.injEq,and_true] at e0 e1 e2 e3 e4 e5 e6 e7 e8
 subst e0 e1 e2 e3 e4 e5 e6 e7 e8
 exact ⟨⟨x,y,w,b,op,rf,df,st⟩,q,c,l,rfl,g1,g2⟩
theorem wd_ask14 {h:Heap} {cs:List Value} (H:WDx TP h T_burinlaw14_Ask cs):∃ (t:Reg14) (q:Option Addr) (c:Nat) (l:List Ins) (q2:Option Addr) (c2:Nat) (sy:List Bmp),cs=t.cs q l.length c++[.slice q2 sy.length c2]/\InsV h q l/\l.length<=4000000000000/\BmsV h q2 sy/\sy.length<=4000000000000:=by
 obtain ⟨hl,hf⟩:=wd_struct Go.Proofs.Tryz.underlying29 H
 have k:TP.cellsOf T_burinlaw14_Ask=10:=by kernel_rfl
 rw [k] at hl
 obtain ⟨v0,v1,v2,v3,v4,v5,v6,v7,v8,v9,rfl⟩:∃ a b c d e f g i j k,cs=[a,b,c,d,e,f,g,i,j,k]:=by
  match cs,hl with
  | [a,b,c,d,e,f,g,i,j,k],_=>exact ⟨a,b,c,d,e,f,g,i,j,k,rfl⟩
 have kt:TP.cellsOf T_api_Text=9:=by kernel_rfl
 have k1:TP.cellsOf T_s_api_Bitmap=1:=by kernel_rfl
 have f0:WDx TP h T_api_Text (([v0,v1,v2,v3,v4,v5,v6,v7,v8,v9].drop 0).take (TP.cellsOf T_api_Text)):=hf 0 _ rfl
 rw [kt] at f0
 obtain ⟨t,q,c,l,e0,g1,g2⟩:=wd_text f0
 obtain ⟨q2,c2,sy,e9,g3,g4,_⟩:=wd_bms (one_of k1 (hf 1 _ rfl) (v:=v9) rfl)
 simp only [List.drop_zero,List.take_succ_cons,List.take_zero,List.cons.injEq,and_true] at e0 e9
 obtain ⟨e0,e1,e2,e3,e4,e5,e6,e7,e8⟩:=e0
 subst e0 e1 e2 e3 e4 e5 e6 e7 e8 e9
 exact ⟨t,q,c,l,q2,c2,sy,rfl,g1,g2,g3,g4⟩
open Classical in
noncomputable def arS (sy:List Bmp) (l:List Ins):Nat:=(l.map fun i=>if 0<=i.s/\i.s<((sy.length:Nat):Int)/\(symOf sy i.s).may then (symOf sy i.s).w.toNat*(symOf sy i.s).h.toNat else 0).sum
structure Light14 (t:Reg14) (sy:List Bmp) (l:List Ins):Prop where
 n1:l.length<=200
 n2:sy.length<=200
 w1:∀ i∈l,i.b.ws.length<=6000
 w2:∀ b∈sy,b.ws.length<=6000
 ar:arS sy l<=24000
 sz:SizeP t.w t.h->(t.w+64)*t.h<=60000
open Classical in
theorem arS_snoc (sy:List Bmp) (l:List Ins) (i:Ins):arS sy (l++[i])=arS sy l+(if 0<=i.s/\i.s<((sy.length:Nat):Int)/\(symOf sy i.s).may then (symOf sy i.s).w.toNat*(symOf sy i.s).h.toNat else 0):=by
 unfold arS
 rw [List.map_append,List.sum_append]
 simp
theorem sym_get {sy:List Bmp} {s:Int} (h:0<=s/\s<((sy.length:Nat):Int)):sy[s.toNat]? = some (symOf sy s):=by
 obtain ⟨b,hb⟩:∃ b,sy[s.toNat]? = some b:=⟨_,List.getElem?_eq_getElem (by omega)⟩
 unfold symOf
 rw [List.getD_eq_getElem?_getD,hb]
 rfl
section
variable {hB:Heap} {K:VK} {Kp:PK} {t:Reg14} {q q2:Option Addr} {c c2:Nat} {sy:List Bmp} {l:List Ins}
set_option maxHeartbeats 4000000 in
theorem light14_ok (hv:InsV hB q l) (hs:BmsV hB q2 sy) (hl:l.length<=4000000000000) (hsl:sy.length<=4000000000000) (hk:∀ (r:Bool) h',(r=true->Light14 t sy l)->hext hB h'->K (.bool r) h') :
  CP F_burinlaw14_light #[.agg #[.int .i64 t.x, .int .i64 t.y, .int .i64 t.w, .int .i64 t.h, .int .i64 t.op, .bool t.rf, .int .i64 t.df, .int .i64 t.st, .slice q l.length c, .slice q2 sy.length c2]] hB K Kp:=by
 refine call_burinlaw14_light ?_
 unfold burinlaw14_light
 have H:=Hp.nil hB []
 refine newC_hp H fun r11 h H=>?_
 have H:Hp hB [] h [⟨r11,true,T_burinlaw14_Ask,t.cs q l.length c++[.slice q2 sy.length c2]⟩]:=H
 have bad:∀ {h'},hext hB h'->K (.bool false) h':=fun e=>hk false _ (fun hh=>by cases hh) e
 obtain ⟨O,hO,hro,hvw⟩:=hv
 have hOl:O.length=l.length:=by rw [<- hO,List.length_map]
 refine ⟨fun m vs h'=>∃ (i n:Nat),i+m=sy.length/\n<=384000/\(∀ b∈sy.take i,b.ws.length<=6000)/\vs=[.int .i64 (n:Nat), .int .i64 (i:Nat)]/\h'=h,⟨sy.length,0,0,by omega,by omega,(fun b hb=>by cases hb),rfl,rfl⟩,?_⟩
 rintro m h' u xn xi ⟨i,n,him,hn,hws,hxx,rfl⟩
 injection hxx with hx1 hxx
 injection hxx with hx2 hxx
 injection hx1 with _ hx1
 injection hx2 with _ hx2
 subst xn xi
 refine ldS_of (hpA H 0 rfl rfl) ?_
 refine bcase_dec (fun h1=>?_) fun h1=>?_
 ·obtain ⟨b,hb⟩:∃ b,sy[i]? = some b:=⟨_,List.getElem?_eq_getElem (by omega)⟩
  obtain ⟨a,qa,ca,hqa,hc0⟩:=hs i b hb
  have hc:=hc0.ext H.hext
  have hbl:=hc.l1
  refine ldS_of (hpA H 0 rfl rfl) (needs_of (by omega) (ptr_at hqa ?_))
  rw [Int.toNat_natCast]
  refine ldS_of hc.c2 ?_
  refine bindI_of (((64*b.ws.length:Nat):Int)) (by exact i64_at _ _ (by omega) (by omega) (by omega)) ?_
  refine bindI_of (((n+64*b.ws.length:Nat):Int)) (by exact i64_at _ _ (by omega) (by omega) (by omega)) ?_
  refine bindI_of (((n+64*b.ws.length+8:Nat):Int)) (by exact i64_at _ _ (by omega) (by omega) (by omega)) ?_
  refine bcase_dec (fun h2=>bad H.hext) fun h2=>?_
  refine bindI_of (((i+1:Nat):Int)) (by exact i64_at _ _ (by omega) (by omega) (by omega)) ?_
  refine ⟨m-1,by omega,i+1,n+64*b.ws.length+8,by omega,by omega,fun x hx=>?_,rfl,rfl⟩
  rw [take_snocG hb] at hx
  rcases List.mem_append.1 hx with hx | hx
  ·exact hws x hx
  ·rw [List.mem_singleton.1 hx]; omega
 obtain rfl:i=sy.length:=by omega
 rw [List.take_of_length_le (Nat.le_refl _)] at hws
 refine ⟨fun m vs h''=>∃ (i n:Nat),i+m=l.length/\8*i<=n/\n<=384000/\(∀ b∈l.take i,b.b.ws.length<=6000)/\arS sy (l.take i)<=i*1048576/\vs=[.int .i64 (n:Nat), .int .i64 (arS sy (l.take i):Nat), .int .i64 (i:Nat)]/\Hp hB [] h'' [⟨r11,true,T_burinlaw14_Ask,t.cs q l.length c++[.slice q2 sy.length c2]⟩],?_,?_⟩
 ·refine ⟨l.length,0,n,by omega,by omega,by omega,(fun b hb=>by cases hb),Nat.zero_le _,rfl,H⟩
 clear H
 rintro m h u xn xa xi ⟨i,n',him,hn8,hn',hws2,har,hxx,H⟩
 injection hxx with hx1 hxx
 injection hxx with hx2 hxx
 injection hxx with hx3 hxx
 injection hx1 with _ hx1
 injection hx2 with _ hx2
 injection hx3 with _ hx3
 subst xn xa xi
 refine ldS_of (hpB H 0 rfl rfl) ?_
 refine bcase_dec (fun h1=>?_) fun h1=>?_
 ·obtain ⟨o,ho⟩:∃ o,O[i]? = some o:=⟨_,List.getElem?_eq_getElem (by omega)⟩
  have hli:l[i]? = some o.i:=by rw [<- hO,List.getElem?_map,ho]; rfl
  obtain ⟨a,ha,cell⟩:=ins_at (rdO_ext H.hext hro) ho
  have hvo:=hvw o (List.mem_of_getElem? ho)
  have hol:=hvo.l
  have hnd:0<=((i:Nat):Int)/\((i:Nat):Int)<((l.length:Nat):Int):=by omega
  refine ldS_of (hpB H 0 rfl rfl) (needs_of hnd (ptr_eq ha ?_))
  rw [Int.toNat_natCast,add_addT _ 4 2]
  refine ldS_of (cell 6 _ rfl) ?_
  refine bindI_of (((64*o.i.b.ws.length:Nat):Int)) (by exact i64_at _ _ (by omega) (by omega) (by omega)) ?_
  refine bindI_of (((n'+64*o.i.b.ws.length:Nat):Int)) (by exact i64_at _ _ (by omega) (by omega) (by omega)) ?_
  refine bindI_of (((n'+64*o.i.b.ws.length+8:Nat):Int)) (by exact i64_at _ _ (by omega) (by omega) (by omega)) ?_
  refine bcase_dec (fun h2=>bad H.hext) fun h2=>?_
  have hws3:∀ b∈l.take (i+1),b.b.ws.length<=6000:=fun x hx=>by
   rw [take_snocG hli] at hx
   rcases List.mem_append.1 hx with hx | hx
   ·exact hws2 x hx
   ·rw [List.mem_singleton.1 hx]; omega
  have hsn:=arS_snoc sy (l.take i) o.i
  rw [<- take_snocG hli] at hsn
  refine ⟨fun vs h'=>∃ r:Bool,vs=[.bool r]/\(r=true↔0<=o.i.s/\o.i.s<((sy.length:Nat):Int)/\(symOf sy o.i.s).may)/\hext h h',?_,?_⟩
  ·refine ldS_of (hpB H 0 rfl rfl) (needs_of hnd (ptr_eq ha ?_))
   refine ldI_of (cell 2 _ rfl) ?_
   refine bcase_dec (fun h3=>?_) fun h3=>⟨false,rfl,⟨(fun hh=>by cases hh),fun hh=>absurd hh.1 (by omega)⟩,hext.refl _⟩
   refine ldS_of (hpB H 0 rfl rfl) (needs_of hnd (ptr_eq ha ?_))
   refine ldI_of (cell 2 _ rfl) (ldS_of (hpA H 0 rfl rfl) ?_)
   refine bcase_dec (fun h4=>?_) fun h4=>⟨false,rfl,⟨(fun hh=>by cases hh),fun hh=>absurd hh.2.1 (by omega)⟩,hext.refl _⟩
   obtain ⟨a3,q9,c9,ha3,hc0⟩:=hs _ _ (sym_get (sy:=sy) (s:=o.i.s) ⟨by omega,h4⟩)
   have hc:=hc0.ext H.hext
   refine ldS_of (hpA H 0 rfl rfl) (ldS_of (hpB H 0 rfl rfl) (needs_of hnd (ptr_eq ha ?_)))
   refine ldI_of (cell 2 _ rfl) (needs_of (by omega) (ptr_eq ha3 ?_))
   refine ldI_of hc.c0 (ldI_of hc.c1 (ldS_of hc.c2 ?_))
   refine may_ok hc.r1 hc.w1 hc.l1 fun r h' hr e=>⟨_,rfl,r,rfl,⟨fun hh=>⟨by omega,h4,hr.1 hh⟩,fun hh=>hr.2 hh.2.2⟩,e⟩
  rintro h' u xb ⟨r,hxx,hr,e⟩
  injection hxx with hx1 hxx
  injection hx1 with hx1
  subst xb
  have H:=H.ext e
  have cell:∀ j v,o.cs[j]? = some v->hcell h' ((a.add (i*7)).add j)=some v:=fun j v hv=>e.cell (cell j v hv)
  refine bcase_of (fun h3=>?_) fun h3=>?_
  ·have hcond:=hr.1 h3
   rw [if_pos hcond] at hsn
   obtain ⟨W,X,e1,e2,hW1,hW2,hX1,hX2,hWX⟩:=size_nat hcond.2.2.1
   rw [e1,e2,Int.toNat_natCast,Int.toNat_natCast] at hsn
   obtain ⟨a3,q9,c9,ha3,hc0⟩:=hs _ _ (sym_get (sy:=sy) (s:=o.i.s) ⟨hcond.1,hcond.2.1⟩)
   have hc:=hc0.ext H.hext
   have hnd2:0<=o.i.s/\o.i.s<((sy.length:Nat):Int):=⟨hcond.1,hcond.2.1⟩
   refine ldS_of (hpA H 0 rfl rfl) (ldS_of (hpB H 0 rfl rfl) (needs_of hnd (ptr_eq ha ?_)))
   refine ldI_of (cell 2 _ rfl) (needs_of hnd2 (ptr_eq ha3 ?_))
   refine ldI_of hc.c0 ?_
   refine ldS_of (hpA H 0 rfl rfl) (ldS_of (hpB H 0 rfl rfl) (needs_of hnd (ptr_eq ha ?_)))
   refine ldI_of (cell 2 _ rfl) (needs_of hnd2 (ptr_eq ha3 ?_))
   refine ldI_of hc.c1 ?_
   have hmz:(symOf sy o.i.s).w*(symOf sy o.i.s).h=((W*X:Nat):Int):=by rw [e1,e2]; simp
   refine bindI_of (((W*X:Nat):Int)) (by exact i64_at _ _ hmz (by omega) (by omega)) ?_
   refine bindI_of (((arS sy (l.take (i+1)):Nat):Int)) (by (rw [hsn]; exact i64_at _ _ (by omega) (by omega) (by omega))) ?_
   refine bindI_of (((i+1:Nat):Int)) (by exact i64_at _ _ (by omega) (by omega) (by omega)) ?_
   exact ⟨m-1,by omega,i+1,_,by omega,by omega,by omega,hws3,by omega,rfl,H⟩
  ·rw [if_neg (fun hh=>by rw [hr.2 hh] at h3; cases h3)] at hsn
   have hsn:arS sy (l.take (i+1))=arS sy (l.take i):=hsn.trans (Nat.add_zero _)
   rw [<- hsn]
   refine bindI_of (((i+1:Nat):Int)) (by exact i64_at _ _ (by omega) (by omega) (by omega)) ?_
   exact ⟨m-1,by omega,i+1,_,by omega,by omega,by omega,hws3,by omega,rfl,H⟩
 obtain rfl:i=l.length:=by omega
 rw [List.take_of_length_le (Nat.le_refl _)] at hws2 ⊢
 refine bcase_dec (fun h2=>?_) fun h2=>bad H.hext
 refine ldS_of (hpB H 0 rfl rfl) (bcase_dec (fun h3=>?_) fun h3=>bad H.hext)
 refine ldS_of (hpA H 0 rfl rfl) (bcase_dec (fun h4=>?_) fun h4=>bad H.hext)
 refine ldI_of (hpB H 0 rfl rfl) (ldI_of (hpB H 0 rfl rfl) (rsize_ok fun b hb=>⟨_,rfl,?_⟩))
 have key:(SizeP t.w t.h->(t.w+64)*t.h<=60000)->Light14 t sy l:=fun hsz=>⟨by omega,by omega,hws2,hws,by omega,hsz⟩
 refine bcase_not (fun h5=>?_) fun h5=>?_
 ·exact hk true _ (fun _=>key fun hsz=>by rw [hb.2 hsz] at h5; cases h5) H.hext
 ·have hsz:=hb.1 h5
  obtain ⟨W,X,e1,e2,hW1,hW2,hX1,hX2,hWX⟩:=size_nat hsz
  have h64:X*64<=1048576*64:=Nat.mul_le_mul_right _ hX2
  have hmm:(t.w+64)*t.h=(((W+64)*X:Nat):Int):=by rw [e1,e2]; simp
  have hmn:(W+64)*X=W*X+64*X:=Nat.add_mul ..
  refine ldI_of (hpB H 0 rfl rfl) ?_
  refine bindI_of ((t.w+64)) (by exact i64_in _ (by omega) (by omega)) ?_
  refine ldI_of (hpB H 0 rfl rfl) ?_
  refine bindI_of ((((W+64)*X:Nat):Int)) (by exact i64_at _ _ hmm (by omega) (by omega)) ?_
  refine hk _ _ (fun hh=>key fun _=>?_) H.hext
  rw [hmm]
  exact of_decide_eq_true hh
end
end Go.Bm
namespace Go.Bm
open Go Go.Den Go.Den.YtbknfejmdekhpaaGreat
def hitP (sy:List Bmp) (x Y:Nat) (i:Ins):Bool:=getP (srcB sy i).ws (srcB sy i).w.toNat (srcB sy i).h.toNat ((x:Int)-i.x) ((Y:Int)-i.y)
def insP (sy:List Bmp) (x Y:Nat) (i:Ins):Prop:=i.x<=x/\(x:Int)<i.x+(srcB sy i).w/\i.y<=Y/\(Y:Int)<i.y+(srcB sy i).h
instance (sy:List Bmp) (x Y:Nat) (i:Ins):Decidable (insP sy x Y i):=by unfold insP; infer_instance
def lay1 (sy:List Bmp) (op x Y:Nat) (g:Bool) (i:Ins):Bool:=if insP sy x Y i then opB op g (hitP sy x Y i) else g
def cntH (sy:List Bmp) (l:List Ins) (x Y:Nat):Nat:=(l.map fun i=>(hitP sy x Y i).toNat).sum
theorem hit_in {sy:List Bmp} {x Y:Nat} {i:Ins} (h:¬ insP sy x Y i):hitP sy x Y i=false:=by
 unfold hitP getP
 rw [decide_eq_false,Bool.false_and]
 unfold insP at h
 omega
theorem layP_1 {sy:List Bmp} {op W x Y:Nat} {G:Nat->Nat->Bool} {i:Ins} (hm:(srcB sy i).may):layP sy op W G i x Y=if x<W then lay1 sy op x Y (G x Y) i else G x Y:=by
 obtain ⟨w,b,e1,e2,_⟩:=size_nat hm.1
 unfold layP lay1
 by_cases hx:x<W
 ·rw [if_pos hx]
  by_cases hi:insP sy x Y i
  ·have hi':=hi
   unfold insP at hi'
   rw [if_pos hi,if_pos (by omega)]
   unfold hitP getP
   rw [decide_eq_true (by rw [e1,e2,Int.toNat_natCast,Int.toNat_natCast]; omega),Bool.true_and]
  ·rw [if_neg hi,if_neg]
   unfold insP at hi
   omega
 ·rw [if_neg hx,if_neg (by omega)]
theorem draw_pt {sy:List Bmp} {op W x Y:Nat}:∀ (l:List Ins) (G:Nat->Nat->Bool),(∀ i∈l,(srcB sy i).may)->l.foldl (layP sy op W) G x Y=if x<W then l.foldl (lay1 sy op x Y) (G x Y) else G x Y
 | [],G,_=>by
  show G x Y=_
  split <;> rfl
 | i::l,G,h=>by
  have ih:=draw_pt (op:=op) (W:=W) (x:=x) (Y:=Y) l (layP sy op W G i) fun y hy=>h y (List.mem_cons_of_mem _ hy)
  rw [List.foldl_cons,ih,layP_1 (h i (List.mem_cons_self ..))]
  split <;> rfl
theorem drawG_pt {t:Reg14} {sy:List Bmp} {l:List Ins} {x Y:Nat} (h:∀ i∈l,(srcB sy i).may):drawG t sy l x Y=if x<t.w.toNat then l.foldl (lay1 sy t.op.toNat x Y) (decide (t.df=1)) else false:=by
 unfold drawG
 rw [draw_pt l _ h]
 unfold gndP
 by_cases hx:x<t.w.toNat
 ·rw [if_pos hx,if_pos hx]
  simp [hx]
 ·rw [if_neg hx,if_neg hx]
  simp [hx]
theorem drawG_may {t:Reg14} {sy:List Bmp} {l:List Ins} {R:List Nat} (hs:SizeP t.w t.h) (h:∀ i∈l,(srcB sy i).may) (hp:PicP t.w.toNat t.h.toNat (drawG t sy l) R):MayP t.w t.h R:=by
 obtain ⟨W,X,e1,e2,_⟩:=size_nat hs
 rw [e1,e2] at hs ⊢
 rw [e1,e2,Int.toNat_natCast,Int.toNat_natCast] at hp
 refine may_of_pix hs hp.1 hp.2.1 fun y hy x h1 h2=>?_
 rw [hp.2.2 y hy x h2,drawG_pt h,if_neg]
 rw [e1,Int.toNat_natCast]
 omega
theorem pic_get {W X:Nat} {G:Nat->Nat->Bool} {R:List Nat} (h:PicP W X G R) {x y:Nat} (hx:x<W) (hy:y<X):getP R W X (x:Int) (y:Int)=G x y:=by
 unfold getP
 rw [decide_eq_true (by omega),Bool.true_and,Int.toNat_natCast,Int.toNat_natCast]
 exact h.2.2 y hy x (by unfold wds; omega)
theorem lay1_xor {sy:List Bmp} {x Y:Nat} (g:Bool) (i:Ins):lay1 sy 2 x Y g i=(g != hitP sy x Y i):=by
 unfold lay1
 split
 ·rfl
 ·rename_i h
  rw [hit_in h]
  cases g <;> rfl
theorem cntH_cons (sy:List Bmp) (i:Ins) (l:List Ins) (x Y:Nat):cntH sy (i::l) x Y=(hitP sy x Y i).toNat+cntH sy l x Y:=rfl
theorem cntH_perm {sy:List Bmp} {a b:List Ins} (h:a.Perm b) (x Y:Nat):cntH sy a x Y=cntH sy b x Y:=(h.map _).sum_nat
theorem fold_xor {sy:List Bmp} {x Y:Nat}:∀ (l:List Ins) (g:Bool),l.foldl (lay1 sy 2 x Y) g=decide ((g.toNat+cntH sy l x Y) % 2=1)
 | [],g=>by cases g <;> rfl
 | i::l,g=>by
  rw [List.foldl_cons,fold_xor l,lay1_xor,cntH_cons,decide_eq_decide]
  cases g <;> cases hitP sy x Y i <;> simp <;> omega
theorem chkT_like {t t':Reg14} {sy:List Bmp} {l:List Ins} (h:chkT t sy l=0) (hr:RegOk t') (e:t'.rf=t.rf):chkT t' sy l=0:=by
 obtain ⟨hf,h1,h2,h3⟩:=chkT_zero h
 exact chkT_ok ⟨hf.1,hr,fun i hi=>e ▸ hf.2.2 i hi⟩ (by omega)
end Go.Bm
namespace Go.Den.YtbknfejmdekhpaaGreat
open Go Go.Den
end Go.Den.YtbknfejmdekhpaaGreat
namespace Go.Den.YtbknfejmdekhpaaGreat
open Go Go.Den
end Go.Den.YtbknfejmdekhpaaGreat
namespace Go.Bm
open Go Go.Den Go.Den.YtbknfejmdekhpaaGreat
section
variable {hB:Heap} {K:VK} {Kp:PK}
theorem getB_ok {b:Bmp} {q:Option Addr} {c:Nat} (hr:rdO hB q (b.ws.length*1) (u64s b.ws)) (hw:W64 b.ws) (hm:b.may) {x y:Int} (hk:∀ h,hext hB h->K (.int .i64 ((getP b.ws b.w.toNat b.h.toNat x y).toNat:Nat)) h) :
  CP F_burinref0_Get #[.agg #[.int .i64 b.w, .int .i64 b.h, .slice q b.ws.length c], .int .i64 x, .int .i64 y] hB K Kp:=by
 obtain ⟨bw,bh,ws⟩:=b
 obtain ⟨W,X,e1,e2,_⟩:=size_nat hm.1
 have e1:bw=(W:Int):=e1
 have e2:bh=(X:Int):=e2
 subst e1 e2
 refine get_ok hr hw hm.1 (may_len hm) fun h e=>?_
 exact hk h e
end
end Go.Bm
namespace Go.Bm
open Go Go.Den Go.Den.YtbknfejmdekhpaaGreat
theorem csI_setG:∀ (P:List OwI) (rest:List Value) (i j:Nat) (o o':OwI) (v:Value),P[i]? = some o->j<7->o'.cs=o.cs.set j v->(csI P++rest).set (i*7+j) v=csI (P.set i o')++rest
 | [],_,i,j,o,o',v,h,_,_=>by cases h
 | p::P,rest,0,j,o,o',v,h,hj,e=>by
  injection h with h
  subst h
  rw [csI_cons,List.set_cons_zero,csI_cons,e,Nat.zero_mul,Nat.zero_add,List.append_assoc,List.set_append_left _ _ (by exact hj),List.append_assoc]
 | p::P,rest,i+1,j,o,o',v,h,hj,e=>by
  rw [csI_cons,List.append_assoc,csI_setj,csI_setG P rest i j o o' v h hj e]
  rfl
section
variable {h0 h:Heap} {F:List Nat} {L:List Ent} {b:Nat} {P:List OwI} {rest:List Value} {K:Heap->Prop}
theorem stI (H:Hp h0 F h (⟨b,true,T_api_Instance,csI P++rest⟩::L)) {i j:Nat} {o o':OwI} {v:Value} (ho:P[i]? = some o) (hj:j<7) (e:o'.cs=o.cs.set j v) (hv:v.oneCell'=true)
  (hk:∀ h',Hp h0 F h' (⟨b,true,T_api_Instance,csI (P.set i o')++rest⟩::L)->K h'):stV h (((⟨b,0,none⟩:Addr).add (i*7)).add j) v K:=by
 have hi:=(List.getElem?_eq_some_iff.1 ho).1
 rw [add_mk,add_mk,Nat.zero_add]
 refine stV_hp H 0 rfl (by rw [List.length_append,csI_len]; omega) hv fun h' _ H=>hk h' ?_
 rw [<- csI_setG P rest i j o o' v ho hj e]
 exact H
end
structure HasI (G:List Ent) (P:List OwI):Prop where
 ok:∀ o∈P,o.Ok
 has:∀ o∈P,∀ e∈o.D,e∈G
end Go.Bm
namespace Go.Den.YtbknfejmdekhpaaGreat
open Go Go.Den
end Go.Den.YtbknfejmdekhpaaGreat
namespace Go.Den.YtbknfejmdekhpaaGreat
open Go Go.Den
end Go.Den.YtbknfejmdekhpaaGreat
namespace Go.Bm
open Go Go.Den Go.Den.YtbknfejmdekhpaaGreat
section
variable {hB:Heap} {K:VK} {Kp:PK}
theorem tDrawN {t:Reg14} {q q2:Option Addr} {c c2 n:Nat} {sy:List Bmp} {l:List Ins} (hn:l.length=n) (hn2:n<=1000000) (hv:InsV hB q l) (hs:BmsV hB q2 sy) (hsl:sy.length<=1000000000000) (hck:chkT t sy l=0)
  (hk:∀ R D qo co h',PicP t.w.toNat t.h.toNat (drawG t sy (srtI t.st.toNat l)) R->Slot T_uint64 1 D qo R.length co (u64s R)->Hp hB [] h' D->K (.tuple #[.agg #[.int .i64 t.w, .int .i64 t.h, .slice qo R.length co], .int .i64 0]) h') :
  CP F_text_Draw #[t.ag q n c, .slice q2 sy.length c2] hB K Kp:=by
 subst hn
 exact tDraw_ok (t:=t) hv hs hn2 hsl (fun h' hn _=>absurd hck hn) fun R D qo co h' _=>hk R D qo co h'
end
end Go.Bm
namespace Go.Bm
open Go Go.Den Go.Den.YtbknfejmdekhpaaGreat
def mvI (dx dy:Int) (i:Ins):Ins:={ i with x:=i.x+dx,y:=i.y+dy }
def mvO (dx dy:Int) (n:Nat) (O:List OwI):List OwI:=O.mapIdx fun j o=>if j<n then { o with i:=mvI dx dy o.i } else o
section
variable {dx dy:Int}
theorem mvO_len (n:Nat) (O:List OwI):(mvO dx dy n O).length=O.length:=List.length_mapIdx
theorem mvO_get {n:Nat} {O:List OwI} {j:Nat} {o:OwI} (h:O[j]? = some o):(mvO dx dy n O)[j]? = some (if j<n then { o with i:=mvI dx dy o.i } else o):=by
 unfold mvO
 rw [List.getElem?_mapIdx,h]
 rfl
theorem mvO_set {O:List OwI} {i:Nat} {o:OwI} (h:O[i]? = some o):mvO dx dy (i+1) O=(mvO dx dy i O).set i { o with i:=mvI dx dy o.i }:=by
 refine List.ext_getElem? fun j=>?_
 rcases Nat.lt_or_ge j O.length with hj | hj
 ·obtain ⟨x,hx⟩:∃ x,O[j]? = some x:=⟨_,List.getElem?_eq_getElem hj⟩
  by_cases hji:j=i
  ·subst hji
   rw [h] at hx
   injection hx with hx
   subst hx
   rw [mvO_get h,List.getElem?_set_self (by rw [mvO_len]; exact hj),if_pos (Nat.lt_succ_self _)]
  ·rw [mvO_get hx,List.getElem?_set_ne (Ne.symm hji),mvO_get hx]
   by_cases h2:j<i
   ·rw [if_pos h2,if_pos (by omega)]
   ·rw [if_neg h2,if_neg (by omega)]
 ·rw [List.getElem?_eq_none (by rw [mvO_len]; exact hj),List.getElem?_eq_none (by rw [List.length_set,mvO_len]; exact hj)]
theorem mvO_zero (O:List OwI):mvO dx dy 0 O=O:=by
 refine List.ext_getElem? fun j=>?_
 unfold mvO
 rw [List.getElem?_mapIdx]
 cases h:O[j]? with
 | none=>rfl
 | some o=>simp
theorem mvO_map {n:Nat} {O:List OwI} (h:O.length<=n):(mvO dx dy n O).map OwI.i=(O.map OwI.i).map (mvI dx dy):=by
 refine List.ext_getElem? fun j=>?_
 unfold mvO
 rw [List.getElem?_map,List.getElem?_mapIdx,List.getElem?_map,List.getElem?_map]
 cases hj:O[j]? with
 | none=>rfl
 | some o =>
  have:=(List.getElem?_eq_some_iff.1 hj).1
  simp only [Option.map_some]
  rw [if_pos (by omega)]
theorem mvO_has {n:Nat} {O:List OwI} {G:List Ent} (h:HasI G O):HasI G (mvO dx dy n O):=by
 have key:∀ o∈mvO dx dy n O,∃ x∈O,o.D=x.D/\o.i.b=x.i.b/\o.q=x.q/\o.c=x.c:=fun o ho=>by
  obtain ⟨j,hj⟩:=List.mem_iff_getElem?.1 ho
  unfold mvO at hj
  rw [List.getElem?_mapIdx] at hj
  cases hx:O[j]? with
  | none=>rw [hx] at hj; cases hj
  | some x =>
   rw [hx] at hj
   injection hj with hj
   subst hj
   refine ⟨x,List.mem_of_getElem? hx,?_⟩
   split <;> exact ⟨rfl,rfl,rfl,rfl⟩
 refine ⟨fun o ho=>?_,fun o ho e he=>?_⟩
 ·obtain ⟨x,hx,e1,e2,e3,e4⟩:=key o ho
  have:=h.ok x hx
  refine ⟨by rw [e1,e2,e3,e4]; exact this.s,by rw [e2]; exact this.w,by rw [e2]; exact this.l⟩
 ·obtain ⟨x,hx,e1,_⟩:=key o ho
  exact h.has x hx e (by rw [<- e1]; exact he)
end
theorem srcB_mv (sy:List Bmp) (dx dy:Int) (i:Ins):srcB sy (mvI dx dy i)=srcB sy i:=rfl
theorem hit_mv {sy:List Bmp} {a b:Nat} {i:Ins} {x Y:Nat}:hitP sy (x+a) (Y+b) (mvI (a:Int) (b:Int) i)=hitP sy x Y i:=by
 unfold hitP
 rw [srcB_mv]
 congr 1
 ·show ((x+a:Nat):Int)-(i.x+(a:Int))=_
  omega
 ·show ((Y+b:Nat):Int)-(i.y+(b:Int))=_
  omega
theorem cnt_mv {sy:List Bmp} {a b:Nat} {x Y:Nat}:∀ l:List Ins,cntH sy (l.map (mvI (a:Int) (b:Int))) (x+a) (Y+b)=cntH sy l x Y
 | []=>rfl
 | i::l=>by rw [List.map_cons,cntH_cons,cntH_cons,hit_mv,cnt_mv l]
theorem InsOk.mv {rf:Bool} {sy:List Bmp} {i:Ins} {dx dy:Int} (h:InsOk rf sy i) (h1:-1048576<=i.x+dx/\i.x+dx<=1048576) (h2:-1048576<=i.y+dy/\i.y+dy<=1048576):InsOk rf sy (mvI dx dy i):=⟨h.1,h1,h2,h.2.2.2.1,h.2.2.2.2⟩
theorem arI_mv (dx dy:Int):∀ l:List Ins,arI (l.map (mvI dx dy))=arI l
 | []=>rfl
 | i::l=>by rw [List.map_cons,arI_cons,arI_cons,arI_mv dx dy l]; rfl
theorem arI_app (a b:List Ins):arI (a++b)=arI a+arI b:=by
 unfold arI
 rw [List.map_append,List.sum_append]
theorem cntH_app (sy:List Bmp) (a b:List Ins) (x Y:Nat):cntH sy (a++b) x Y=cntH sy a x Y+cntH sy b x Y:=by
 unfold cntH
 rw [List.map_append,List.sum_append]
def outL (W:Int):List Ins:=[⟨W,0,0,false,⟨0,0,[]⟩⟩,⟨0,-1048576,0,false,⟨0,0,[]⟩⟩]
theorem cnt_out {sy:List Bmp} {W:Int} {x Y:Nat} (hx:(x:Int)<W) (hh:(symOf sy 0).h<1048576) (hY:0<=(symOf sy 0).h):cntH sy (outL W) x Y=0:=by
 unfold outL
 rw [cntH_cons,cntH_cons]
 rw [hit_in (i:=⟨W,0,0,false,⟨0,0,[]⟩⟩) (by
  unfold insP
  show ¬ (W<=(x:Int)/\_)
  omega),hit_in (i:=⟨0,-1048576,0,false,⟨0,0,[]⟩⟩) (by
  unfold insP
  show ¬ (_/\_/\_/\(Y:Int) < -1048576+(symOf sy 0).h)
  omega)]
 rfl
theorem outL_ok {rf:Bool} {sy:List Bmp} {W:Int} (hW:0<=W/\W<=1048576) (h:0<sy.length):∀ i∈outL W,InsOk rf sy i:=fun i hi=>by
 unfold outL at hi
 rcases List.mem_cons.1 hi with rfl | hi
 ·exact ⟨⟨Int.le_refl 0,by show (0:Int)<_; omega⟩,⟨by show -1048576<=W; omega,hW.2⟩,by show (-1048576:Int)<=0/\(0:Int)<=1048576; decide,fun _=>⟨rfl,rfl,rfl⟩,fun hh=>by cases hh⟩
 ·rw [List.mem_singleton.1 hi]
  exact ⟨⟨Int.le_refl 0,by show (0:Int)<_; omega⟩,by decide,by decide,fun _=>⟨rfl,rfl,rfl⟩,fun hh=>by cases hh⟩
end Go.Bm
