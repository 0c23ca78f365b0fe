/- W6: put together by wip/tools/bundle.py: Bdict Mburinref13 Bburinref13 DcA DcB DcC DcD DcE DcF DcG DcH DcI Mlaw13x Blaw13x DcJ DcK DcL DcM DcN DcO DcP DcQ DcS Mlaw13DictEncodes Blaw13DictEncodes DcT DcR Mlaw13DictBack Blaw13DictBack DcV Mlaw13DictChain Blaw13DictChain DcW. -/
import Derived.Test.YtfaclehehhgpcaaGreatW1
import Derived.Test.YtfaclehehhgpcaaGreatW2
import Derived.Test.YtfaclehehhgpcaaGreatW3
import Derived.Test.YtfaclehehhgpcaaGreatW4
import Derived.Test.YtfaclehehhgpcaaGreatW5
import Derived.Test.YtfaclehehhgpcaaGreatProg
set_option linter.unusedVariables false
set_option linter.unusedSimpArgs false
set_option maxRecDepth 100000
namespace Go.Den.YtfaclehehhgpcaaGreat
open Go Go.Den
theorem call_dict_Encode {d_1:Int} {d_2:Option Addr} {d_2n:Nat} {d_2c:Nat} {d_3:Option Addr} {d_3n:Nat} {d_3c:Nat} {imported:Option Addr} {importedn:Nat} {importedc:Nat} {h:Heap} {K:VK} {Kp:PK} (H:dict_Encode (CallsHP Go.Proofs.Tryz.prog) d_1 d_2 d_2n d_2c d_3 d_3n d_3c imported importedn importedc h K Kp):CallsHP Go.Proofs.Tryz.prog F_dict_Encode #[.agg #[.int .i64 d_1, .slice d_2 d_2n d_2c, .slice d_3 d_3n d_3c], .slice imported importedn importedc] h K Kp :=
 callsHP_ofE (Hints.mk (fun i=>none) (fun i=>none) (fun i=>none) []) (by kernel_rfl) Go.Proofs.Tryz.func33 (by kernel_rfl) (fun C=>dict_Encode C d_1 d_2 d_2n d_2c d_3 d_3n d_3c imported importedn importedc h K Kp) (fun C=>by kernel_rfl) H
theorem call_dict_Exported {d_1:Int} {d_2:Option Addr} {d_2n:Nat} {d_2c:Nat} {d_3:Option Addr} {d_3n:Nat} {d_3c:Nat} {imported:Option Addr} {importedn:Nat} {importedc:Nat} {h:Heap} {K:VK} {Kp:PK} (H:dict_Exported (CallsHP Go.Proofs.Tryz.prog) d_1 d_2 d_2n d_2c d_3 d_3n d_3c imported importedn importedc h K Kp):CallsHP Go.Proofs.Tryz.prog F_dict_Exported #[.agg #[.int .i64 d_1, .slice d_2 d_2n d_2c, .slice d_3 d_3n d_3c], .slice imported importedn importedc] h K Kp :=
 callsHP_ofE (Hints.mk (fun i=>none) (fun i=>bif Nat.beq i 6 then some ([(7, .slc),(22, .int .i64)],2199019062144) else (none)) (fun i=>none) []) (by kernel_rfl) Go.Proofs.Tryz.func35 (by kernel_rfl) (fun C=>dict_Exported C d_1 d_2 d_2n d_2c d_3 d_3n d_3c imported importedn importedc h K Kp) (fun C=>by kernel_rfl) H
theorem call_dict_Decode {f:Option Addr} {fn:Nat} {fc:Nat} {imported:Option Addr} {importedn:Nat} {importedc:Nat} {h:Heap} {K:VK} {Kp:PK} (H:dict_Decode (CallsHP Go.Proofs.Tryz.prog) f fn fc imported importedn importedc h K Kp):CallsHP Go.Proofs.Tryz.prog F_dict_Decode #[.slice f fn fc, .slice imported importedn importedc] h K Kp :=
 callsHP_ofE (Hints.mk (fun i=>none) (fun i=>none) (fun i=>none) []) (by kernel_rfl) Go.Proofs.Tryz.func42 (by kernel_rfl) (fun C=>dict_Decode C f fn fc imported importedn importedc h K Kp) (fun C=>by kernel_rfl) H
theorem call_dict_checked {a0_1:Int} {a0_2:Option Addr} {a0_2n:Nat} {a0_2c:Nat} {a0_3:Option Addr} {a0_3n:Nat} {a0_3c:Nat} {a1:Option Addr} {a1n:Nat} {a1c:Nat} {h:Heap} {K:VK} {Kp:PK} (H:dict_checked (CallsHP Go.Proofs.Tryz.prog) a0_1 a0_2 a0_2n a0_2c a0_3 a0_3n a0_3c a1 a1n a1c h K Kp):CallsHP Go.Proofs.Tryz.prog F_dict_checked #[.agg #[.int .i64 a0_1, .slice a0_2 a0_2n a0_2c, .slice a0_3 a0_3n a0_3c], .slice a1 a1n a1c] h K Kp :=
 callsHP_ofE (Hints.mk (fun i=>bif Nat.beq i 8 then some ([], .take 0 <| .take 1 <| .take 2 <| .take 3 <| .take 5 <| .take 7 <| .take 8 <| .take 4 <| .take 6 <| .take 9 <| .take 10 <| .take 11 <| .take 12 <| .take 13 <| .take 14 <| .take 16 <| .take 18 <| .take 19 <| .take 15 <| .take 17 <| .take 20 <| .take 21 <| .take 22 <| .take 23 <| .take 24 <| .take 25 <| .take 27 <| .take 29 <| .take 30 <| .take 26 <| .take 28 <| .take 31 <| .take 32 <| .take 33 <| .take 34 <| .take 35 <| .take 36 <| .take 37 <| .done) else (none)) (fun i=>bif Nat.beq i 6 then some ([(6, .int .i64),(44, .int .i64)],79228162514264320001357906384) else (none)) (fun i=>bif Nat.beq i 10 then some ([],154742504910109584408969232) else (none)) []) (by kernel_rfl) Go.Proofs.Tryz.func81 (by kernel_rfl) (fun C=>dict_checked C a0_1 a0_2 a0_2n a0_2c a0_3 a0_3n a0_3c a1 a1n a1c h K Kp) (fun C=>by kernel_rfl) H
noncomputable def hints_dict_caught:Hints:=Hints.mk (fun i=>none)
 (fun i=>none)
 (fun i=>none) []
theorem eq_dict_caught (C:CallP) (D:CallDP) (run:Value) (h:Heap) (K:VK) (Kp:PK) :
  fnDD Go.Proofs.Tryz.prog C D hints_dict_caught Go.Proofs.Tryz.f82 [run] h K Kp=dict_caught C D run h K Kp:=by kernel_rfl
theorem call_dict_caught {run:Value} {h:Heap} {K:VK} {Kp:PK} (H:dict_caught (CallsHP Go.Proofs.Tryz.prog) (DCalls Go.Proofs.Tryz.prog) run h K Kp):CallsHP Go.Proofs.Tryz.prog F_dict_caught #[run] h K Kp :=
 callsHP_ofD hints_dict_caught (by kernel_rfl) Go.Proofs.Tryz.func82 (by kernel_rfl) (by rw [eq_dict_caught]; exact H)
theorem call_dict_Encode_c1 {cap0:Addr} {cap1:Addr} {h:Heap} {K:VK} {Kp:PK} (H:dict_Encode_c1 (CallsHP Go.Proofs.Tryz.prog) cap0 cap1 h K Kp):CallsHP Go.Proofs.Tryz.prog F_dict_Encode_c1 #[.pointer (some cap0), .pointer (some cap1)] h K Kp :=
 callsHP_ofE (Hints.mk (fun i=>none) (fun i=>none) (fun i=>none) []) (by kernel_rfl) Go.Proofs.Tryz.func83 (by kernel_rfl) (fun C=>dict_Encode_c1 C cap0 cap1 h K Kp) (fun C=>by kernel_rfl) H
theorem call_dict_need {err:Int} {h:Heap} {K:VK} {Kp:PK} (H:dict_need (CallsHP Go.Proofs.Tryz.prog) err h K Kp):CallsHP Go.Proofs.Tryz.prog F_dict_need #[.int .i64 err] h K Kp :=
 callsHP_ofE (Hints.mk (fun i=>none) (fun i=>none) (fun i=>none) []) (by kernel_rfl) Go.Proofs.Tryz.func85 (by kernel_rfl) (fun C=>dict_need C err h K Kp) (fun C=>by kernel_rfl) H
noncomputable def hints_dict_symbols:HintsY:=HintsY.mk (Hints.mk (fun i=>bif Nat.beq i 5 then some ([5,6], .take 1 <| .take 0 <| .take 2 <| .take 3 <| .go 4 <| .bar 5 [6] <| .bar 6 [] <| .done) else (bif Nat.beq i 11 then some ([6,7], .take 1 <| .take 3 <| .take 0 <| .take 2 <| .take 4 <| .go 5 <| .bar 6 [7] <| .bar 7 [] <| .done) else (none)))
 (fun i=>bif Nat.beq i 9 then some ([(7, .int .i64),(25, .int .i64)],70368710623872) else (none))
 (fun i=>none) []) (fun i=>bif Nat.beq i 5 then some ([.int .i64, .slc]) else (none))
theorem eq_dict_symbols (C:CallP) (Y:YP) (c:Option Addr) (d_1:Int) (d_2:Option Addr) (d_2n:Nat) (d_2c:Nat) (d_3:Option Addr) (d_3n:Nat) (d_3c:Nat) (h:Heap) (K:VK) (Kp:PK) :
  fnY Go.Proofs.Tryz.prog C Y hints_dict_symbols Go.Proofs.Tryz.f90 [.pointer c, .agg #[.int .i64 d_1, .slice d_2 d_2n d_2c, .slice d_3 d_3n d_3c]] h K Kp=dict_symbols C Y c d_1 d_2 d_2n d_2c d_3 d_3n d_3c h K Kp:=by kernel_rfl
theorem call_dict_symbols {c:Option Addr} {d_1:Int} {d_2:Option Addr} {d_2n:Nat} {d_2c:Nat} {d_3:Option Addr} {d_3n:Nat} {d_3c:Nat} {h:Heap} {K:VK} {Kp:PK} (H:dict_symbols (CallsHP Go.Proofs.Tryz.prog) (YieldsHP Go.Proofs.Tryz.prog) c d_1 d_2 d_2n d_2c d_3 d_3n d_3c h K Kp):CallsHP Go.Proofs.Tryz.prog F_dict_symbols #[.pointer c, .agg #[.int .i64 d_1, .slice d_2 d_2n d_2c, .slice d_3 d_3n d_3c]] h K Kp :=
 callsHP_ofY hints_dict_symbols (by kernel_rfl) Go.Proofs.Tryz.func90 (by kernel_rfl) (by rw [eq_dict_symbols]; exact H)
theorem call_dict_flags {c:Option Addr} {l:Option Addr} {ln:Nat} {lc:Nat} {h:Heap} {K:VK} {Kp:PK} (H:dict_flags (CallsHP Go.Proofs.Tryz.prog) c l ln lc h K Kp):CallsHP Go.Proofs.Tryz.prog F_dict_flags #[.pointer c, .slice l ln lc] h K Kp :=
 callsHP_ofE (Hints.mk (fun i=>none) (fun i=>bif Nat.beq i 2 then some ([(4, .bool),(5, .int .i64)],549755813872) else (bif Nat.beq i 5 then some ([(6, .int .i64)],2147475520) else (none))) (fun i=>bif Nat.beq i 7 then some ([(6, .int .i64)],2147475520) else (none)) []) (by kernel_rfl) Go.Proofs.Tryz.func91 (by kernel_rfl) (fun C=>dict_flags C c l ln lc h K Kp) (fun C=>by kernel_rfl) H
theorem call_dict_Decode_c1 {cap0:Addr} {cap1:Addr} {cap2:Addr} {h:Heap} {K:VK} {Kp:PK} (H:dict_Decode_c1 (CallsHP Go.Proofs.Tryz.prog) cap0 cap1 cap2 h K Kp):CallsHP Go.Proofs.Tryz.prog F_dict_Decode_c1 #[.pointer (some cap0), .pointer (some cap1), .pointer (some cap2)] h K Kp :=
 callsHP_ofE (Hints.mk (fun i=>bif Nat.beq i 12 then some ([18], .take 4 <| .take 9 <| .take 10 <| .take 11 <| .take 0 <| .take 1 <| .take 2 <| .take 3 <| .go 5 <| .take 6 <| .take 7 <| .take 8 <| .go 12 <| .take 13 <| .take 14 <| .take 15 <| .take 16 <| .take 17 <| .bar 18 [] <| .take 19 <| .done) else (bif Nat.beq i 14 then some ([], .take 0 <| .take 1 <| .take 2 <| .take 3 <| .take 4 <| .take 5 <| .take 6 <| .take 7 <| .done) else (none))) (fun i=>bif Nat.beq i 16 then some ([(9, .int .i64)],5316911824683338463086553054033479168) else (none)) (fun i=>bif Nat.beq i 5 then some ([],8522825728) else (bif Nat.beq i 19 then some ([],5172014448931175958106549077934080) else (none))) []) (by kernel_rfl) Go.Proofs.Tryz.func103 (by kernel_rfl) (fun C=>dict_Decode_c1 C cap0 cap1 cap2 h K Kp) (fun C=>by kernel_rfl) H
theorem call_dict_wrong {bad:Bool} {h:Heap} {K:VK} {Kp:PK} (H:dict_wrong (CallsHP Go.Proofs.Tryz.prog) bad h K Kp):CallsHP Go.Proofs.Tryz.prog F_dict_wrong #[.bool bad] h K Kp :=
 callsHP_ofE (Hints.mk (fun i=>none) (fun i=>none) (fun i=>none) []) (by kernel_rfl) Go.Proofs.Tryz.func104 (by kernel_rfl) (fun C=>dict_wrong C bad h K Kp) (fun C=>by kernel_rfl) H
theorem call_dict_right {l:Option Addr} {ln:Nat} {lc:Nat} {h:Heap} {K:VK} {Kp:PK} (H:dict_right (CallsHP Go.Proofs.Tryz.prog) l ln lc h K Kp):CallsHP Go.Proofs.Tryz.prog F_dict_right #[.slice l ln lc] h K Kp :=
 callsHP_ofE (Hints.mk (fun i=>none) (fun i=>none) (fun i=>none) []) (by kernel_rfl) Go.Proofs.Tryz.func105 (by kernel_rfl) (fun C=>dict_right C l ln lc h K Kp) (fun C=>by kernel_rfl) H
theorem call_dict_big {bad:Bool} {h:Heap} {K:VK} {Kp:PK} (H:dict_big (CallsHP Go.Proofs.Tryz.prog) bad h K Kp):CallsHP Go.Proofs.Tryz.prog F_dict_big #[.bool bad] h K Kp :=
 callsHP_ofE (Hints.mk (fun i=>none) (fun i=>none) (fun i=>none) []) (by kernel_rfl) Go.Proofs.Tryz.func106 (by kernel_rfl) (fun C=>dict_big C bad h K Kp) (fun C=>by kernel_rfl) H
theorem call_dict_reader_number {r:Option Addr} {base:Int} {h:Heap} {K:VK} {Kp:PK} (H:dict_reader_number (CallsHP Go.Proofs.Tryz.prog) r base h K Kp):CallsHP Go.Proofs.Tryz.prog F_dict_reader_number #[.pointer r, .int .i64 base] h K Kp :=
 callsHP_ofE (Hints.mk (fun i=>none) (fun i=>none) (fun i=>none) []) (by kernel_rfl) Go.Proofs.Tryz.func111 (by kernel_rfl) (fun C=>dict_reader_number C r base h K Kp) (fun C=>by kernel_rfl) H
theorem call_dict_reader_class {a0:Option Addr} {a1:Int} {h:Heap} {K:VK} {Kp:PK} (H:dict_reader_class (CallsHP Go.Proofs.Tryz.prog) a0 a1 h K Kp):CallsHP Go.Proofs.Tryz.prog F_dict_reader_class #[.pointer a0, .int .i64 a1] h K Kp :=
 callsHP_ofE (Hints.mk (fun i=>bif Nat.beq i 10 then some ([16], .keep <| .take 0 <| .take 1 <| .take 2 <| .take 4 <| .take 5 <| .take 6 <| .take 7 <| .take 8 <| .take 9 <| .take 3 <| .take 10 <| .alt 11 (.take 12 <| .take 13 <| .take 14 <| .go 15 <| .bar 16 [] <| .take 17 <| .done) <| .go 15 <| .go 11 <| .take 12 <| .take 13 <| .take 14 <| .bar 16 [] <| .take 17 <| .done) else (bif Nat.beq i 12 then some ([8,12], .take 0 <| .take 1 <| .take 2 <| .take 3 <| .take 4 <| .take 5 <| .take 6 <| .go 7 <| .bar 8 [12] <| .take 9 <| .take 10 <| .take 11 <| .bar 12 [] <| .done) else (none))) (fun i=>bif Nat.beq i 3 then some ([(4, .int .i64),(5, .bool)],19807040628566084398385987568) else (none)) (fun i=>bif Nat.beq i 8 then some ([],17179344896) else (bif Nat.beq i 9 then some ([],281457796841472) else (none))) []) (by kernel_rfl) Go.Proofs.Tryz.func112 (by kernel_rfl) (fun C=>dict_reader_class C a0 a1 h K Kp) (fun C=>by kernel_rfl) H
theorem call_dict_reader_flags {a0:Option Addr} {a1:Int} {h:Heap} {K:VK} {Kp:PK} (H:dict_reader_flags (CallsHP Go.Proofs.Tryz.prog) a0 a1 h K Kp):CallsHP Go.Proofs.Tryz.prog F_dict_reader_flags #[.pointer a0, .int .i64 a1] h K Kp :=
 callsHP_ofE (Hints.mk (fun i=>bif Nat.beq i 5 then some ([29], .take 0 <| .take 1 <| .take 2 <| .take 3 <| .take 4 <| .take 5 <| .take 6 <| .take 7 <| .take 8 <| .take 9 <| .take 10 <| .take 11 <| .take 12 <| .take 13 <| .take 14 <| .take 15 <| .take 16 <| .take 17 <| .take 19 <| .take 20 <| .take 21 <| .take 22 <| .take 23 <| .take 18 <| .take 24 <| .take 25 <| .take 26 <| .take 27 <| .take 28 <| .bar 29 [] <| .done) else (none)) (fun i=>bif Nat.beq i 2 then some ([(4, .bool),(5, .bool)],73786976294838206448) else (bif Nat.beq i 7 then some ([(51, .int .i64)],73784724495024521216) else (none))) (fun i=>bif Nat.beq i 6 then some ([],562949952897024) else (none)) []) (by kernel_rfl) Go.Proofs.Tryz.func113 (by kernel_rfl) (fun C=>dict_reader_flags C a0 a1 h K Kp) (fun C=>by kernel_rfl) H
noncomputable def hints_dict_caught_c1:Hints:=Hints.mk (fun i=>none)
 (fun i=>none)
 (fun i=>none) []
theorem eq_dict_caught_c1 (C:CallP) (cap0:Addr) (u:FrameMode) (h:Heap) (Kd:FrameMode->Heap->Prop) (Kdp:FrameMode->PK) :
  dfnD Go.Proofs.Tryz.prog C hints_dict_caught_c1 Go.Proofs.Tryz.f137 [.pointer (some cap0)] u h Kd Kdp=dict_caught_c1 C cap0 u h Kd Kdp:=by kernel_rfl
theorem dcall_dict_caught_c1 {cap0:Addr} {u:FrameMode} {h:Heap} {Kd:FrameMode->Heap->Prop} {Kdp:FrameMode->PK} (H:dict_caught_c1 (CallsHP Go.Proofs.Tryz.prog) cap0 u h Kd Kdp):DCalls Go.Proofs.Tryz.prog F_dict_caught_c1 #[.pointer (some cap0)] u h Kd Kdp :=
 dcalls_of hints_dict_caught_c1 (by kernel_rfl) Go.Proofs.Tryz.func137 (by kernel_rfl) (by rw [eq_dict_caught_c1]; exact H)
theorem call_dict_classes {l:Option Addr} {ln:Nat} {lc:Nat} {h:Heap} {K:VK} {Kp:PK} (H:dict_classes (CallsHP Go.Proofs.Tryz.prog) l ln lc h K Kp):CallsHP Go.Proofs.Tryz.prog F_dict_classes #[.slice l ln lc] h K Kp :=
 callsHP_ofE (Hints.mk (fun i=>none) (fun i=>none) (fun i=>none) []) (by kernel_rfl) Go.Proofs.Tryz.func142 (by kernel_rfl) (fun C=>dict_classes C l ln lc h K Kp) (fun C=>by kernel_rfl) H
theorem call_dict_number {v:Int} {h:Heap} {K:VK} {Kp:PK} (H:dict_number (CallsHP Go.Proofs.Tryz.prog) v h K Kp):CallsHP Go.Proofs.Tryz.prog F_dict_number #[.int .i64 v] h K Kp :=
 callsHP_ofE (Hints.mk (fun i=>none) (fun i=>none) (fun i=>none) []) (by kernel_rfl) Go.Proofs.Tryz.func144 (by kernel_rfl) (fun C=>dict_number C v h K Kp) (fun C=>by kernel_rfl) H
theorem call_dict_right_c1 {b_1:Int} {b_2:Int} {b_3:Option Addr} {b_3n:Nat} {b_3c:Nat} {h:Heap} {K:VK} {Kp:PK} (H:dict_right_c1 (CallsHP Go.Proofs.Tryz.prog) b_1 b_2 b_3 b_3n b_3c h K Kp):CallsHP Go.Proofs.Tryz.prog F_dict_right_c1 #[.agg #[.int .i64 b_1, .int .i64 b_2, .slice b_3 b_3n b_3c]] h K Kp :=
 callsHP_ofE (Hints.mk (fun i=>none) (fun i=>none) (fun i=>none) []) (by kernel_rfl) Go.Proofs.Tryz.func158 (by kernel_rfl) (fun C=>dict_right_c1 C b_1 b_2 b_3 b_3n b_3c h K Kp) (fun C=>by kernel_rfl) H
noncomputable def hints_dict_classes_c1:HintsY:=HintsY.mk (Hints.mk (fun i=>bif Nat.beq i 3 then some ([], .take 0 <| .take 1 <| .take 2 <| .take 3 <| .take 4 <| .take 6 <| .take 11 <| .take 5 <| .take 7 <| .take 8 <| .take 9 <| .take 10 <| .take 12 <| .take 13 <| .take 14 <| .take 15 <| .take 16 <| .done) else (bif Nat.beq i 5 then some ([10], .take 0 <| .take 2 <| .take 7 <| .take 8 <| .take 1 <| .take 3 <| .take 4 <| .take 5 <| .take 6 <| .take 9 <| .bar 10 [] <| .take 11 <| .done) else (none)))
 (fun i=>bif Nat.beq i 1 then some ([(3, .int .i64)],4398046511096) else (bif Nat.beq i 3 then some ([(4, .int .i64)],536869904) else (none)))
 (fun i=>bif Nat.beq i 5 then some ([(4, .int .i64)],536869904) else (none)) []) (fun i=>none)
theorem eq_dict_classes_c1 (C:CallP) (Y:YP) (yield:Nat) (cap0:Addr) (h:Heap) (K:VK) (Kp:PK) :
  fnY Go.Proofs.Tryz.prog C Y hints_dict_classes_c1 Go.Proofs.Tryz.f183 [.func (.yield yield) #[] #[], .pointer (some cap0)] h K Kp=dict_classes_c1 C Y yield cap0 h K Kp:=by kernel_rfl
theorem call_dict_classes_c1 {yield:Nat} {cap0:Addr} {h:Heap} {K:VK} {Kp:PK} (H:dict_classes_c1 (CallsHP Go.Proofs.Tryz.prog) (YieldsHP Go.Proofs.Tryz.prog) yield cap0 h K Kp):CallsHP Go.Proofs.Tryz.prog F_dict_classes_c1 #[.func (.yield yield) #[] #[], .pointer (some cap0)] h K Kp :=
 callsHP_ofY hints_dict_classes_c1 (by kernel_rfl) Go.Proofs.Tryz.func183 (by kernel_rfl) (by rw [eq_dict_classes_c1]; exact H)
end Go.Den.YtfaclehehhgpcaaGreat
namespace Go.Den.YtfaclehehhgpcaaGreat
open Go Go.Den
end Go.Den.YtfaclehehhgpcaaGreat
namespace Go.Den.YtfaclehehhgpcaaGreat
open Go Go.Den
end Go.Den.YtfaclehehhgpcaaGreat
namespace Go.Bm
open Go Go.Den Go.Den.YtfaclehehhgpcaaGreat
structure Bmp where
 w:Int
 h:Int
 ws:List Nat
abbrev Bmp.may (b:Bmp):Prop:=MayP b.w b.h b.ws
structure BmC (h:Heap) (a:Addr) (b:Bmp) (q:Option Addr) (c:Nat):Prop where
 c0:hcell h (a.add 0)=some (.int .i64 b.w)
 c1:hcell h (a.add 1)=some (.int .i64 b.h)
 c2:hcell h (a.add 2)=some (.slice q b.ws.length c)
 r1:rdO h q (b.ws.length*1) (u64s b.ws)
 w1:W64 b.ws
 l1:b.ws.length<140737488351300
def BmsV (h:Heap) (q:Option Addr) (l:List Bmp):Prop:=∀ i b,l[i]? = some b->∃ a q1 c1,q=some a/\BmC h (a.add (i*3)) b q1 c1
def bls (l:List Bool):List Value:=l.map fun b => .bool b
def FlsV (h:Heap) (q:Option Addr) (l:List Bool):Prop:=rdO h q (l.length*1) (bls l)
theorem BmC.ext {h h':Heap} {a:Addr} {b:Bmp} {q:Option Addr} {c:Nat} (H:BmC h a b q c) (e:hext h h'):BmC h' a b q c:=⟨e.cell H.c0,e.cell H.c1,e.cell H.c2,rdO_ext e H.r1,H.w1,H.l1⟩
theorem BmsV.ext {h h':Heap} {q:Option Addr} {l:List Bmp} (H:BmsV h q l) (e:hext h h'):BmsV h' q l:=fun i b hi=>by
 obtain ⟨a,q1,c1,ha,hc⟩:=H i b hi
 exact ⟨a,q1,c1,ha,hc.ext e⟩
theorem FlsV.ext {h h':Heap} {q:Option Addr} {l:List Bool} (H:FlsV h q l) (e:hext h h'):FlsV h' q l:=rdO_ext e H
def MayL (l:List Bmp):Prop:=∀ b∈l,b.may
theorem MayL.take {l:List Bmp} {i:Nat} {b:Bmp} (h:MayL (l.take i)) (hi:l[i]? = some b) (hb:b.may):MayL (l.take (i+1)):=by
 rw [take_snocG hi]
 intro x hx
 rcases List.mem_append.1 hx with hx | hx
 ·exact h x hx
 ·rw [List.mem_singleton.1 hx]; exact hb
section
variable {hB:Heap} {q:Option Addr} {c:Nat} {l:List Bmp} {K:VK} {Kp:PK}
theorem right1_ok {b:Bmp} {q1:Option Addr} {c1:Nat} (hr:rdO hB q1 (b.ws.length*1) (u64s b.ws)) (hw:W64 b.ws) (hl:b.ws.length<140737488351300) (hk:∀ (r:Bool) h',(r=true↔¬ b.may)->hext hB h'->K (.bool r) h') :
  CP F_dict_right_c1 #[.agg #[.int .i64 b.w, .int .i64 b.h, .slice q1 b.ws.length c1]] hB K Kp:=by
 refine call_dict_right_c1 ?_
 unfold dict_right_c1
 have H:=Hp.nil hB []
 refine newC_hp H fun r1 h H=>?_
 refine ldI_of (hpA H 0 rfl rfl) (ldI_of (hpA H 0 rfl rfl) (ldS_of (hpA H 0 rfl rfl) ?_))
 refine check_ok (H.rdO hr) hw hl fun r h' hr' e=>?_
 refine ⟨_,rfl,hk _ _ ?_ (H.hext.trans e)⟩
 cases r with
 | true=>simp; exact hr'.1 rfl
 | false=>simp; exact fun hm=>by have:=hr'.2 hm; cases this
theorem right_ok (hv:BmsV hB q l) (hl:l.length<=1000000000000) (hk:∀ (r:Bool) h',(r=true↔MayL l)->hext hB h'->K (.bool r) h'):CP F_dict_right #[.slice q l.length c] hB K Kp:=by
 refine call_dict_right ?_
 unfold dict_right
 refine call_slices_ContainsFunc_api_Bitmap_api_Bitmap ?_
 unfold slices_ContainsFunc_api_Bitmap_api_Bitmap
 refine call_slices_IndexFunc_api_Bitmap_api_Bitmap ?_
 unfold slices_IndexFunc_api_Bitmap_api_Bitmap
 refine ⟨fun m vs h'=>∃ i:Nat,i+m=l.length/\vs=[.int .i64 (i:Nat)]/\MayL (l.take i)/\hext hB h',⟨l.length,0,by omega,rfl,(fun b hb=>by cases hb),hext.refl _⟩,?_⟩
 rintro m h u xx ⟨i,him,hxx,hm,e⟩
 injection hxx with hxx
 injection hxx with _ hxx
 subst xx
 refine bcase_dec (fun h1=>?_) fun h1=>?_
 ·obtain ⟨b,hb⟩:∃ b,l[i]? = some b:=⟨_,List.getElem?_eq_getElem (by omega)⟩
  obtain ⟨a,q1,c1,rfl,hc⟩:=hv i b hb
  have hc:=hc.ext e
  refine needs_of (by omega) (ptr_of (a:=a) ?_)
  rw [Int.toNat_natCast]
  refine ldI_of hc.c0 (ldI_of hc.c1 (ldS_of hc.c2 ?_))
  unfold callD
  simp only
  refine right1_ok hc.r1 hc.w1 hc.l1 fun r h' hr e'=>?_
  refine ⟨_,rfl,?_⟩
  refine bcase_of (fun h2=>?_) fun h2=>?_
  ·refine ⟨_,rfl,?_⟩
   refine ⟨_,rfl,hk _ _ ?_ (e.trans e')⟩
   rw [decide_eq_true (by omega)]
   refine ⟨(fun hh=>by cases hh),fun hh=>absurd (hh b (List.mem_of_getElem? hb)) (hr.1 h2)⟩
  ·refine bindI_of (((i+1:Nat):Int)) (by exact i64_at _ _ (by omega) (by omega) (by omega)) ?_
   refine ⟨m-1,by omega,i+1,by omega,rfl,hm.take hb (Classical.byContradiction fun hn=>?_),e.trans e'⟩
   have:=hr.2 hn
   rw [h2] at this
   cases this
 ·refine ⟨_,rfl,?_⟩
  refine ⟨_,rfl,hk _ _ ?_ e⟩
  rw [decide_eq_false (by omega)]
  refine ⟨fun _=>?_,fun _=>rfl⟩
  rw [List.take_of_length_le (by omega)] at hm
  exact hm
end
def Bmp.below (a b:Bmp):Prop:=a.h<b.h\/a.h=b.h/\a.w<b.w
def SortedTo (l:List Bmp) (n:Nat):Prop:=∀ i a b,i+1<n->l[i]? = some a->l[i+1]? = some b->¬ b.below a
def areaL (l:List Bmp):Nat:=(l.map fun b=>b.w.toNat*b.h.toNat).sum
theorem areaL_snoc (l:List Bmp) (b:Bmp):areaL (l++[b])=areaL l+b.w.toNat*b.h.toNat:=by
 unfold areaL
 rw [List.map_append,List.sum_append]
 simp
def DForm (t:Int) (new:List Bmp) (ne:Nat) (imp:List Bmp):Prop:=MayL imp/\MayL new/\(0<=t/\t<=3)/\ne=imp.length+new.length/\SortedTo new new.length
open Classical in
noncomputable def chkD (t:Int) (new:List Bmp) (ne:Nat) (imp:List Bmp):Int :=
 if ¬ DForm t new ne imp then 130 else if 4096<imp.length+new.length\/1048576<areaL new then 120 else 0
theorem chkD_bad {t:Int} {new:List Bmp} {ne:Nat} {imp:List Bmp} (h:¬ DForm t new ne imp):chkD t new ne imp=130:=by unfold chkD; rw [if_pos h]
theorem chkD_big {t:Int} {new:List Bmp} {ne:Nat} {imp:List Bmp} (h:DForm t new ne imp) (h2:4096<imp.length+new.length\/1048576<areaL new):chkD t new ne imp=120:=by unfold chkD; rw [if_neg (fun hh=>hh h),if_pos h2]
theorem chkD_ok {t:Int} {new:List Bmp} {ne:Nat} {imp:List Bmp} (h:DForm t new ne imp) (h2:¬ (4096<imp.length+new.length\/1048576<areaL new)):chkD t new ne imp=0:=by unfold chkD; rw [if_neg (fun hh=>hh h),if_neg h2]
theorem chkD_zero {t:Int} {new:List Bmp} {ne:Nat} {imp:List Bmp} (h:chkD t new ne imp=0):DForm t new ne imp/\imp.length+new.length<=4096/\areaL new<=1048576:=by
 by_cases h1:DForm t new ne imp
 ·by_cases h2:4096<imp.length+new.length\/1048576<areaL new
  ·rw [chkD_big h1 h2] at h; cases h
  ·exact ⟨h1,by omega,by omega⟩
 ·rw [chkD_bad h1] at h; cases h
section
variable {hB:Heap} {q1 q2 q3:Option Addr} {c1 c2 c3:Nat} {t:Int} {new imp:List Bmp} {ex:List Bool} {K:VK} {Kp:PK}
theorem SortedTo.step {l:List Bmp} {i:Nat} (h:SortedTo l (i+1)) (h2:∀ a b,l[i]? = some a->l[i+1]? = some b->¬ b.below a):SortedTo l (i+2):=fun j a b hj ha hb=>by
 by_cases hji:j+1<i+1
 ·exact h j a b hji ha hb
 ·obtain rfl:j=i:=by omega
  exact h2 a b ha hb
set_option maxHeartbeats 4000000 in
theorem checked_ok (hn:BmsV hB q1 new) (hi:BmsV hB q3 imp) (hl1:new.length<=1000000000000) (hl2:imp.length<=1000000000000) (hk:∀ h',hext hB h'->K (.int .i64 (chkD t new ex.length imp)) h') :
  CP F_dict_checked #[.agg #[.int .i64 t, .slice q1 new.length c1, .slice q2 ex.length c2], .slice q3 imp.length c3] hB K Kp:=by
 refine call_dict_checked ?_
 unfold dict_checked
 have H:=Hp.nil hB []
 refine newC_hp H fun r4 h H=>?_
 have H:Hp hB [] h [⟨r4,true,T_api_Dict,[.int .i64 t, .slice q1 new.length c1, .slice q2 ex.length c2]⟩]:=H
 have bad:∀ {h'},hext hB h'->¬ DForm t new ex.length imp->K (.int .i64 130) h':=fun e hf=>by have:=hk _ e; rwa [chkD_bad hf] at this
 refine ldS_of (hpA H 0 rfl rfl) ?_
 refine bindI_of (((imp.length+new.length:Nat):Int)) (by exact i64_at _ _ (by omega) (by omega) (by omega)) ?_
 refine right_ok (hi.ext H.hext) hl2 fun r h' hr e=>?_
 have H:=H.ext e
 refine ⟨_,rfl,?_⟩
 refine bcase_not (fun h2=>bad H.hext fun hf=>by rw [hr.2 hf.1] at h2; cases h2) fun h2=>?_
 have f1:=hr.1 h2
 refine ldS_of (hpA H 0 rfl rfl) ?_
 refine right_ok (hn.ext H.hext) hl1 fun r h' hr e=>?_
 have H:=H.ext e
 refine ⟨_,rfl,?_⟩
 refine bcase_not (fun h2=>bad H.hext fun hf=>by rw [hr.2 hf.2.1] at h2; cases h2) fun h2=>?_
 have f2:=hr.1 h2
 refine ldI_of (hpA H 0 rfl rfl) ?_
 refine bcase_dec (fun h2=>bad H.hext fun hf=>by have:=hf.2.2.1; omega) fun h2=>?_
 refine ldI_of (hpA H 0 rfl rfl) ?_
 refine bcase_dec (fun h3=>bad H.hext fun hf=>by have:=hf.2.2.1; omega) fun h3=>?_
 refine ldS_of (hpA H 0 rfl rfl) ?_
 refine bcase_ne (fun h4=>bad H.hext fun hf=>by have:=hf.2.2.2.1; omega) fun h4=>?_
 refine ldS_of (hpA H 0 rfl rfl) ?_
 refine ⟨fun m vs h'=>∃ i:Nat,i+m=new.length/\vs=[.int .i64 ((min (areaL (new.take i)) 1048577:Nat):Int), .int .i64 (i:Nat)]/\SortedTo new i/\Hp hB [] h' [⟨r4,true,T_api_Dict,[.int .i64 t, .slice q1 new.length c1, .slice q2 ex.length c2]⟩],⟨new.length,0,by omega,rfl,(fun i a b hi=>by omega),H⟩,?_⟩
 clear H
 rintro m h u ar xx ⟨i,him,hxx,hso,H⟩
 injection hxx with hx1 hxx
 injection hxx with hx2 hxx
 injection hx1 with _ hx1
 injection hx2 with _ hx2
 subst ar xx
 refine bcase_dec (fun h5=>?_) fun h5=>?_
 ·obtain ⟨b,hb⟩:∃ b,new[i]? = some b:=⟨_,List.getElem?_eq_getElem (by omega)⟩
  obtain ⟨a,qb,cb,hqa,hc⟩:=hn i b hb
  have hc:=hc.ext H.hext
  refine needs_of (by omega) (ptr_at hqa ?_)
  rw [Int.toNat_natCast]
  refine ldI_of hc.c0 (ldI_of hc.c1 (ldS_of hc.c2 ?_))
  refine newC_hp H fun r30 h H=>?_
  repeat first | with_reducible refine stA H 1 (by with_unfolding_all exact rfl) (by with_unfolding_all exact rfl) (by with_unfolding_all exact rfl) fun h H=>?_ | with_reducible refine st0 H 1 (by with_unfolding_all exact rfl) (by with_unfolding_all exact rfl) (by with_unfolding_all exact rfl) fun h H=>?_ | with_reducible refine stB H 1 (by with_unfolding_all exact rfl) (by with_unfolding_all exact rfl) (by with_unfolding_all exact rfl) fun h H=>?_
  have H:Hp hB [] h [⟨r4,true,T_api_Dict,[.int .i64 t, .slice q1 new.length c1, .slice q2 ex.length c2]⟩,⟨r30,true,T_api_Bitmap,[.int .i64 b.w, .int .i64 b.h, .slice qb b.ws.length cb]⟩]:=H
  refine ⟨fun _ h'=>SortedTo new (i+1)/\Hp hB [] h' [⟨r4,true,T_api_Dict,[.int .i64 t, .slice q1 new.length c1, .slice q2 ex.length c2]⟩,⟨r30,true,T_api_Bitmap,[.int .i64 b.w, .int .i64 b.h, .slice qb b.ws.length cb]⟩],?_,?_⟩
  ·refine bcase_dec (fun h6=>?_) fun h6=>⟨fun j a b hj=>by omega,H⟩
   obtain ⟨j,rfl⟩:∃ j,i=j+1:=⟨i-1,by omega⟩
   obtain ⟨b0,hb0⟩:∃ b,new[j]? = some b:=⟨_,List.getElem?_eq_getElem (by omega)⟩
   obtain ⟨a',qb0,cb0,hqa',hc0⟩:=hn j b0 hb0
   have hc0:=hc0.ext H.hext
   have bado:b.below b0->¬ DForm t new ex.length imp:=fun hbl hf=>hf.2.2.2.2 j b0 b (by omega) hb0 hb hbl
   refine bindI_of (((j:Nat):Int)) (by exact i64_at _ _ (by omega) (by omega) (by omega)) ?_
   refine ldI_of (hpA H 1 rfl rfl) (ldS_of (hpA H 0 rfl rfl) ?_)
   refine needs_of (by omega) (ptr_at hqa' ?_)
   rw [Int.toNat_natCast]
   refine ldI_of hc0.c1 ?_
   refine bcase_dec (fun h7=>bad H.hext (bado (.inl h7))) fun h7=>?_
   refine bindI_of (((j:Nat):Int)) (by exact i64_at _ _ (by omega) (by omega) (by omega)) ?_
   refine ldI_of (hpA H 1 rfl rfl) (ldS_of (hpA H 0 rfl rfl) ?_)
   refine needs_of (by omega) (ptr_at hqa' ?_)
   rw [Int.toNat_natCast]
   refine ldI_of hc0.c1 ?_
   refine bcase_eq (fun h8=>?_) fun h8=>?_
   ·refine bindI_of (((j:Nat):Int)) (by exact i64_at _ _ (by omega) (by omega) (by omega)) ?_
    refine ldI_of (hpA H 1 rfl rfl) (ldS_of (hpA H 0 rfl rfl) ?_)
    refine needs_of (by omega) (ptr_at hqa' ?_)
    rw [Int.toNat_natCast]
    refine ldI_of hc0.c0 ?_
    refine bcase_dec (fun h9=>bad H.hext (bado (.inr ⟨h8,h9⟩))) fun h9=>?_
    refine ⟨hso.step fun x y hx hy=>?_,H⟩
    rw [hb0] at hx
    rw [hb] at hy
    injection hx with hx
    injection hy with hy
    subst hx hy
    rintro (hh | hh)
    ·exact h7 hh
    ·exact h9 hh.2
   ·refine ⟨hso.step fun x y hx hy=>?_,H⟩
    rw [hb0] at hx
    rw [hb] at hy
    injection hx with hx
    injection hy with hy
    subst hx hy
    rintro (hh | hh)
    ·exact h7 hh
    ·exact h8 hh.1
  ·clear H
   rintro h u ⟨hso',H⟩
   refine ldI_of (hpA H 1 rfl rfl) (ldI_of (hpA H 1 rfl rfl) ?_)
   obtain ⟨W,X,e1,e2,hW1,hW2,hX1,hX2,hWX⟩:=size_nat (f2 b (List.mem_of_getElem? hb)).1
   have hA:areaL (new.take (i+1))=areaL (new.take i)+W*X:=by rw [take_snocG hb,areaL_snoc,e1,e2,Int.toNat_natCast,Int.toNat_natCast]
   rw [e1,e2]
   have hm:(W:Int)*(X:Int)=((W*X:Nat):Int):=by simp
   refine bindI_of (((W*X:Nat):Int)) (by exact i64_at _ _ hm (by omega) (by omega)) ?_
   refine bindI_of (((min (areaL (new.take i)) 1048577+W*X:Nat):Int)) (by exact i64_at _ _ (by omega) (by omega) (by omega)) ?_
   refine bindI_of (((min (areaL (new.take (i+1))) 1048577:Nat):Int)) (by (rw [hA]; unfold minI; split <;> omega)) ?_
   refine bindI_of (((i+1:Nat):Int)) (by exact i64_at _ _ (by omega) (by omega) (by omega)) ?_
   exact ⟨m-1,by omega,i+1,by omega,rfl,hso',H.take 1⟩
 ·obtain rfl:i=new.length:=by omega
  rw [List.take_of_length_le (Nat.le_refl _)]
  have hf:DForm t new ex.length imp:=⟨f1,f2,by omega,by omega,hso⟩
  refine bcase_dec (fun h6=>?_) fun h6=>?_
  ·have:=hk _ H.hext
   rwa [chkD_big hf (.inl (by omega))] at this
  ·refine bcase_dec (fun h7=>?_) fun h7=>?_
   ·have:=hk _ H.hext
    rwa [chkD_big hf (.inr (by omega))] at this
   ·have:=hk _ H.hext
    rwa [chkD_ok hf (by omega)] at this
end
end Go.Bm
namespace Go.Bm
open Go Go.Den Go.Den.YtfaclehehhgpcaaGreat
open Go.Ar (bytesM flushM getD)
section
variable {hB:Heap} {q1 q2 q3:Option Addr} {c1 c2 c3:Nat} {t:Int} {new imp:List Bmp} {ex:List Bool} {K:VK} {Kp:PK}
end
def sy (l:List Bmp) (i:Nat):Bmp:=l.getD i ⟨0,0,[]⟩
theorem sy_at {l:List Bmp} {i:Nat} {b:Bmp} (h:l[i]? = some b):sy l i=b:=by unfold sy; rw [List.getD_eq_getElem?_getD,h]; rfl
def bodyD (m t:Nat) (w:Int) (b:Bmp):List (Nat × Nat):=dsWh m 512 (b.w-w) false++dsG (getP b.ws b.w.toNat b.h.toNat) b.w.toNat m t false 1536 b.h.toNat
def nxF (l:List Bmp) (i:Nat):Nat->Nat->Nat
 | 0,j=>j
 | f+1,j=>if j<l.length then (if (sy l j).h=(sy l i).h then nxF l i f (j+1) else j) else j
def nxt (l:List Bmp) (i:Nat):Nat:=nxF l i (l.length-i) i
theorem nxF_ge (l:List Bmp) (i:Nat):∀ f j,j<=nxF l i f j
 | 0,j=>Nat.le_refl _
 | f+1,j=>by
  unfold nxF
  split
  ·split
   ·exact Nat.le_trans (Nat.le_succ j) (nxF_ge l i f (j+1))
   ·exact Nat.le_refl _
  ·exact Nat.le_refl _
theorem nxF_le (l:List Bmp) (i:Nat):∀ f j,j<=l.length->nxF l i f j<=l.length
 | 0,j,h=>h
 | f+1,j,h=>by
  unfold nxF
  split
  ·split
   ·exact nxF_le l i f (j+1) (by omega)
   ·exact h
  ·exact h
theorem nxF_same (l:List Bmp) (i:Nat):∀ f j k,j<=k->k<nxF l i f j->(sy l k).h=(sy l i).h
 | 0,j,k,h1,h2=>by have h2:k<j:=h2; omega
 | f+1,j,k,h1,h2=>by
  unfold nxF at h2
  split at h2
  ·split at h2
   ·rename_i h3 h4
    by_cases hk:k=j
    ·rw [hk]; exact h4
    ·exact nxF_same l i f (j+1) k (by omega) h2
   ·omega
  ·omega
theorem nxt_gt {l:List Bmp} {i:Nat} (h:i<l.length):i<nxt l i:=by
 unfold nxt
 obtain ⟨f,hf⟩:∃ f,l.length-i=f+1:=⟨l.length-i-1,by omega⟩
 rw [hf]
 unfold nxF
 rw [if_pos h,if_pos rfl]
 exact nxF_ge l i f (i+1)
theorem nxt_le {l:List Bmp} {i:Nat} (h:i<=l.length):nxt l i<=l.length:=nxF_le l i _ i h
theorem nxt_same {l:List Bmp} {i k:Nat} (h1:i<=k) (h2:k<nxt l i):(sy l k).h=(sy l i).h:=nxF_same l i _ i k h1 h2
def midL (m t:Nat) (l:List Bmp) (A:List (Nat × Nat)) (ah:Int) (i:Nat):Nat->List (Nat × Nat)
 | 0=>A++dsWh m 0 ((sy l i).h-ah) false
 | k+1=>midL m t l A ah i k++bodyD m t (if k=0 then 0 else (sy l (i+k-1)).w) (sy l (i+k))
def noneD (m:Nat):List (Nat × Nat):=dsWh m 512 0 true
def hisF (m t:Nat) (l:List Bmp):Nat->Nat->Int->List (Nat × Nat)->List (Nat × Nat)
 | 0,_,_,A=>A
 | f+1,i,ah,A=>if i<l.length then hisF m t l f (nxt l i) (sy l i).h (midL m t l A ah i (nxt l i-i)++noneD m) else A
def symD (m t:Nat) (l:List Bmp):List (Nat × Nat):=hisF m t l l.length 0 0 []
def rnF (l:List Bool) (v:Bool):Nat->Nat->Nat
 | 0,j=>j
 | f+1,j=>if j<l.length then (if l.getD j false=v then rnF l v f (j+1) else j) else j
def rnt (l:List Bool) (v:Bool) (i:Nat):Nat:=rnF l v (l.length-i) i
theorem rnF_ge (l:List Bool) (v:Bool):∀ f j,j<=rnF l v f j
 | 0,j=>Nat.le_refl _
 | f+1,j=>by
  unfold rnF
  split
  ·split
   ·exact Nat.le_trans (Nat.le_succ j) (rnF_ge l v f (j+1))
   ·exact Nat.le_refl _
  ·exact Nat.le_refl _
theorem rnF_le (l:List Bool) (v:Bool):∀ f j,j<=l.length->rnF l v f j<=l.length
 | 0,j,h=>h
 | f+1,j,h=>by
  unfold rnF
  split
  ·split
   ·exact rnF_le l v f (j+1) (by omega)
   ·exact h
  ·exact h
theorem rnF_same (l:List Bool) (v:Bool):∀ f j k,j<=k->k<rnF l v f j->l.getD k false=v
 | 0,j,k,h1,h2=>by have h2:k<j:=h2; omega
 | f+1,j,k,h1,h2=>by
  unfold rnF at h2
  split at h2
  ·split at h2
   ·rename_i h3 h4
    by_cases hk:k=j
    ·rw [hk]; exact h4
    ·exact rnF_same l v f (j+1) k (by omega) h2
   ·omega
  ·omega
theorem rnF_stop (l:List Bool) (v:Bool):∀ f j,j+f=l.length->rnF l v f j<l.length->l.getD (rnF l v f j) false≠v
 | 0,j,h,h2=>by have h2:j<l.length:=h2; omega
 | f+1,j,h,h2=>by
  unfold rnF at h2 ⊢
  split at h2
  ·split at h2
   ·rename_i h3 h4
    rw [if_pos h3,if_pos h4]
    exact rnF_stop l v f (j+1) (by omega) h2
   ·rename_i h3 h4
    rw [if_pos h3,if_neg h4]
    exact h4
  ·omega
theorem rnt_ge (l:List Bool) (v:Bool) (i:Nat):i<=rnt l v i:=rnF_ge l v _ i
theorem rnt_le {l:List Bool} {v:Bool} {i:Nat} (h:i<=l.length):rnt l v i<=l.length:=rnF_le l v _ i h
theorem rnt_stop {l:List Bool} {v:Bool} {i:Nat} (h:i<=l.length) (h2:rnt l v i<l.length):l.getD (rnt l v i) false≠v:=rnF_stop l v _ i (by omega) h2
theorem rnt_gt {l:List Bool} {v:Bool} {i:Nat} (h:i<l.length) (hv:l.getD i false=v):i<rnt l v i:=by
 unfold rnt
 obtain ⟨f,hf⟩:∃ f,l.length-i=f+1:=⟨l.length-i-1,by omega⟩
 rw [hf]
 unfold rnF
 rw [if_pos h,if_pos hv]
 exact rnF_ge l v f (i+1)
def flgF (m:Nat) (l:List Bool):Nat->Bool->Nat->List (Nat × Nat)->List (Nat × Nat)
 | 0,_,_,A=>A
 | f+1,v,i,A=>if i<l.length then flgF m l f (!v) (rnt l v i) (A++dsWh m 1024 ((rnt l v i-i:Nat):Int) false) else A
def flgN (l:List Bool) (v:Bool) (i:Nat):Nat:=2*(l.length-i)+(if l.getD i false=v then 0 else 1)
theorem flgN_next {l:List Bool} {v:Bool} {i:Nat} (h:i<l.length):flgN l (!v) (rnt l v i)+1<=flgN l v i:=by
 have h1:=rnt_ge l v i
 have h2:=rnt_le (v:=v) (Nat.le_of_lt h)
 unfold flgN
 by_cases hv:l.getD i false=v
 ·have h3:=rnt_gt h hv
  rw [if_pos hv]
  split <;> omega
 ·rw [if_neg hv]
  by_cases h4:rnt l v i<l.length
  ·have h5:=rnt_stop (Nat.le_of_lt h) h4
   rw [if_pos (show l.getD (rnt l v i) false = !v from by generalize l.getD (rnt l v i) false=z at h5 ⊢; cases v <;> cases z <;> simp_all)]
   omega
  ·split <;> omega
def flgD (m:Nat) (l:List Bool) (A:List (Nat × Nat)):List (Nat × Nat):=flgF m l (2*l.length+1) false 0 A
def dicD (m t:Nat) (new:List Bmp) (ex:List Bool):List (Nat × Nat):=flgD m ex (symD m t new)
def szD (t:Nat):Nat:=1536+gsize t+1
def dicB (t:Nat) (new:List Bmp) (ex:List Bool):List Nat:=t::(grp new.length++bytesM (flushM (cdL (szD t) (dicD (szD t) t new ex))))
end Go.Bm
namespace Go.Bm
open Go Go.Den Go.Den.YtfaclehehhgpcaaGreat
open Go.Ar (CodOk codL)
theorem areaL_mono (l:List Bmp) (i k:Nat):areaL (l.take i)<=areaL (l.take (i+k)):=by
 induction k with
 | zero=>exact Nat.le_refl _
 | succ k ih =>
  refine Nat.le_trans ih ?_
  rcases Nat.lt_or_ge (i+k) l.length with h | h
  ·rw [<- Nat.add_assoc,take_snocG (List.getElem?_eq_getElem h),areaL_snoc]
   omega
  ·rw [List.take_of_length_le (by omega),List.take_of_length_le (by omega)]
   exact Nat.le_refl _
theorem areaL_take (l:List Bmp) (i:Nat):areaL (l.take i)<=areaL l:=by
 have h:=areaL_mono l i l.length
 rw [List.take_of_length_le (l:=l) (i:=i+l.length) (by omega)] at h
 exact h
theorem bodyD_len {m t:Nat} {w:Int} {b:Bmp} (hb:b.may):(bodyD m t w b).length<=39+2*(b.w.toNat*b.h.toNat):=by
 obtain ⟨W,X,e1,e2,hW1,hW2,hX1,hX2,hWX⟩:=size_nat hb.1
 unfold bodyD
 have h1:=dsWh_len m 512 (b.w-w) false
 have h2:=dsG_len (getP b.ws b.w.toNat b.h.toNat) b.w.toNat m t false 1536 b.h.toNat
 rw [List.length_append]
 rw [e1,e2,Int.toNat_natCast,Int.toNat_natCast] at *
 have h3:X*(W+1)=W*X+X:=by rw [Nat.mul_add,Nat.mul_comm X W,Nat.mul_one]
 have h4:1*X<=W*X:=Nat.mul_le_mul_right _ hW1
 omega
theorem bodyD_bit {m t:Nat} {w:Int} {b:Bmp}:∀ d∈bodyD m t w b,d.2<=1:=fun d hd=>by
 unfold bodyD at hd
 rcases List.mem_append.1 hd with hd | hd
 ·exact dsWh_bit _ _ _ _ d hd
 ·exact dsG_bit _ _ _ _ _ _ _ d hd
section
variable {m t:Nat} {l:List Bmp} (hm:MayL l)
include hm
theorem midL_len {A:List (Nat × Nat)} {ah:Int} {i:Nat}:∀ k,i+k<=l.length->(midL m t l A ah i k).length+2*areaL (l.take i)<=A.length+39+39*k+2*areaL (l.take (i+k))
 | 0,_=>by
  unfold midL
  rw [List.length_append]
  have:=dsWh_len m 0 ((sy l i).h-ah) false
  show _<=A.length+39+39*0+2*areaL (l.take i)
  omega
 | k+1,h=>by
  have ih:=midL_len (A:=A) (ah:=ah) (i:=i) k (by omega)
  obtain ⟨b,hb⟩:∃ b,l[i+k]? = some b:=⟨_,List.getElem?_eq_getElem (by omega)⟩
  unfold midL
  rw [List.length_append,sy_at hb,<- Nat.add_assoc,take_snocG hb,areaL_snoc]
  have:=bodyD_len (m:=m) (t:=t) (w:=if k=0 then 0 else (sy l (i+k-1)).w) (hm b (List.mem_of_getElem? hb))
  omega
omit hm
theorem midL_bit {A:List (Nat × Nat)} {ah:Int} {i:Nat} (hA:∀ d∈A,d.2<=1):∀ k,∀ d∈midL m t l A ah i k,d.2<=1
 | 0=>fun d hd=>by
  rcases List.mem_append.1 hd with hd | hd
  ·exact hA d hd
  ·exact dsWh_bit _ _ _ _ d hd
 | k+1=>fun d hd=>by
  unfold midL at hd
  rcases List.mem_append.1 hd with hd | hd
  ·exact midL_bit hA k d hd
  ·exact bodyD_bit d hd
theorem noneD_len:(noneD m).length<=39:=dsWh_len _ _ _ _
theorem noneD_bit:∀ d∈noneD m,d.2<=1:=dsWh_bit _ _ _ _
include hm
theorem cls_len {A:List (Nat × Nat)} {ah:Int} {i:Nat} (hi:i<l.length) (hA:A.length<=117*i+2*areaL (l.take i)):(midL m t l A ah i (nxt l i-i)++noneD m).length<=117*nxt l i+2*areaL (l.take (nxt l i)):=by
 have h1:=nxt_gt hi
 have h2:=nxt_le (Nat.le_of_lt hi)
 have h3:=midL_len (m:=m) (t:=t) hm (A:=A) (ah:=ah) (i:=i) (nxt l i-i) (by omega)
 have h4:=noneD_len (m:=m)
 rw [show i+(nxt l i-i)=nxt l i by omega] at h3
 rw [List.length_append]
 omega
theorem hisF_len:∀ (f i:Nat) (ah:Int) (A:List (Nat × Nat)),i<=l.length->A.length<=117*i+2*areaL (l.take i)->(∀ d∈A,d.2<=1)->(hisF m t l f i ah A).length<=117*l.length+2*areaL l/\∀ d∈hisF m t l f i ah A,d.2<=1
 | 0,i,ah,A,hi,hA,hb=>⟨Nat.le_trans hA (by have:=areaL_take l i; omega),hb⟩
 | f+1,i,ah,A,hi,hA,hb=>by
  unfold hisF
  split
  ·rename_i h1
   exact hisF_len f _ _ _ (nxt_le hi) (cls_len hm h1 hA) fun d hd=>by
    rcases List.mem_append.1 hd with hd | hd
    ·exact midL_bit hb _ d hd
    ·exact noneD_bit d hd
  ·exact ⟨Nat.le_trans hA (by have:=areaL_take l i; omega),hb⟩
theorem symD_len:(symD m t l).length<=117*l.length+2*areaL l:=(hisF_len hm l.length 0 0 [] (Nat.zero_le _) (Nat.zero_le _) fun d hd=>by cases hd).1
theorem symD_bit:∀ d∈symD m t l,d.2<=1:=(hisF_len hm l.length 0 0 [] (Nat.zero_le _) (Nat.zero_le _) fun d hd=>by cases hd).2
end
theorem flgF_len {m:Nat} {l:List Bool}:∀ (f:Nat) (v:Bool) (i:Nat) (A:List (Nat × Nat)),(∀ d∈A,d.2<=1)->(flgF m l f v i A).length<=A.length+39*f/\∀ d∈flgF m l f v i A,d.2<=1
 | 0,v,i,A,hb=>⟨Nat.le_refl _,hb⟩
 | f+1,v,i,A,hb=>by
  unfold flgF
  split
  ·have h1:=dsWh_len m 1024 ((rnt l v i-i:Nat):Int) false
   have ih:=flgF_len (m:=m) (l:=l) f (!v) (rnt l v i) (A++dsWh m 1024 ((rnt l v i-i:Nat):Int) false) fun d hd=>by
    rcases List.mem_append.1 hd with hd | hd
    ·exact hb d hd
    ·exact dsWh_bit _ _ _ _ d hd
   refine ⟨Nat.le_trans ih.1 ?_,ih.2⟩
   rw [List.length_append]
   omega
  ·exact ⟨by omega,hb⟩
theorem dicD_len {m t:Nat} {new:List Bmp} {ex:List Bool} (hm:MayL new) (hn:new.length<=4096) (he:ex.length<=8192) (ha:areaL new<=1048576):(dicD m t new ex).length<=4000000/\∀ d∈dicD m t new ex,d.2<=1:=by
 have h1:=symD_len (m:=m) (t:=t) hm
 have h2:=flgF_len (m:=m) (l:=ex) (2*ex.length+1) false 0 (symD m t new) (symD_bit hm)
 exact ⟨Nat.le_trans h2.1 (by omega),h2.2⟩
theorem szD_le {t:Nat} (h:t<4):2561<=szD t/\szD t<=67073:=by
 have:=gsize_le h
 unfold szD
 omega
section
variable {h0 h:Heap} {FF:List Nat} {p q r m:Nat} {L:List (Nat × Nat)} {rest:List Value} {K:VK} {Kp:PK}
theorem wputL_ok (HC:Hp h0 FF h (codL p q r (cdL m L) rest)) (hL:L.length+64<=16777216) (hm1:1<=m) (hm2:m<=131072) {base v:Int} {none:Bool} (hf:0<=base/\base+(512:Nat)<=(m:Nat)) (hr:rightW v none) (hv:-9223372036854775808<=v/\v<9223372036854775808)
  (hk:∀ r' rest' h',Hp h0 FF h' (codL p q r' (cdL m (L++dsWh m base v none)) rest')->K (.int .i64 0) h'):CP F_whole_Put #[.pointer (at0 p), .int .i64 base, .agg #[.int .i64 v, .bool none]] h K Kp:=by
 refine wput_ok HC (cdL_ok (by omega)) hm1 hm2 hv hL (fun h' hn _=>absurd hf hn) (fun h' _ hn _=>absurd hr hn) fun r' rest' h' _ _ H=>?_
 rw [run_wh] at H
 exact hk r' rest' h' H
theorem gputL_ok (HC:Hp h0 FF h (codL p q r (cdL m L) rest)) {t:Nat} (ht:t<4) {b:Bmp} (hb:b.may) {q1:Option Addr} {c1:Nat} (hr1:rdO h q1 (b.ws.length*1) (u64s b.ws)) (hw1:W64 b.ws) (hl1:b.ws.length<140737488351300) (hm:szD t<=m) (hm2:m<=131072) (hL:L.length+b.h.toNat*(b.w.toNat+1)<=16777216)
  (hk:∀ r' rest' h',Hp h0 FF h' (codL p q r' (cdL m (L++dsG (getP b.ws b.w.toNat b.h.toNat) b.w.toNat m t false 1536 b.h.toNat)) rest')->K (.int .i64 0) h') :
  CP F_generic_Put #[.pointer (at0 p), .int .i64 1536, .agg #[.int .i64 b.w, .int .i64 b.h, .slice q1 b.ws.length c1], .int .i64 (t:Nat), .bool false] h K Kp:=by
 have hco:=cdL_ok (m:=m) (L:=L) (by omega)
 have hsz:=szD_le ht
 have henc:=enc_g (getP b.ws b.w.toNat b.h.toNat) b.w.toNat m t false 1536 (getP_out _ _ _) L b.h.toNat
 have hgt:szD t=1536+gsize t+1:=rfl
 refine gput_ok (m:=m) (NN:=b.h.toNat*(b.w.toNat+1)) (base:=1536) (template:=(t:Nat)) (ws:=b.ws) (Ok:=fun k s=>CodOk m (L.length+k) s) (step:=stepP m 1536) HC hco.len (by omega) (fun h' e=>rdO_ext e hr1) hw1 hl1 (fun hm hb=>codI_ok hb (by omega) (by omega) (by omega)) hco (fun _=>Nat.le_refl _)
  (fun h' hn H'=>absurd ⟨by omega,by omega⟩ hn) (fun h' ht hn H'=>absurd hb hn) (fun h' ht hmm hn H'=>absurd ⟨by omega,by simp only [Int.toNat_natCast]; omega⟩ hn)
  (fun G' s1 kk r1' rest1' h' ht hmm hf hrun hk1 hok1 H'=>?_) fun e s1 kk r1' rest1' h' ht hmm hf hrun hk1 hok1 H'=>?_
 ·simp only [Int.toNat_natCast] at hrun
  rw [henc] at hrun
  injection hrun with hrun
  injection hrun with _ hs1
  subst hs1
  exact hk r1' rest1' h' H'
 ·simp only [Int.toNat_natCast] at hrun
  rw [henc] at hrun
  cases hrun
theorem dnum_ok {hB:Heap} {v:Int} (hk:∀ h',hext hB h'->K (.agg #[.int .i64 v, .bool false]) h'):CP F_dict_number #[.int .i64 v] hB K Kp:=by
 refine call_dict_number ?_
 unfold dict_number
 have H:=Hp.nil hB []
 refine newC_hp H fun r1 h H=>?_
 repeat first | with_reducible refine stA H 0 (by with_unfolding_all exact rfl) (by with_unfolding_all exact rfl) (by with_unfolding_all exact rfl) fun h H=>?_ | with_reducible refine st0 H 0 (by with_unfolding_all exact rfl) (by with_unfolding_all exact rfl) (by with_unfolding_all exact rfl) fun h H=>?_ | with_reducible refine stB H 0 (by with_unfolding_all exact rfl) (by with_unfolding_all exact rfl) (by with_unfolding_all exact rfl) fun h H=>?_
 refine ldI_of (hpA H 0 rfl rfl) (ldB_of (hpA H 0 rfl rfl) ?_)
 exact hk _ H.hext
theorem need0_ok {hB:Heap} (hk:K (.tuple #[]) hB):CP F_dict_need #[.int .i64 0] hB K Kp:=by
 refine call_dict_need ?_
 unfold dict_need
 refine bcase_false (by rfl) ?_
 exact hk
end
end Go.Bm
namespace Go.Bm
open Go Go.Den Go.Den.YtfaclehehhgpcaaGreat
open Go.Ar (codL)
theorem sy_c {h:Heap} {q:Option Addr} {l:List Bmp} (hn:BmsV h q l) {i:Nat} (hi:i<l.length):∃ a q1 c1,q=some a/\BmC h (a.add (i*3)) (sy l i) q1 c1:=by
 obtain ⟨b,hb⟩:∃ b,l[i]? = some b:=⟨_,List.getElem?_eq_getElem hi⟩
 rw [sy_at hb]
 exact hn i b hb
theorem sy_may {l:List Bmp} (hm:MayL l) {i:Nat} (hi:i<l.length):(sy l i).may:=by
 obtain ⟨b,hb⟩:∃ b,l[i]? = some b:=⟨_,List.getElem?_eq_getElem hi⟩
 rw [sy_at hb]
 exact hm b (List.mem_of_getElem? hb)
theorem Bmp.may.le {b:Bmp} (h:b.may):(1<=b.w/\b.w<=1048576)/\(1<=b.h/\b.h<=1048576):=by
 have:=h.1
 unfold SizeP at this
 omega
theorem px2 {b:Bmp} (h:b.may):b.h.toNat*(b.w.toNat+1)<=2097152:=by
 obtain ⟨W,X,e1,e2,hW1,hW2,hX1,hX2,hWX⟩:=size_nat h.1
 rw [e1,e2,Int.toNat_natCast,Int.toNat_natCast,Nat.mul_add,Nat.mul_comm]
 omega
theorem classesC_ok {h:Heap} {l:Nat} {oR:Obj} {cap0:Addr} {q:Option Addr} {c:Nat} {new:List Bmp} {S:Nat->Heap->Prop} (hln:new.length<=4096) (hlc:new.length<=c) (hS:S 0 h) (hl:objAt h l oR)
  (hc:∀ i h',S i h'->hcell h' cap0=some (.slice q new.length c)) (hn:∀ i h',S i h'->BmsV h' q new)
  (hY:∀ i h' K1,i<new.length->S i h'->objAt h' l oR->(∀ h'',S (nxt new i) h''->objAt h'' l oR->K1 (.bool true) h'')->YS l [.int .i64 (sy new i).h, .slice (subA q c i 3) (nxt new i-i) (c-i)] h' K1) {K:VK} {Kp:PK}
  (hk:∀ h',S new.length h'->objAt h' l oR->K (.tuple #[]) h') :
  CP F_dict_classes_c1 #[.func (.yield l) #[] #[], .pointer (some cap0)] h K Kp:=by
 refine call_dict_classes_c1 (yield:=l) (cap0:=cap0) ?_
 unfold dict_classes_c1
 refine ⟨fun f vs h'=>∃ i:Nat,i+f=new.length/\vs=[.int .i64 (i:Nat)]/\S i h'/\objAt h' l oR,⟨new.length,0,by omega,rfl,hS,hl⟩,?_⟩
 clear hS hl
 rintro f h u xx ⟨i,hif,hxx,hS,ho⟩
 injection hxx with hxx
 injection hxx with _ hxx
 subst xx
 refine ldS_of (hc i h hS) ?_
 refine bcase_dec (fun h1=>?_) fun h1=>?_
 ·have hi:i<new.length:=by omega
  have hT:=nxt_gt hi
  have hT2:=nxt_le (Nat.le_of_lt hi)
  obtain ⟨a,q1,c1,hqa,hC⟩:=sy_c (hn i h hS) hi
  refine ⟨fun vs h'=>vs=[.int .i64 (nxt new i:Nat)]/\h'=h,?_,?_⟩
  ·refine ⟨fun f vs h'=>∃ j:Nat,j+f=new.length/\vs=[.int .i64 (j:Nat)]/\h'=h/\nxF new i f j=nxt new i,⟨new.length-i,i,by omega,rfl,rfl,rfl⟩,?_⟩
   rintro f h' u xx ⟨j,hjf,hxx,rfl,hnx⟩
   injection hxx with hxx
   injection hxx with _ hxx
   subst xx
   refine ldS_of (hc i h' hS) ?_
   refine bcase_dec (fun h2=>?_) fun h2=>?_
   ·obtain ⟨g,rfl⟩:∃ g,f=g+1:=⟨f-1,by omega⟩
    obtain ⟨a',q2,c2,hqa',hC'⟩:=sy_c (hn i h' hS) (i:=j) (by omega)
    refine ldS_of (hc i h' hS) (needs_of (by omega) (ptr_at hqa' ?_))
    rw [Int.toNat_natCast]
    refine ldI_of hC'.c1 (ldS_of (hc i h' hS) (needs_of (by omega) (ptr_at hqa ?_)))
    rw [Int.toNat_natCast]
    refine ldI_of hC.c1 ?_
    unfold nxF at hnx
    rw [if_pos (by omega)] at hnx
    refine bcase_eq (fun h3=>?_) fun h3=>?_
    ·rw [if_pos h3] at hnx
     refine bindI_of (((j+1:Nat):Int)) (by exact i64_at _ _ (by omega) (by omega) (by omega)) ?_
     exact ⟨g,by omega,j+1,by omega,rfl,rfl,hnx⟩
    ·rw [if_neg h3] at hnx
     rw [hnx]
     exact ⟨rfl,rfl⟩
   ·obtain rfl:f=0:=by omega
    have hnx:j=nxt new i:=hnx
    rw [hnx]
    exact ⟨rfl,rfl⟩
  ·rintro h' u xx ⟨hxx,rfl⟩
   injection hxx with hxx
   injection hxx with _ hxx
   subst xx
   refine ldS_of (hc i h' hS) (needs_of (by omega) (ptr_at hqa ?_))
   rw [Int.toNat_natCast]
   refine ldI_of hC.c1 (ldS_of (hc i h' hS) (needs_of (by omega) (needs_of (by omega) ?_)))
   rw [Int.toNat_natCast]
   refine hY i h' _ hi hS ho fun h'' hS' ho'=>?_
   refine ⟨_,rfl,?_⟩
   refine bcase_false (by rfl) ?_
   exact ⟨new.length-nxt new i,by omega,nxt new i,by omega,rfl,hS',ho'⟩
 ·obtain rfl:i=new.length:=by omega
  exact hk h hS ho
set_option maxHeartbeats 8000000 in
theorem symbols_ok {hB h:Heap} {p q' r m t:Nat} {rest:List Value} {Y:List Ent} {q q2:Option Addr} {c n2 c2:Nat} {new:List Bmp} (H:Hp hB [] h (codL p q' r (cdL m []) rest++Y)) (hYw:Y.all Ent.w=true) (hn:BmsV hB q new) (hm:MayL new) (hln:new.length<=4096) (hlc:new.length<=c) (har:areaL new<=1048576)
  (ht:t<4) (hsz:m=szD t) {K:VK} {Kp:PK} (hk:∀ r' rest' h',Hp hB [] h' (codL p q' r' (cdL m (symD m t new)) rest'++Y)->K (.tuple #[]) h') :
  CP F_dict_symbols #[.pointer (at0 p), .agg #[.int .i64 (t:Nat), .slice q new.length c, .slice q2 n2 c2]] h K Kp:=by
 refine call_dict_symbols ?_
 unfold dict_symbols
 have hszl:=szD_le ht
 refine newC_hp H fun r4 h H=>?_
 refine newC_hp H fun r6 h H=>?_
 refine newC_hp H fun r8 h H=>?_
 have H:Hp hB [] h ((codL p q' r (cdL m []) rest++Y)++[⟨r4,true,T_p_arith_Coder,[.pointer (at0 p)]⟩,⟨r6,true,T_api_Dict,[.int .i64 (t:Nat), .slice q new.length c, .slice q2 n2 c2]⟩,⟨r8,true,T_int,[.int .i64 0]⟩]):=H.as (by simp)
 have H:=H.rot.asc'
 refine st0 H 2 rfl rfl rfl fun h H=>?_
 refine ldS_of (hpA H 1 rfl rfl) ?_
 refine call_dict_classes ?_
 unfold dict_classes
 refine newC_hp H fun rc hP H=>?_
 have H:=H.rot
 refine ⟨_,rfl,?_⟩
 simp only [funD]
 intro oR oB oX oJ oXJ hround
 obtain ⟨M,hM⟩:∃ M:List (Nat × Nat)->Int->Nat->List Value->List Ent,M=fun A ah r rest=>[⟨rc,true,T_s_api_Bitmap,[.slice q new.length c]⟩,⟨r4,true,T_p_arith_Coder,[.pointer (at0 p)]⟩,⟨r6,true,T_api_Dict,[.int .i64 (t:Nat), .slice q new.length c, .slice q2 n2 c2]⟩,⟨r8,true,T_int,[.int .i64 ah]⟩]++codL p q' r (cdL m A) rest++Y:=⟨_,rfl⟩
 have hMd:∀ A ah r rest,M A ah r rest=[⟨rc,true,T_s_api_Bitmap,[.slice q new.length c]⟩,⟨r4,true,T_p_arith_Coder,[.pointer (at0 p)]⟩,⟨r6,true,T_api_Dict,[.int .i64 (t:Nat), .slice q new.length c, .slice q2 n2 c2]⟩,⟨r8,true,T_int,[.int .i64 ah]⟩]++codL p q' r (cdL m A) rest++Y:=fun A ah r rest=>by rw [hM]
 have hMw:∀ A ah r rest,(M A ah r rest).all Ent.w=true:=fun A ah r rest=>by
  rw [hMd,List.all_append,hYw]
  rfl
 have HA:Hp hB [] hP (M [] 0 r rest):=by rw [hMd]; exact H
 clear H
 obtain ⟨D,hD⟩:∃ D,D=hP.size:=⟨_,rfl⟩
 rw [<- hD] at hround ⊢
 have hlt:∀ e∈M [] 0 r rest,e.b<D:=fun e he=>by rw [hD]; exact (HA.mem e he).lt
 have hDh0:hB.size<=D:=by rw [hD]; exact HA.fr.1
 obtain ⟨h1,hh1⟩:∃ h1,h1=(hP.push (.deferred (some []))).push oR:=⟨_,rfl⟩
 have H1:=hpPush (hpPush HA (.deferred (some []))) oR
 rw [<- hh1] at H1 ⊢
 have hoR:objAt h1 (D+1) oR:=by
  unfold objAt
  rw [hh1,hD,Array.getElem?_push,if_pos (by simp)]
 have hoD:objAt h1 D (.deferred (some [])):=by
  unfold objAt
  rw [hh1,hD,Array.getElem?_push,if_neg (by simp),Array.getElem?_push,if_pos rfl]
 have hln0:areaL (new.take 0)=0:=rfl
 refine classesC_ok (h:=h1) (l:=D+1) (oR:=oR) (cap0:=⟨rc,0,none⟩) (new:=new) (q:=q) (c:=c)
  (S:=fun i hh=>∃ f A ah r rest,new.length-i<=f/\hisF m t new f i ah A=symD m t new/\A.length<=117*i+2*areaL (new.take i)/\(-1048576<=ah/\ah<=1048576)/\i<=new.length/\Hp hB [] hh (M A ah r rest)/\(∀ e∈M A ah r rest,e.b≠D+1/\e.b≠D)/\objAt hh D (.deferred (some [])))
  hln hlc ⟨new.length,[],0,r,rest,by omega,rfl,Nat.zero_le _,by omega,Nat.zero_le _,H1,(fun e he=>by have:=hlt e he; omega),hoD⟩ hoR ?_ ?_ ?_ ?_
 ·rintro i h' ⟨f,A,ah,r,rest,_,_,_,_,_,H,_⟩
  rw [hMd] at H
  exact H.cell 0 rfl rfl
 ·rintro i h' ⟨f,A,ah,r,rest,_,_,_,_,_,H,_⟩
  exact hn.ext H.hext
 ·rintro i hh K1 hi ⟨f,A,ah,r,rest,hf,hhis,hAl,hah,_,HM,hne,hoD⟩ ho htrue
  obtain ⟨f,rfl⟩:∃ g,f=g+1:=⟨f-1,by omega⟩
  unfold hisF at hhis
  rw [if_pos hi] at hhis
  have hT:=nxt_gt hi
  have hT2:=nxt_le (Nat.le_of_lt hi)
  have hcl:=cls_len (m:=m) (t:=t) hm (ah:=ah) hi hAl
  have har2:=areaL_take new (nxt new i)
  have hil:=midL_len (m:=m) (t:=t) hm (A:=A) (ah:=ah) (i:=i)
  refine hround hh K1 ho _ _ _ _ ⟨ho,?_⟩
  have HB0:=hpFar (l:=D+1) HM (fun e he=>(hne e he).1) (by omega) oB
  have HB:=hpReset HM (fun e he=>(hne e he).1) oB
  obtain ⟨hh2,hhh2⟩:∃ hh2,hh2=putO hh (D+1) oB:=⟨_,rfl⟩
  rw [<- hhh2] at HB0 HB ⊢
  have over:∀ {h X},Hp hh2 ((M A ah r rest).map Ent.b) h X->X.all Ent.w=true->Hp hB [] h X:=fun H hX=>Hp.putS (A:=[]) HB0 (hMw _ _ _ _) H hX
  obtain ⟨FM,hFM⟩:∃ FM,FM=(M A ah r rest).map Ent.b:=⟨_,rfl⟩
  rw [<- hFM] at HB over
  rw [hMd] at HB
  have hbi:=(sy_may hm hi).le
  obtain ⟨T,hTd⟩:∃ T,T=nxt new i:=⟨_,rfl⟩
  refine ldP_of (HB.cell 1 rfl rfl) (ldI_of (HB.cell 3 rfl rfl) ?_)
  refine bindI_of (((sy new i).h-ah)) (by exact i64_in _ (by omega) (by omega)) ?_
  refine dnum_ok fun h e=>?_
  refine ⟨_,_,rfl,e,?_⟩
  have HB:=HB.ext e
  have hmi0:=hil 0 (by omega)
  have hA16:A.length+64<=16777216:=by have:=areaL_take new i; omega
  refine wputL_ok (HB.give [4,5,6] (by simp) rfl) hA16 (by omega) (by omega) (by omega) (.inr (by omega)) (by omega) fun r2 rest2 h H'=>?_
  have HB:=HB.put [4,5,6] (by simp) rfl rfl H' rfl rfl
  clear H'
  refine ⟨_,rfl,?_⟩
  refine need0_ok ?_
  refine stV_hp HB 3 rfl (Nat.le_of_ble_eq_true rfl) rfl fun h hz HB=>?_
  have HB:Hp hh2 FM h (M (midL m t new A ah i 0) (sy new i).h r2 rest2):=by rw [hMd]; exact HB
  obtain ⟨hi',hhi'⟩:∃ z,z=(sy new i).h:=⟨_,rfl⟩
  rw [<- hhi'] at HB
  refine ⟨fun f vs h'=>∃ k r' rest',k+f=nxt new i-i/\vs=[.int .i64 (if k=0 then 0 else (sy new (i+k-1)).w), .int .i64 (k:Nat)]/\Hp hh2 FM h' (M (midL m t new A ah i k) hi' r' rest'),⟨nxt new i-i,0,r2,rest2,by omega,rfl,HB⟩,?_⟩
  clear HB
  rintro f2 h u xw xk ⟨k,r',rest',hkf,hxx,HB⟩
  injection hxx with hx1 hxx
  injection hxx with hx2 hxx
  injection hx1 with _ hx1
  injection hx2 with _ hx2
  subst xw xk
  have hmk:=hil k (by omega)
  have hak:=areaL_take new (i+k)
  refine bcase_dec (fun h2=>?_) fun h2=>?_
  ·have hik:i+k<new.length:=by omega
   have hmay:=sy_may hm hik
   have hble:=hmay.le
   obtain ⟨a,qb,cb,hqa,hC0⟩:=sy_c hn hik
   have hC:=hC0.ext (over HB (hMw _ _ _ _)).hext
   have hsub:subA q c i 3=some (a.add (i*3)):=by
    rw [hqa]
    unfold subA
    rw [if_neg (by omega)]
    rfl
   refine needs_of (by omega) (ptr_at hsub ?_)
   have hadd:(a.add (i*3)).add (k*3)=a.add ((i+k)*3):=by rw [Go.Ar.add_add',Nat.add_mul]
   rw [Int.toNat_natCast,hadd]
   refine ldI_of hC.c0 (ldI_of hC.c1 (ldS_of hC.c2 ?_))
   rw [hMd] at HB
   refine newC_hp HB fun r51 h HB=>?_
   have HB:=HB.rot
   refine stA HB 0 rfl rfl rfl fun h HB=>?_
   refine stA HB 0 rfl rfl rfl fun h HB=>?_
   refine stA HB 0 rfl rfl rfl fun h HB=>?_
   obtain ⟨bm,hbm⟩:∃ bm:Ent,bm=⟨r51,true,T_api_Bitmap,[.int .i64 (sy new (i+k)).w, .int .i64 (sy new (i+k)).h, .slice qb (sy new (i+k)).ws.length cb]⟩:=⟨_,rfl⟩
   have HB:Hp hh2 FM h ([bm,⟨rc,true,T_s_api_Bitmap,[.slice q new.length c]⟩,⟨r4,true,T_p_arith_Coder,[.pointer (at0 p)]⟩,⟨r6,true,T_api_Dict,[.int .i64 (t:Nat), .slice q new.length c, .slice q2 n2 c2]⟩,⟨r8,true,T_int,[.int .i64 hi']⟩]++codL p q' r' (cdL m (midL m t new A ah i k)) rest'++Y):=by rw [hbm]; exact HB
   have bmI:∀ {h X} {K2:Int->Prop},Hp hh2 FM h (bm::X)->K2 (sy new (i+k)).w->ldI h ((⟨r51,0,none⟩:Addr).add 0) .i64 K2:=fun H hK=>ldI_of (hpA H 0 (by rw [hbm]; rfl) rfl) hK
   refine ldP_of (HB.cell 2 rfl rfl) (bmI HB ?_)
   refine bindI_of (((sy new (i+k)).w-(if k=0 then 0 else (sy new (i+k-1)).w))) (by exact i64_in _ (by split <;> first | omega | (have:=(sy_may hm (i:=i+k-1) (by omega)).le; omega)) (by split <;> first | omega | (have:=(sy_may hm (i:=i+k-1) (by omega)).le; omega))) ?_
   refine dnum_ok fun h e=>?_
   refine ⟨_,_,rfl,e,?_⟩
   have HB:=HB.ext e
   refine wputL_ok (HB.give [5,6,7] (by simp) rfl) (by omega) (by omega) (by omega) (by omega) (.inr (by split <;> first | omega | (have:=(sy_may hm (i:=i+k-1) (by omega)).le; omega))) (by split <;> first | omega | (have:=(sy_may hm (i:=i+k-1) (by omega)).le; omega)) fun r3 rest3 h H'=>?_
   have HB:=HB.put [5,6,7] (by simp) rfl (by rfl) H' rfl rfl
   clear H'
   refine ⟨_,rfl,?_⟩
   refine need0_ok ?_
   have HB:Hp hh2 FM h ([bm,⟨rc,true,T_s_api_Bitmap,[.slice q new.length c]⟩,⟨r4,true,T_p_arith_Coder,[.pointer (at0 p)]⟩,⟨r6,true,T_api_Dict,[.int .i64 (t:Nat), .slice q new.length c, .slice q2 n2 c2]⟩,⟨r8,true,T_int,[.int .i64 hi']⟩]++codL p q' r3 (cdL m (midL m t new A ah i k++dsWh m 512 ((sy new (i+k)).w-(if k=0 then 0 else (sy new (i+k-1)).w)) false)) rest3++Y):=HB
   refine bmI HB ?_
   refine ldP_of (HB.cell 2 rfl rfl) (bmI HB (ldI_of (hpA HB 0 (by rw [hbm]; rfl) rfl) (ldS_of (hpA HB 0 (by rw [hbm]; rfl) rfl) (ldI_of (HB.cell 3 rfl rfl) ?_))))
   have hC2:=rdO_ext (over HB (by rw [List.all_append,hYw,hbm]; rfl)).hext hC0.r1
   have hpx:=px2 hmay
   refine gputL_ok (HB.give [5,6,7] (by simp) rfl) ht hmay hC2 hC.w1 hC.l1 (by omega) (by omega) (by rw [List.length_append]; have:=dsWh_len m 512 ((sy new (i+k)).w-(if k=0 then 0 else (sy new (i+k-1)).w)) false; omega) fun r4' rest4 h H'=>?_
   have HB:=HB.put [5,6,7] (by simp) rfl (by rfl) H' rfl rfl
   clear H'
   refine ⟨_,rfl,?_⟩
   refine need0_ok ?_
   refine bindI_of (((k+1:Nat):Int)) (by exact i64_at _ _ (by omega) (by omega) (by omega)) ?_
   refine ⟨f2-1,by omega,k+1,r4',rest4,by omega,(by rw [if_neg (by omega)]; rfl),?_⟩
   have HB:Hp hh2 FM h ([bm]++([⟨rc,true,T_s_api_Bitmap,[.slice q new.length c]⟩,⟨r4,true,T_p_arith_Coder,[.pointer (at0 p)]⟩,⟨r6,true,T_api_Dict,[.int .i64 (t:Nat), .slice q new.length c, .slice q2 n2 c2]⟩,⟨r8,true,T_int,[.int .i64 hi']⟩]++codL p q' r4' (cdL m (midL m t new A ah i k++dsWh m 512 ((sy new (i+k)).w-(if k=0 then 0 else (sy new (i+k-1)).w)) false++dsG (getP (sy new (i+k)).ws (sy new (i+k)).w.toNat (sy new (i+k)).h.toNat) (sy new (i+k)).w.toNat m t false 1536 (sy new (i+k)).h.toNat)) rest4++Y)):=HB
   rw [List.append_assoc (midL m t new A ah i k)] at HB
   rw [hMd]
   exact Hp.suf HB
  ·obtain rfl:k=nxt new i-i:=by omega
   have hnl:=noneD_len (m:=m)
   rw [hMd] at HB
   refine ldP_of (HB.cell 1 rfl rfl) ?_
   refine wputL_ok (v:=0) (none:=true) (HB.give [4,5,6] (by simp) rfl) (by omega) (by omega) (by omega) (by omega) (.inl rfl) (by omega) fun r3 rest3 hE H'=>?_
   have HE:=HB.put [4,5,6] (by simp) rfl rfl H' rfl rfl
   clear H' HB
   refine ⟨_,rfl,?_⟩
   refine need0_ok ?_
   have HE:Hp hh2 FM hE (M (midL m t new A ah i (nxt new i-i)++noneD m) hi' r3 rest3):=by rw [hMd]; exact HE
   have HE2:=HE
   rw [hhh2,hFM] at HE
   obtain ⟨g1,g2,g3,g4⟩:=roundBack HM (hMw _ _ _ _) (fun e he=>(hne e he).1) ho HE (hMw _ _ _ _)
   have hlD:=objAt_lt ho
   refine ⟨g1,htrue _ ⟨f,_,hi',r3,rest3,by omega,by rw [hhi']; exact hhis,hcl,by omega,hT2,g3,fun e he=>⟨g2 e he,fun hb=>?_⟩,?_⟩ g4⟩
   ·rcases HE.memw e he (List.all_eq_true.1 (hMw _ _ _ _) e he) with h6 | h6
    ·obtain ⟨e2,he2,hb2⟩:=List.mem_map.1 h6
     exact (hne e2 he2).2 (hb2.trans hb)
    ·rw [putO_size] at h6
     omega
   ·unfold objAt
    rw [putO_ne (by omega),HE.fr.2 D (by rw [putO_size]; omega) (fun hm=>by
     obtain ⟨e2,he2,hb2⟩:=List.mem_map.1 hm
     exact (hne e2 he2).2 hb2),putO_ne (by omega)]
    exact hoD
 ·rintro h2 ⟨f,A,ah,r2,rest2,_,hhis,_,_,_,H2,hne,hoD2⟩ ho2
  have hA:A=symD m t new:=by
   cases f with
   | zero=>exact hhis
   | succ f =>
    unfold hisF at hhis
    rw [if_neg (by omega)] at hhis
    exact hhis
  refine .inl ⟨ho2,?_,?_⟩
  ·unfold objAt
   rw [putO_ne (by omega)]
   exact hoD2
  ·have K2:=hpFar (l:=D+1) H2 (fun e he=>(hne e he).1) (by omega) oX
   have K3:=hpFar (l:=D) K2 (fun e he=>(hne e he).2) hDh0 (.deferred none)
   rw [hMd,hA] at K3
   exact hk r2 rest2 _ (Hp.suf K3.asc)
end Go.Bm
namespace Go.Bm
open Go Go.Den Go.Den.YtfaclehehhgpcaaGreat
open Go.Ar (bytesM flushM getD codL u8s u8s_length u8s_cells)
theorem fl_at {ex:List Bool} {i:Nat} (hi:i<ex.length):(bls ex)[i]? = some (.bool (ex.getD i false)):=by
 unfold bls
 rw [List.getElem?_map,List.getElem?_eq_getElem hi,List.getD_eq_getElem?_getD,List.getElem?_eq_getElem hi]
 rfl
set_option maxHeartbeats 4000000 in
theorem flags_ok {hB h:Heap} {p q' r m:Nat} {rest:List Value} {Y:List Ent} {q:Option Addr} {c:Nat} {ex:List Bool} {A:List (Nat × Nat)} (H:Hp hB [] h (codL p q' r (cdL m A) rest++Y)) (hYw:Y.all Ent.w=true) (hf:FlsV hB q ex) (hle:ex.length<=8192) (hA:A.length<=4000000)
  (hm1:1536<=m) (hm2:m<=131072) {K:VK} {Kp:PK} (hk:∀ r' rest' h',Hp hB [] h' (codL p q' r' (cdL m (flgD m ex A)) rest'++Y)->K (.tuple #[]) h') :
  CP F_dict_flags #[.pointer (at0 p), .slice q ex.length c] h K Kp:=by
 refine call_dict_flags ?_
 unfold dict_flags
 have hcw:∀ {r A rest},(codL p q' r (cdL m A) rest).all Ent.w=true:=fun {r A rest}=>rfl
 refine ⟨fun f vs h'=>∃ (v:Bool) (i:Nat) (A':List (Nat × Nat)) (r':Nat) (rest':List Value),flgN ex v i<=f/\flgF m ex f v i A'=flgD m ex A/\i<=ex.length/\A'.length+39*f<=5000000/\vs=[.bool v, .int .i64 (i:Nat)]/\Hp hB [] h' (codL p q' r' (cdL m A') rest'++Y),⟨2*ex.length+1,false,0,A,r,rest,by unfold flgN; split <;> omega,rfl,Nat.zero_le _,by omega,rfl,H⟩,?_⟩
 clear H
 rintro f h u xv xi ⟨v,i,A',r',rest',hf1,hf2,hi,hA',hxx,H⟩
 injection hxx with hx1 hxx
 injection hxx with hx2 hxx
 injection hx1 with hx1
 injection hx2 with _ hx2
 subst xv xi
 refine bcase_dec (fun h1=>?_) fun h1=>?_
 ·have hil:i<ex.length:=by omega
  have hnx:=flgN_next (v:=v) hil
  obtain ⟨f,rfl⟩:∃ g,f=g+1:=⟨f-1,by omega⟩
  unfold flgF at hf2
  rw [if_pos hil] at hf2
  have hT:=rnt_ge ex v i
  have hT2:=rnt_le (v:=v) hi
  refine ⟨fun vs h'=>vs=[.int .i64 ((rnt ex v i-i:Nat):Int)]/\h'=h,?_,?_⟩
  ·refine ⟨fun g vs h'=>∃ k:Nat,i+k+g=ex.length/\vs=[.int .i64 (k:Nat)]/\h'=h/\rnF ex v g (i+k)=rnt ex v i,⟨ex.length-i,0,by omega,rfl,rfl,rfl⟩,?_⟩
   rintro g h' u xx ⟨k,hkg,hxx,rfl,hrn⟩
   injection hxx with hxx
   injection hxx with _ hxx
   subst xx
   refine bindI_of (((i+k:Nat):Int)) (by exact i64_at _ _ (by omega) (by omega) (by omega)) ?_
   refine bcase_dec (fun h2=>?_) fun h2=>?_
   ·obtain ⟨g,rfl⟩:∃ z,g=z+1:=⟨g-1,by omega⟩
    obtain ⟨a,rfl,hc⟩:=rdO_cell (H.rdO hf) (i:=i+k) (fl_at (by omega))
    refine bindI_of (((i+k:Nat):Int)) (by exact i64_at _ _ (by omega) (by omega) (by omega)) ?_
    refine needs_of (by omega) (ptr_of (a:=a) ?_)
    rw [Int.toNat_natCast,Nat.mul_one]
    refine ldB_of hc ?_
    unfold rnF at hrn
    rw [if_pos (by omega)] at hrn
    refine bcase_of (fun h3=>?_) fun h3=>?_
    ·have h3:ex.getD (i+k) false=v:=by simpa using h3
     rw [if_pos h3] at hrn
     refine bindI_of (((k+1:Nat):Int)) (by exact i64_at _ _ (by omega) (by omega) (by omega)) ?_
     exact ⟨g,by omega,k+1,by omega,rfl,rfl,hrn⟩
    ·have h3:ex.getD (i+k) false≠v:=by simpa using h3
     rw [if_neg h3] at hrn
     rw [<- hrn]
     exact ⟨by rw [show i+k-i=k by omega],rfl⟩
   ·obtain rfl:g=0:=by omega
    have hrn:i+k=rnt ex v i:=hrn
    rw [<- hrn]
    exact ⟨by rw [show i+k-i=k by omega],rfl⟩
  ·rintro h' u xx ⟨hxx,rfl⟩
   injection hxx with hxx
   injection hxx with _ hxx
   subst xx
   refine dnum_ok fun h e=>?_
   have H:=(H.ext e).rot
   refine ⟨_,_,rfl,?_⟩
   refine wputL_ok (Hp.giveS H) (by omega) (by omega) hm2 (by omega) (.inr (by omega)) (by omega) fun r2 rest2 h H'=>?_
   have H:=(Hp.putS H hcw H' hcw).rot
   refine ⟨_,rfl,?_⟩
   refine need0_ok ?_
   refine bindI_of (((rnt ex v i:Nat):Int)) (by exact i64_at _ _ (by omega) (by omega) (by omega)) ?_
   have hdl:=dsWh_len m 1024 ((rnt ex v i-i:Nat):Int) false
   exact ⟨f,by omega,!v,rnt ex v i,_,r2,rest2,by omega,hf2,hT2,by rw [List.length_append]; omega,rfl,H⟩
 ·have hA2:A'=flgD m ex A:=by
   cases f with
   | zero=>exact hf2
   | succ f =>
    unfold flgF at hf2
    rw [if_neg (by omega)] at hf2
    exact hf2
  rw [hA2] at H
  exact hk r' rest' h H
def dflt (e:Int):List PanicEntry:=[{ v := .iface T_dict_fault (.agg #[.int .i64 e]),recovered:=false }]
theorem dcatch_idle {h:Heap} {r:Nat} {Kd:FrameMode->Heap->Prop} {Kdp:FrameMode->PK} (hk:Kd .returning h):DCalls Go.Proofs.Tryz.prog F_dict_caught_c1 #[.pointer (some ⟨r,0,none⟩)] .returning h Kd Kdp :=
 dcall_dict_caught_c1 (cap0:=⟨r,0,none⟩) (by unfold dict_caught_c1 recD; exact hk)
theorem dcatch {h0 h:Heap} {FF:List Nat} {L:List Ent} {r:Nat} {K:VK} {Kp:PK} {e x:Int} (H:Hp h0 FF h ([⟨r,true,T_api_Errno,[.int .i64 x]⟩]++L)) (hk:∀ h',Hp h0 FF h' L->K (.int .i64 e) h') :
  leaveD (DCalls Go.Proofs.Tryz.prog) (fun h=>ldI h ⟨r,0,none⟩ .i64 fun v=>K (.int .i64 v) h) Kp [{ target := .fn (.func F_dict_caught_c1) #[.pointer (some ⟨r,0,none⟩)],args:=#[] }] (.panicking (dflt e)) h:=by
 show DCalls Go.Proofs.Tryz.prog F_dict_caught_c1 #[.pointer (some ⟨r,0,none⟩)] _ h _ _
 refine dcall_dict_caught_c1 (cap0:=⟨r,0,none⟩) ?_
 unfold dict_caught_c1
 refine recD_iface ?_
 refine bcase_true (by decide) ?_
 refine ⟨e,rfl,?_⟩
 refine newC_hp H fun r6 h H=>?_
 have H:=H.rot
 refine stA H 0 rfl rfl rfl fun h H=>?_
 refine ldI_of (hpA H 0 rfl rfl) ?_
 refine st0 H 1 rfl rfl rfl fun h H=>?_
 show ldI h ⟨r,0,none⟩ .i64 _
 refine ldI_of (H.cell 1 rfl rfl) ?_
 have H:Hp h0 FF h ([⟨r6,true,T_dict_fault,[.int .i64 e]⟩,⟨r,true,T_api_Errno,[.int .i64 e]⟩]++L):=H
 exact hk h (Hp.suf H)
theorem dcaught_ok {h0 h:Heap} {FF:List Nat} {L:List Ent} {run:Value} {K:VK} {Kp:PK} (Post:List Ent->Prop) (PostB:Int->List Ent->Prop) (H:Hp h0 FF h L)
  (hrun:∀ {r:Nat} {h1:Heap} {K1:VK} {Kp1:PK},Hp h0 FF h1 ([⟨r,true,T_api_Errno,[.int .i64 0]⟩]++L)->(∀ h2 L2,Post L2->Hp h0 FF h2 ([⟨r,true,T_api_Errno,[.int .i64 0]⟩]++L2)->K1 (.tuple #[]) h2) ->
   (∀ e h2 L2,PostB e L2->Hp h0 FF h2 ([⟨r,true,T_api_Errno,[.int .i64 0]⟩]++L2)->Kp1 (dflt e) h2)->callD (CallsHP Go.Proofs.Tryz.prog) Kp1 run [] h1 K1)
  (hk0:∀ h' L',Post L'->Hp h0 FF h' L'->K (.int .i64 0) h') (hke:∀ e h' L',PostB e L'->Hp h0 FF h' L'->K (.int .i64 e) h'):CP F_dict_caught #[run] h K Kp:=by
 refine call_dict_caught ?_
 unfold dict_caught
 refine newC_hp H fun r1 h H=>?_
 have H:=H.rot
 refine hrun H (fun h2 L2 hp H=>?_) fun e h2 L2 hp H=>?_
 ·refine st0 H 0 rfl rfl rfl fun h H=>?_
  show DCalls Go.Proofs.Tryz.prog F_dict_caught_c1 #[.pointer (some ⟨r1,0,none⟩)] .returning h _ _
  refine dcatch_idle ?_
  show ldI h ⟨r1,0,none⟩ .i64 _
  refine ldI_of (H.cell 0 rfl rfl) ?_
  have H:Hp h0 FF h ([⟨r1,true,T_api_Errno,[.int .i64 0]⟩]++L2):=H
  exact hk0 h L2 hp (Hp.suf H)
 ·exact dcatch H fun h' H=>hke e h' L2 hp H
open Classical in
noncomputable def encD (t:Int) (new:List Bmp) (ex:List Bool) (imp:List Bmp):List Nat:=if chkD t new ex.length imp=0 then dicB t.toNat new ex else []
theorem dicB_len {t:Nat} {new:List Bmp} {ex:List Bool} (hm:MayL new) (hn:new.length<=4096) (he:ex.length<=8192) (ha:areaL new<=1048576):(dicB t new ex).length<=100000000/\(bytesM (flushM (cdL (szD t) (dicD (szD t) t new ex)))).length<=90000000:=by
 have h1:=(dicD_len (m:=szD t) (t:=t) hm hn he ha).1
 have h2:=cdL_ok (m:=szD t) (L:=dicD (szD t) t new ex) (by omega)
 have h3:=Go.Ar.flushM_len (cdL (szD t) (dicD (szD t) t new ex))
 have h4:=h2.wf.len
 have h5:=h2.wf.n
 have h6:=h2.n
 have h7:=(grp_len new.length).2
 unfold dicB
 rw [List.length_cons,List.length_append]
 omega
section
variable {hB:Heap} {q1 q2 q3:Option Addr} {c1 c2 c3:Nat} {t:Int} {new imp:List Bmp} {ex:List Bool} {K:VK} {Kp:PK}
set_option maxHeartbeats 8000000 in
theorem dEnc_ok (hn:BmsV hB q1 new) (hi:BmsV hB q3 imp) (hx:FlsV hB q2 ex) (hl1:new.length<=1000000000000) (hl2:imp.length<=1000000000000) (hlc:new.length<=c1)
  (hk:∀ D qo co h',Slot T_uint8 1 D qo (encD t new ex imp).length co (u8s (encD t new ex imp))->Hp hB [] h' D->K (.tuple #[.slice qo (encD t new ex imp).length co, .int .i64 (chkD t new ex.length imp)]) h') :
  CP F_dict_Encode #[.agg #[.int .i64 t, .slice q1 new.length c1, .slice q2 ex.length c2], .slice q3 imp.length c3] hB K Kp:=by
 refine call_dict_Encode ?_
 unfold dict_Encode
 have H:=Hp.nil hB []
 refine newC_hp H fun r4 h H=>?_
 refine newC_hp H fun r6 h H=>?_
 have H:Hp hB [] h [⟨r4,true,T_api_Dict,[.int .i64 t, .slice q1 new.length c1, .slice q2 ex.length c2]⟩,⟨r6,true,T_s_uint8,[.slice none 0 0]⟩]:=H
 refine ldI_of (hpA H 0 rfl rfl) (ldS_of (hpA H 0 rfl rfl) (ldS_of (hpA H 0 rfl rfl) ?_))
 refine checked_ok (hn.ext H.hext) (hi.ext H.hext) hl1 hl2 fun h' e=>?_
 have H:=H.ext e
 refine ⟨_,rfl,?_⟩
 refine bcase_ne (fun h1=>?_) fun h1=>?_
 ·refine st0 H 1 rfl rfl rfl fun h H=>?_
  refine ldS_of (H.cell 1 rfl rfl) ?_
  unfold encD at hk
  rw [if_neg h1] at hk
  exact hk [] none 0 h (Slot.nil _ _) (H.take 0)
 ·obtain ⟨⟨hf1,hf2,ht,hf4,hf5⟩,hn4,har⟩:=chkD_zero h1
  unfold encD at hk
  rw [if_pos h1,h1] at hk
  clear h1
  obtain ⟨T,rfl⟩:∃ T:Nat,t=(T:Int):=⟨t.toNat,by omega⟩
  have hT:T<4:=by omega
  rw [Int.toNat_natCast] at hk
  have hsz:=szD_le hT
  obtain ⟨hbl1,hbl2⟩:=dicB_len (t:=T) hf2 (by omega:new.length<=4096) (by omega:ex.length<=8192) har
  have hdl:=dicD_len (m:=szD T) (t:=T) hf2 (by omega:new.length<=4096) (by omega:ex.length<=8192) har
  refine dcaught_ok (fun L2=>∃ D qo co,L2=[⟨r4,true,T_api_Dict,[.int .i64 (T:Nat), .slice q1 new.length c1, .slice q2 ex.length c2]⟩,⟨r6,true,T_s_uint8,[.slice qo (dicB T new ex).length co]⟩]++D/\Slot T_uint8 1 D qo (dicB T new ex).length co (u8s (dicB T new ex))) (fun _ _=>False) H (fun {r h1 K1 Kp1} H hK1 hKp1=>?_) (fun h' L' hp H=>?_) fun e h' L' hp H=>hp.elim
  ·unfold callD
   simp only
   refine call_dict_Encode_c1 (cap0:=⟨r4,0,none⟩) (cap1:=⟨r6,0,none⟩) ?_
   unfold dict_Encode_c1
   obtain ⟨A,hA⟩:∃ A:List Ent,A=[⟨r,true,T_api_Errno,[.int .i64 0]⟩,⟨r4,true,T_api_Dict,[.int .i64 (T:Nat), .slice q1 new.length c1, .slice q2 ex.length c2]⟩,⟨r6,true,T_s_uint8,[.slice none 0 0]⟩]:=⟨_,rfl⟩
   have hAw:A.all Ent.w=true:=by rw [hA]; rfl
   have H:Hp hB [] h1 A:=by rw [hA]; exact H
   have rdT:∀ {h X} {K2:Int->Prop},Hp hB [] h (A++X)->K2 (T:Nat)->ldI h ((⟨r4,0,none⟩:Addr).add 0) .i64 K2:=fun H hK=>by
    rw [hA] at H
    exact ldI_of (hpA H 1 rfl rfl) hK
   have rdN:∀ {h X} {K2:Option Addr->Nat->Nat->Prop},Hp hB [] h (A++X)->K2 q1 new.length c1->ldS h ((⟨r4,0,none⟩:Addr).add 1) K2:=fun H hK=>by
    rw [hA] at H
    exact ldS_of (hpA H 1 rfl rfl) hK
   have rdE:∀ {h X} {K2:Option Addr->Nat->Nat->Prop},Hp hB [] h (A++X)->K2 q2 ex.length c2->ldS h ((⟨r4,0,none⟩:Addr).add 2) K2:=fun H hK=>by
    rw [hA] at H
    exact ldS_of (hpA H 1 rfl rfl) hK
   refine newWriter_ok fun w h H'=>?_
   replace H:=H.join H' rfl
   clear H'
   refine ⟨_,_,rfl,?_⟩
   refine need0_ok ?_
   have hw:WrL w [] [wrE w none 0 []]:=⟨none,0,[],Slot.nil _ _,rfl⟩
   refine rdT H ?_
   refine bindI_of (((T:Nat):Int)) (by exact u64_in _ (by omega) (by omega)) ?_
   refine put8_ok (Hp.giveS H) hw (by omega) (by decide) fun L1 h hw1 H'=>?_
   have H:=Hp.putS H hw.w H' hw1.w
   clear H' hw
   refine ⟨_,rfl,?_⟩
   refine need0_ok ?_
   refine rdN H ?_
   refine bindI_of (((new.length:Nat):Int)) (by exact u64_in _ (by omega) (by omega)) ?_
   refine var_ok (Hp.giveS H) hw1 (by omega) (by show 1<=60000000; omega) fun L2 h hw2 H'=>?_
   have H:=Hp.putS H hw1.w H' hw2.w
   clear H' hw1
   refine ⟨_,rfl,?_⟩
   refine need0_ok ?_
   refine rdT H ?_
   refine csize_ok (fun t' ht' htt h' e=>?_) fun hn=>absurd ⟨by omega,by omega⟩ hn
   obtain rfl:T=t':=by omega
   have H:=H.ext e
   refine ⟨_,_,rfl,?_⟩
   refine need0_ok ?_
   have hsd:szD T=1536+gsize T+1:=rfl
   refine bindI_of (((1536+gsize T:Nat):Int)) (by exact i64_at _ _ (by omega) (by omega) (by omega)) ?_
   refine bindI_of (((szD T:Nat):Int)) (by exact i64_at _ _ (by omega) (by omega) (by omega)) ?_
   refine Go.Ar.new_ok (by omega) (by omega) fun p q' r0 h' H'=>?_
   replace H:=(H.join H' rfl).rot
   clear H'
   refine ⟨_,_,rfl,?_⟩
   refine need0_ok ?_
   have hYw:(A++L2).all Ent.w=true:=by rw [List.all_append,hAw,hw2.w]; rfl
   have rot:∀ {h X},Hp hB [] h (X++(A++L2))->Hp hB [] h (A++(L2++X)):=fun H=>H.rot.asc
   refine rdT (rot H) (rdN (rot H) (rdE (rot H) ?_))
   refine symbols_ok (m:=szD T) (t:=T) H hYw hn hf2 (by omega) hlc har hT rfl fun r1 rest1 h' H=>?_
   refine rdE (rot H) ?_
   have hsl:=symD_len (m:=szD T) (t:=T) hf2
   refine flags_ok H hYw hx (by omega) (by omega) (by omega) (by omega) fun r2 rest2 h' H=>?_
   have hdic:flgD (szD T) ex (symD (szD T) T new)=dicD (szD T) T new ex:=rfl
   rw [hdic] at H
   have hco:=cdL_ok (m:=szD T) (L:=dicD (szD T) T new ex) (by omega)
   have H:=rot H
   have H:=H.asc'
   obtain ⟨S,hS⟩:∃ S,S=cdL (szD T) (dicD (szD T) T new ex):=⟨_,rfl⟩
   rw [<- hS] at H hco hbl2
   refine Go.Ar.flush_ok (Hp.giveS H) hco.wf hco.done fun r3 rest3 o orest h' H'=>?_
   replace H:=Hp.putS H rfl H' rfl
   clear H'
   refine ⟨_,_,_,_,rfl,?_⟩
   refine need0_ok ?_
   have H:=Hp.swap H
   refine bytes_ok (Hp.giveS H) hw2 (by have:=(grp_len new.length).2; rw [List.length_append]; show 1+_<=_; omega) fun D qo co h' hs H'=>?_
   have H:=Hp.putS H hw2.w H' (by rw [List.all_append,hw2.w,hs.w]; rfl)
   clear H'
   refine ⟨_,_,_,rfl,?_⟩
   have H:Hp hB [] h' ((A++(codL p q' r3 (flushM S) rest3++[⟨o,true,T_uint8,u8s (bytesM (flushM S))++orest⟩])++L2)++(D++[])):=H.as (by simp)
   refine Slot.appN (m:=(bytesM (flushM S)).length) (new:=u8s (bytesM (flushM S))) hs H rfl (by decide) (Hp.rdO_mem (rest:=orest) H (List.mem_append_left _ (List.mem_append_left _ (List.mem_append_right _ (List.mem_append_right _ (List.mem_singleton.2 rfl))))) (by rw [u8s_length,Nat.mul_one])) (by rw [u8s_length,Nat.mul_one]) (u8s_cells _) (by have:=(grp_len new.length).2; rw [List.length_append]; show (1+_+_)*1<=_; omega) fun D2 q4 c4 h' hs2 H=>?_
   have hlen:(([]++[T]++grp new.length).length+(bytesM (flushM S)).length)=(dicB T new ex).length:=by
    unfold dicB
    rw [<- hS]
    simp
    omega
   have hbs:u8s ([]++[T]++grp new.length)++u8s (bytesM (flushM S))=u8s (dicB T new ex):=by
    unfold dicB
    rw [<- hS]
    simp [u8s]
   rw [hlen,hbs] at hs2
   rw [hlen]
   rw [hA] at H
   refine st0 H 2 rfl rfl rfl fun h H=>?_
   have H:Hp hB [] h (([⟨r,true,T_api_Errno,[.int .i64 0]⟩,⟨r4,true,T_api_Dict,[.int .i64 (T:Nat), .slice q1 new.length c1, .slice q2 ex.length c2]⟩,⟨r6,true,T_s_uint8,[.slice q4 (dicB T new ex).length c4]⟩]++(codL p q' r3 (flushM S) rest3++[⟨o,true,T_uint8,u8s (bytesM (flushM S))++orest⟩])++L2)++(D2++[])):=H
   have H:Hp hB [] h ([⟨r,true,T_api_Errno,[.int .i64 0]⟩,⟨r4,true,T_api_Dict,[.int .i64 (T:Nat), .slice q1 new.length c1, .slice q2 ex.length c2]⟩,⟨r6,true,T_s_uint8,[.slice q4 (dicB T new ex).length c4]⟩]++((codL p q' r3 (flushM S) rest3++[⟨o,true,T_uint8,u8s (bytesM (flushM S))++orest⟩])++L2)++D2):=H.as (by simp only [List.append_assoc,List.append_nil])
   have H2:=Hp.mid H
   exact hK1 h _ ⟨D2,q4,c4,rfl,hs2⟩ H2
  ·obtain ⟨D,qo,co,rfl,hsl⟩:=hp
   refine ⟨_,rfl,?_⟩
   refine bcase_false (by rfl) ?_
   refine ldS_of (H.cell 1 rfl rfl) ?_
   refine st0 H 1 rfl rfl rfl fun h H=>?_
   refine ldS_of (H.cell 1 rfl rfl) ?_
   have H:Hp hB [] h ([⟨r4,true,T_api_Dict,[.int .i64 (T:Nat), .slice q1 new.length c1, .slice q2 ex.length c2]⟩,⟨r6,true,T_s_uint8,[.slice qo (dicB T new ex).length co]⟩]++D):=H
   exact hk D qo co h hsl (Hp.suf H)
end
end Go.Bm
namespace Go.Bm
open Go Go.Den Go.Den.YtfaclehehhgpcaaGreat
section
variable {hB:Heap} {q1 q2 q3:Option Addr} {c1 c2 c3:Nat} {t:Int} {new imp:List Bmp} {ex:List Bool} {K:VK} {Kp:PK}
end
end Go.Bm
namespace Go.Bm
open Go Go.Den Go.Den.YtfaclehehhgpcaaGreat
structure Own where
 b:Bmp
 q:Option Addr
 c:Nat
 D:List Ent
structure Own.Ok (o:Own):Prop where
 s:Slot T_uint64 1 o.D o.q o.b.ws.length o.c (u64s o.b.ws)
 w:W64 o.b.ws
 l:o.b.ws.length<140737488351300
def Own.cs (o:Own):List Value:=[.int .i64 o.b.w, .int .i64 o.b.h, .slice o.q o.b.ws.length o.c]
def csO (O:List Own):List Value:=O.flatMap Own.cs
def dsO (O:List Own):List Ent:=O.flatMap Own.D
theorem csO_len (O:List Own):(csO O).length=O.length*3:=by
 induction O with
 | nil=>rfl
 | cons o O ih =>
  have:csO (o::O)=o.cs++csO O:=rfl
  rw [this,List.length_append,ih,List.length_cons,Nat.add_mul]
  have:o.cs.length=3:=rfl
  omega
theorem csO_snoc (O:List Own) (o:Own):csO (O++[o])=csO O++o.cs:=by
 unfold csO
 rw [List.flatMap_append]
 simp
theorem dsO_snoc (O:List Own) (o:Own):dsO (O++[o])=dsO O++o.D:=by
 unfold dsO
 rw [List.flatMap_append]
 simp
theorem csO_cells (O:List Own):∀ v∈csO O,v.oneCell'=true:=fun v hv=>by
 unfold csO at hv
 obtain ⟨o,_,hv⟩:=List.mem_flatMap.1 hv
 unfold Own.cs at hv
 simp only [List.mem_cons,List.not_mem_nil,or_false] at hv
 rcases hv with rfl | rfl | rfl <;> rfl
theorem csO_get:∀ (O:List Own) (i j:Nat) (o:Own),O[i]? = some o->j<3->(csO O)[i*3+j]? = o.cs[j]?
 | [],i,j,o,h,_=>by cases h
 | o'::O,0,j,o,h,hj=>by
  injection h with h
  subst h
  have:csO (o'::O)=o'.cs++csO O:=rfl
  rw [this,Nat.zero_mul,Nat.zero_add,List.getElem?_append_left (by exact hj)]
 | o'::O,i+1,j,o,h,hj=>by
  have e:csO (o'::O)=o'.cs++csO O:=rfl
  have hl:o'.cs.length=3:=rfl
  rw [e,List.getElem?_append_right (by rw [hl]; omega),hl,show (i+1)*3+j-3=i*3+j by omega]
  exact csO_get O i j o h hj
theorem dsO_mem {O:List Own} {o:Own} (h:o∈O):∀ e∈o.D,e∈dsO O:=fun e he=>List.mem_flatMap.2 ⟨o,h,he⟩
theorem dsO_w {O:List Own} (h:∀ o∈O,o.Ok):(dsO O).all Ent.w=true:=List.all_eq_true.2 fun e he=>by
 obtain ⟨o,ho,he⟩:=List.mem_flatMap.1 he
 exact List.all_eq_true.1 (h o ho).s.w e he
def ListO (R:List Ent) (q:Option Addr) (c:Nat) (l:List Bmp):Prop:=∃ O E,(∀ o∈O,o.Ok)/\O.map Own.b=l/\Slot T_api_Bitmap 3 E q l.length c (csO O)/\R=dsO O++E
theorem ListO.nil:ListO [] none 0 []:=⟨[],[],(fun o ho=>by cases ho),rfl,Slot.nil _ _,rfl⟩
theorem ListO.w {R:List Ent} {q:Option Addr} {c:Nat} {l:List Bmp} (h:ListO R q c l):R.all Ent.w=true:=by
 obtain ⟨O,E,h1,h2,h3,rfl⟩:=h
 rw [List.all_append,dsO_w h1,h3.w]
 rfl
section
variable {h0 h:Heap} {F:List Nat} {L A R:List Ent} {q:Option Addr} {c:Nat} {l:List Bmp}
theorem ListO.view (hl:ListO R q c l) (H:Hp h0 F h L) (hs:∀ e∈R,e∈L):BmsV h q l:=by
 obtain ⟨O,E,h1,rfl,h3,rfl⟩:=hl
 intro i b hi
 rw [List.getElem?_map] at hi
 cases ho:O[i]? with
 | none=>rw [ho] at hi; cases hi
 | some o =>
  rw [ho] at hi
  injection hi with hi
  subst hi
  have hom:=List.mem_of_getElem? ho
  obtain ⟨hl,⟨_,_,h4,_⟩ | ⟨e,rest,rfl,rfl,h4⟩⟩:=h3
  ·have:=(List.getElem?_eq_some_iff.1 ho).1
   rw [List.length_map] at h4
   omega
  ·have cell:∀ j v,j<3->o.cs[j]? = some v->hcell h (((⟨e,0,none⟩:Addr).add (i*3)).add j)=some v:=fun j v hj hv=>by
    rw [add_mk,add_mk,Nat.zero_add]
    obtain ⟨k,hk⟩:=List.getElem?_of_mem (hs _ (List.mem_append_right _ (List.mem_singleton.2 rfl)))
    refine H.cell k hk ?_
    have hv2:=(csO_get O i j o ho hj).trans hv
    rw [List.getElem?_append_left (List.getElem?_eq_some_iff.1 hv2).1]
    exact hv2
   exact ⟨_,o.q,o.c,rfl,⟨cell 0 _ (by decide) rfl,cell 1 _ (by decide) rfl,cell 2 _ (by decide) rfl,Slot.rdO' (h1 o hom).s H fun x hx=>hs x (List.mem_append_left _ (dsO_mem hom x hx)),(h1 o hom).w,(h1 o hom).l⟩⟩
theorem ListO.app (hl:ListO R q c l) {o:Own} (ho:o.Ok) {r:Nat} (H:Hp h0 F h (A++R++(o.D++[⟨r,true,T_api_Bitmap,o.cs⟩]))) (hn:l.length<=1000000) {K:Option Addr->Nat->Nat->Heap->Prop}
  (hk:∀ R' q' c' h',ListO R' q' c' (l++[o.b])->Hp h0 F h' (A++R')->K q' (l.length+1) c' h'):appC h T_api_Bitmap 3 40 [.int .i64 0, .int .i64 0, .slice none 0 0] q l.length c (some ⟨r,0,none⟩) 1 K:=by
 obtain ⟨O,E,h1,h2,h3,rfl⟩:=hl
 have H:Hp h0 F h ((A++dsO O)++(E++(o.D++[⟨r,true,T_api_Bitmap,o.cs⟩]))):=H.as (by simp only [List.append_assoc])
 refine Slot.app (m:=1) (new:=o.cs) h3 H rfl (Hp.rdO_mem (rest:=[]) (cs:=o.cs) H (by rw [List.append_nil]; exact List.mem_append_right _ (List.mem_append_right _ (List.mem_append_right _ (List.mem_singleton.2 rfl)))) rfl) rfl (fun v hv=>by
  unfold Own.cs at hv
  simp only [List.mem_cons,List.not_mem_nil,or_false] at hv
  rcases hv with rfl | rfl | rfl <;> rfl) (by decide) (by omega) fun E' q' c' h' hs H=>?_
 rw [<- csO_snoc] at hs
 refine hk (dsO (O++[o])++E') q' c' h' ⟨O++[o],E',fun x hx=>?_,by rw [List.map_append,h2]; rfl,by rw [List.length_append]; exact hs,rfl⟩ ?_
 ·rcases List.mem_append.1 hx with hx | hx
  ·exact h1 x hx
  ·rw [List.mem_singleton.1 hx]; exact ho
 ·have H:Hp h0 F h' ((A++dsO O)++E'++o.D++[⟨r,true,T_api_Bitmap,o.cs⟩]):=H.as (by simp only [List.append_assoc])
  have H:=(Hp.pre H).swap
  rw [dsO_snoc]
  exact H.as (by simp only [List.append_assoc])
end
section
variable {hB:Heap} {K:VK} {Kp:PK}
theorem cloneB_ok {q:Option Addr} {c:Nat} {b:Bmp} (hr:rdO hB q (b.ws.length*1) (u64s b.ws)) (hw:W64 b.ws) (hl:b.ws.length<=1000000000000) (hk:∀ (o:Own) h',o.Ok->o.b=b->Hp hB [] h' o.D->K (.slice o.q b.ws.length o.c) h') :
  CP F_slices_Clone_uint64_uint64 #[.slice q b.ws.length c] hB K Kp:=by
 refine call_slices_Clone_uint64_uint64 ?_
 unfold slices_Clone_uint64_uint64
 cases q with
 | none =>
  have h0:u64s b.ws=[]:=hr
  have h1:b.ws.length=0:=by rw [<- u64s_length,h0]; rfl
  refine bcase_true (by rfl) ?_
  have hk:=hk ⟨b,none,0,[]⟩ hB ⟨by show Slot T_uint64 1 [] none b.ws.length 0 (u64s b.ws); rw [h0,h1]; exact Slot.nil _ _,hw,by show b.ws.length<_; omega⟩ rfl (Hp.nil hB [])
  rw [h1] at hk
  exact hk
 | some a =>
  refine bcase_false (by rfl) ?_
  have H:=Hp.nil hB []
  refine newC_hp H fun r1 h H=>?_
  have hs0:Slot T_uint64 1 [⟨r1,true,T_uint64,[]++[]⟩] (some ⟨r1,0,none⟩) 0 0 []:=Slot.one rfl rfl
  have H:Hp hB [] h ([]++([⟨r1,true,T_uint64,[]++[]⟩]++[])):=H
  refine Slot.appN (m:=b.ws.length) (new:=u64s b.ws) hs0 H rfl (by decide) (H.rdO hr) (by rw [u64s_length,Nat.mul_one]) (u64s_cells _) (by omega) fun D q' c' h' hs H=>?_
  rw [Nat.zero_add,List.nil_append] at hs
  rw [Nat.zero_add]
  rw [List.nil_append,List.append_nil] at H
  exact hk ⟨b,q',c',D⟩ h' ⟨hs,hw,by show b.ws.length<_; omega⟩ rfl H
end
end Go.Bm
namespace Go.Bm
open Go Go.Den Go.Den.YtfaclehehhgpcaaGreat
structure RawAt (h:Heap) (cs:List Value) (i:Nat) (b:Bmp):Prop where
 ex:∃ q1 c1,cs[i*3]? = some (.int .i64 b.w)/\cs[i*3+1]? = some (.int .i64 b.h)/\cs[i*3+2]? = some (.slice q1 b.ws.length c1)/\rdO h q1 (b.ws.length*1) (u64s b.ws)
 w1:W64 b.ws
 l1:b.ws.length<140737488351300
structure Raw (h:Heap) (cs:List Value) (l:List Bmp):Prop where
 len:cs.length=l.length*3
 at_:∀ i b,l[i]? = some b->RawAt h cs i b
 one:∀ v∈cs,v.oneCell'=true
theorem Raw.ext {h h':Heap} {cs:List Value} {l:List Bmp} (H:Raw h cs l) (e:hext h h'):Raw h' cs l:=⟨H.len,fun i b hi=>by
 obtain ⟨⟨q1,c1,h1,h2,h3,h4⟩,h5,h6⟩:=H.at_ i b hi
 exact ⟨⟨q1,c1,h1,h2,h3,rdO_ext e h4⟩,h5,h6⟩,H.one⟩
theorem Raw.app {h:Heap} {cs cs':List Value} {l l':List Bmp} (H:Raw h cs l) (H':Raw h cs' l'):Raw h (cs++cs') (l++l'):=by
 refine ⟨by rw [List.length_append,List.length_append,H.len,H'.len,Nat.add_mul],fun i b hi=>?_,fun v hv=>?_⟩
 ·by_cases hil:i<l.length
  ·rw [List.getElem?_append_left hil] at hi
   obtain ⟨⟨q1,c1,h1,h2,h3,h4⟩,h5,h6⟩:=H.at_ i b hi
   have:=H.len
   exact ⟨⟨q1,c1,by rw [List.getElem?_append_left (by omega)]; exact h1,by rw [List.getElem?_append_left (by omega)]; exact h2,by rw [List.getElem?_append_left (by omega)]; exact h3,h4⟩,h5,h6⟩
  ·rw [List.getElem?_append_right (by omega)] at hi
   obtain ⟨⟨q1,c1,h1,h2,h3,h4⟩,h5,h6⟩:=H'.at_ (i-l.length) b hi
   have:=H.len
   refine ⟨⟨q1,c1,?_,?_,?_,h4⟩,h5,h6⟩
   ·rw [List.getElem?_append_right (by omega),show i*3-cs.length=(i-l.length)*3 by omega]; exact h1
   ·rw [List.getElem?_append_right (by omega),show i*3+1-cs.length=(i-l.length)*3+1 by omega]; exact h2
   ·rw [List.getElem?_append_right (by omega),show i*3+2-cs.length=(i-l.length)*3+2 by omega]; exact h3
 ·rcases List.mem_append.1 hv with hv | hv
  ·exact H.one v hv
  ·exact H'.one v hv
theorem Raw.nil {h:Heap}:Raw h [] []:=⟨rfl,(fun i b hi=>by cases hi),fun v hv=>by cases hv⟩
theorem raw_of {h:Heap} {q:Option Addr} {l:List Bmp} (hv:BmsV h q l):∃ cs,Raw h cs l/\rdO h q (l.length*3) cs:=by
 have key:∀ n,n<=l.length->∃ cs,Raw h cs (l.take n)/\∀ j v,cs[j]? = some v->∃ a,q=some a/\hcell h (a.add j)=some v:=by
  intro n
  induction n with
  | zero=>exact fun _=>⟨[],Raw.nil,fun j v hj=>by cases hj⟩
  | succ n ih =>
   intro hn
   obtain ⟨cs,h1,h2⟩:=ih (by omega)
   obtain ⟨b,hb⟩:∃ b,l[n]? = some b:=⟨_,List.getElem?_eq_getElem (by omega)⟩
   obtain ⟨a,q1,c1,ha,hc⟩:=hv n b hb
   have hlt:(l.take n).length=n:=by rw [List.length_take]; omega
   have hcl:=h1.len
   rw [hlt] at hcl
   refine ⟨cs++[.int .i64 b.w, .int .i64 b.h, .slice q1 b.ws.length c1],?_,fun j v hj=>?_⟩
   ·rw [take_snocG hb]
    refine h1.app ⟨rfl,fun i b' hi=>?_,fun v hv=>?_⟩
    ·cases i with
     | zero=>injection hi with hi; subst hi; exact ⟨⟨q1,c1,rfl,rfl,rfl,hc.r1⟩,hc.w1,hc.l1⟩
     | succ i=>cases hi
    ·simp only [List.mem_cons,List.not_mem_nil,or_false] at hv
     rcases hv with rfl | rfl | rfl <;> rfl
   ·by_cases hjl:j<cs.length
    ·rw [List.getElem?_append_left hjl] at hj
     exact h2 j v hj
    ·rw [List.getElem?_append_right (by omega)] at hj
     refine ⟨a,ha,?_⟩
     obtain ⟨k,rfl⟩:∃ k,j=n*3+k:=⟨j-n*3,by omega⟩
     rw [hcl,Nat.add_sub_cancel_left] at hj
     rw [<- Go.Ar.add_add']
     match k,hj with
     | 0,hj=>injection hj with hj; subst hj; exact hc.c0
     | 1,hj=>injection hj with hj; subst hj; exact hc.c1
     | 2,hj=>injection hj with hj; subst hj; exact hc.c2
 obtain ⟨cs,h1,h2⟩:=key l.length (Nat.le_refl _)
 rw [List.take_of_length_le (Nat.le_refl _)] at h1
 refine ⟨cs,h1,?_⟩
 cases q with
 | none =>
  show cs=[]
  cases cs with
  | nil=>rfl
  | cons v cs=>obtain ⟨a,ha,_⟩:=h2 0 v rfl; cases ha
 | some a =>
  refine ⟨h1.len,fun j v hj=>?_⟩
  obtain ⟨a',ha,hc⟩:=h2 j v hj
  injection ha with ha
  subst ha
  exact hc
theorem Raw.view {h0 h:Heap} {F:List Nat} {L E:List Ent} {q:Option Addr} {c:Nat} {cs:List Value} {l:List Bmp} (hr:Raw h cs l) (hs:Slot T_api_Bitmap 3 E q l.length c cs) (H:Hp h0 F h L) (hE:∀ e∈E,e∈L):BmsV h q l:=by
 intro i b hi
 obtain ⟨⟨q1,c1,h1,h2,h3,h4⟩,h5,h6⟩:=hr.at_ i b hi
 obtain ⟨hl,⟨_,_,h7,_⟩ | ⟨e,rest,rfl,rfl,h7⟩⟩:=hs
 ·have:=(List.getElem?_eq_some_iff.1 hi).1; omega
 ·have cell:∀ j v,cs[i*3+j]? = some v->hcell h (((⟨e,0,none⟩:Addr).add (i*3)).add j)=some v:=fun j v hv=>by
   rw [add_mk,add_mk,Nat.zero_add]
   obtain ⟨k,hk⟩:=List.getElem?_of_mem (hE _ (List.mem_singleton.2 rfl))
   refine H.cell k hk ?_
   rw [List.getElem?_append_left (List.getElem?_eq_some_iff.1 hv).1]
   exact hv
  exact ⟨_,q1,c1,rfl,⟨cell 0 _ h1,cell 1 _ h2,cell 2 _ h3,h4,h5,h6⟩⟩
section
variable {hB:Heap} {K:VK} {Kp:PK}
theorem growB_ok {n:Nat} (hn:n<=1000000) (hk:∀ E q c h',Slot T_api_Bitmap 3 E q 0 c []->Hp hB [] h' E->K (.slice q 0 c) h'):CP F_slices_Grow_api_Bitmap_api_Bitmap #[.slice none 0 0, .int .i64 (n:Nat)] hB K Kp:=by
 refine call_slices_Grow_api_Bitmap_api_Bitmap ?_
 unfold slices_Grow_api_Bitmap_api_Bitmap
 refine bcase_dec (fun h1=>absurd h1 (by omega)) fun _=>?_
 refine bindI_of ((0:Int)) (by exact i64_at _ _ rfl (by omega) (by omega)) ?_
 refine bindI_of (((n:Nat):Int)) (by exact i64_at _ _ (by omega) (by omega) (by omega)) ?_
 refine bcase_dec (fun h1=>?_) fun h1=>?_
 ·refine needs_of (by decide) ?_
  refine ⟨⟨by omega,by omega,by rw [Int.toNat_natCast]; omega⟩,?_⟩
  rw [Int.toNat_natCast]
  rw [if_neg (by show ¬ 0+n<=0; omega)]
  refine ⟨by unfold appLim; split <;> (show (0+n)*40<=_; omega),[],rfl,fun cap hcap=>?_⟩
  refine needs_of (by omega) ?_
  have H:=(Hp.nil hB []).new T_api_Bitmap ([]++repZ [.int .i64 0, .int .i64 0, .slice none 0 0] n++repZ [.int .i64 0, .int .i64 0, .slice none 0 0] (cap-(0+n)))
  have hs:Slot T_api_Bitmap 3 [⟨hB.size,true,T_api_Bitmap,[]++(repZ [.int .i64 0, .int .i64 0, .slice none 0 0] n++repZ [.int .i64 0, .int .i64 0, .slice none 0 0] (cap-(0+n)))⟩] (some ⟨hB.size,0,none⟩) 0 cap []:=Slot.one rfl (by
   rw [List.nil_append,List.length_append,repZ_length,repZ_length]
   show n*3+(cap-(0+n))*3=cap*3
   have:0+n<=cap:=hcap
   omega)
  have hq:subA (some ⟨hB.size,0,none⟩) cap 0 3=some ⟨hB.size,0,none⟩:=by
   unfold subA
   split
   ·rfl
   ·rfl
  have hk2:=hk _ _ cap _ hs H
  show K (.slice (subA (some ⟨hB.size,0,none⟩) cap 0 3) 0 (cap-0)) _
  rw [hq]
  exact hk2
 ·exact hk [] none 0 hB (Slot.nil _ _) (Hp.nil hB [])
set_option maxHeartbeats 2000000 in
theorem concatB_ok {r:Nat} {q1 q2:Option Addr} {c1 c2:Nat} {l1 l2:List Bmp} (hc0:hcell hB ⟨r,0,none⟩=some (.slice q1 l1.length c1)) (hc1:hcell hB ⟨r,1,none⟩=some (.slice q2 l2.length c2)) (hv1:BmsV hB q1 l1) (hv2:BmsV hB q2 l2) (hn1:l1.length<=400000) (hn2:l2.length<=400000)
  (hk:∀ q c h',hext hB h'->BmsV h' q (l1++l2)->K (.slice q (l1++l2).length c) h'):CP F_slices_Concat_api_Bitmap_api_Bitmap #[.slice (some ⟨r,0,none⟩) 2 2] hB K Kp:=by
 refine call_slices_Concat_api_Bitmap_api_Bitmap ?_
 unfold slices_Concat_api_Bitmap_api_Bitmap
 obtain ⟨cs1,hr1,ho1⟩:=raw_of hv1
 obtain ⟨cs2,hr2,ho2⟩:=raw_of hv2
 refine ⟨fun m vs h'=>∃ i:Nat,i+m=2/\vs=[.int .i64 (if i=0 then 0 else if i=1 then ((l1.length:Nat):Int) else ((l1.length+l2.length:Nat):Int)), .int .i64 (i:Nat)]/\h'=hB,⟨2,0,rfl,rfl,rfl⟩,?_⟩
 rintro m h u xs xi ⟨i,him,hxx,rfl⟩
 injection hxx with hx1 hxx
 injection hxx with hx2 hxx
 injection hx1 with _ hx1
 injection hx2 with _ hx2
 subst xs xi
 have hi:i=0\/i=1\/i=2:=by omega
 rcases hi with rfl | rfl | rfl
 ·refine bcase_dec (fun _=>?_) fun h1=>absurd (by decide) h1
  refine needs_of (by decide) (ptr_of (a:=⟨r,0,none⟩) (ldS_of hc0 ?_))
  refine bindI_of (((l1.length:Nat):Int)) (by exact i64_at _ _ (by show (0:Int)+_=_; omega) (by omega) (by omega)) ?_
  refine bcase_dec (fun h1=>absurd h1 (by omega)) fun _=>?_
  refine bindI_of (((1:Nat):Int)) (by exact i64_at _ _ rfl (by omega) (by omega)) ?_
  exact ⟨1,by omega,1,rfl,rfl,rfl⟩
 ·refine bcase_dec (fun _=>?_) fun h1=>absurd (by decide) h1
  refine needs_of (by decide) (ptr_of (a:=⟨r,0,none⟩) (ldS_of hc1 ?_))
  refine bindI_of (((l1.length+l2.length:Nat):Int)) (by exact i64_at _ _ (by show ((l1.length:Nat):Int)+_=_; omega) (by omega) (by omega)) ?_
  refine bcase_dec (fun h1=>absurd h1 (by omega)) fun _=>?_
  refine bindI_of (((2:Nat):Int)) (by exact i64_at _ _ rfl (by omega) (by omega)) ?_
  exact ⟨0,by omega,2,rfl,rfl,rfl⟩
 ·refine bcase_dec (fun h1=>absurd h1 (by decide)) fun _=>?_
  show CP F_slices_Grow_api_Bitmap_api_Bitmap #[.slice none 0 0, .int .i64 ((l1.length+l2.length:Nat):Int)] h _ _
  refine growB_ok (by omega) fun E q c h' hs H=>?_
  refine ⟨_,_,_,rfl,?_⟩
  obtain ⟨hB,hhB⟩:∃ hB,hB=h:=⟨_,rfl⟩
  rw [<- hhB] at hc0 hc1 hv1 hv2 ho1 ho2 hr1 hr2 H hk
  refine ⟨fun m vs h'=>∃ (i:Nat) (E:List Ent) (q:Option Addr) (n c:Nat) (xs:List Value),i+m=2/\vs=[.slice q n c, .int .i64 (i:Nat)]/\Slot T_api_Bitmap 3 E q n c xs/\Hp hB [] h' E/\n=(if i=0 then 0 else if i=1 then l1.length else l1.length+l2.length)/\xs=(if i=0 then [] else if i=1 then cs1 else cs1++cs2),⟨2,0,E,q,0,c,[],rfl,rfl,hs,H,rfl,rfl⟩,?_⟩
  clear H hs
  rintro m h u xq xn xc xi ⟨i,E,q,n,c,xs,him,hxx,hs,H,hn,hxs⟩
  injection hxx with hx1 hxx
  injection hxx with hx2 hxx
  injection hx1 with hx1 hx3 hx4
  injection hx2 with _ hx2
  subst xq xn xc xi
  have hi:i=0\/i=1\/i=2:=by omega
  rcases hi with rfl | rfl | rfl
  ·refine bcase_dec (fun _=>?_) fun h1=>absurd (by decide) h1
   refine needs_of (by decide) (ptr_of (a:=⟨r,0,none⟩) (ldS_of (H.fr.cell (by simp) hc0) ?_))
   rw [if_pos rfl] at hn hxs
   subst hn hxs
   have H:Hp hB [] h ([]++(E++[])):=by rw [List.append_nil]; exact H
   refine Slot.appN (m:=l1.length) (new:=cs1) hs H rfl (by decide) (H.rdO ho1) hr1.len hr1.one (by omega) fun E' q' c' h' hs' H'=>?_
   refine bindI_of (((1:Nat):Int)) (by exact i64_at _ _ rfl (by omega) (by omega)) ?_
   exact ⟨1,by omega,1,E',q',_,c',_,rfl,rfl,hs',by rw [List.nil_append,List.append_nil] at H'; exact H',by show 0+l1.length=l1.length; omega,rfl⟩
  ·refine bcase_dec (fun _=>?_) fun h1=>absurd (by decide) h1
   refine needs_of (by decide) (ptr_of (a:=⟨r,0,none⟩) (ldS_of (H.fr.cell (by simp) hc1) ?_))
   rw [if_neg (by decide),if_pos rfl] at hn hxs
   subst hn hxs
   have H:Hp hB [] h ([]++(E++[])):=by rw [List.append_nil]; exact H
   refine Slot.appN (m:=l2.length) (new:=cs2) hs H rfl (by decide) (H.rdO ho2) hr2.len hr2.one (by omega) fun E' q' c' h' hs' H'=>?_
   refine bindI_of (((2:Nat):Int)) (by exact i64_at _ _ rfl (by omega) (by omega)) ?_
   exact ⟨0,by omega,2,E',q',_,c',_,rfl,rfl,hs',by rw [List.nil_append,List.append_nil] at H'; exact H',rfl,rfl⟩
  ·refine bcase_dec (fun h1=>absurd h1 (by decide)) fun _=>?_
   rw [if_neg (by decide),if_neg (by decide)] at hn hxs
   subst hn hxs
   have hll:(l1++l2).length=l1.length+l2.length:=List.length_append
   have:=hk q c h H.hext (((hr1.app hr2).ext H.hext).view (by rw [hll]; exact hs) H fun e he=>he)
   rw [hll] at this
   exact this
end
end Go.Bm
namespace Go.Bm
open Go Go.Den Go.Den.YtfaclehehhgpcaaGreat
open Go.Ar (getD)
def pickTo (l:List Bmp) (ex:List Bool):Nat->List Bmp
 | 0=>[]
 | i+1=>pickTo l ex i++(if ex.getD i false=true then [sy l i] else [])
def pickD (l:List Bmp) (ex:List Bool):List Bmp:=pickTo l ex l.length
theorem pickTo_len (l:List Bmp) (ex:List Bool):∀ i,(pickTo l ex i).length<=i
 | 0=>Nat.le_refl _
 | i+1=>by
  have:=pickTo_len l ex i
  unfold pickTo
  rw [List.length_append]
  split <;> simp <;> omega
open Classical in
noncomputable def expD (t:Int) (new:List Bmp) (ex:List Bool) (imp:List Bmp):List Bmp:=if chkD t new ex.length imp=0 then pickD (imp++new) ex else []
theorem may_ws {b:Bmp} (h:b.may):b.ws.length<=2097152:=by
 have:=h.2.1
 obtain ⟨W,X,e1,e2,hW1,hW2,hX1,hX2,hWX⟩:=size_nat h.1
 rw [e1,e2,Int.toNat_natCast,Int.toNat_natCast] at this
 have h2:wds W<=W:=by unfold wds; omega
 have h3:X*wds W<=X*W:=Nat.mul_le_mul_left _ h2
 rw [Nat.mul_comm X W] at h3
 omega
section
variable {hB:Heap} {q1 q2 q3:Option Addr} {c1 c2 c3:Nat} {t:Int} {new imp:List Bmp} {ex:List Bool} {K:VK} {Kp:PK}
set_option maxHeartbeats 4000000 in
theorem dExp_ok (hn:BmsV hB q1 new) (hi:BmsV hB q3 imp) (hx:FlsV hB q2 ex) (hl1:new.length<=1000000000000) (hl2:imp.length<=1000000000000)
  (hk:∀ R qo co h',ListO R qo co (expD t new ex imp)->Hp hB [] h' R->K (.tuple #[.slice qo (expD t new ex imp).length co, .int .i64 (chkD t new ex.length imp)]) h') :
  CP F_dict_Exported #[.agg #[.int .i64 t, .slice q1 new.length c1, .slice q2 ex.length c2], .slice q3 imp.length c3] hB K Kp:=by
 refine call_dict_Exported ?_
 unfold dict_Exported
 have H:=Hp.nil hB []
 refine newC_hp H fun r4 h H=>?_
 have H:Hp hB [] h [⟨r4,true,T_api_Dict,[.int .i64 t, .slice q1 new.length c1, .slice q2 ex.length c2]⟩]:=H
 refine ldI_of (hpA H 0 rfl rfl) (ldS_of (hpA H 0 rfl rfl) (ldS_of (hpA H 0 rfl rfl) ?_))
 refine checked_ok (hn.ext H.hext) (hi.ext H.hext) hl1 hl2 fun h' e=>?_
 have H:=H.ext e
 refine ⟨_,rfl,?_⟩
 unfold expD at hk
 refine bcase_ne (fun h1=>?_) fun h1=>?_
 ·rw [if_neg h1] at hk
  exact hk [] none 0 h' ListO.nil (H.take 0)
 obtain ⟨⟨hf1,hm,ht,hf4,hf5⟩,hn4,har⟩:=chkD_zero h1
 rw [if_pos h1,h1] at hk
 clear h1
 refine ldS_of (hpA H 0 rfl rfl) ?_
 refine newC_hp H fun r13 h H=>?_
 refine concatB_ok (H.cell 1 rfl rfl) (H.cell 1 rfl rfl) (hi.ext H.hext) (hn.ext H.hext) (by omega) (by omega) fun q c h' e hvall=>?_
 have H:=H.ext e
 refine ⟨_,_,_,rfl,?_⟩
 obtain ⟨all,hall⟩:∃ all,all=imp++new:=⟨_,rfl⟩
 have halen:all.length=ex.length:=by rw [hall,List.length_append]; omega
 rw [<- hall] at hvall hk ⊢
 have hmall:MayL all:=fun b hb=>by
  rw [hall] at hb
  rcases List.mem_append.1 hb with hb | hb
  ·exact hf1 b hb
  ·exact hm b hb
 have HA:Hp hB [] h' [⟨r4,true,T_api_Dict,[.int .i64 t, .slice q1 new.length c1, .slice q2 ex.length c2]⟩]:=H.take 1
 clear H
 obtain ⟨h9,hh9⟩:∃ h9,h9=h':=⟨_,rfl⟩
 have H:Hp h9 [] h' []:=by rw [hh9]; exact Hp.nil h' []
 rw [<- hh9] at hvall HA
 have hx9:=hx.ext HA.hext
 have hc9:=HA.cell (k:=0) (i:=2) rfl rfl
 refine ⟨fun m vs h'=>∃ (i:Nat) (R:List Ent) (qo:Option Addr) (co:Nat),i+m=all.length/\vs=[.slice qo (pickTo all ex i).length co, .int .i64 (i:Nat)]/\ListO R qo co (pickTo all ex i)/\Hp h9 [] h' R,⟨all.length,0,[],none,0,by omega,rfl,ListO.nil,H⟩,?_⟩
 clear H e
 rintro m h u xq xn xc xi ⟨i,R,qo,co,him,hxx,hL,H⟩
 injection hxx with hx1 hxx
 injection hxx with hx2 hxx
 injection hx1 with hx1 hx3 hx4
 injection hx2 with _ hx2
 subst xq xn xc xi
 refine bcase_dec (fun h1=>?_) fun h1=>?_
 ·have hil:i<all.length:=by omega
  have hmay:=sy_may hmall hil
  have hws:=may_ws hmay
  have hpl:=pickTo_len all ex i
  obtain ⟨a,q5,c5,hqa,hc⟩:=sy_c hvall hil
  refine needs_of (by omega) (ptr_at hqa ?_)
  rw [Int.toNat_natCast]
  refine ldI_of (hc.ext H.hext).c0 (ldI_of (hc.ext H.hext).c1 (ldS_of (hc.ext H.hext).c2 ?_))
  refine newC_hp H fun r29 h H=>?_
  have H:=H.rot
  refine stA H 0 rfl rfl rfl fun h H=>?_
  refine stA H 0 rfl rfl rfl fun h H=>?_
  refine stA H 0 rfl rfl rfl fun h H=>?_
  have H:Hp h9 [] h ([⟨r29,true,T_api_Bitmap,[.int .i64 (sy all i).w, .int .i64 (sy all i).h, .slice q5 (sy all i).ws.length c5]⟩]++R):=H
  refine ldS_of (H.hext.cell hc9) ?_
  obtain ⟨a2,hqa2,hc2⟩:=rdO_cell (H.rdO hx9) (i:=i) (fl_at (by omega))
  refine needs_of (by omega) (ptr_at hqa2 ?_)
  rw [Nat.mul_one]
  refine ldB_of hc2 ?_
  refine bcase_of (fun h3=>?_) fun h3=>?_
  ·have hpk:pickTo all ex (i+1)=pickTo all ex i++[sy all i]:=by
    show pickTo all ex i++(if ex.getD i false=true then [sy all i] else [])=_
    rw [if_pos h3]
   refine ldS_of (hpA H 0 rfl rfl) ?_
   refine cloneB_ok (rdO_ext H.hext hc.r1) hc.w1 (by omega) fun o h4 ho hob H'=>?_
   replace H:=H.join H' ho.s.w
   clear H'
   refine ⟨_,_,_,rfl,?_⟩
   refine stA H 0 rfl rfl rfl fun h5 H=>?_
   refine ldI_of (hpA H 0 rfl rfl) (ldI_of (hpA H 0 rfl rfl) (ldS_of (hpA H 0 rfl rfl) ?_))
   refine newC_hp H fun r45 h H=>?_
   have H:Hp h9 [] h ([⟨r29,true,T_api_Bitmap,[.int .i64 (sy all i).w, .int .i64 (sy all i).h, .slice o.q (sy all i).ws.length o.c]⟩]++((R++o.D)++[⟨r45,true,T_api_Bitmap,[.int .i64 (sy all i).w, .int .i64 (sy all i).h, .slice o.q (sy all i).ws.length o.c]⟩])):=H
   have H:=Hp.suf H
   rw [<- hob] at H
   have H:Hp h9 [] h (([]++R)++(o.D++[⟨r45,true,T_api_Bitmap,o.cs⟩])):=H.as (by simp only [List.append_assoc,List.nil_append]; rfl)
   refine hL.app ho H (by omega) fun R' q' c' h' hL' H=>?_
   rw [hob,<- hpk] at hL'
   refine bindI_of (((i+1:Nat):Int)) (by exact i64_at _ _ (by omega) (by omega) (by omega)) ?_
   exact ⟨m-1,by omega,i+1,R',q',c',by omega,by rw [hpk,List.length_append]; rfl,hL',H⟩
  ·have hpk:pickTo all ex (i+1)=pickTo all ex i:=by
    show pickTo all ex i++(if ex.getD i false=true then [sy all i] else [])=_
    rw [if_neg (by rw [h3]; decide),List.append_nil]
   refine bindI_of (((i+1:Nat):Int)) (by exact i64_at _ _ (by omega) (by omega) (by omega)) ?_
   exact ⟨m-1,by omega,i+1,R,qo,co,by omega,by rw [hpk],by rw [hpk]; exact hL,Hp.suf H⟩
 ·obtain rfl:i=all.length:=by omega
  exact hk R qo co h hL (Hp.suf (HA.join H hL.w))
end
end Go.Bm
namespace Go.Den.YtfaclehehhgpcaaGreat
open Go Go.Den
def burinlaw13_wakes (C:CallP)  (h:Heap) (K:VK) (Kp:PK):Prop :=
C F_burinref0_White #[.int .i64 2, .int .i64 1] h (fun v_1 h_2 =>
∃ (r_3:Int) (r_4:Int) (r_5:Option Addr) (r_5n:Nat) (r_5c:Nat),v_1 = .agg #[.int .i64 r_3, .int .i64 r_4, .slice r_5 r_5n r_5c]/\(
newC h_2 [.int .u64 9223372036854775808, .int .u64 0] T_uint64 fun r_6 h_7 =>
newC h_7 [.int .i64 r_3, .int .i64 r_4, .slice r_5 r_5n r_5c, .int .i64 1, .int .i64 2, .slice (some ⟨r_6,0,none⟩) 2 2] T_api_Bitmap fun r_8 h_9 =>
newC h_9 [.bool true, .bool false, .bool true] T_bool fun r_10 h_11 =>
newC h_11 [.int .i64 0, .slice none 0 0, .slice none 0 0] T_api_Dict fun r_12 h_13 =>
stV h_13 ((⟨r_12,0,none⟩:Addr).add 0) (.int .i64 2) fun h_14 =>
stV h_14 ((⟨r_12,0,none⟩:Addr).add 1) (.slice (some ⟨r_8,0,none⟩) 2 2) fun h_15 =>
stV h_15 ((⟨r_12,0,none⟩:Addr).add 2) (.slice (some ⟨r_10,0,none⟩) 3 3) fun h_16 =>
C F_burinref0_White #[.int .i64 3, .int .i64 3] h_16 (fun v_17 h_18 =>
∃ (r_19:Int) (r_20:Int) (r_21:Option Addr) (r_21n:Nat) (r_21c:Nat),v_17 = .agg #[.int .i64 r_19, .int .i64 r_20, .slice r_21 r_21n r_21c]/\(
newC h_18 [.int .i64 r_19, .int .i64 r_20, .slice r_21 r_21n r_21c] T_api_Bitmap fun r_22 h_23 =>
ldI h_23 ((⟨r_12,0,none⟩:Addr).add 0) .i64 fun x_24 =>
ldS h_23 ((⟨r_12,0,none⟩:Addr).add 1) fun x_25 x_25n x_25c =>
ldS h_23 ((⟨r_12,0,none⟩:Addr).add 2) fun x_26 x_26n x_26c =>
C F_dict_Encode #[.agg #[.int .i64 x_24, .slice x_25 x_25n x_25c, .slice x_26 x_26n x_26c], .slice (some ⟨r_22,0,none⟩) 1 1] h_23 (fun v_27 h_28 =>
∃ (r_29:Option Addr) (r_29n:Nat) (r_29c:Nat),∃ (r_30:Int),v_27 = .tuple #[.slice r_29 r_29n r_29c, .int .i64 r_30]/\(
C F_dict_Decode #[.slice r_29 r_29n r_29c, .slice (some ⟨r_22,0,none⟩) 1 1] h_28 (fun v_31 h_32 =>
∃ (r_33:Int) (r_34:Option Addr) (r_34n:Nat) (r_34c:Nat) (r_35:Option Addr) (r_35n:Nat) (r_35c:Nat),∃ (r_36:Int),v_31 = .tuple #[.agg #[.int .i64 r_33, .slice r_34 r_34n r_34c, .slice r_35 r_35n r_35c], .int .i64 r_36]/\(
newC h_32 [.int .i64 0, .slice none 0 0, .slice none 0 0] T_api_Dict fun r_37 h_38 =>
stV h_38 ((⟨r_37,0,none⟩:Addr).add 0) (.int .i64 r_33) fun h_39 =>
stV h_39 ((⟨r_37,0,none⟩:Addr).add 1) (.slice r_34 r_34n r_34c) fun h_40 =>
stV h_40 ((⟨r_37,0,none⟩:Addr).add 2) (.slice r_35 r_35n r_35c) fun h_41 =>
ldI h_41 ((⟨r_12,0,none⟩:Addr).add 0) .i64 fun x_42 =>
ldS h_41 ((⟨r_12,0,none⟩:Addr).add 1) fun x_43 x_43n x_43c =>
ldS h_41 ((⟨r_12,0,none⟩:Addr).add 2) fun x_44 x_44n x_44c =>
C F_dict_Exported #[.agg #[.int .i64 x_42, .slice x_43 x_43n x_43c, .slice x_44 x_44n x_44c], .slice (some ⟨r_22,0,none⟩) 1 1] h_41 (fun v_45 h_46 =>
∃ (r_47:Option Addr) (r_47n:Nat) (r_47c:Nat),∃ (r_48:Int),v_45 = .tuple #[.slice r_47 r_47n r_47c, .int .i64 r_48]/\(
bcase (r_30 == (0:Int)) (
bcase (r_36 == (0:Int)) (
bcase (r_48 == (0:Int)) (
bcase (decide ((r_29n:Int) > (2:Int))) (
ldI h_46 ((⟨r_37,0,none⟩:Addr).add 0) .i64 fun x_49 =>
ldS h_46 ((⟨r_37,0,none⟩:Addr).add 1) fun x_50 x_50n x_50c =>
ldS h_46 ((⟨r_37,0,none⟩:Addr).add 2) fun x_51 x_51n x_51c =>
ldI h_46 ((⟨r_12,0,none⟩:Addr).add 0) .i64 fun x_52 =>
ldS h_46 ((⟨r_12,0,none⟩:Addr).add 1) fun x_53 x_53n x_53c =>
ldS h_46 ((⟨r_12,0,none⟩:Addr).add 2) fun x_54 x_54n x_54c =>
C F_burinref0_EqDict #[.agg #[.int .i64 x_49, .slice x_50 x_50n x_50c, .slice x_51 x_51n x_51c], .agg #[.int .i64 x_52, .slice x_53 x_53n x_53c, .slice x_54 x_54n x_54c]] h_46 (fun v_55 h_56 =>
∃ (r_57:Bool),v_55 = .bool r_57/\(
bcase r_57 (
bcase ((r_47n:Int) == (2:Int)) (
needs (0<=(0:Int)/\(0:Int)<(r_47n:Int)) <|
ptr r_47 fun a_58 =>
ldI h_56 ((a_58.add ((0:Int).toNat*3)).add 0) .i64 fun x_59 =>
bcase (x_59 == (3:Int)) (
needs (0<=(1:Int)/\(1:Int)<(r_47n:Int)) <|
ptr r_47 fun a_60 =>
ldI h_56 ((a_60.add ((1:Int).toNat*3)).add 1) .i64 fun x_61 =>
K (.bool (x_61 == (2:Int))) h_56) <|
K (.bool false) h_56) <|
K (.bool false) h_56) <|
K (.bool false) h_56)) (Kp)) <|
K (.bool false) h_46) <|
K (.bool false) h_46) <|
K (.bool false) h_46) <|
K (.bool false) h_46)) (Kp))) (Kp))) (Kp))) (Kp))) (Kp)
end Go.Den.YtfaclehehhgpcaaGreat
namespace Go.Den.YtfaclehehhgpcaaGreat
open Go Go.Den
theorem call_burinlaw13_wakes  {h:Heap} {K:VK} {Kp:PK} (H:burinlaw13_wakes (CallsHP Go.Proofs.Tryz.prog)  h K Kp):CallsHP Go.Proofs.Tryz.prog F_burinlaw13_wakes #[] h K Kp :=
 callsHP_ofE (Hints.mk (fun i=>none) (fun i=>none) (fun i=>none) []) (by kernel_rfl) Go.Proofs.Tryz.func40 (by kernel_rfl) (fun C=>burinlaw13_wakes C  h K Kp) (fun C=>by kernel_rfl) H
end Go.Den.YtfaclehehhgpcaaGreat
namespace Go.Bm
open Go Go.Den Go.Den.YtfaclehehhgpcaaGreat
section
variable {hB:Heap} {K:VK} {Kp:PK}
theorem eqBs_ok {q1 q2:Option Addr} {c1 c2:Nat} {l:List Bmp} (h1:BmsV hB q1 l) (h2:BmsV hB q2 l) (hl:l.length<=1000000000000) (hk:∀ h',hext hB h'->K (.bool true) h') :
  CP F_burinref0_EqBitmaps #[.slice q1 l.length c1, .slice q2 l.length c2] hB K Kp:=by
 refine call_burinref0_EqBitmaps ?_
 unfold burinref0_EqBitmaps
 refine bcase_ne (fun hh=>absurd rfl hh) fun _=>?_
 refine ⟨fun m vs h'=>∃ i:Nat,i+m=l.length/\vs=[.int .i64 (i:Nat)]/\hext hB h',⟨l.length,0,by omega,rfl,hext.refl _⟩,?_⟩
 rintro m h u xi ⟨i,him,hxx,e⟩
 injection hxx with hxx
 injection hxx with _ hxx
 subst xi
 refine bcase_dec (fun h3=>?_) fun h3=>hk h e
 obtain ⟨a,qa,ca,hqa,hA⟩:=sy_c (h1.ext e) (i:=i) (by omega)
 obtain ⟨b,qb,cb,hqb,hB'⟩:=sy_c (h2.ext e) (i:=i) (by omega)
 refine needs_of (by omega) (ptr_at hqa (needs_of (by omega) (ptr_at hqb ?_)))
 rw [Int.toNat_natCast]
 refine ldI_of hA.c0 (ldI_of hA.c1 (ldS_of hA.c2 (ldI_of hB'.c0 (ldI_of hB'.c1 (ldS_of hB'.c2 ?_)))))
 refine eqB_ok hA.r1 hB'.r1 hA.l1 fun h' e'=>?_
 refine ⟨_,rfl,?_⟩
 rw [decide_eq_true ⟨rfl,rfl,rfl⟩]
 refine bcase_false (by rfl) ?_
 refine bindI_of (((i+1:Nat):Int)) (by exact i64_at _ _ (by omega) (by omega) (by omega)) ?_
 exact ⟨m-1,by omega,i+1,by omega,rfl,e.trans e'⟩
theorem eqFls_ok {q1 q2:Option Addr} {c1 c2:Nat} {l:List Bool} (h1:FlsV hB q1 l) (h2:FlsV hB q2 l) (hl:l.length<=200000000000000) (hk:∀ h',hext hB h'->K (.bool true) h') :
  CP F_burinref0_EqFlags #[.slice q1 l.length c1, .slice q2 l.length c2] hB K Kp:=by
 refine call_burinref0_EqFlags ?_
 unfold burinref0_EqFlags
 refine bcase_ne (fun hh=>absurd rfl hh) fun _=>?_
 refine ⟨fun m vs h'=>∃ i:Nat,i+m=l.length/\vs=[.int .i64 (i:Nat)]/\h'=hB,⟨l.length,0,by omega,rfl,rfl⟩,?_⟩
 rintro m h u xi ⟨i,him,hxx,rfl⟩
 injection hxx with hxx
 injection hxx with _ hxx
 subst xi
 refine bcase_dec (fun h3=>?_) fun h3=>hk h (hext.refl _)
 obtain ⟨a,hqa,hA⟩:=rdO_cell h1 (i:=i) (fl_at (by omega))
 obtain ⟨b,hqb,hB'⟩:=rdO_cell h2 (i:=i) (fl_at (by omega))
 refine needs_of (by omega) (ptr_at hqa (needs_of (by omega) (ptr_at hqb ?_)))
 rw [Int.toNat_natCast,Nat.mul_one]
 refine ldB_of hA (ldB_of hB' ?_)
 refine bcase_false (by simp) ?_
 refine bindI_of (((i+1:Nat):Int)) (by exact i64_at _ _ (by omega) (by omega) (by omega)) ?_
 exact ⟨m-1,by omega,i+1,by omega,rfl,rfl⟩
theorem eqDict_ok {q1 q2 p1 p2:Option Addr} {c1 c2 d1 d2:Nat} {t:Int} {new:List Bmp} {ex:List Bool} (h1:BmsV hB q1 new) (h2:BmsV hB q2 new) (g1:FlsV hB p1 ex) (g2:FlsV hB p2 ex) (hl:new.length<=1000000000000) (hl2:ex.length<=200000000000000) (hk:∀ h',hext hB h'->K (.bool true) h') :
  CP F_burinref0_EqDict #[.agg #[.int .i64 t, .slice q1 new.length c1, .slice p1 ex.length d1], .agg #[.int .i64 t, .slice q2 new.length c2, .slice p2 ex.length d2]] hB K Kp:=by
 refine call_burinref0_EqDict ?_
 unfold burinref0_EqDict
 have H:=Hp.nil hB []
 refine newC_hp H fun r7 h H=>?_
 refine newC_hp H fun r9 h H=>?_
 have H:Hp hB [] h [⟨r7,true,T_api_Dict,[.int .i64 t, .slice q1 new.length c1, .slice p1 ex.length d1]⟩,⟨r9,true,T_api_Dict,[.int .i64 t, .slice q2 new.length c2, .slice p2 ex.length d2]⟩]:=H
 refine ldI_of (hpA H 0 rfl rfl) (ldI_of (hpA H 1 rfl rfl) ?_)
 refine bcase_true (by simp) ?_
 refine ldS_of (hpA H 0 rfl rfl) (ldS_of (hpA H 1 rfl rfl) ?_)
 refine eqBs_ok (h1.ext H.hext) (h2.ext H.hext) hl fun h' e=>?_
 have H:=H.ext e
 refine ⟨_,rfl,?_⟩
 refine bcase_true (by rfl) ?_
 refine ldS_of (hpA H 0 rfl rfl) (ldS_of (hpA H 1 rfl rfl) ?_)
 refine eqFls_ok (g1.ext H.hext) (g2.ext H.hext) hl2 fun h' e=>?_
 exact ⟨_,rfl,hk _ (H.hext.trans e)⟩
end
end Go.Bm
namespace Go.Bm
open Go Go.Den Go.Den.YtfaclehehhgpcaaGreat
section
variable {h0 h:Heap} {F:List Nat} {A B D:List Ent}
end
section
variable {h0 h:Heap} {F:List Nat} {A R:List Ent} {q:Option Addr} {c:Nat} {l:List Bmp} {K:VK} {Kp:PK}
end
end Go.Bm
namespace Go.Bm
open Go Go.Den Go.Den.YtfaclehehhgpcaaGreat
open Go.Ar (Dec newD decL BOk)
structure GR (m t w h:Nat) (s:Dec) (bs:List Nat) (s':Dec):Prop where
 run:runG w t false (stepG m 1536) h (fun _ _=>false,s) = .inl (getP bs w h,s')
 len:bs.length=h*wds w
 w64:W64 bs
 pad:PadZ w h bs
theorem GR.det {m t w h:Nat} {s:Dec} {bs bs':List Nat} {s1 s2:Dec} (h1:GR m t w h s bs s1) (h2:GR m t w h s bs' s2):bs=bs'/\s1=s2:=by
 have h3:=h1.run.symm.trans h2.run
 injection h3 with h3
 injection h3 with h3 h4
 exact ⟨getP_ext h1.len h2.len h1.w64 h2.w64 h1.pad h2.pad h3,h4⟩
open Classical in
noncomputable def gGet (m t w h:Nat) (s:Dec):List Nat × Dec:=if hx:∃ x:List Nat × Dec,GR m t w h s x.1 x.2 then Classical.choose hx else ([],s)
theorem gGet_eq {m t w h:Nat} {s:Dec} {bs:List Nat} {s':Dec} (h1:GR m t w h s bs s'):gGet m t w h s=(bs,s'):=by
 have hx:∃ x:List Nat × Dec,GR m t w h s x.1 x.2:=⟨(bs,s'),h1⟩
 unfold gGet
 rw [dif_pos hx]
 obtain ⟨e1,e2⟩:=(Classical.choose_spec hx).det h1
 exact Prod.ext e1 e2
noncomputable def clsF (m t n:Nat) (hh:Int):Nat->List Bmp->Nat->Int->Bool->Dec->Except Int (List Bmp × Nat × Dec)
 | 0,_,_,_,_,_ => .error (-1)
 | f+1,new,area,w,first,s =>
  if (decW m 512 s).1.1≠0 then .error 130
  else if (decW m 512 s).1.2.2=true then (if first=true then .error 130 else .ok (new,area,(decW m 512 s).2))
  else if new.length=n\/(decW m 512 s).1.2.1<0\/w+(decW m 512 s).1.2.1<1 then .error 130
  else if 1048576<w+(decW m 512 s).1.2.1\/1048576<(area:Int)+(w+(decW m 512 s).1.2.1)*hh then .error 120
  else clsF m t n hh f (new++[⟨w+(decW m 512 s).1.2.1,hh,(gGet m t (w+(decW m 512 s).1.2.1).toNat hh.toNat (decW m 512 s).2).1⟩]) (area+(w+(decW m 512 s).1.2.1).toNat*hh.toNat) (w+(decW m 512 s).1.2.1) false (gGet m t (w+(decW m 512 s).1.2.1).toNat hh.toNat (decW m 512 s).2).2
noncomputable def symF (m t n:Nat):Nat->List Bmp->Nat->Int->Dec->Except Int (List Bmp × Dec)
 | 0,_,_,_,_ => .error (-1)
 | f+1,new,area,hh,s =>
  if n<=new.length then .ok (new,s)
  else if (decW m 0 s).1.1≠0 then .error 130
  else if (decW m 0 s).1.2.2=true\/(decW m 0 s).1.2.1<1 then .error 130
  else if 1048576<hh+(decW m 0 s).1.2.1 then .error 120
  else match clsF m t n (hh+(decW m 0 s).1.2.1) (n-new.length+2) new area 0 true (decW m 0 s).2 with
   | .error e => .error e
   | .ok (new',area',s')=>symF m t n f new' area' (hh+(decW m 0 s).1.2.1) s'
noncomputable def flF (m n:Nat):Nat->List Bool->Bool->Bool->Dec->Except Int (List Bool)
 | 0,_,_,_,_ => .error (-1)
 | f+1,ex,v,first,s =>
  if n<=ex.length then .ok ex
  else if (decW m 1024 s).1.1≠0 then .error 130
  else if (decW m 1024 s).1.2.2=true\/(decW m 1024 s).1.2.1<0\/((decW m 1024 s).1.2.1=0/\first=false)\/(n:Int)-(ex.length:Int)<(decW m 1024 s).1.2.1 then .error 130
  else flF m n f (ex++List.replicate (decW m 1024 s).1.2.1.toNat v) (!v) false (decW m 1024 s).2
open Classical in
noncomputable def decD (b:List Nat) (imp:List Bmp):Except Int (Nat × List Bmp × List Bool) :=
 if ¬ MayL imp then .error 130
 else if 4096<imp.length then .error 120
 else match b[0]? with
  | none => .error 130
  | some t=>if 3<t then .error 130
   else if (varP b 1).1≠0 then .error 130
   else if 4096-imp.length<(varP b 1).2.1 then .error 120
   else match symF (szD t) t (varP b 1).2.1 ((varP b 1).2.1+1) [] 0 0 (newD (b.drop (varP b 1).2.2) (szD t)) with
    | .error e => .error e
    | .ok (new,s)=>match flF (szD t) (imp.length+(varP b 1).2.1) (imp.length+(varP b 1).2.1+2) [] false true s with
     | .error e => .error e
     | .ok ex => .ok (t,new,ex)
section
variable {hB:Heap} {K:VK} {Kp:PK}
theorem dwrong_ok {bad:Bool} (hk:bad=false->K (.tuple #[]) hB) (hp:bad=true->Kp (dflt 130) hB):CP F_dict_wrong #[.bool bad] hB K Kp:=by
 refine call_dict_wrong ?_
 unfold dict_wrong
 exact bcase_of (fun h1=>hp h1) fun h1=>hk h1
theorem dbig_ok {bad:Bool} (hk:bad=false->K (.tuple #[]) hB) (hp:bad=true->Kp (dflt 120) hB):CP F_dict_big #[.bool bad] hB K Kp:=by
 refine call_dict_big ?_
 unfold dict_big
 exact bcase_of (fun h1=>hp h1) fun h1=>hk h1
def RdS (r p:Nat) (t:Nat) (qn:Option Addr) (nn cn:Nat) (qe:Option Addr) (ne ce:Nat) (left area:Nat):Ent :=
 ⟨r,true,T_dict_reader,[.pointer (at0 p), .int .i64 (t:Nat), .slice qn nn cn, .slice qe ne ce, .int .i64 (left:Nat), .int .i64 (area:Nat)]⟩
theorem ansW_e (sg x:Nat):(ansW sg x).1=0\/(ansW sg x).1=50:=by
 unfold ansW
 split
 ·exact .inr rfl
 ·split
  ·split
   ·exact .inl rfl
   ·exact .inl rfl
  ·exact .inl rfl
theorem ansW_v {sg x:Nat}:-2147483648<=(ansW sg x).2.1/\(ansW sg x).2.1<=2147483648:=by
 unfold ansW
 split
 ·exact ⟨by decide,by decide⟩
 ·split
  ·split
   ·exact ⟨by decide,by decide⟩
   ·dsimp only; omega
  ·dsimp only; omega
theorem decW_e (m:Nat) (base:Int) (s:Dec):(decW m base s).1.1=0\/(decW m base s).1.1=50:=ansW_e _ _
theorem decW_v (m:Nat) (base:Int) (s:Dec):-2147483648<=(decW m base s).1.2.1/\(decW m base s).1.2.1<=2147483648:=ansW_v
variable {h:Heap} {r p q m n0 t nn cn ne ce left area bc:Nat} {qn qe bp:Option Addr} {e:Ent} {s:Dec} {bytes:List Nat} {X:List Ent}
theorem rnum_ok (H:Hp hB [] h (RdS r p t qn nn cn qe ne ce left area::(decL p q e bp bc s++X))) (hXw:X.all Ent.w=true) (hb:BOk e bp bytes) (hok:Go.Ar.DecOk bytes m n0 s) (hbl:bytes.length<140737488351300) (hn:n0+64<=16777216) (hm1:1<=m) (hm2:m<=131072) {base:Int} (hfit:0<=base/\base+(512:Nat)<=(m:Nat))
  (hk:∀ h' n',(decW m base s).1.1=0->n'<=n0+64->Go.Ar.DecOk bytes m n' (decW m base s).2->Hp hB [] h' (RdS r p t qn nn cn qe ne ce left area::(decL p q e bp bc (decW m base s).2++X))->K (.agg #[.int .i64 (decW m base s).1.2.1, .bool (decW m base s).1.2.2]) h')
  (hp:∀ J h',(decW m base s).1.1≠0->Hp hB [] h' (X++J)->Kp (dflt 130) h'):CP F_dict_reader_number #[.pointer (some ⟨r,0,none⟩), .int .i64 base] h K Kp:=by
 refine call_dict_reader_number ?_
 unfold dict_reader_number
 refine newC_hp H fun r1 h H=>?_
 have H:Hp hB [] h (RdS r p t qn nn cn qe ne ce left area::(decL p q e bp bc s++(X++[⟨r1,true,T_api_Whole,[.int .i64 0, .bool false]⟩]))):=H.as (by simp [List.append_assoc])
 refine ptr_of (a:=⟨r,0,none⟩) (ldP_of (hpA H 0 rfl rfl) ?_)
 have hw:=hb.1
 refine wget_ok (H.give [1,2,3] (by simp) rfl) hw hb hok hbl hn hm1 hm2 hfit fun h' n' hn' hok' H'=>?_
 have H:=H.put [1,2,3] (by simp) rfl (by simp [decL,Go.Ar.decE,hw]) H' (by simp [decL,Go.Ar.decE,hw]) rfl
 clear H'
 refine ⟨_,_,_,rfl,?_⟩
 have H:Hp hB [] h' (RdS r p t qn nn cn qe ne ce left area::(decL p q e bp bc (decW m base s).2++(X++[⟨r1,true,T_api_Whole,[.int .i64 0, .bool false]⟩]))):=H
 generalize hdec:decW m base s=dw at *
 obtain ⟨⟨ee,v,nn'⟩,s'⟩:=dw
 dsimp only at *
 refine newC_hp H fun r10 h H=>?_
 have H:Hp hB [] h (((RdS r p t qn nn cn qe ne ce left area::decL p q e bp bc s')++X)++[⟨r1,true,T_api_Whole,[.int .i64 0, .bool false]⟩,⟨r10,true,T_api_Whole,[.int .i64 0, .bool false]⟩]):=H.as (by simp [List.append_assoc])
 have H:=H.rot
 refine stA H 1 rfl rfl rfl fun h H=>?_
 refine stA H 1 rfl rfl rfl fun h H=>?_
 have H:Hp hB [] h ([⟨r1,true,T_api_Whole,[.int .i64 0, .bool false]⟩,⟨r10,true,T_api_Whole,[.int .i64 v, .bool nn']⟩]++((RdS r p t qn nn cn qe ne ce left area::decL p q e bp bc s')++X)):=H
 have he:=decW_e m base s
 rw [hdec] at he
 have he:ee=0\/ee=50:=he
 refine dwrong_ok (fun h1=>?_) fun h1=>?_
 ·have h1:ee≠50:=by simpa using h1
  obtain rfl:ee=0:=by omega
  refine need0_ok ?_
  refine ldI_of (hpA H 1 rfl rfl) (ldB_of (hpA H 1 rfl rfl) ?_)
  refine stA H 0 rfl rfl rfl fun h H=>?_
  refine stA H 0 rfl rfl rfl fun h H=>?_
  refine ldI_of (hpA H 0 rfl rfl) (ldB_of (hpA H 0 rfl rfl) ?_)
  exact hk h n' rfl hn' hok' (Hp.suf (X:=[_,_]) H)
 ·have h1:ee=50:=by simpa using h1
  have H:=(Hp.suf H).rot
  exact hp _ h (by omega) H
end
end Go.Bm
namespace Go.Bm
open Go Go.Den Go.Den.YtfaclehehhgpcaaGreat
open Go.Ar (Dec decL BOk)
theorem SizeP.mk' {w h:Int} (h1:1<=w) (h2:w<=1048576) (h3:1<=h) (h4:h<=1048576) (h5:w*h<=1048576):SizeP w h:=by unfold SizeP; omega
section
variable {hB h:Heap} {K:VK} {Kp:PK}
variable {r p q m t n bc cn area0 c0 hh:Nat} {qn bp:Option Addr} {e:Ent} {s:Dec} {bytes:List Nat} {X RN:List Ent} {new0:List Bmp} {Rz:Except Int (List Bmp × Nat × Dec)}
set_option maxHeartbeats 8000000 in
theorem class_ok (H:Hp hB [] h ((RdS r p t qn new0.length cn none 0 0 (n-new0.length) area0::(decL p q e bp bc s++X))++RN)) (hL:ListO RN qn cn new0) (hXw:X.all Ent.w=true) (hb:BOk e bp bytes) (hok:Go.Ar.DecOk bytes m c0 s) (hbl:bytes.length<140737488351300)
  (ht:t<4) (hm:m=szD t) (hh1:1<=hh/\hh<=1048576) (hn:n<=4096) (hnl:new0.length<=n) (har:area0<=1048576) (hc0:c0<=192*new0.length+2*area0+64) (hM:MayL new0)
  (hres:clsF m t n (hh:Nat) (n-new0.length+2) new0 area0 0 true s=Rz)
  (hk:∀ new' area' s' c' RN' qn' cn' h',Rz = .ok (new',area',s')->new0.length<new'.length->new'.length<=n->area'<=1048576->c'<=192*new'.length+2*area'->Go.Ar.DecOk bytes m c' s'->ListO RN' qn' cn' new'->MayL new' ->
   Hp hB [] h' ((RdS r p t qn' new'.length cn' none 0 0 (n-new'.length) area'::(decL p q e bp bc s'++X))++RN')->K (.tuple #[]) h')
  (hp:∀ er J h',Rz = .error er->Hp hB [] h' (X++J)->Kp (dflt er) h') :
  CP F_dict_reader_class #[.pointer (some ⟨r,0,none⟩), .int .i64 (hh:Nat)] h K Kp:=by
 refine call_dict_reader_class ?_
 unfold dict_reader_class
 have hsz:=szD_le ht
 refine ⟨fun f vs h'=>∃ (new:List Bmp) (area cnt:Nat) (w:Nat) (first:Bool) (s:Dec) (RN:List Ent) (qn:Option Addr) (cn:Nat),f=n-new.length+2/\clsF m t n (hh:Nat) f new area (w:Nat) first s=Rz/\new0.length<=new.length/\new.length<=n/\(first=false->new0.length<new.length)/\area<=1048576/\w<=1048576 /\
   cnt+128*new0.length<=192*new0.length+64*new.length+64*new0.length+2*area+64/\vs=[.int .i64 (w:Nat), .bool first]/\Go.Ar.DecOk bytes m cnt s/\ListO RN qn cn new/\MayL new/\Hp hB [] h' ((RdS r p t qn new.length cn none 0 0 (n-new.length) area::(decL p q e bp bc s++X))++RN),
  ⟨n-new0.length+2,new0,area0,c0,0,true,s,RN,qn,cn,rfl,hres,Nat.le_refl _,hnl,(fun hh=>by cases hh),har,by omega,by omega,rfl,hok,hL,hM,H⟩,?_⟩
 clear H hL hok hres hM
 rintro f h u xw xf ⟨new,area,cnt,w,first,s,RN,qn,cn,rfl,hres,hlo,hln,hfi,har,hw,hcnt,hxx,hok,hL,hM,H⟩
 injection hxx with hx1 hxx
 injection hxx with hx2 hxx
 injection hx1 with _ hx1
 injection hx2 with hx2
 subst xw xf
 have H:Hp hB [] h (RdS r p t qn new.length cn none 0 0 (n-new.length) area::(decL p q e bp bc s++(X++RN))):=H.as (by simp only [List.cons_append,List.append_assoc])
 have hXR:(X++RN).all Ent.w=true:=by rw [List.all_append,hXw,hL.w]; rfl
 have pan:∀ {J h},Hp hB [] h ((X++RN)++J)->∃ J',Hp hB [] h (X++J'):=fun {J h} H=>⟨RN++J,H.asc⟩
 have hdv:=decW_v m 512 s
 unfold clsF at hres
 refine rnum_ok H hXR hb hok hbl (by omega) (by omega) (by omega) (by omega) (fun h c1 he hc1 hok1 H=>?_) fun J h he H=>?_
 rotate_left
 ·rw [if_pos he] at hres
  obtain ⟨J',H⟩:=pan H
  exact hp 130 J' h hres.symm H
 rw [if_neg (by rw [he]; decide)] at hres
 clear he
 generalize decW m 512 s=dw at *
 obtain ⟨⟨ee,v,nn'⟩,s1⟩:=dw
 dsimp only at *
 refine ⟨_,_,rfl,?_⟩
 refine newC_hp H fun r12 h H=>?_
 have H:=H.rot
 refine stA H 0 rfl rfl rfl fun h H=>?_
 refine stA H 0 rfl rfl rfl fun h H=>?_
 have H:Hp hB [] h (⟨r12,true,T_api_Whole,[.int .i64 v, .bool nn']⟩::RdS r p t qn new.length cn none 0 0 (n-new.length) area::(decL p q e bp bc s1++(X++RN))):=H
 have pan2:∀ {h},Hp hB [] h (⟨r12,true,T_api_Whole,[.int .i64 v, .bool nn']⟩::RdS r p t qn new.length cn none 0 0 (n-new.length) area::(decL p q e bp bc s1++(X++RN)))->Hp hB [] h (X++RN):=fun H=>H.sub (((List.sublist_append_right _ _).cons _).cons _)
 refine ldB_of (hpA H 0 rfl rfl) ?_
 refine bcase_of (fun h1=>?_) fun h1=>?_
 ·rw [if_pos h1] at hres
  refine dwrong_ok (fun h2=>?_) fun h2=>?_
  ·rw [if_neg (by rw [h2]; decide)] at hres
   have:=hfi h2
   exact hk new area s1 c1 RN qn cn h hres.symm this hln har (by omega) hok1 hL hM ((Hp.suf (X:=[_]) H).as (by simp only [List.cons_append,List.append_assoc]))
  ·rw [if_pos h2] at hres
   exact hp 130 RN h hres.symm (pan2 H)
 rw [if_neg (by rw [h1]; decide)] at hres
 refine ldI_of (hpA H 0 rfl rfl) ?_
 obtain ⟨w',hw'⟩:∃ w':Int,w'=(w:Int)+v:=⟨_,rfl⟩
 rw [<- hw'] at hres
 refine bindI_of (w') (by (rw [hw']; exact i64_in _ (by omega) (by omega))) ?_
 refine ⟨fun _ h'=>¬ (new.length=n\/v<0\/w'<1)/\h'=h,?_,?_⟩
 ·refine ptr_of (a:=⟨r,0,none⟩) (ldI_of (hpA H 1 rfl rfl) ?_)
  refine bcase_eq (fun h2=>?_) fun h2=>?_
  ·rw [if_pos (.inl (by omega))] at hres
   exact dwrong_ok (fun hh=>by cases hh) fun _=>hp 130 RN h hres.symm (pan2 H)
  refine ldI_of (hpA H 0 rfl rfl) ?_
  refine bcase_dec (fun h3=>?_) fun h3=>?_
  ·rw [if_pos (.inr (.inl h3))] at hres
   exact dwrong_ok (fun hh=>by cases hh) fun _=>hp 130 RN h hres.symm (pan2 H)
  refine dwrong_ok (fun h4=>?_) fun h4=>?_
  ·have h4:¬ w'<1:=of_decide_eq_false h4
   exact ⟨by omega,rfl⟩
  ·have h4:w'<1:=of_decide_eq_true h4
   rw [if_pos (.inr (.inr h4))] at hres
   exact hp 130 RN h hres.symm (pan2 H)
 rintro h' u ⟨hc1',rfl⟩
 rw [if_neg hc1'] at hres
 have hprod:∀ z:Int,1<=z->z<=1048576->1<=z*(hh:Int)/\z*(hh:Int)<=1099511627776:=fun z hz1 hz2=>prod_le hz1 (by omega) hz2 (by omega)
 refine ⟨fun _ h''=>¬ (1048576<w'\/1048576<(area:Int)+w'*(hh:Int))/\h''=h',?_,?_⟩
 ·refine bcase_dec (fun h2=>?_) fun h2=>?_
  ·rw [if_pos (.inl (by omega))] at hres
   exact dbig_ok (fun hh=>by cases hh) fun _=>hp 120 RN _ hres.symm (pan2 H)
  have hpr:=hprod w' (by omega) (by omega)
  refine bindI_of ((w'*(hh:Int))) (by exact i64_in _ (by omega) (by omega)) ?_
  refine ptr_of (a:=⟨r,0,none⟩) (ldI_of (hpA H 1 rfl rfl) ?_)
  refine bindI_of (((1048576:Int)-(area:Nat))) (by exact i64_in _ (by omega) (by omega)) ?_
  refine dbig_ok (fun h3=>?_) fun h3=>?_
  ·have h3:¬ (w'*(hh:Int) > 1048576-(area:Nat)):=of_decide_eq_false h3
   exact ⟨by omega,rfl⟩
  ·have h3:w'*(hh:Int) > 1048576-(area:Nat):=of_decide_eq_true h3
   rw [if_pos (.inr (by omega))] at hres
   exact hp 120 RN _ hres.symm (pan2 H)
 rintro h'' u ⟨hc2,rfl⟩
 rw [if_neg hc2] at hres
 have hnl2:new.length<n:=by omega
 obtain ⟨W,hW⟩:∃ W:Nat,w'=(W:Int):=⟨w'.toNat,by omega⟩
 subst hW
 have hpr:=hprod (W:Int) (by omega) (by omega)
 have hWh:(W:Int)*(hh:Int)=((W*hh:Nat):Int):=by simp
 rw [Int.toNat_natCast,Int.toNat_natCast] at hres
 refine ptr_of (a:=⟨r,0,none⟩) (ldI_of (hpA H 1 rfl rfl) ?_)
 refine bindI_of (((W*hh:Nat):Int)) (by exact i64_at _ _ hWh (by omega) (by omega)) ?_
 refine bindI_of (((area+W*hh:Nat):Int)) (by exact i64_at _ _ (by omega) (by omega) (by omega)) ?_
 refine ptr_of (a:=⟨r,0,none⟩) ?_
 refine stA H 1 rfl rfl rfl fun h H=>?_
 have H:Hp hB [] h ((RdS r p t qn new.length cn none 0 0 (n-new.length) (area+W*hh)::(decL p q e bp bc s1++X))++RN):=(Hp.suf (X:=[⟨r12,true,T_api_Whole,[.int .i64 v, .bool nn']⟩]) H).as (by simp only [List.cons_append,List.append_assoc,RdS,List.set])
 have hP:SizeP (W:Int) (hh:Int):=SizeP.mk' (by omega) (by omega) (by omega) (by omega) (by omega)
 have hpx:c1+hh*(W+1)<=cnt+64+2*(W*hh):=by
  have h6:hh*(W+1)=W*hh+hh:=by rw [Nat.mul_add,Nat.mul_comm hh W,Nat.mul_one]
  have h7:1*hh<=W*hh:=Nat.mul_le_mul_right _ (by omega)
  omega
 have hN2:c1+hh*(W+1)<=16777216:=by omega
 have hszt:szD t=1536+gsize t+1:=rfl
 refine ⟨fun b=>b=r,?_⟩
 refine ptr_of (a:=⟨r,0,none⟩) (ptr_of (a:=⟨r,0,none⟩) ?_)
 refine ldP_of (hpA H 0 rfl rfl) ⟨rfl,?_⟩
 refine ldI_of (hpB H 0 rfl rfl) ⟨rfl,?_⟩
 have hnrow:∀ {h:Heap},Hp hB [] h ((RdS r p t qn new.length cn none 0 0 (n-new.length) (area+W*hh)::(decL p q e bp bc s1++X))++RN)->r ∉ (decL p q e bp bc s1).map Ent.b:=fun H hm=>by
  obtain ⟨e9,he9,hb9⟩:=List.mem_map.1 hm
  exact (List.pairwise_cons.1 (List.pairwise_append.1 H.pw).1).1 e9 (List.mem_append_left _ he9) hb9.symm
 have hwdec:∀ {s},(decL p q e bp bc s).all Ent.w=true:=fun {s}=>by simp [decL,Go.Ar.decE,hb.1]
 have fin:∀ {h:Heap} {r61:Nat} {bs:List Nat} {s':Dec} {D:List Ent} {qo:Option Addr} {co:Nat},GGetR bytes m c1 1536 (W:Int) (hh:Int) (t:Nat) false s1 0 (W:Int) (hh:Int) bs s'->Slot T_uint64 1 D qo bs.length co (u64s bs) ->
   Hp hB [] h ([⟨r61,true,T_api_Bitmap,[.int .i64 0, .int .i64 0, .slice none 0 0]⟩]++(((RdS r p t qn new.length cn none 0 0 (n-new.length) (area+W*hh)::(decL p q e bp bc s'++X))++RN)++D)) ->
   stV h ((⟨r61,0,none⟩:Addr).add 0) (.int .i64 (W:Nat)) fun h_63 =>
   stV h_63 ((⟨r61,0,none⟩:Addr).add 1) (.int .i64 (hh:Nat)) fun h_64 =>
   stV h_64 ((⟨r61,0,none⟩:Addr).add 2) (.slice qo bs.length co) fun h_65 =>
   CP F_dict_need #[.int .i64 0] h_65 (fun v_66 h_67 =>
   ptr (some ⟨r,0,none⟩) fun a_68 =>
   ldS h_67 ((a_68.add 1).add 1) fun x_69 x_69n x_69c =>
   ldI h_67 ((⟨r61,0,none⟩:Addr).add 0) .i64 fun x_70 =>
   ldI h_67 ((⟨r61,0,none⟩:Addr).add 1) .i64 fun x_71 =>
   ldS h_67 ((⟨r61,0,none⟩:Addr).add 2) fun x_72 x_72n x_72c =>
   newC h_67 [.int .i64 x_70, .int .i64 x_71, .slice x_72 x_72n x_72c] T_api_Bitmap fun r_73 h_74 =>
   appC h_74 T_api_Bitmap 3 40 [.int .i64 0, .int .i64 0, .slice none 0 0] x_69 (x_69n) (x_69c) (some ⟨r_73,0,none⟩) (1) fun q_75 q_75n q_75c h_76 =>
   ptr (some ⟨r,0,none⟩) fun a_77 =>
   stV h_76 ((a_77.add 1).add 1) (.slice q_75 q_75n q_75c) fun h_78 =>
   ptr (some ⟨r,0,none⟩) fun a_79 =>
   ldI h_78 (a_79.add 4) .i64 fun x_80 =>
   bindI (IntKind.i64.wrap (x_80-(1:Int))) fun z_81 =>
   ptr (some ⟨r,0,none⟩) fun a_82 =>
   stV h_78 (a_82.add 4) (.int .i64 z_81) fun h_83 =>
   ∃ m_2,m_2<n-new.length+1+1/\∃ (new_1:List Bmp) (area cnt:Nat) (w:Nat) (first:Bool) (s:Dec) (RN:List Ent) (qn:Option Addr) (cn:Nat),m_2=n-new_1.length+2/\clsF m t n (hh:Nat) m_2 new_1 area (w:Nat) first s=Rz/\new0.length<=new_1.length/\new_1.length<=n/\(first=false->new0.length<new_1.length)/\area<=1048576/\w<=1048576 /\
    cnt+128*new0.length<=192*new0.length+64*new_1.length+64*new0.length+2*area+64/\[Value.int .i64 (W:Nat), .bool false]=[.int .i64 (w:Nat), .bool first]/\Go.Ar.DecOk bytes m cnt s/\ListO RN qn cn new_1/\MayL new_1/\Hp hB [] h_83 ((RdS r p t qn new_1.length cn none 0 0 (n-new_1.length) area::(decL p q e bp bc s++X))++RN)) Kp:=fun {h r61 bs s' D qo co} hg hs H=>by
  obtain ⟨_,_,_,_,_,_,hrun,hbl2,hw2,hz2,k,hk1,hdk⟩:(0<=((t:Nat):Int)/\((t:Nat):Int)<4)/\SizeP (W:Int) (hh:Int)/\True/\True/\True/\True/\runG (W:Int).toNat ((t:Nat):Int).toNat false (stepG m 1536) (hh:Int).toNat (fun _ _=>false,s1) = .inl (getP bs (W:Int).toNat (hh:Int).toNat,s') /\
    bs.length=(hh:Int).toNat*wds (W:Int).toNat/\W64 bs/\PadZ (W:Int).toNat (hh:Int).toNat bs/\∃ k,k<=(hh:Int).toNat*((W:Int).toNat+1)/\Go.Ar.DecOk bytes m (c1+k) s':=by
   rcases hg with ⟨_,hh0,_⟩ | ⟨_,_,hh0,_⟩ | ⟨_,_,_,hh0,_⟩ | ⟨g1,g2,g3,g4,g5,g6,g7,g8,g9,g10,g11⟩
   ·cases hh0
   ·cases hh0
   ·cases hh0
   ·exact ⟨g1,g2,trivial,trivial,trivial,trivial,g7,g8,g9,g10,g11⟩
  simp only [Int.toNat_natCast] at hrun hbl2 hz2 hk1
  have hGR:GR m t W hh s1 bs s':=⟨hrun,hbl2,hw2,hz2⟩
  rw [gGet_eq hGR] at hres
  dsimp only at hres
  refine stA H 0 rfl rfl rfl fun h H=>?_
  refine stA H 0 rfl rfl rfl fun h H=>?_
  refine stA H 0 rfl rfl rfl fun h H=>?_
  refine need0_ok ?_
  have H:Hp hB [] h ([⟨r61,true,T_api_Bitmap,[.int .i64 (W:Nat), .int .i64 (hh:Nat), .slice qo bs.length co]⟩]++(((RdS r p t qn new.length cn none 0 0 (n-new.length) (area+W*hh)::(decL p q e bp bc s'++X))++RN)++D)):=H
  refine ptr_of (a:=⟨r,0,none⟩) (ldS_of (hpB H 1 rfl rfl) (ldI_of (hpA H 0 rfl rfl) (ldI_of (hpA H 0 rfl rfl) (ldS_of (hpA H 0 rfl rfl) ?_))))
  refine newC_hp H fun r73 h H=>?_
  have H:Hp hB [] h ([⟨r61,true,T_api_Bitmap,[.int .i64 (W:Nat), .int .i64 (hh:Nat), .slice qo bs.length co]⟩]++((((RdS r p t qn new.length cn none 0 0 (n-new.length) (area+W*hh)::(decL p q e bp bc s'++X))++RN)++D)++[⟨r73,true,T_api_Bitmap,[.int .i64 (W:Nat), .int .i64 (hh:Nat), .slice qo bs.length co]⟩])):=H
  have H:=(Hp.suf H).asc
  have hmay1:MayP (W:Int) (hh:Int) bs:=may_of_pix hP hbl2 hw2 hz2
  have hM':MayL (new++[⟨(W:Int),(hh:Int),bs⟩]):=fun b hb=>by
   rcases List.mem_append.1 hb with hb | hb
   ·exact hM b hb
   ·rw [List.mem_singleton.1 hb]; exact hmay1
  have ho:Own.Ok ⟨⟨(W:Int),(hh:Int),bs⟩,qo,co,D⟩:=⟨hs,hw2,by
   show bs.length<_
   have h8:wds W<=W:=by unfold wds; omega
   have h9:hh*wds W<=hh*W:=Nat.mul_le_mul_left _ h8
   rw [Nat.mul_comm hh W] at h9
   omega⟩
  refine hL.app ho H (by omega) fun RN' q' cn' h' hL' H=>?_
  have hln2:(new++[(⟨(W:Int),(hh:Int),bs⟩:Bmp)]).length=new.length+1:=by simp
  refine ptr_of (a:=⟨r,0,none⟩) ?_
  refine stB H 0 rfl rfl rfl fun h H=>?_
  refine ptr_of (a:=⟨r,0,none⟩) (ldI_of (hpA H 0 rfl rfl) ?_)
  refine bindI_of (((n-new.length-1:Nat):Int)) (by exact i64_at _ _ (by omega) (by omega) (by omega)) ?_
  refine ptr_of (a:=⟨r,0,none⟩) ?_
  refine stA H 0 rfl rfl rfl fun h H=>?_
  refine ⟨n-new.length+1,by omega,new++[⟨(W:Int),(hh:Int),bs⟩],area+W*hh,c1+k,W,false,s',RN',q',cn',by rw [hln2]; omega,hres,by rw [hln2]; omega,by rw [hln2]; omega,(fun _=>by rw [hln2]; omega),by omega,by omega,by rw [hln2]; omega,rfl,hdk,hL',hM',?_⟩
  rw [hln2,show n-(new.length+1)=n-new.length-1 by omega]
  exact H
 have hdec0:∀ {e' w' g':Int} {bs s'},GGetR bytes m c1 1536 (W:Int) (hh:Int) (t:Nat) false s1 e' w' g' bs s'->e'=0/\w'=(W:Int)/\g'=(hh:Int):=fun hg=>by
  rcases hg with ⟨hh0,_⟩ | ⟨_,hh0,_⟩ | ⟨_,_,hh0,_⟩ | ⟨_,_,_,g4,g5,g6,_⟩
  ·exact (hh0 ⟨by omega,by omega⟩).elim
  ·exact (hh0 hP).elim
  ·exact (hh0 ⟨by omega,by simp only [Int.toNat_natCast]; omega⟩).elim
  ·exact ⟨g4,g5,g6⟩
 refine ⟨?_,?_⟩
 ·refine gget_ok (H.give [1,2,3] (by simp) rfl) (by rw [hok1.b]; exact hb) hbl hok1 (by omega) (by omega) (base:=1536) (fun _=>by simp only [Int.toNat_natCast]; exact hN2) fun e' w' g' bs s' D qo co h' hg hs H'=>?_
  obtain ⟨rfl,rfl,rfl⟩:=hdec0 hg
  have hkp:hkeep (fun b=>b=r) h h':=⟨H'.fr.1,fun b hb9 hR=>H'.fr.2 b hb9 (by rw [hR]; exact hnrow H)⟩
  have H:=Go.Bm.Hp.backD H [1,2,3] (by simp) rfl hwdec H' hwdec hs.w rfl
  clear H'
  refine ⟨_,_,_,_,_,_,rfl,hkp,?_⟩
  refine newC_hp H fun r61 h H=>?_
  exact fin hg hs H.rot
 ·refine newC_hp H fun r61 h H=>?_
  refine gget_ok (H.give [1,2,3] (by simp) rfl) (by rw [hok1.b]; exact hb) hbl hok1 (by omega) (by omega) (base:=1536) (fun _=>by simp only [Int.toNat_natCast]; exact hN2) fun e' w' g' bs s' D qo co h' hg hs H'=>?_
  obtain ⟨rfl,rfl,rfl⟩:=hdec0 hg
  have hkp:hkeep (fun b=>b=r) h h':=⟨H'.fr.1,fun b hb9 hR=>H'.fr.2 b hb9 (by rw [hR]; exact hnrow (Hp.pre H))⟩
  have H:=Go.Bm.Hp.backD H [1,2,3] (by simp) rfl hwdec H' hwdec hs.w rfl
  clear H'
  refine ⟨_,_,_,_,_,_,rfl,hkp,?_⟩
  have H:Hp hB [] h' ((((RdS r p t qn new.length cn none 0 0 (n-new.length) (area+W*hh)::(decL p q e bp bc s'++X))++RN)++[⟨r61,true,T_api_Bitmap,[.int .i64 0, .int .i64 0, .slice none 0 0]⟩])++D):=H
  exact fin hg hs (Hp.swap H).rot
end
end Go.Bm
namespace Go.Bm
open Go Go.Den Go.Den.YtfaclehehhgpcaaGreat
open Go.Ar (Dec newD decL BOk u8s)
theorem bls_app (l l':List Bool):bls (l++l')=bls l++bls l':=by simp [bls]
section
variable {hB h:Heap} {K:VK} {Kp:PK}
variable {r p q m t n bc nn cn left area c0:Nat} {qn bp:Option Addr} {e:Ent} {s:Dec} {bytes:List Nat} {X:List Ent} {Rz:Except Int (List Bool)}
set_option maxHeartbeats 8000000 in
theorem rflags_ok (H:Hp hB [] h (RdS r p t qn nn cn none 0 0 left area::(decL p q e bp bc s++X))) (hXw:X.all Ent.w=true) (hb:BOk e bp bytes) (hok:Go.Ar.DecOk bytes m c0 s) (hbl:bytes.length<140737488351300)
  (hm1:2561<=m) (hm2:m<=131072) (hn:n<=8192) (hc0:c0+64*(n+2)<=16777216) (hres:flF m n (n+2) [] false true s=Rz)
  (hk:∀ ex RE qe ce s' h',Rz = .ok ex->Slot T_bool 1 RE qe ex.length ce (bls ex)->Hp hB [] h' ((RdS r p t qn nn cn qe ex.length ce left area::(decL p q e bp bc s'++X))++RE)->K (.tuple #[]) h')
  (hp:∀ er J h',Rz = .error er->Hp hB [] h' (X++J)->Kp (dflt er) h') :
  CP F_dict_reader_flags #[.pointer (some ⟨r,0,none⟩), .int .i64 (n:Nat)] h K Kp:=by
 refine call_dict_reader_flags ?_
 unfold dict_reader_flags
 refine ⟨fun f vs h'=>∃ (ex:List Bool) (v first:Bool) (s:Dec) (cnt:Nat) (RE:List Ent) (qe:Option Addr) (ce:Nat),flF m n f ex v first s=Rz/\ex.length<=n/\f<=n+2/\n-ex.length+(if first=true then 2 else 1)<=f/\cnt<=c0+64*(n+2-f)/\vs=[.bool v, .bool first]/\Go.Ar.DecOk bytes m cnt s /\
   Slot T_bool 1 RE qe ex.length ce (bls ex)/\Hp hB [] h' ((RdS r p t qn nn cn qe ex.length ce left area::(decL p q e bp bc s++X))++RE),
  ⟨n+2,[],false,true,s,c0,[],none,0,hres,Nat.zero_le _,Nat.le_refl _,by simp,by omega,rfl,hok,Slot.nil _ _,by rw [List.append_nil]; exact H⟩,?_⟩
 clear H hok hres
 rintro f h u xv xf ⟨ex,v,first,s,cnt,RE,qe,ce,hres,hln,hf2,hf1,hcnt,hxx,hok,hs,H⟩
 injection hxx with hx1 hxx
 injection hxx with hx2 hxx
 injection hx1 with hx1
 injection hx2 with hx2
 subst xv xf
 obtain ⟨f,rfl⟩:∃ f',f=f'+1:=⟨f-1,by split at hf1 <;> omega⟩
 refine ptr_of (a:=⟨r,0,none⟩) (ldS_of (hpB H 0 rfl rfl) ?_)
 unfold flF at hres
 refine bcase_dec (fun h1=>?_) fun h1=>?_
 rotate_left
 ·rw [if_pos (by omega)] at hres
  exact hk ex RE qe ce s h hres.symm hs H
 have h1:ex.length<n:=by omega
 rw [if_neg (by omega)] at hres
 have H:Hp hB [] h (RdS r p t qn nn cn qe ex.length ce left area::(decL p q e bp bc s++(X++RE))):=H.as (by simp only [List.cons_append,List.append_assoc])
 have hXR:(X++RE).all Ent.w=true:=by rw [List.all_append,hXw,hs.w]; rfl
 have hdv:=decW_v m 1024 s
 refine rnum_ok H hXR hb hok hbl (by omega) (by omega) (by omega) (by omega) (fun h c1 he hc1 hok1 H=>?_) fun J h he H=>?_
 rotate_left
 ·rw [if_pos he] at hres
  exact hp 130 (RE++J) h hres.symm (H.asc)
 rw [if_neg (by rw [he]; decide)] at hres
 clear he
 generalize decW m 1024 s=dw at *
 obtain ⟨⟨ee,x,nn'⟩,s1⟩:=dw
 dsimp only at *
 refine ⟨_,_,rfl,?_⟩
 refine newC_hp H fun r14 h H=>?_
 have H:=H.rot
 refine stA H 0 rfl rfl rfl fun h H=>?_
 refine stA H 0 rfl rfl rfl fun h H=>?_
 have H:Hp hB [] h (⟨r14,true,T_api_Whole,[.int .i64 x, .bool nn']⟩::RdS r p t qn nn cn qe ex.length ce left area::(decL p q e bp bc s1++(X++RE))):=H
 have pan:∀ {h},Hp hB [] h (⟨r14,true,T_api_Whole,[.int .i64 x, .bool nn']⟩::RdS r p t qn nn cn qe ex.length ce left area::(decL p q e bp bc s1++(X++RE)))->Hp hB [] h (X++RE):=fun H=>H.sub (((List.sublist_append_right _ _).cons _).cons _)
 have last:∀ {Q:List Value->Heap->Prop},Rz=(if nn'=true\/x<0\/(x=0/\first=false)\/(n:Int)-(ex.length:Int)<x then .error 130 else flF m n f (ex++List.replicate x.toNat v) (!v) false s1)->¬ (nn'=true\/x<0\/(x=0/\first=false))->(¬ (nn'=true\/x<0\/(x=0/\first=false)\/(n:Int)-(ex.length:Int)<x)->Q [] h) ->
   ptr (some ⟨r,0,none⟩) fun a_30=>ldI h ((⟨r14,0,none⟩:Addr).add 0) .i64 fun x_31=>ldS h ((a_30.add 1).add 2) fun x_32 x_32n x_32c=>bindI (IntKind.i64.wrap ((n:Nat)-(x_32n:Int))) fun z_33=>CP F_dict_wrong #[.bool (decide (x_31 > z_33))] h (fun v_34 h_35=>Q [] h_35) (Kp):=fun {Q} hr h2 hQ=>by
  refine ptr_of (a:=⟨r,0,none⟩) (ldI_of (hpA H 0 rfl rfl) (ldS_of (hpA H 1 rfl rfl) ?_))
  refine bindI_of (((n:Int)-(ex.length:Int))) (by exact i64_in _ (by omega) (by omega)) ?_
  refine dwrong_ok (fun h3=>?_) fun h3=>?_
  ·have h3:¬ (x > (n:Int)-(ex.length:Int)):=of_decide_eq_false h3
   exact hQ (fun hh=>by
    rcases hh with hh | hh | hh | hh
    ·exact h2 (.inl hh)
    ·exact h2 (.inr (.inl hh))
    ·exact h2 (.inr (.inr hh))
    ·omega)
  ·have h3:x > (n:Int)-(ex.length:Int):=of_decide_eq_true h3
   rw [if_pos (.inr (.inr (.inr (by omega))))] at hr
   exact hp 130 RE h hr (pan H)
 refine ⟨fun _ h'=>¬ (nn'=true\/x<0\/(x=0/\first=false)\/(n:Int)-(ex.length:Int)<x)/\h'=h,?_,?_⟩
 ·refine ldB_of (hpA H 0 rfl rfl) ?_
  refine bcase_of (fun h2=>?_) fun h2=>?_
  ·rw [if_pos (.inl h2)] at hres
   exact dwrong_ok (fun hh=>by cases hh) fun _=>hp 130 RE h hres.symm (pan H)
  refine ldI_of (hpA H 0 rfl rfl) ?_
  refine bcase_dec (fun h3=>?_) fun h3=>?_
  ·rw [if_pos (.inr (.inl h3))] at hres
   exact dwrong_ok (fun hh=>by cases hh) fun _=>hp 130 RE h hres.symm (pan H)
  refine ldI_of (hpA H 0 rfl rfl) ?_
  refine bcase_eq (fun h4=>?_) fun h4=>?_
  ·refine bcase_not (fun h5=>?_) fun h5=>?_
   ·rw [if_pos (.inr (.inr (.inl ⟨h4,h5⟩)))] at hres
    exact dwrong_ok (fun hh=>by cases hh) fun _=>hp 130 RE h hres.symm (pan H)
   ·exact last (Q:=fun _ h'=>¬ (nn'=true\/x<0\/(x=0/\first=false)\/(n:Int)-(ex.length:Int)<x)/\h'=h) hres.symm (fun hh=>by
     rcases hh with hh | hh | hh
     ·rw [h2] at hh; cases hh
     ·omega
     ·rw [h5] at hh; cases hh.2) fun hh=>⟨hh,rfl⟩
  ·exact last (Q:=fun _ h'=>¬ (nn'=true\/x<0\/(x=0/\first=false)\/(n:Int)-(ex.length:Int)<x)/\h'=h) hres.symm (fun hh=>by
    rcases hh with hh | hh | hh
    ·rw [h2] at hh; cases hh
    ·omega
    ·omega) fun hh=>⟨hh,rfl⟩
 rintro h' u ⟨hc,rfl⟩
 rw [if_neg hc] at hres
 obtain ⟨V,rfl⟩:∃ V:Nat,x=(V:Int):=⟨x.toNat,by omega⟩
 rw [Int.toNat_natCast] at hres
 refine ldI_of (hpA H 0 rfl rfl) ?_
 have H:Hp hB [] h' ((RdS r p t qn nn cn qe ex.length ce left area::(decL p q e bp bc s1++X))++RE):=(Hp.suf (X:=[_]) H).as (by simp only [List.cons_append,List.append_assoc])
 refine ⟨fun f vs h'=>∃ (k:Nat) (RE:List Ent) (qe:Option Addr) (ce:Nat),k+f=V/\vs=[.int .i64 (k:Nat)]/\Slot T_bool 1 RE qe (ex++List.replicate k v).length ce (bls (ex++List.replicate k v)) /\
  Hp hB [] h' ((RdS r p t qn nn cn qe (ex++List.replicate k v).length ce left area::(decL p q e bp bc s1++X))++RE),⟨V,0,RE,qe,ce,by omega,rfl,by rw [List.replicate_zero,List.append_nil]; exact hs,by rw [List.replicate_zero,List.append_nil]; exact H⟩,?_⟩
 clear H hs last pan
 rintro g h u xk ⟨k,RE,qe,ce,hkg,hxx,hs2,H2⟩
 injection hxx with hxx
 injection hxx with _ hxx
 subst xk
 have hlk:(ex++List.replicate k v).length=ex.length+k:=by simp
 refine bcase_dec (fun h2=>?_) fun h2=>?_
 ·refine ptr_of (a:=⟨r,0,none⟩) (ldS_of (hpB H2 0 rfl rfl) ?_)
  refine newC_hp H2 fun r51 h H=>?_
  have H:=H.asc
  have hrep:ex++List.replicate (k+1) v=(ex++List.replicate k v)++[v]:=by rw [List.replicate_succ',List.append_assoc]
  refine Slot.app (m:=1) (new:=[.bool v]) hs2 H rfl (Hp.rdO_mem (rest:=[]) (cs:=[.bool v]) H (by rw [List.append_nil]; exact List.mem_append_right _ (List.mem_append_right _ (List.mem_singleton.2 rfl))) rfl) rfl (fun w hw=>by rw [List.mem_singleton.1 hw]; rfl) (by decide) (by omega) fun RE' q' c' h hs H=>?_
  have H:=Hp.pre H.asc'
  refine ptr_of (a:=⟨r,0,none⟩) ?_
  refine stB H 0 rfl rfl rfl fun h H=>?_
  refine bindI_of (((k+1:Nat):Int)) (by exact i64_at _ _ (by omega) (by omega) (by omega)) ?_
  refine ⟨g-1,by omega,k+1,RE',q',c',by omega,rfl,?_,?_⟩
  ·rw [hrep,bls_app,List.length_append]
   exact hs
  ·rw [hrep,List.length_append]
   exact H
 ·obtain rfl:k=V:=by omega
  refine ⟨f,by omega,ex++List.replicate k v,!v,false,s1,c1,RE,qe,ce,hres,by rw [hlk]; omega,by omega,?_,by omega,rfl,hok1,hs2,H2⟩
  rw [hlk]
  cases first with
  | true=>simp at hf1 ⊢; omega
  | false =>
   have:k≠0:=fun hh=>hc (.inr (.inr (.inl ⟨by omega,rfl⟩)))
   simp at hf1 ⊢; omega
end
section
variable {hB:Heap} {K:VK} {Kp:PK} {q qi:Option Addr} {c ci:Nat} {b:List Nat} {imp:List Bmp}
set_option maxHeartbeats 16000000 in
theorem dDec_ok (hb:RdB b) (hr:rdO hB q (b.length*1) (u8s b)) (hcap:b.length<=c) (hi:BmsV hB qi imp) (hil:imp.length<=1000000000000)
  (hk:∀ (t:Nat) new ex RN qn cn RE qe ce h',decD b imp = .ok (t,new,ex)->MayL new->ListO RN qn cn new->Slot T_bool 1 RE qe ex.length ce (bls ex)->Hp hB [] h' (RN++RE)->K (.tuple #[.agg #[.int .i64 (t:Nat), .slice qn new.length cn, .slice qe ex.length ce], .int .i64 0]) h')
  (hkb:∀ er h',decD b imp = .error er->er=130\/er=120->hext hB h'->K (.tuple #[.agg #[.int .i64 0, .slice none 0 0, .slice none 0 0], .int .i64 er]) h') :
  CP F_dict_Decode #[.slice q b.length c, .slice qi imp.length ci] hB K Kp:=by
 refine call_dict_Decode ?_
 unfold dict_Decode
 have hbl:=hb.bl
 have H:=Hp.nil hB []
 refine newC_hp H fun r1 h H=>?_
 refine newC_hp H fun r3 h H=>?_
 refine newC_hp H fun r5 h H=>?_
 refine newC_hp H fun r7 h H=>?_
 refine newC_hp H fun r9 h H=>?_
 refine st0 H 4 rfl rfl rfl fun h H=>?_
 obtain ⟨Z5,hZ5⟩:∃ Z5:List Value->Ent,Z5=fun cs=>⟨r5,true,T_api_Dict,cs⟩:=⟨_,rfl⟩
 have H:Hp hB [] h [⟨r1,true,T_s_uint8,[.slice q b.length c]⟩,⟨r3,true,T_s_api_Bitmap,[.slice qi imp.length ci]⟩,⟨r5,true,T_api_Dict,[.int .i64 0, .slice none 0 0, .slice none 0 0]⟩,⟨r7,true,T_dict_reader,[.pointer none, .int .i64 0, .slice none 0 0, .slice none 0 0, .int .i64 0, .int .i64 0]⟩,⟨r9,true,T_p_dict_reader,[.pointer (some ⟨r7,0,none⟩)]⟩]:=H
 have H:=H.pick [3,2,4,0,1] (by decide) (L':=[⟨r7,true,T_dict_reader,[.pointer none, .int .i64 0, .slice none 0 0, .slice none 0 0, .int .i64 0, .int .i64 0]⟩,⟨r5,true,T_api_Dict,[.int .i64 0, .slice none 0 0, .slice none 0 0]⟩,⟨r9,true,T_p_dict_reader,[.pointer (some ⟨r7,0,none⟩)]⟩,⟨r1,true,T_s_uint8,[.slice q b.length c]⟩,⟨r3,true,T_s_api_Bitmap,[.slice qi imp.length ci]⟩]) rfl
 refine dcaught_ok (fun L2=>∃ (t:Nat) (new:List Bmp) (ex:List Bool) (RN:List Ent) (qn:Option Addr) (cn:Nat) (RE:List Ent) (qe:Option Addr) (ce p left area:Nat) (M Y:List Ent),decD b imp = .ok (t,new,ex)/\MayL new/\ListO RN qn cn new/\Slot T_bool 1 RE qe ex.length ce (bls ex) /\
   L2=⟨r5,true,T_api_Dict,[.int .i64 0, .slice none 0 0, .slice none 0 0]⟩::⟨r9,true,T_p_dict_reader,[.pointer (some ⟨r7,0,none⟩)]⟩::(M++((RN++RE)++(RdS r7 p t qn new.length cn qe ex.length ce left area::Y))))
  (fun er L2=>decD b imp = .error er/\(er=130\/er=120)/\∃ Y,L2=⟨r5,true,T_api_Dict,[.int .i64 0, .slice none 0 0, .slice none 0 0]⟩::Y) H (fun {re h1 K1 Kp1} H hK1 hKp1=>?_) (fun h' L' hp H=>?_) fun er h' L' hp H=>?_
 rotate_left
 ·obtain ⟨t,new,ex,RN,qn,cn,RE,qe,ce,p,left,area,M,Y,hd,hM,hL,hs,rfl⟩:=hp
  refine ⟨_,rfl,?_⟩
  refine bcase_false (by rfl) ?_
  refine ldP_of (H.cell 1 rfl rfl) (ptr_of (a:=⟨r7,0,none⟩) ?_)
  obtain ⟨k,hk9⟩:=List.getElem?_of_mem (show RdS r7 p t qn new.length cn qe ex.length ce left area∈(⟨r5,true,T_api_Dict,[.int .i64 0, .slice none 0 0, .slice none 0 0]⟩:Ent)::⟨r9,true,T_p_dict_reader,[.pointer (some ⟨r7,0,none⟩)]⟩::(M++((RN++RE)++(RdS r7 p t qn new.length cn qe ex.length ce left area::Y))) by simp)
  refine ldI_of (hpB H k hk9 rfl) (ldS_of (hpB H k hk9 rfl) (ldS_of (hpB H k hk9 rfl) ?_))
  refine stA H 0 rfl rfl rfl fun h H=>?_
  refine stA H 0 rfl rfl rfl fun h H=>?_
  refine stA H 0 rfl rfl rfl fun h H=>?_
  refine ldI_of (hpA H 0 rfl rfl) (ldS_of (hpA H 0 rfl rfl) (ldS_of (hpA H 0 rfl rfl) ?_))
  have H:Hp hB [] h ([⟨r5,true,T_api_Dict,[.int .i64 (t:Nat), .slice qn new.length cn, .slice qe ex.length ce]⟩,⟨r9,true,T_p_dict_reader,[.pointer (some ⟨r7,0,none⟩)]⟩]++(M++((RN++RE)++(RdS r7 p t qn new.length cn qe ex.length ce left area::Y)))):=H
  exact hk t new ex RN qn cn RE qe ce h hd hM hL hs (Hp.pre (Hp.suf (X:=M) (Hp.suf H)))
 ·obtain ⟨hd,her,Y,rfl⟩:=hp
  refine ⟨_,rfl,?_⟩
  refine bcase_ne (fun _=>?_) fun hh=>absurd hh (by omega)
  refine stA H 0 rfl rfl rfl fun h H=>?_
  refine stA H 0 rfl rfl rfl fun h H=>?_
  refine stA H 0 rfl rfl rfl fun h H=>?_
  refine ldI_of (hpA H 0 rfl rfl) (ldS_of (hpA H 0 rfl rfl) (ldS_of (hpA H 0 rfl rfl) ?_))
  exact hkb er h hd her H.hext
 unfold callD
 simp only
 refine call_dict_Decode_c1 (cap0:=⟨r3,0,none⟩) (cap1:=⟨r1,0,none⟩) (cap2:=⟨r9,0,none⟩) ?_
 unfold dict_Decode_c1
 obtain ⟨X,hX⟩:∃ X:List Ent,X=[⟨re,true,T_api_Errno,[.int .i64 0]⟩,⟨r5,true,T_api_Dict,[.int .i64 0, .slice none 0 0, .slice none 0 0]⟩,⟨r9,true,T_p_dict_reader,[.pointer (some ⟨r7,0,none⟩)]⟩,⟨r1,true,T_s_uint8,[.slice q b.length c]⟩,⟨r3,true,T_s_api_Bitmap,[.slice qi imp.length ci]⟩]:=⟨_,rfl⟩
 have hXw:X.all Ent.w=true:=by rw [hX]; rfl
 have bad:∀ {er:Int} {h:Heap} {J:List Ent},decD b imp = .error er->er=130\/er=120->Hp hB [] h (X++J)->Kp1 (dflt er) h:=fun {er h J} hd her H=>by
  rw [hX] at H
  exact hKp1 er h _ ⟨hd,her,_,rfl⟩ H
 obtain ⟨R7,hR7⟩:∃ R7:List Value->Ent,R7=fun cs=>⟨r7,true,T_dict_reader,cs⟩:=⟨_,rfl⟩
 have H:Hp hB [] h1 (X++[⟨r7,true,T_dict_reader,[.pointer none, .int .i64 0, .slice none 0 0, .slice none 0 0, .int .i64 0, .int .i64 0]⟩]):=by
  have H:Hp hB [] h1 ([⟨re,true,T_api_Errno,[.int .i64 0]⟩]++[⟨r7,true,T_dict_reader,[.pointer none, .int .i64 0, .slice none 0 0, .slice none 0 0, .int .i64 0, .int .i64 0]⟩]++[⟨r5,true,T_api_Dict,[.int .i64 0, .slice none 0 0, .slice none 0 0]⟩,⟨r9,true,T_p_dict_reader,[.pointer (some ⟨r7,0,none⟩)]⟩,⟨r1,true,T_s_uint8,[.slice q b.length c]⟩,⟨r3,true,T_s_api_Bitmap,[.slice qi imp.length ci]⟩]):=H
  rw [hX]
  exact Hp.swap H
 have rdI:∀ {h:Heap} {J:List Ent} {K2:Option Addr->Nat->Nat->Prop},Hp hB [] h (X++J)->K2 qi imp.length ci->ldS h ⟨r3,0,none⟩ K2:=fun H hK=>by
  rw [hX] at H
  exact ldS_of (H.cell 4 rfl rfl) hK
 have rdF:∀ {h:Heap} {J:List Ent} {K2:Option Addr->Nat->Nat->Prop},Hp hB [] h (X++J)->K2 q b.length c->ldS h ⟨r1,0,none⟩ K2:=fun H hK=>by
  rw [hX] at H
  exact ldS_of (H.cell 3 rfl rfl) hK
 have rdP:∀ {h:Heap} {J:List Ent} {K2:Option Addr->Prop},Hp hB [] h (X++J)->K2 (some ⟨r7,0,none⟩)->ldP h ⟨r9,0,none⟩ K2:=fun H hK=>by
  rw [hX] at H
  exact ldP_of (H.cell 2 rfl rfl) hK
 refine rdI H ?_
 refine right_ok (hi.ext H.hext) hil fun rg h' hrg e=>?_
 have H:=H.ext e
 refine ⟨_,rfl,?_⟩
 refine dwrong_ok (fun h2=>?_) fun h2=>?_
 rotate_left
 ·exact bad (er:=130) (by unfold decD; rw [if_pos (fun hh=>by rw [hrg.2 hh] at h2; cases h2)]) (.inl rfl) H
 have hmay:MayL imp:=hrg.1 (by cases rg with | true=>rfl | false=>cases h2)
 refine rdI H ?_
 refine dbig_ok (fun h3=>?_) fun h3=>?_
 rotate_left
 ·have h3:((imp.length:Nat):Int) > 4096:=of_decide_eq_true h3
  exact bad (er:=120) (by unfold decD; rw [if_neg (fun hh=>hh hmay),if_pos (by omega)]) (.inr rfl) H
 have h3:¬ ((imp.length:Nat):Int) > 4096:=of_decide_eq_false h3
 have hi4:imp.length<=4096:=by omega
 have hdec:decD b imp=match b[0]? with
  | none => .error 130
  | some t=>if 3<t then .error 130
   else if (varP b 1).1≠0 then .error 130
   else if 4096-imp.length<(varP b 1).2.1 then .error 120
   else match symF (szD t) t (varP b 1).2.1 ((varP b 1).2.1+1) [] 0 0 (newD (b.drop (varP b 1).2.2) (szD t)) with
    | .error e => .error e
    | .ok (new,s)=>match flF (szD t) (imp.length+(varP b 1).2.1) (imp.length+(varP b 1).2.1+2) [] false true s with
     | .error e => .error e
     | .ok ex => .ok (t,new,ex):=by
  unfold decD
  rw [if_neg (fun hh=>hh hmay),if_neg (by omega)]
  all_goals rfl
 refine rdF H ?_
 refine newReader_ok (H.rdO hr) hb fun rr q' c' D h hsD H'=>?_
 have H:=H.join H' (by rw [List.all_cons,hsD.w]; rfl)
 clear H'
 refine ⟨_,rfl,?_⟩
 have hDw:∀ i,(rdE rr q' b.length c' i::D).all Ent.w=true:=fun i=>by rw [List.all_cons,hsD.w]; rfl
 refine rtake8_ok (Hp.giveS H) hsD hb (Nat.zero_le _) (fun hnone=>?_) fun t h hb0 H'=>?_
 ·refine ⟨_,_,rfl,?_⟩
  refine ⟨fun _ _=>False,?_,fun _ _ hh=>hh.elim⟩
  refine bcase_true (by rfl) ?_
  refine dwrong_ok (fun hh=>by cases hh) fun _=>?_
  exact bad (er:=130) (by rw [hdec,hnone]) (.inl rfl) H.asc
 have H:=Hp.putS H (hDw _) H' (hDw _)
 clear H'
 have hb1:1<=b.length:=by
  have:=(List.getElem?_eq_some_iff.1 hb0).1
  omega
 rw [hb0] at hdec
 dsimp only at hdec
 refine ⟨_,_,rfl,?_⟩
 refine ⟨fun _ h'=>¬ 3<t/\h'=h,?_,?_⟩
 ·refine bcase_false (by rfl) ?_
  refine dwrong_ok (fun h4=>?_) fun h4=>?_
  ·have h4:¬ ((t:Nat):Int) > 3:=of_decide_eq_false h4
   exact ⟨by omega,rfl⟩
  ·have h4:((t:Nat):Int) > 3:=of_decide_eq_true h4
   exact bad (er:=130) (by rw [hdec,if_pos (by omega)]) (.inl rfl) H.asc
 rintro h' u ⟨ht3,rfl⟩
 rw [if_neg ht3] at hdec
 have ht4:t<4:=by omega
 have H:=H.asc
 refine rdP H ?_
 refine bindI_of (((t:Nat):Int)) (by exact i64_in _ (by omega) (by omega)) ?_
 refine ptr_of (a:=⟨r7,0,none⟩) ?_
 have H:=H.rot
 refine stB H 0 rfl rfl rfl fun h H=>?_
 have H:Hp hB [] h ((⟨r7,true,T_dict_reader,[.pointer none, .int .i64 (t:Nat), .slice none 0 0, .slice none 0 0, .int .i64 0, .int .i64 0]⟩::(rdE rr q' b.length c' 1::D))++X):=H
 have H:Hp hB [] h ((X++[⟨r7,true,T_dict_reader,[.pointer none, .int .i64 (t:Nat), .slice none 0 0, .slice none 0 0, .int .i64 0, .int .i64 0]⟩])++(rdE rr q' b.length c' 1::D)):=H.rot.asc'
 refine rvar_ok (Hp.giveS H) hsD hb hb1 fun h H'=>?_
 have H:=Hp.putS H (hDw _) H' (hDw _)
 clear H'
 refine ⟨_,_,rfl,?_⟩
 have hve:=varP_le (b:=b) (i:=1) hb1
 obtain ⟨N,hN⟩:∃ N,N=(varP b 1).2.1:=⟨_,rfl⟩
 obtain ⟨i,hii⟩:∃ i,i=(varP b 1).2.2:=⟨_,rfl⟩
 rw [<- hN,<- hii] at hdec
 rw [<- hii] at H hve
 rw [<- hN]
 refine dwrong_ok (fun h4=>?_) fun h4=>?_
 rotate_left
 ·have h4:(varP b 1).1≠0:=by simpa using h4
  exact bad (er:=130) (by rw [hdec,if_pos h4]) (.inl rfl) H.asc
 have hv0:(varP b 1).1=0:=by simpa using h4
 rw [if_neg (fun hh=>hh hv0)] at hdec
 refine rdI H.asc ?_
 refine bindI_of (((4096-imp.length:Nat):Int)) (by exact i64_at _ _ (by omega) (by omega) (by omega)) ?_
 refine bindI_of (((4096-imp.length:Nat):Int)) (by exact u64_in _ (by omega) (by omega)) ?_
 refine dbig_ok (fun h5=>?_) fun h5=>?_
 rotate_left
 ·have h5:((N:Nat):Int) > ((4096-imp.length:Nat):Int):=of_decide_eq_true h5
  exact bad (er:=120) (by rw [hdec,if_pos (by omega)]) (.inr rfl) H.asc
 have h5:¬ ((N:Nat):Int) > ((4096-imp.length:Nat):Int):=of_decide_eq_false h5
 have hN4:N<=4096-imp.length:=by omega
 rw [if_neg (by omega)] at hdec
 refine rdP H.asc ?_
 refine bindI_of (((N:Nat):Int)) (by exact i64_in _ (by omega) (by omega)) ?_
 refine ptr_of (a:=⟨r7,0,none⟩) ?_
 have H:=H.asc.rot
 refine stA H 0 rfl rfl rfl fun h H=>?_
 have H:Hp hB [] h ((⟨r7,true,T_dict_reader,[.pointer none, .int .i64 (t:Nat), .slice none 0 0, .slice none 0 0, .int .i64 (N:Nat), .int .i64 0]⟩::(rdE rr q' b.length c' i::D))++X):=H
 have H:=H.rot
 refine rdP H (ptr_of (a:=⟨r7,0,none⟩) ?_)
 refine ldI_of (hpB H.rot 0 rfl rfl) ?_
 refine csize_ok (fun t' ht' htt h' e=>?_) fun hn=>absurd ⟨by omega,by omega⟩ hn
 obtain rfl:t=t':=by omega
 have H:=H.ext e
 refine ⟨_,_,rfl,?_⟩
 refine need0_ok ?_
 have hgs:=gsize_le ht4
 refine bindI_of (((1536+gsize t:Nat):Int)) (by exact i64_at _ _ (by omega) (by omega) (by omega)) ?_
 refine bindI_of (((szD t:Nat):Int)) (by exact i64_at _ _ (by unfold szD; omega) (by omega) (by unfold szD; omega)) ?_
 refine rdP H (rdF H (rdF H ?_))
 refine rleft_ok (Hp.suf (X:=X++[⟨r7,true,T_dict_reader,[.pointer none, .int .i64 (t:Nat), .slice none 0 0, .slice none 0 0, .int .i64 (N:Nat), .int .i64 0]⟩]) H.asc') hb hve ?_
 refine ⟨_,rfl,hext.refl _,?_⟩
 refine bindI_of (((b.length-i:Nat):Int)) (by exact i64_at _ _ (by rw [show ((8*(b.length-i):Nat):Int).tdiv 8=((8*(b.length-i) / 8:Nat):Int) from rfl]; omega) (by omega) (by omega)) ?_
 refine bindI_of (((i:Nat):Int)) (by exact i64_at _ _ (by omega) (by omega) (by omega)) ?_
 refine needs_of (by omega) ?_
 rw [Int.toNat_natCast]
 have hdl:(b.drop i).length=b.length-i:=List.length_drop
 have hsz:=szD_le ht4
 have hd8:∀ z∈b.drop i,z<256:=fun z hz=>hb.b8 z (List.mem_of_mem_drop hz)
 rw [<- hdl]
 refine Go.Ar.newDecoder_ok (n:=szD t) (b:=b.drop i) (by omega) (by omega) hd8 (by omega) (H.rdO (rdO_drop hr hve hcap)) fun p qq e0 bp bc h hbok H'=>?_
 have hdw:∀ s,(decL p qq e0 bp bc s).all Ent.w=true:=fun s=>by simp [decL,Go.Ar.decE,hbok.1]
 have hx:=H'.hext
 have H:=H.join H' (hdw _)
 clear H'
 refine ⟨_,_,rfl,hx,?_⟩
 refine ptr_of (a:=⟨r7,0,none⟩) ?_
 have H:=H.asc.rot
 have H:Hp hB [] h (⟨r7,true,T_dict_reader,[.pointer none, .int .i64 (t:Nat), .slice none 0 0, .slice none 0 0, .int .i64 (N:Nat), .int .i64 0]⟩::((rdE rr q' b.length c' i::D)++decL p qq e0 bp bc (newD (b.drop i) (szD t))++X)):=H.as (by simp only [List.cons_append,List.append_assoc])
 refine stA H 0 rfl rfl rfl fun h H=>?_
 refine need0_ok ?_
 obtain ⟨XX,hXX⟩:∃ XX:List Ent,XX=X++(rdE rr q' b.length c' i::D):=⟨_,rfl⟩
 have hXXw:XX.all Ent.w=true:=by rw [hXX,List.all_append,hXw,hDw]; rfl
 have H:Hp hB [] h (RdS r7 p t none 0 0 none 0 0 N 0::(decL p qq e0 bp bc (newD (b.drop i) (szD t))++XX)):=by
  have H:Hp hB [] h ([RdS r7 p t none 0 0 none 0 0 N 0]++(rdE rr q' b.length c' i::D)++(decL p qq e0 bp bc (newD (b.drop i) (szD t))++X)):=H.as (by simp only [RdS,List.cons_append,List.nil_append,List.append_assoc,List.set]; rfl)
  have H:=Hp.swap H
  rw [hXX]
  exact H.as (by simp only [List.cons_append,List.nil_append,List.append_assoc])
 have rdX:∀ {h:Heap} {A J:List Ent},Hp hB [] h (A++(XX++J))->Hp hB [] h (X++((rdE rr q' b.length c' i::D)++J)):=fun {h A J} H=>(Hp.suf H).as (by rw [hXX,List.append_assoc])
 have badX:∀ {er:Int} {h:Heap} {J:List Ent},decD b imp = .error er->er=130\/er=120->Hp hB [] h (XX++J)->Kp1 (dflt er) h:=fun {er h J} hd her H=>bad hd her (rdX (A:=[]) H)
 clear bad
 have H0:Hp hB [] h (RdS r7 p t none 0 0 none 0 0 N 0::(decL p qq e0 bp bc (newD (b.drop i) (szD t))++(XX++[]))):=H.as (by rw [List.append_nil])
 have rd0:∀ {h:Heap} {E:Ent} {s:Dec} {J:List Ent},Hp hB [] h (E::(decL p qq e0 bp bc s++(XX++J)))->Hp hB [] h (X++((rdE rr q' b.length c' i::D)++J)):=fun {h E s J} H=>rdX (A:=E::decL p qq e0 bp bc s) H
 refine rdI (rd0 H0) (rdP (rd0 H0) (ptr_of (a:=⟨r7,0,none⟩) (ldI_of (hpA H0 0 rfl rfl) ?_)))
 clear H0
 refine bindI_of (((imp.length+N:Nat):Int)) (by exact i64_at _ _ (by omega) (by omega) (by omega)) ?_
 have hok0:=Go.Ar.newD_ok hd8 (szD t)
 have herr:∀ (f:Nat) (new:List Bmp) (area:Nat) (hh:Int) (s:Dec),True:=fun _ _ _ _ _=>trivial
 obtain ⟨Rs,hRs⟩:∃ Rs,symF (szD t) t N (N+1) [] 0 0 (newD (b.drop i) (szD t))=Rs:=⟨_,rfl⟩
 rw [hRs] at hdec
 refine ⟨fun f vs h'=>∃ (new:List Bmp) (area cnt ah:Nat) (s:Dec) (RN:List Ent) (qn:Option Addr) (cn:Nat),symF (szD t) t N f new area (ah:Nat) s=Rs/\new.length<=N/\N-new.length+1<=f/\area<=1048576/\ah<=1048576/\cnt<=192*new.length+2*area/\vs=[.int .i64 (ah:Nat)] /\
   Go.Ar.DecOk (b.drop i) (szD t) cnt s/\ListO RN qn cn new/\MayL new/\Hp hB [] h' ((RdS r7 p t qn new.length cn none 0 0 (N-new.length) area::(decL p qq e0 bp bc s++XX))++RN),
  ⟨N+1,[],0,0,0,newD (b.drop i) (szD t),[],none,0,hRs,Nat.zero_le _,by simp,by decide,by decide,Nat.zero_le _,rfl,hok0,ListO.nil,(fun x hx=>by cases hx),by rw [List.append_nil]; exact H⟩,?_⟩
 clear H hRs hok0
 rintro f h u xa ⟨new,area,cnt,ah,s,RN,qn,cn,hsym,hln,hf,har,hah,hcnt,hxx,hok,hL,hM,H⟩
 injection hxx with hxx
 injection hxx with _ hxx
 subst xa
 obtain ⟨f,rfl⟩:∃ f',f=f'+1:=⟨f-1,by omega⟩
 unfold symF at hsym
 have H:Hp hB [] h (RdS r7 p t qn new.length cn none 0 0 (N-new.length) area::(decL p qq e0 bp bc s++(XX++RN))):=H.as (by simp only [List.cons_append,List.append_assoc])
 have hXRw:(XX++RN).all Ent.w=true:=by rw [List.all_append,hXXw,hL.w]; rfl
 refine rdP (rd0 H) (ptr_of (a:=⟨r7,0,none⟩) (ldI_of (hpA H 0 rfl rfl) ?_))
 refine bcase_dec (fun h6=>?_) fun h6=>?_
 rotate_left
 ·rw [if_pos (by omega)] at hsym
  rw [<- hsym] at hdec
  dsimp only at hdec
  have hNl:new.length=N:=by omega
  refine rdP (rd0 H) ?_
  obtain ⟨Rf,hRf⟩:∃ Rf,flF (szD t) (imp.length+N) (imp.length+N+2) [] false true s=Rf:=⟨_,rfl⟩
  rw [hRf] at hdec
  refine rflags_ok H hXRw hbok hok (by omega) (by omega) (by omega) (by omega) (by omega) hRf (fun ex RE qe ce s' h hex hsE H=>?_) fun er J h her H=>?_
  ·rw [hex] at hdec
   have hmid:Hp hB [] h (([RdS r7 p t qn new.length cn qe ex.length ce (N-new.length) area]++decL p qq e0 bp bc s')++(X++((rdE rr q' b.length c' i::D)++(RN++RE)))):=H.as (by rw [hXX]; simp only [List.cons_append,List.nil_append,List.append_assoc])
   have H:=hmid.rot
   refine hK1 h (⟨r5,true,T_api_Dict,[.int .i64 0, .slice none 0 0, .slice none 0 0]⟩::⟨r9,true,T_p_dict_reader,[.pointer (some ⟨r7,0,none⟩)]⟩::((⟨r1,true,T_s_uint8,[.slice q b.length c]⟩::⟨r3,true,T_s_api_Bitmap,[.slice qi imp.length ci]⟩::(rdE rr q' b.length c' i::D))++((RN++RE)++(RdS r7 p t qn new.length cn qe ex.length ce (N-new.length) area::decL p qq e0 bp bc s'))))
    ⟨t,new,ex,RN,qn,cn,RE,qe,ce,p,N-new.length,area,_,_,hdec,hM,hL,hsE,rfl⟩ ?_
   exact H.as (by rw [hX]; simp only [List.cons_append,List.nil_append,List.append_assoc])
  ·rw [her] at hdec
   have hflE:er=130:=by
    have key:∀ (f:Nat) (ex:List Bool) (v first:Bool) (s:Dec),ex.length<=imp.length+N->imp.length+N-ex.length+(if first=true then 2 else 1)<=f->flF (szD t) (imp.length+N) f ex v first s = .error er->er=130:=by
     intro f
     induction f with
     | zero=>exact fun ex v first s _ hz=>by split at hz <;> omega
     | succ f ih =>
      intro ex v first s hle hz he
      unfold flF at he
      split at he
      ·cases he
      ·split at he
       ·injection he with he; exact he.symm
       ·split at he
        ·injection he with he; exact he.symm
        ·rename_i h7 h8 h9
         refine ih _ _ _ _ ?_ ?_ he
         ·rw [List.length_append,List.length_replicate]; omega
         ·rw [List.length_append,List.length_replicate,if_neg (by decide)]
          cases first with
          | true=>rw [if_pos rfl] at hz; omega
          | false =>
           rw [if_neg (by decide)] at hz
           have:(decW (szD t) 1024 s).1.2.1≠0:=fun hh=>h9 (.inr (.inr (.inl ⟨hh,rfl⟩)))
           omega
    exact key _ _ _ _ _ (Nat.zero_le _) (by simp) (hRf.trans her)
   exact badX hdec (.inl hflE) H.asc
 rw [if_neg (by omega)] at hsym
 refine rdP (rd0 H) ?_
 have hdv:=decW_v (szD t) 0 s
 refine rnum_ok H hXRw hbok hok (by omega) (by omega) (by omega) (by omega) (by omega) (fun h c1 he hc1 hok1 H=>?_) fun J h he H=>?_
 rotate_left
 ·rw [if_pos he] at hsym
  rw [<- hsym] at hdec
  exact badX hdec (.inl rfl) H.asc
 rw [if_neg (by rw [he]; decide)] at hsym
 clear he
 generalize decW (szD t) 0 s=dw at *
 obtain ⟨⟨ee,v,nn'⟩,s1⟩:=dw
 dsimp only at *
 refine ⟨_,_,rfl,?_⟩
 refine newC_hp H fun r90 h H=>?_
 have H:=H.rot
 refine stA H 0 rfl rfl rfl fun h H=>?_
 refine stA H 0 rfl rfl rfl fun h H=>?_
 have H:Hp hB [] h ((⟨r90,true,T_api_Whole,[.int .i64 v, .bool nn']⟩::RdS r7 p t qn new.length cn none 0 0 (N-new.length) area::decL p qq e0 bp bc s1)++(XX++RN)):=H
 have rd9:∀ {h:Heap} {A:List Ent},Hp hB [] h (A++(XX++RN))->Hp hB [] h (X++((rdE rr q' b.length c' i::D)++RN)):=fun {h A} H=>rdX (A:=A) H
 refine ⟨fun _ h'=>¬ (nn'=true\/v<1)/\h'=h,?_,?_⟩
 ·refine ldB_of (hpA H 0 rfl rfl) ?_
  refine bcase_of (fun h7=>?_) fun h7=>?_
  ·rw [if_pos (.inl h7)] at hsym
   rw [<- hsym] at hdec
   exact dwrong_ok (fun hh=>by cases hh) fun _=>badX hdec (.inl rfl) (Hp.suf H)
  ·refine ldI_of (hpA H 0 rfl rfl) ?_
   refine dwrong_ok (fun h8=>?_) fun h8=>?_
   ·have h8:¬ v<1:=of_decide_eq_false h8
    exact ⟨fun hh=>by
     rcases hh with hh | hh
     ·rw [h7] at hh; cases hh
     ·exact h8 hh,rfl⟩
   ·have h8:v<1:=of_decide_eq_true h8
    rw [if_pos (.inr h8)] at hsym
    rw [<- hsym] at hdec
    exact badX hdec (.inl rfl) (Hp.suf H)
 rintro h' u ⟨hc7,rfl⟩
 rw [if_neg hc7] at hsym
 refine ldI_of (hpA H 0 rfl rfl) ?_
 obtain ⟨V,hV⟩:∃ V:Nat,((V:Nat):Int)=(ah:Int)+v:=⟨((ah:Int)+v).toNat,by omega⟩
 rw [<- hV] at hsym
 refine bindI_of (((V:Nat):Int)) (by (rw [hV]; exact i64_in _ (by omega) (by omega))) ?_
 refine dbig_ok (fun h8=>?_) fun h8=>?_
 rotate_left
 ·have h8:((V:Nat):Int) > 1048576:=of_decide_eq_true h8
  rw [if_pos (by omega)] at hsym
  rw [<- hsym] at hdec
  exact badX hdec (.inr rfl) (Hp.suf H)
 have h8:¬ ((V:Nat):Int) > 1048576:=of_decide_eq_false h8
 rw [if_neg (by omega)] at hsym
 refine rdP (rd9 H) ?_
 obtain ⟨Rc,hRc⟩:∃ Rc,clsF (szD t) t N (V:Nat) (N-new.length+2) new area 0 true s1=Rc:=⟨_,rfl⟩
 rw [hRc] at hsym
 have H:Hp hB [] h' ((RdS r7 p t qn new.length cn none 0 0 (N-new.length) area::(decL p qq e0 bp bc s1++XX))++RN):=(Hp.suf (X:=[⟨r90,true,T_api_Whole,[.int .i64 v, .bool nn']⟩]) (H.as (by simp only [List.cons_append,List.nil_append,List.append_assoc]):Hp hB [] h' ([⟨r90,true,T_api_Whole,[.int .i64 v, .bool nn']⟩]++(RdS r7 p t qn new.length cn none 0 0 (N-new.length) area::(decL p qq e0 bp bc s1++(XX++RN)))))).as (by simp only [List.cons_append,List.append_assoc])
 refine class_ok H hL hXXw hbok hok1 (by omega) ht4 rfl ⟨by omega,by omega⟩ (by omega) hln har (by omega) hM hRc (fun new' area' s' c2 RN' qn' cn' h hRc2 hlt hln' har' hc2 hok2 hL' hM' H=>?_) fun er J h her H=>?_
 ·rw [hRc2] at hsym
  dsimp only at hsym
  exact ⟨f,by omega,new',area',c2,V,s',RN',qn',cn',hsym,hln',by omega,har',by omega,hc2,rfl,hok2,hL',hM',H⟩
 ·rw [her] at hsym
  dsimp only at hsym
  rw [<- hsym] at hdec
  have hcE:er=130\/er=120:=by
   have key:∀ (f:Nat) (new:List Bmp) (area:Nat) (w:Int) (first:Bool) (s:Dec),new.length<=N->N-new.length+1<=f->clsF (szD t) t N (V:Nat) f new area w first s = .error er->er=130\/er=120:=by
    intro f
    induction f with
    | zero=>exact fun _ _ _ _ _ _ hz=>by omega
    | succ f ih =>
     intro new area w first s hle hz he
     unfold clsF at he
     split at he
     ·injection he with he; exact .inl he.symm
     ·split at he
      ·split at he
       ·injection he with he; exact .inl he.symm
       ·cases he
      ·split at he
       ·injection he with he; exact .inl he.symm
       ·split at he
        ·injection he with he; exact .inr he.symm
        ·rename_i h7 h8 h9 h10
         have hne:new.length≠N:=fun hh=>h9 (.inl hh)
         exact ih _ _ _ _ _ (by rw [List.length_append,List.length_singleton]; omega) (by rw [List.length_append,List.length_singleton]; omega) he
   exact key _ _ _ _ _ _ hln (by omega) (hRc.trans her)
  exact badX hdec hcE H
end
end Go.Bm
namespace Go.Bm
open Go Go.Den Go.Den.YtfaclehehhgpcaaGreat
open Go.Ar (Dec RP)
section
variable {hB h:Heap} {K:VK} {Kp:PK}
variable {x m t n bc nn cn ne ce area n0:Nat} {A:RP} {qn qe bp:Option Addr} {e0:Ent} {s:Dec} {bytes:List Nat} {X L:List Ent} {er e:Int}
variable {Rs:Except Int (List Bmp × Dec)}
variable {Rz:Except Int (List Bool)}
end
section
variable {hB:Heap} {K:VK} {Kp:PK} {q qi:Option Addr} {c ci:Nat} {b:List Nat} {imp:List Bmp}
end
end Go.Bm
namespace Go.Bm
open Go Go.Den Go.Den.YtfaclehehhgpcaaGreat
open Go.Ar (Dec decN newD bytesM flushM getD)
theorem bool_ne:∀ z v:Bool,z≠v->z = !v:=by decide
theorem nxF_stop (l:List Bmp) (i:Nat):∀ f j,l.length<=j+f->nxF l i f j<l.length->(sy l (nxF l i f j)).h≠(sy l i).h
 | 0,j,h1,h2=>by have h2:j<l.length:=h2; omega
 | f+1,j,h1,h2=>by
  unfold nxF at h2 ⊢
  by_cases hj:j<l.length
  ·rw [if_pos hj] at h2 ⊢
   by_cases hh:(sy l j).h=(sy l i).h
   ·rw [if_pos hh] at h2 ⊢
    exact nxF_stop l i f (j+1) (by omega) h2
   ·rw [if_neg hh]
    exact hh
  ·rw [if_neg hj] at h2
   omega
theorem nxt_stop {l:List Bmp} {i:Nat} (h:i<=l.length) (h2:nxt l i<l.length):(sy l (nxt l i)).h≠(sy l i).h:=nxF_stop l i _ i (by omega) h2
theorem sy_get {l:List Bmp} {i:Nat} (h:i<l.length):l[i]? = some (sy l i):=by
 rw [sy_at (List.getElem?_eq_getElem h)]
 exact List.getElem?_eq_getElem h
theorem sorted_sy {l:List Bmp} (hs:SortedTo l l.length) {i:Nat} (h:i+1<l.length):¬ (sy l (i+1)).below (sy l i):=hs i _ _ h (sy_get (by omega)) (sy_get h)
theorem midL_split {m t:Nat} {l:List Bmp} {A:List (Nat × Nat)} {ah:Int} {i k:Nat}:∀ d,∃ C,midL m t l A ah i (k+d)=midL m t l A ah i k++C
 | 0=>⟨[],by rw [List.append_nil]; rfl⟩
 | d+1=>by
  obtain ⟨C,hC⟩:=midL_split (m:=m) (t:=t) (l:=l) (A:=A) (ah:=ah) (i:=i) (k:=k) d
  refine ⟨C++bodyD m t (if k+d=0 then 0 else (sy l (i+(k+d)-1)).w) (sy l (i+(k+d))),?_⟩
  rw [<- Nat.add_assoc]
  show midL m t l A ah i (k+d)++_=_
  rw [hC,List.append_assoc]
theorem hisF_split {m t:Nat} {l:List Bmp}:∀ (f i:Nat) (ah:Int) (A:List (Nat × Nat)),∃ C,hisF m t l f i ah A=A++C
 | 0,_,_,A=>⟨[],by rw [List.append_nil]; rfl⟩
 | f+1,i,ah,A=>by
  unfold hisF
  split
  ·obtain ⟨C,hC⟩:=hisF_split (m:=m) (t:=t) (l:=l) f (nxt l i) (sy l i).h (midL m t l A ah i (nxt l i-i)++noneD m)
   obtain ⟨C2,hC2⟩:=midL_split (m:=m) (t:=t) (l:=l) (A:=A) (ah:=ah) (i:=i) (k:=0) (nxt l i-i)
   rw [Nat.zero_add] at hC2
   refine ⟨dsWh m 0 ((sy l i).h-ah) false++C2++noneD m++C,?_⟩
   rw [hC,hC2]
   show (A++dsWh m 0 ((sy l i).h-ah) false++C2++noneD m)++C=_
   simp only [List.append_assoc]
  ·exact ⟨[],by rw [List.append_nil]⟩
theorem flgF_split {m:Nat} {l:List Bool}:∀ (f:Nat) (v:Bool) (i:Nat) (A:List (Nat × Nat)),∃ C,flgF m l f v i A=A++C
 | 0,_,_,A=>⟨[],by rw [List.append_nil]; rfl⟩
 | f+1,v,i,A=>by
  unfold flgF
  split
  ·obtain ⟨C,hC⟩:=flgF_split (m:=m) (l:=l) f (!v) (rnt l v i) (A++dsWh m 1024 ((rnt l v i-i:Nat):Int) false)
   exact ⟨_,by rw [hC,List.append_assoc]⟩
  ·exact ⟨[],by rw [List.append_nil]⟩
section
variable {L:List (Nat × Nat)} {D:Nat->Dec} (hW:Walk L D) {m t:Nat} {l:List Bmp}
include hW
theorem get_v {A B:List (Nat × Nat)} {base v:Int} (hr:-2147483648<=v/\v<=2147483648) (e:L=A++(dsWh m base v false++B)):decW m base (D A.length)=((0,v,false),D (A++dsWh m base v false).length):=get_wh hW (.inr hr) e
theorem get_n {A B:List (Nat × Nat)} {base:Int} (e:L=A++(dsWh m base 0 true++B)):decW m base (D A.length)=((0,0,true),D (A++dsWh m base 0 true).length):=get_wh hW (.inl rfl) e
theorem gr_back {A C:List (Nat × Nat)} {b:Bmp} (ht:t<4) (hm:b.may) (hw:W64 b.ws) (hL:L=A++(dsG (getP b.ws b.w.toNat b.h.toNat) b.w.toNat m t false 1536 b.h.toNat++C)) :
  gGet m t b.w.toNat b.h.toNat (D A.length)=(b.ws,D (A++dsG (getP b.ws b.w.toNat b.h.toNat) b.w.toNat m t false 1536 b.h.toNat).length):=by
 have h1:=dec_g (getP b.ws b.w.toNat b.h.toNat) b.w.toNat m t false 1536 (getP_out _ _ _) hW ht hL b.h.toNat (Nat.le_refl _)
 rw [part_all] at h1
 refine gGet_eq ⟨h1,hm.2.1,hw,?_⟩
 obtain ⟨W,X,e1,e2,_⟩:=size_nat hm.1
 obtain ⟨bw,bh,ws⟩:=b
 have e1:bw=W:=e1
 have e2:bh=X:=e2
 subst e1 e2
 exact fun y hy x k1 k2=>pix_of_may (W:=W) (X:=X) hm hy k1 k2
theorem cls_back {A C:List (Nat × Nat)} {ah:Int} {i:Nat} (ht:t<4) (hm:MayL l) (hw:∀ b∈l,W64 b.ws) (hs:SortedTo l l.length) (ha:areaL l<=1048576) (hi:i<l.length) (hL:L=midL m t l A ah i (nxt l i-i)++(noneD m++C)) :
  ∀ (d k f:Nat),k+d=nxt l i-i->d+1<=f->clsF m t l.length (sy l i).h f (l.take (i+k)) (areaL (l.take (i+k))) (if k=0 then 0 else (sy l (i+k-1)).w) (Nat.beq k 0) (D (midL m t l A ah i k).length) =
   .ok (l.take (nxt l i),areaL (l.take (nxt l i)),D (midL m t l A ah i (nxt l i-i)++noneD m).length)
 | 0,k,f,hk,hf=>by
  have hgt:=nxt_gt hi
  obtain ⟨f,rfl⟩:∃ f',f=f'+1:=⟨f-1,by omega⟩
  rw [Nat.add_zero] at hk
  have e:i+k=nxt l i:=by omega
  have hd:=get_n hW (m:=m) (base:=512) (A:=midL m t l A ah i (nxt l i-i)) (B:=C) hL
  unfold clsF
  rw [hk,hd]
  have hkz:Nat.beq (nxt l i-i) 0=false:=Bool.eq_false_iff.2 fun hh=>by have:=Nat.eq_of_beq_eq_true hh; omega
  rw [if_neg (by simp),if_pos rfl,hkz,if_neg (by decide),show i+(nxt l i-i)=nxt l i by omega]
  rfl
 | d+1,k,f,hk,hf=>by
  obtain ⟨f,rfl⟩:∃ f',f=f'+1:=⟨f-1,by omega⟩
  have hnl:=nxt_le (Nat.le_of_lt hi)
  have hik:i+k<nxt l i:=by omega
  have hsame:=nxt_same (l:=l) (i:=i) (k:=i+k) (by omega) hik
  have hg:=sy_get (l:=l) (i:=i+k) (by omega)
  have hmb:=hm _ (List.mem_of_getElem? hg)
  have hwb:=hw _ (List.mem_of_getElem? hg)
  have hmay:=hmb.1
  obtain ⟨W,X,e1,e2,hW1,hW2,hX1,hX2,hWX⟩:=size_nat hmay
  obtain ⟨w,hwv⟩:∃ w:Int,w=if k=0 then 0 else (sy l (i+k-1)).w:=⟨_,rfl⟩
  have hwr:0<=w/\w<=(sy l (i+k)).w:=by
   rw [hwv]
   by_cases h0:k=0
   ·rw [if_pos h0]; omega
   ·rw [if_neg h0]
    have h2:=sorted_sy hs (i:=i+k-1) (by omega)
    rw [show i+k-1+1=i+k by omega] at h2
    have h3:=nxt_same (l:=l) (i:=i) (k:=i+k-1) (by omega) (by omega)
    have h4:=(size_nat (hm _ (List.mem_of_getElem? (sy_get (l:=l) (i:=i+k-1) (by omega)))).1)
    obtain ⟨W',X',e1',e2',_⟩:=h4
    unfold Bmp.below at h2
    omega
  rw [<- hwv]
  obtain ⟨C2,hC2⟩:=midL_split (m:=m) (t:=t) (l:=l) (A:=A) (ah:=ah) (i:=i) (k:=k+1) d
  rw [show k+1+d=nxt l i-i by omega] at hC2
  have hstep:midL m t l A ah i (k+1)=midL m t l A ah i k++(dsWh m 512 ((sy l (i+k)).w-w) false++dsG (getP (sy l (i+k)).ws (sy l (i+k)).w.toNat (sy l (i+k)).h.toNat) (sy l (i+k)).w.toNat m t false 1536 (sy l (i+k)).h.toNat):=by rw [hwv]; rfl
  have hL2:L=midL m t l A ah i k++(dsWh m 512 ((sy l (i+k)).w-w) false++(dsG (getP (sy l (i+k)).ws (sy l (i+k)).w.toNat (sy l (i+k)).h.toNat) (sy l (i+k)).w.toNat m t false 1536 (sy l (i+k)).h.toNat++(C2++(noneD m++C)))):=by rw [hL,hC2,hstep]; simp only [List.append_assoc]
  have hd:=get_v hW (m:=m) (base:=512) ⟨by omega,by omega⟩ hL2
  have hgr:=gr_back hW ht hmb hwb (A:=midL m t l A ah i k++dsWh m 512 ((sy l (i+k)).w-w) false) (by rw [List.append_assoc]; exact hL2)
  have hta:areaL (l.take (i+k+1))=areaL (l.take (i+k))+(sy l (i+k)).w.toNat*(sy l (i+k)).h.toNat:=by rw [take_snocG hg,areaL_snoc]
  have hle:=areaL_take l (i+k+1)
  have hpr:(sy l (i+k)).w*(sy l (i+k)).h=(((sy l (i+k)).w.toNat*(sy l (i+k)).h.toNat:Nat):Int):=by rw [e1,e2]; simp
  unfold clsF
  rw [hd,<- hsame]
  dsimp only
  rw [if_neg (by simp),if_neg (by decide),show w+((sy l (i+k)).w-w)=(sy l (i+k)).w by omega]
  rw [if_neg (by rw [List.length_take]; omega),if_neg (by rw [hpr]; omega),hgr]
  dsimp only
  have ih:=cls_back ht hm hw hs ha hi hL d (k+1) f (by omega) (by omega)
  rw [<- hsame] at ih
  rw [<- hta,show (l.take (i+k)++[(⟨(sy l (i+k)).w,(sy l (i+k)).h,(sy l (i+k)).ws⟩:Bmp)])=l.take (i+k+1) from (take_snocG hg).symm]
  rw [if_neg (by omega),show i+(k+1)-1=i+k by omega,hstep,show Nat.beq (k+1) 0=false from rfl,<- List.append_assoc] at ih
  exact ih
theorem sym_back {C:List (Nat × Nat)} (ht:t<4) (hm:MayL l) (hw:∀ b∈l,W64 b.ws) (hs:SortedTo l l.length) (ha:areaL l<=1048576) (hn:l.length<=4096):∀ (F i f:Nat) (ah:Int) (A:List (Nat × Nat)),i<=l.length->l.length<=i+F->l.length-i+1<=f->0<=ah->(i<l.length->ah<(sy l i).h) ->
  L=hisF m t l F i ah A++C->symF m t l.length f (l.take i) (areaL (l.take i)) ah (D A.length) = .ok (l,D (hisF m t l F i ah A).length)
 | 0,i,f,ah,A,hi,hF,hf,h0,hlt,hL=>by
  obtain ⟨f,rfl⟩:∃ f',f=f'+1:=⟨f-1,by omega⟩
  unfold symF
  rw [if_pos (by rw [List.length_take]; omega),List.take_of_length_le (by omega)]
  rfl
 | F+1,i,f,ah,A,hi,hF,hf,h0,hlt,hL=>by
  obtain ⟨f,rfl⟩:∃ f',f=f'+1:=⟨f-1,by omega⟩
  by_cases h1:i<l.length
  ·have hhis:hisF m t l (F+1) i ah A=hisF m t l F (nxt l i) (sy l i).h (midL m t l A ah i (nxt l i-i)++noneD m):=by
    show (if i<l.length then _ else A)=_
    rw [if_pos h1]
   rw [hhis] at hL ⊢
   have hgt:=nxt_gt h1
   have hnl:=nxt_le (Nat.le_of_lt h1)
   obtain ⟨C1,hC1⟩:=hisF_split (m:=m) (t:=t) (l:=l) F (nxt l i) (sy l i).h (midL m t l A ah i (nxt l i-i)++noneD m)
   obtain ⟨C2,hC2⟩:=midL_split (m:=m) (t:=t) (l:=l) (A:=A) (ah:=ah) (i:=i) (k:=0) (nxt l i-i)
   rw [Nat.zero_add] at hC2
   have hL1:L=midL m t l A ah i (nxt l i-i)++(noneD m++(C1++C)):=by rw [hL,hC1]; simp only [List.append_assoc]
   have hL2:L=A++(dsWh m 0 ((sy l i).h-ah) false++(C2++(noneD m++(C1++C)))):=by
    rw [hL1,hC2]
    show (A++dsWh m 0 ((sy l i).h-ah) false++C2)++_=_
    simp only [List.append_assoc]
   have hmay:=(hm _ (List.mem_of_getElem? (sy_get h1))).1
   obtain ⟨W,X,e1,e2,hW1,hW2,hX1,hX2,hWX⟩:=size_nat hmay
   have hlt':=hlt h1
   have hd:=get_v hW (m:=m) (base:=0) ⟨by omega,by omega⟩ hL2
   have hc:=cls_back hW ht hm hw hs ha h1 hL1 (nxt l i-i) 0 (l.length-i+2) (by omega) (by omega)
   simp only [Nat.add_zero] at hc
   rw [if_pos True.intro,show Nat.beq 0 0=true from rfl,show midL m t l A ah i 0=A++dsWh m 0 ((sy l i).h-ah) false from rfl] at hc
   unfold symF
   rw [if_neg (by rw [List.length_take]; omega),hd]
   dsimp only
   have htl:(l.take i).length=i:=by rw [List.length_take]; omega
   rw [if_neg (by simp),if_neg (by simp; omega),show ah+((sy l i).h-ah)=(sy l i).h by omega,if_neg (by omega),htl,hc]
   dsimp only
   refine sym_back ht hm hw hs ha hn F (nxt l i) f (sy l i).h _ hnl (by omega) (by omega) (by omega) (fun h3=>?_) hL
   have h4:=nxt_stop (Nat.le_of_lt h1) h3
   have h5:=sorted_sy hs (i:=nxt l i-1) (by omega)
   rw [show nxt l i-1+1=nxt l i by omega] at h5
   have h6:=nxt_same (l:=l) (i:=i) (k:=nxt l i-1) (by omega) (by omega)
   unfold Bmp.below at h5
   omega
  ·have hhis:hisF m t l (F+1) i ah A=A:=by
    show (if i<l.length then _ else A)=_
    rw [if_neg h1]
   rw [hhis]
   unfold symF
   rw [if_pos (by rw [List.length_take]; omega),List.take_of_length_le (by omega)]
theorem flg_back {l:List Bool} {C:List (Nat × Nat)} (hn:l.length<=8192):∀ (F:Nat) (v:Bool) (i f:Nat) (first:Bool) (A:List (Nat × Nat)),i<=l.length->flgN l v i<=F->l.length-i+1+(if i<l.length/\l.getD i false≠v then 1 else 0)<=f ->
  (first=false->i<l.length->l.getD i false=v)->L=flgF m l F v i A++C->flF m l.length f (l.take i) v first (D A.length) = .ok l
 | F,v,i,f,first,A,hi,hF,hf,h0,hL=>by
  obtain ⟨f,rfl⟩:∃ f',f=f'+1:=⟨f-1,by omega⟩
  by_cases h1:i<l.length
  ·obtain ⟨F,rfl⟩:∃ F',F=F'+1:=⟨F-1,by unfold flgN at hF; omega⟩
   have hnx:=flgN_next (v:=v) h1
   have hge:=rnt_ge l v i
   have hle:=rnt_le (v:=v) hi
   have hhis:flgF m l (F+1) v i A=flgF m l F (!v) (rnt l v i) (A++dsWh m 1024 ((rnt l v i-i:Nat):Int) false):=by
    show (if i<l.length then _ else A)=_
    rw [if_pos h1]
   rw [hhis] at hL
   obtain ⟨C1,hC1⟩:=flgF_split (m:=m) (l:=l) F (!v) (rnt l v i) (A++dsWh m 1024 ((rnt l v i-i:Nat):Int) false)
   have hL2:L=A++(dsWh m 1024 ((rnt l v i-i:Nat):Int) false++(C1++C)):=by rw [hL,hC1]; simp only [List.append_assoc]
   have hd:=get_v hW (m:=m) (base:=1024) ⟨by omega,by omega⟩ hL2
   have htl:(l.take i).length=i:=by rw [List.length_take]; omega
   unfold flF
   rw [if_neg (by omega),hd]
   dsimp only
   rw [if_neg (by simp),htl]
   rw [if_neg (fun hh=>by
    rcases hh with hh | hh | ⟨hh,hh2⟩ | hh
    ·cases hh
    ·omega
    ·have:=rnt_gt h1 (h0 hh2 h1); omega
    ·omega)]
   have hnew:l.take i++List.replicate ((rnt l v i-i:Nat):Int).toNat v=l.take (rnt l v i):=by
    rw [Int.toNat_natCast]
    refine List.ext_getElem? fun j=>?_
    rcases Nat.lt_or_ge j i with h2 | h2
    ·rw [List.getElem?_append_left (by omega),List.getElem?_take_of_lt h2,List.getElem?_take_of_lt (by omega)]
    ·rw [List.getElem?_append_right (by omega),htl]
     rcases Nat.lt_or_ge j (rnt l v i) with h3 | h3
     ·rw [List.getElem?_replicate_of_lt (by omega),List.getElem?_take_of_lt h3]
      have:=rnF_same l v _ i j h2 h3
      rw [List.getD_eq_getElem?_getD,List.getElem?_eq_getElem (by omega)] at this
      rw [List.getElem?_eq_getElem (by omega)]
      exact congrArg some this.symm
     ·rw [List.getElem?_eq_none (by simp; omega),List.getElem?_eq_none (by rw [List.length_take]; omega)]
   rw [hnew]
   have hst:∀ h3:rnt l v i<l.length,l.getD (rnt l v i) false = !v:=fun h3=>bool_ne _ _ (rnt_stop hi h3)
   refine flg_back hn F (!v) (rnt l v i) f false _ hle (by omega) ?_ (fun _ h3=>hst h3) hL
   rw [if_neg (fun hh=>hh.2 (hst hh.1))]
   by_cases hv:l.getD i false=v
   ·have:=rnt_gt h1 hv
    split at hf <;> omega
   ·rw [if_pos ⟨h1,hv⟩] at hf
    omega
  ·unfold flF
   rw [if_pos (by rw [List.length_take]; omega),List.take_of_length_le (by omega)]
end
theorem dec_enc {t:Nat} {new imp:List Bmp} {ex:List Bool} (hc:chkD (t:Nat) new ex.length imp=0) (hw:∀ b∈new,W64 b.ws):decD (dicB t new ex) imp = .ok (t,new,ex):=by
 obtain ⟨⟨h1,h2,h3,h4,h5⟩,h6,h7⟩:=chkD_zero hc
 have ht:t<4:=by omega
 have hlen:=dicD_len (m:=szD t) (t:=t) (ex:=ex) h2 (by omega) (by omega) h7
 have hW:=walk_of (m:=szD t) hlen.2 (by omega)
 generalize hLd:dicD (szD t) t new ex=L at *
 have hv:=varF_grp (b:=dicB t new ex) (i:=1) (rest:=bytesM (flushM (cdL (szD t) L))) 10 0 new.length 0 rfl (by unfold dicB; rw [hLd]; rfl) (by rw [Nat.pow_zero,Nat.mul_one]; exact lt9 (by omega)) (fun hh=>by omega)
 have hv:varP (dicB t new ex) 1=(0,new.length,1+(grp new.length).length):=by
  unfold varP
  rw [hv,Nat.pow_zero,Nat.mul_one,Nat.zero_add,Nat.add_zero]
  rfl
 have hdrop:(dicB t new ex).drop (1+(grp new.length).length)=bytesM (flushM (cdL (szD t) L)):=by
  unfold dicB
  rw [hLd,Nat.add_comm 1,List.drop_succ_cons,List.drop_left]
 obtain ⟨C,hC⟩:=flgF_split (m:=szD t) (l:=ex) (2*ex.length+1) false 0 (symD (szD t) t new)
 have hL1:L=symD (szD t) t new++C:=hLd.symm.trans hC
 have hsym:=sym_back hW (C:=C) ht h2 hw h5 h7 (by omega) new.length 0 (new.length+1) 0 [] (Nat.zero_le _) (by omega) (by omega) (Int.le_refl _) (fun h0=>by
  have:=(size_nat (h2 _ (List.mem_of_getElem? (sy_get h0))).1)
  obtain ⟨W,X,e1,e2,_,_,_,_,_⟩:=this
  omega) hL1
 have hflg:=flg_back hW (l:=ex) (C:=[]) (m:=szD t) (by omega) (2*ex.length+1) false 0 (ex.length+2) true (symD (szD t) t new) (Nat.zero_le _) (by unfold flgN; split <;> omega) (by split <;> omega) (fun hh=>by cases hh) (by rw [List.append_nil]; exact hLd.symm)
 rw [show (List.take 0 new)=[] from rfl,show areaL []=0 from rfl] at hsym
 rw [show (List.take 0 ex)=[] from rfl] at hflg
 unfold decD
 rw [if_neg (fun hh=>hh h1),if_neg (by omega)]
 rw [show (dicB t new ex)[0]? = some t from rfl]
 dsimp only
 rw [if_neg (by omega),hv]
 dsimp only
 rw [if_neg (by simp),if_neg (by omega),hdrop]
 rw [show newD (bytesM (flushM (cdL (szD t) L))) (szD t)=decN (kOf L) (bytesM (flushM (cdL (szD t) L))) (szD t) ([]:List (Nat × Nat)).length from rfl,hsym]
 dsimp only
 rw [<- h4]
 rw [show hisF (szD t) t new new.length 0 0 []=symD (szD t) t new from rfl,hflg]
end Go.Bm
namespace Go.Bm
open Go Go.Den Go.Den.YtfaclehehhgpcaaGreat
theorem Slot.cap {t:TypeId} {n c:Nat} {D:List Ent} {q:Option Addr} {xs:List Value} (hd:Slot t 1 D q n c xs):n<=c:=by
 obtain ⟨hl,⟨_,_,h4,_⟩ | ⟨b,rest,_,_,h4⟩⟩:=hd
 ·omega
 ·rw [List.length_append] at h4; omega
theorem dicB_lt {t:Nat} {new imp:List Bmp} {ex:List Bool} (hc:chkD (t:Nat) new ex.length imp=0):RdB (dicB t new ex):=by
 obtain ⟨⟨h1,h2,h3,h4,h5⟩,h6,h7⟩:=chkD_zero hc
 refine ⟨fun x hx=>?_,by have:=(dicB_len (t:=t) (ex:=ex) h2 (by omega) (by omega) h7).1; omega⟩
 unfold dicB at hx
 rcases List.mem_cons.1 hx with rfl | hx
 ·omega
 ·rcases List.mem_append.1 hx with hx | hx
  ·exact grp_lt x hx
  ·exact Go.Ar.flushM_lt (cdL_ok (Nat.le_trans (dicD_len (m:=szD t) (t:=t) (ex:=ex) h2 (by omega) (by omega) h7).1 (by decide))).wf x hx
theorem encD_ok {t:Nat} {new imp:List Bmp} {ex:List Bool} (hc:chkD (t:Nat) new ex.length imp=0):encD (t:Nat) new ex imp=dicB t new ex:=by
 unfold encD
 rw [if_pos hc,Int.toNat_natCast]
def wkN:List Bmp:=[⟨2,1,[0]⟩,⟨1,2,[9223372036854775808,0]⟩]
def wkI:List Bmp:=[⟨3,3,[0,0,0]⟩]
def wkE:List Bool:=[true,false,true]
theorem wk_may1:MayP 2 1 [0]:=by
 refine ⟨by unfold SizeP; omega,by decide,fun y hy=>?_⟩
 have:y=0:=by simp at hy; omega
 subst this
 decide
theorem wk_may2:MayP 1 2 [9223372036854775808,0]:=by
 refine ⟨by unfold SizeP; omega,by decide,fun y hy=>?_⟩
 have:y=0\/y=1:=by simp at hy; omega
 rcases this with rfl | rfl <;> decide
theorem wk_may3:MayP 3 3 [0,0,0]:=by
 refine ⟨by unfold SizeP; omega,by decide,fun y hy=>?_⟩
 have:y=0\/y=1\/y=2:=by simp at hy; omega
 rcases this with rfl | rfl | rfl <;> decide
theorem wk_w:∀ b∈wkN,W64 b.ws:=fun b hb=>by
 unfold wkN at hb
 rcases List.mem_cons.1 hb with rfl | hb
 ·intro v hv; simp at hv; subst hv; decide
 ·rw [List.mem_singleton.1 hb]
  intro v hv; simp at hv; rcases hv with rfl | rfl <;> decide
theorem wk_chk:chkD ((2:Nat):Int) wkN wkE.length wkI=0:=by
 refine chkD_ok ⟨fun b hb=>?_,fun b hb=>?_,by decide,rfl,fun i a b hi ha hb=>?_⟩ (by decide)
 ·rw [List.mem_singleton.1 hb]; exact wk_may3
 ·rcases List.mem_cons.1 hb with rfl | hb
  ·exact wk_may1
  ·rw [List.mem_singleton.1 hb]; exact wk_may2
 ·have hi:i+1<2:=hi
  have:i=0:=by omega
  subst this
  injection ha with ha
  injection hb with hb
  subst ha hb
  unfold Bmp.below
  decide
theorem wk_len:Nat.blt 2 (dicB 2 wkN wkE).length=true:=by kernel_rfl
theorem wk_pick:pickD (wkI++wkN) wkE=[⟨3,3,[0,0,0]⟩,⟨1,2,[9223372036854775808,0]⟩]:=rfl
theorem wk_exp:expD ((2:Nat):Int) wkN wkE wkI=[⟨3,3,[0,0,0]⟩,⟨1,2,[9223372036854775808,0]⟩]:=by
 unfold expD
 rw [if_pos wk_chk,wk_pick]
section
variable {hB:Heap} {K:VK} {Kp:PK}
set_option maxHeartbeats 4000000 in
theorem wakes13_ok (hk:∀ h',hext hB h'->K (.bool true) h'):CP F_burinlaw13_wakes #[] hB K Kp:=by
 refine call_burinlaw13_wakes ?_
 unfold burinlaw13_wakes
 have hs21:SizeP ((2:Nat):Int) ((1:Nat):Int):=by unfold SizeP; omega
 have hs33:SizeP ((3:Nat):Int) ((3:Nat):Int):=by unfold SizeP; omega
 refine white_ok (W:=2) (X:=1) hs21 fun q1 h H=>?_
 refine ⟨_,_,_,_,_,rfl,?_⟩
 refine newC_hp H fun r6 h H=>?_
 refine newC_hp H fun r8 h H=>?_
 refine newC_hp H fun r10 h H=>?_
 refine newC_hp H fun r12 h H=>?_
 have H:Hp hB [] h [⟨q1,true,T_uint64,u64s [0]⟩,⟨r6,true,T_uint64,u64s [9223372036854775808,0]⟩,⟨r8,true,T_api_Bitmap,[.int .i64 2, .int .i64 1, .slice (at0 q1) 1 1, .int .i64 1, .int .i64 2, .slice (at0 r6) 2 2]⟩,⟨r10,true,T_bool,[.bool true, .bool false, .bool true]⟩,⟨r12,true,T_api_Dict,[.int .i64 0, .slice none 0 0, .slice none 0 0]⟩]:=H
 refine stA H 4 rfl rfl rfl fun h H=>?_
 refine stA H 4 rfl rfl rfl fun h H=>?_
 refine stA H 4 rfl rfl rfl fun h H=>?_
 refine white_ok (W:=3) (X:=3) hs33 fun q2 h' H'=>?_
 replace H:=H.join H' rfl
 clear H'
 refine ⟨_,_,_,_,_,rfl,?_⟩
 refine newC_hp H fun r22 h H=>?_
 obtain ⟨A,hA⟩:∃ A:List Ent,A=[⟨q1,true,T_uint64,u64s [0]⟩,⟨r6,true,T_uint64,u64s [9223372036854775808,0]⟩,⟨r8,true,T_api_Bitmap,[.int .i64 2, .int .i64 1, .slice (at0 q1) 1 1, .int .i64 1, .int .i64 2, .slice (at0 r6) 2 2]⟩,⟨r10,true,T_bool,[.bool true, .bool false, .bool true]⟩,⟨r12,true,T_api_Dict,[.int .i64 2, .slice (at0 r8) 2 2, .slice (at0 r10) 3 3]⟩,⟨q2,true,T_uint64,u64s [0,0,0]⟩,⟨r22,true,T_api_Bitmap,[.int .i64 3, .int .i64 3, .slice (at0 q2) 3 3]⟩]:=⟨_,rfl⟩
 have H:Hp hB [] h A:=by rw [hA]; exact H
 have rdA:∀ {h:Heap} {L:List Ent},Hp hB [] h (A++L)->BmsV h (at0 r8) wkN/\BmsV h (at0 r22) wkI/\FlsV h (at0 r10) wkE:=fun {h L} H=>by
  rw [hA] at H
  have rq1:rdO h (at0 q1) (1*1) (u64s [0]):=Hp.rdO_mem (rest:=[]) (w:=true) (t:=T_uint64) (cs:=u64s [0]) H (by rw [List.append_nil]; exact List.mem_cons_self ..) rfl
  have rr6:rdO h (at0 r6) (2*1) (u64s [9223372036854775808,0]):=Hp.rdO_mem (rest:=[]) (w:=true) (t:=T_uint64) (cs:=u64s [9223372036854775808,0]) H (by rw [List.append_nil]; exact List.mem_cons_of_mem _ (List.mem_cons_self ..)) rfl
  have rq2:rdO h (at0 q2) (3*1) (u64s [0,0,0]):=Hp.rdO_mem (rest:=[]) (w:=true) (t:=T_uint64) (cs:=u64s [0,0,0]) H (by rw [List.append_nil]; exact List.mem_of_getElem? (i:=5) rfl) rfl
  have rr10:rdO h (at0 r10) (3*1) [.bool true, .bool false, .bool true]:=Hp.rdO_mem (rest:=[]) (w:=true) (t:=T_bool) (cs:=[.bool true, .bool false, .bool true]) H (by rw [List.append_nil]; exact List.mem_of_getElem? (i:=3) rfl) rfl
  have w0:∀ l:List Nat,(∀ x∈l,x=0\/x=9223372036854775808)->W64 l:=fun l hl v hv=>by
   rcases hl v hv with rfl | rfl <;> decide
  refine ⟨fun i b hi=>?_,fun i b hi=>?_,rr10⟩
  ·match i,hi with
   | 0,hi =>
    injection hi with hi
    subst hi
    exact ⟨⟨r8,0,none⟩,at0 q1,1,rfl,⟨hpB H 2 rfl rfl,hpB H 2 rfl rfl,hpB H 2 rfl rfl,rq1,w0 _ (by simp),by decide⟩⟩
   | 1,hi =>
    injection hi with hi
    subst hi
    exact ⟨⟨r8,0,none⟩,at0 r6,2,rfl,⟨hpB H 2 rfl rfl,hpB H 2 rfl rfl,hpB H 2 rfl rfl,rr6,w0 _ (by simp),by decide⟩⟩
  ·match i,hi with
   | 0,hi =>
    injection hi with hi
    subst hi
    exact ⟨⟨r22,0,none⟩,at0 q2,3,rfl,⟨hpB H 6 rfl rfl,hpB H 6 rfl rfl,hpB H 6 rfl rfl,rq2,w0 _ (by simp),by decide⟩⟩
 have rdD:∀ {h:Heap} {L:List Ent} {KK:Int->Option Addr->Nat->Nat->Option Addr->Nat->Nat->Prop},Hp hB [] h (A++L)->KK 2 (at0 r8) 2 2 (at0 r10) 3 3->ldI h ((⟨r12,0,none⟩:Addr).add 0) .i64 fun x=>ldS h ((⟨r12,0,none⟩:Addr).add 1) fun y yn yc=>ldS h ((⟨r12,0,none⟩:Addr).add 2) fun z zn zc=>KK x y yn yc z zn zc:=fun {h L KK} H hKK=>by
  rw [hA] at H
  exact ldI_of (hpA H 4 rfl rfl) (ldS_of (hpA H 4 rfl rfl) (ldS_of (hpA H 4 rfl rfl) hKK))
 have H:Hp hB [] h (A++[]):=H.as (by rw [List.append_nil])
 refine rdD (KK:=fun x y yn yc z zn zc=>CP F_dict_Encode #[.agg #[.int .i64 x, .slice y yn yc, .slice z zn zc], .slice (some ⟨r22,0,none⟩) 1 1] h _ Kp) H ?_
 obtain ⟨v1,v2,v3⟩:=rdA H
 refine dEnc_ok (t:=((2:Nat):Int)) (new:=wkN) (ex:=wkE) (imp:=wkI) v1 v2 v3 (by decide) (by decide) (by decide) fun D qo co h' hs H'=>?_
 rw [wk_chk,encD_ok wk_chk] at *
 replace H:=H.join H' hs.w
 clear H'
 refine ⟨_,_,_,_,rfl,?_⟩
 have H:Hp hB [] h' (A++D):=H.as (by rw [List.append_nil])
 obtain ⟨v1,v2,v3⟩:=rdA H
 refine dDec_ok (imp:=wkI) (dicB_lt wk_chk) (Slot.rdO' hs H fun e he=>List.mem_append_right _ he) (Slot.cap hs) v2 (by decide) (fun t new ex RN qn cn RE qe ce h2 hd hM hL hsE H'=>?_) fun er h2 hd _ _=>?_
 rotate_left
 ·rw [dec_enc wk_chk wk_w] at hd; cases hd
 rw [dec_enc wk_chk wk_w] at hd
 injection hd with hd
 injection hd with e1 hd
 injection hd with e2 e3
 subst e1 e2 e3
 replace H:=H.join H' (by rw [List.all_append,hL.w,hsE.w]; rfl)
 clear H'
 refine ⟨_,_,_,_,_,_,_,_,rfl,?_⟩
 refine newC_hp H fun r37 h H=>?_
 have H:=H.rot
 refine stA H 0 rfl rfl rfl fun h H=>?_
 refine stA H 0 rfl rfl rfl fun h H=>?_
 refine stA H 0 rfl rfl rfl fun h H=>?_
 have H:Hp hB [] h (⟨r37,true,T_api_Dict,[.int .i64 ((2:Nat):Int), .slice qn wkN.length cn, .slice qe wkE.length ce]⟩::(A++D++(RN++RE))):=H
 have HA:Hp hB [] h (A++(D++(RN++RE))):=(Hp.suf (X:=[_]) H).asc
 refine rdD (KK:=fun x y yn yc z zn zc=>CP F_dict_Exported #[.agg #[.int .i64 x, .slice y yn yc, .slice z zn zc], .slice (some ⟨r22,0,none⟩) 1 1] h _ Kp) HA ?_
 obtain ⟨v1,v2,v3⟩:=rdA HA
 refine dExp_ok (t:=((2:Nat):Int)) (new:=wkN) (ex:=wkE) (imp:=wkI) v1 v2 v3 (by decide) (by decide) fun R q9 c9 h' hL9 H'=>?_
 rw [wk_chk,wk_exp] at *
 replace H:=H.join H' hL9.w
 clear H'
 refine ⟨_,_,_,_,rfl,?_⟩
 refine bcase_eq (fun _=>?_) fun hh=>absurd rfl hh
 refine bcase_eq (fun _=>?_) fun hh=>absurd rfl hh
 refine bcase_eq (fun _=>?_) fun hh=>absurd rfl hh
 refine bcase_dec (fun _=>?_) fun hh=>?_
 rotate_left
 ·have:=Nat.le_of_ble_eq_true wk_len
  exact absurd (show (((dicB 2 wkN wkE).length:Nat):Int) > 2 by omega) hh
 refine ldI_of (hpA H 0 rfl rfl) (ldS_of (hpA H 0 rfl rfl) (ldS_of (hpA H 0 rfl rfl) ?_))
 have H:Hp hB [] h' ([⟨r37,true,T_api_Dict,[.int .i64 ((2:Nat):Int), .slice qn wkN.length cn, .slice qe wkE.length ce]⟩]++(A++D++(RN++RE)++R)):=H
 have HA:Hp hB [] h' (A++(D++(RN++RE)++R)):=(Hp.suf H).as (by simp only [List.append_assoc])
 obtain ⟨v1,v2,v3⟩:=rdA HA
 refine rdD (KK:=fun x y yn yc z zn zc=>CP F_burinref0_EqDict #[.agg #[.int .i64 ((2:Nat):Int), .slice qn wkN.length cn, .slice qe wkE.length ce], .agg #[.int .i64 x, .slice y yn yc, .slice z zn zc]] h' _ Kp) HA ?_
 have w1:BmsV h' qn wkN:=hL.view HA fun e he=>by simp [he]
 have w2:FlsV h' qe wkE:=Slot.rdO' hsE HA fun e he=>by simp [he]
 refine eqDict_ok (new:=wkN) (ex:=wkE) w1 v1 w2 v3 (by decide) (by decide) fun h2 e=>?_
 have HA:=HA.ext e
 refine ⟨_,rfl,?_⟩
 refine bcase_of (fun _=>?_) fun hh=>by cases hh
 refine bcase_eq (fun _=>?_) fun hh=>absurd rfl hh
 have w3:=hL9.view HA fun e he=>by simp [he]
 obtain ⟨a0,p0,c0,hq0,b0⟩:=w3 0 _ rfl
 obtain ⟨a1,p1,c1,hq1,b1⟩:=w3 1 _ rfl
 refine needs_of (by decide) (ptr_at hq0 ?_)
 refine ldI_of b0.c0 ?_
 refine bcase_eq (fun _=>?_) fun hh=>absurd rfl hh
 refine needs_of (by decide) (ptr_at hq1 ?_)
 refine ldI_of b1.c1 ?_
 exact hk h2 HA.hext
end
end Go.Bm
namespace Go.Bm
open Go Go.Den Go.Den.YtfaclehehhgpcaaGreat
end Go.Bm
namespace Go.Den.YtfaclehehhgpcaaGreat
open Go Go.Den
end Go.Den.YtfaclehehhgpcaaGreat
namespace Go.Den.YtfaclehehhgpcaaGreat
open Go Go.Den
end Go.Den.YtfaclehehhgpcaaGreat
namespace Go.Bm
open Go Go.Den Go.Den.YtfaclehehhgpcaaGreat
end Go.Bm
namespace Go.Bm
open Go Go.Den Go.Den.YtfaclehehhgpcaaGreat
section
variable {hB:Heap} {K:VK} {Kp:PK} {q qi:Option Addr} {c ci:Nat} {b:List Nat} {imp:List Bmp}
end
end Go.Bm
namespace Go.Den.YtfaclehehhgpcaaGreat
open Go Go.Den
end Go.Den.YtfaclehehhgpcaaGreat
namespace Go.Den.YtfaclehehhgpcaaGreat
open Go Go.Den
end Go.Den.YtfaclehehhgpcaaGreat
namespace Go.Bm
open Go Go.Den Go.Den.YtfaclehehhgpcaaGreat
section
variable {hB h:Heap} {K:VK} {Kp:PK}
end
section
variable {hB:Heap} {K:VK} {Kp:PK}
end
end Go.Bm
namespace Go.Den.YtfaclehehhgpcaaGreat
open Go Go.Den
end Go.Den.YtfaclehehhgpcaaGreat
namespace Go.Den.YtfaclehehhgpcaaGreat
open Go Go.Den
end Go.Den.YtfaclehehhgpcaaGreat
namespace Go.Bm
open Go Go.Den Go.Den.YtfaclehehhgpcaaGreat
open Go.Ar (add_add')
theorem viewO {h0 h:Heap} {F:List Nat} {L E:List Ent} {q:Option Addr} {n c:Nat} {O:List Own} (hE:Slot T_api_Bitmap 3 E q n c (csO O)) (H:Hp h0 F h L) (hs:∀ e∈E,e∈L) (hr:∀ o∈O,o.Ok/\∀ e∈o.D,e∈L):BmsV h q (O.map Own.b):=fun i b hi=>by
 rw [List.getElem?_map] at hi
 cases ho:O[i]? with
 | none=>rw [ho] at hi; cases hi
 | some o =>
  rw [ho] at hi
  injection hi with hi
  subst hi
  obtain ⟨hok,hD⟩:=hr o (List.mem_of_getElem? ho)
  have hrd:=Slot.rdO' hE H hs
  have cell:∀ j v,j<3->o.cs[j]? = some v->∃ a,q=some a/\hcell h ((a.add (i*3)).add j)=some v:=fun j v hj hv=>by
   obtain ⟨a,h1,h2⟩:=rdO_cell hrd (i:=i*3+j) ((csO_get O i j o ho hj).trans hv)
   exact ⟨a,h1,by rw [add_add']; exact h2⟩
  obtain ⟨a,ha,k0⟩:=cell 0 _ (by decide) rfl
  obtain ⟨a1,ha1,k1⟩:=cell 1 _ (by decide) rfl
  obtain ⟨a2,ha2,k2⟩:=cell 2 _ (by decide) rfl
  obtain rfl:a=a1:=Option.some.inj (ha.symm.trans ha1)
  obtain rfl:a=a2:=Option.some.inj (ha.symm.trans ha2)
  exact ⟨a,o.q,o.c,ha,⟨k0,k1,k2,Slot.rdO' hok.s H hD,hok.w,hok.l⟩⟩
section
variable {hB:Heap} {K:VK} {Kp:PK}
theorem noneV {h:Heap}:BmsV h none ([]:List Bmp):=fun i b hi=>by simp at hi
end
end Go.Bm
