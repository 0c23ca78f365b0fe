/- Written by gen.py: the conditions of the functions of slices. -/
import Derived.Test.YtlmopdohgipbeaaNums
set_option linter.unusedVariables false
set_option linter.unusedSimpArgs false
namespace Go.Den.Ytlmopdohgipbeaa
open Go Go.Den

/- slices.Clone[[]uint64,uint64] -/
set_option maxRecDepth 100000 in
def slices_Clone_uint64_uint64 (C : CallP) (s : Option Addr) (sn : Nat) (sc : Nat) (h : Heap) (K : Value → Heap → Prop) (Kp : List PanicEntry → Heap → Prop) : Prop :=
bcase (Option.isNone s) (
K (.slice none 0 0) h) <|
newC h [] T_uint64 fun r_1 h_2 =>
appC h_2 T_uint64 1 8 [.int .u64 0] (some ⟨r_1, 0, none⟩) (0) (0) s (sn) fun q_3 q_3n q_3c h_4 =>
K (.slice q_3 q_3n q_3c) h_4

end Go.Den.Ytlmopdohgipbeaa
