/- DenD: slices (make, append, copy, cut), calls, and one condition for each operation, with the proof that it is enough. No program in sight. -/
import Derived.Test.YtlmopdohgipbeaaDenC
import Derived.IntWalk
set_option linter.unusedVariables false
set_option linter.unusedSimpArgs false
namespace Go.Den

def rdO (h : Heap) (q : Option Addr) (n : Nat) (cs : List Value) : Prop := match q with
  | some a => rdAll h a n cs
  | none => cs = []

/-- append: in place where there is room; else into a new row, of whatever capacity. -/
def appC (h : Heap) (e sz by_ : Nat) (z : List Value) (base : Option Addr) (n c : Nat) (src : Option Addr) (m : Nat) (K : Option Addr → Nat → Nat → Heap → Prop) : Prop :=
  ∃ new : List Value, rdO h src (m * sz) new ∧
    if n + m ≤ c then (match base with
      | some a => stVs h (a.add (n * sz)) 0 new fun h' => K base (n + m) c h'
      | none => K none (n + m) c h)
    else (n + m) * by_ ≤ 70368744177664 ∧ ∃ old : List Value, rdO h base (n * sz) old ∧
      ∀ cap, n + m ≤ cap → K (some ⟨h.size, 0, none⟩) (n + m) cap (h.push (.cells (old ++ new ++ repZ z (cap - (n + m))).toArray e))

def copC (h : Heap) (sz : Nat) (base : Option Addr) (dl : Nat) (src : Option Addr) (sl : Nat) (K : Nat → Heap → Prop) : Prop :=
  ∃ new : List Value, rdO h src (Nat.min sl dl * sz) new ∧ (match base with
    | some a => stVs h a 0 new fun h' => K (Nat.min sl dl) h'
    | none => K (Nat.min sl dl) h)

def bytesT (P : Program) (t : TypeId) : Option Nat := match P.info? t with
  | some i => some i.bytes
  | none => none
def notInt : Option TypeDesc → Bool
  | some (.int _) => false
  | some _ => true
  | none => false

def appD (P : Program) (sT xT : TypeId) (s x : Value) (h : Heap) (K : Value → Heap → Prop) : Prop :=
  match P.underlying sT, notInt (P.underlying xT), s, x with
  | some (.slice e), true, .slice base n c, .slice src m _ => (match sizeT P e, bytesT P e, zeroT P e with
    | some sz, some by_, some (z0 :: z) => (match Nat.ble by_ 1048576 && Nat.blt 0 by_ with
      | true => appC h e sz by_ (z0 :: z) base n c src m fun q n' c' h' => K (.slice q n' c') h'
      | false => False)
    | _, _, _ => False)
  | _, _, _, _ => False
def copD (P : Program) (dT : TypeId) (d s : Value) (h : Heap) (K : Value → Heap → Prop) : Prop :=
  match P.underlying dT, d, s with
  | some (.slice e), .slice base dl _, .slice src sl _ => (match sizeT P e with
    | some sz => copC h sz base dl src sl fun n h' => K (.int .i64 (n : Int)) h'
    | none => False)
  | _, _, _ => False

def subA (q : Option Addr) (m l sz : Nat) : Option Addr := if m = l then q else q.map fun a => a.add (l * sz)
def bndD (x : Value) (y : Nat) (K : Nat → Prop) : Prop := match x with
  | .int _ i => needs (0 ≤ i ∧ i ≤ (y : Int)) (K i.toNat)
  | _ => False
theorem bndD_mono {x : Value} {y : Nat} {K K' : Nat → Prop} (H : bndD x y K) (hk : ∀ n, K n → K' n) : bndD x y K' := by
  unfold bndD at H ⊢
  split at H
  · exact needs_of (needs_iff.1 H).1 (hk _ (needs_iff.1 H).2)
  · exact H.elim
def optD (x : Option Value) (d y : Nat) (K : Nat → Prop) : Prop := match x with
  | none => K d
  | some v => bndD v y K
theorem optD_none {d y : Nat} {K : Nat → Prop} (H : optD none d y K) : K d := H
theorem optD_some {v : Value} {d y : Nat} {K : Nat → Prop} (H : optD (some v) d y K) : bndD v y K := H
def slcD (P : Program) (t : TypeId) (x : Value) (lo hi mx : Option Value) (K : Value → Prop) : Prop :=
  match P.underlying t, x with
  | some (.slice e), .slice q len cap => (match sizeT P e with
    | some sz => (match mx.isSome && hi.isNone with
      | true => False
      | false => optD mx cap cap fun m => optD hi len m fun h => optD lo 0 h fun l => K (.slice (subA q m l sz) (h - l) (m - l)))
    | none => False)
  | some .string, .string s => (match mx with
    | none => optD hi s.size s.size fun h => optD lo 0 h fun l => K (.string (s.extract l h))
    | some _ => False)
  | _, _ => False

def mkD (P : Program) (t : TypeId) (len cap : Value) (h : Heap) (K : Value → Heap → Prop) : Prop :=
  match P.underlying t, len, cap with
  | some (.slice e), .int _ l, .int _ c => (match sizeT P e, bytesT P e, zeroT P e with
    | some sz, some by_, some (z0 :: z) => (match Nat.beq (z0 :: z).length sz with
      | true => needs (0 ≤ l ∧ l ≤ c ∧ c ≤ 9223372036854775807 ∧ (by_ : Int) * c ≤ 281474976710656)
          (K (.slice (some ⟨h.size, 0, none⟩) l.toNat c.toNat) (h.push (.cells (repZ (z0 :: z) c.toNat).toArray e)))
      | false => False)
    | _, _, _ => False)
  | _, _, _ => False

def minI (x y : Int) : Int := if y < x then y else x
def maxI (x y : Int) : Int := if y > x then y else x
def minsD (k : IntKind) (x : Int) : List Value → (Value → Prop) → Prop
  | [], K => K (.int k x)
  | .int _ y :: rest, K => minsD k (minI x y) rest K
  | _ :: _, _ => False
def maxsD (k : IntKind) (x : Int) : List Value → (Value → Prop) → Prop
  | [], K => K (.int k x)
  | .int _ y :: rest, K => maxsD k (maxI x y) rest K
  | _ :: _, _ => False

/-- The kinds of a result. -/
inductive RT where
  | cell (t : CT) | agg (ts : List CT) | big (n : Nat)
def rtOf (P : Program) (t : TypeId) : Option RT := match isAggT P t with
  | false => (match cts P 1 t with
    | some [c] => some (.cell c)
    | _ => none)
  | true => (match cts P 8 t, sizeT P t with
    | some ts, _ => some (.agg ts)
    | none, some n => some (.big n)
    | none, none => none)
def rtsOf (P : Program) : List TypeId → Option (List RT)
  | [] => some []
  | t :: ts => match rtOf P t, rtsOf P ts with
    | some r, some rs => some (r :: rs)
    | _, _ => none
def exR : RT → (Value → Prop) → Prop
  | .cell t, p => exC t p
  | .agg ts, p => exCs ts fun vs => p (.agg vs.toArray)
  | .big n, p => ∃ cs : List Value, cs.length = n ∧ p (.agg cs.toArray)
def exRs : List RT → (List Value → Prop) → Prop
  | [], p => p []
  | r :: rs, p => exR r fun v => exRs rs fun vs => p (v :: vs)
def asRes (P : Program) (ts : List TypeId) (v : Value) (K : Value → Prop) : Prop := match ts with
  | [] => K v
  | [t] => (match rtOf P t with
    | some r => exR r fun v' => v = v' ∧ K v'
    | none => False)
  | t :: u :: ts => (match rtsOf P (t :: u :: ts) with
    | some rs => exRs rs fun vs => v = .tuple vs.toArray ∧ K (.tuple vs.toArray)
    | none => False)

/-- What is known of calls: a condition on the heap ahead of the call, for what follows a return and what follows a panic. -/
abbrev CallP := FuncId → Array Value → Heap → (Value → Heap → Prop) → (List PanicEntry → Heap → Prop) → Prop

structure CallOK (P : Program) (C : CallP) : Prop where
  mono : ∀ {g args h K K' Kp Kp'}, C g args h K Kp → (∀ v h, K v h → K' v h) → (∀ c h, Kp c h → Kp' c h) → C g args h K' Kp'
  enter : ∀ {g args h K Kp}, C g args h K Kp → ∃ fn, P.funcs[g]? = some fn ∧ (fn.name == "runtime.NumGoroutine") = false ∧ fn.body.isNone = false
  calls : ∀ {g args h K Kp}, C g args h K Kp → ∀ {w : World}, w.heap = h → Calls P g args w fun e w' => keeps w w' ∧ match e with
    | .returned v => K v w'.heap
    | .panicked c => Kp c w'.heap
    | .outgrown => False

def callD (C : CallP) (Kp : List PanicEntry → Heap → Prop) (f : Value) (args : List Value) (h : Heap) (K : Value → Heap → Prop) : Prop :=
  match f with
  | .func (.func g) first captured => C g (first.toList ++ args ++ captured.toList).toArray h K Kp
  | _ => False
/-- The result of a call of this type. -/
def asResT (P : Program) (t : TypeId) (v : Value) (K : Value → Prop) : Prop := match P.underlying t with
  | some (.tuple ts) => asRes P ts.toList v K
  | some _ => asRes P [t] v K
  | none => False

def lenD (P : Program) (t : TypeId) (x : Value) (K : Value → Prop) : Prop := match P.underlying t, x with
  | some (.slice _), .slice _ n _ => K (.int .i64 (n : Int))
  | some .string, .string s => K (.int .i64 (s.size : Int))
  | some (.array n _), _ => K (.int .i64 (n : Int))
  | _, _ => False
def capD (P : Program) (t : TypeId) (x : Value) (K : Value → Prop) : Prop := match P.underlying t, x with
  | some (.slice _), .slice _ _ c => K (.int .i64 (c : Int))
  | _, _ => False

def builtinD (P : Program) (b : Builtin) (ts : List TypeId) (args : List Value) (h : Heap) (K : Value → Heap → Prop) : Prop := match b, ts, args with
  | .len, [t], [x] => lenD P t x fun v => K v h
  | .cap, [t], [x] => capD P t x fun v => K v h
  | .append, [t, u], [s, x] => appD P t u s x h K
  | .copy, [t, _], [d, s] => copD P t d s h K
  | .min, _, .int k x :: rest => minsD k x rest fun v => K v h
  | .max, _, .int k x :: rest => maxsD k x rest fun v => K v h
  | _, _, _ => False

def fieldAddrD (P : Program) (s : TypeId) (x : Value) (f : Nat) (K : Value → Prop) : Prop := match P.underlying s, x with
  | some (.struct fs), .pointer (some a) => (match fs[f]? with
    | some fd => (match sizeT P fd.type with
      | some (_ + 1) => K (.pointer (some (a.add fd.offset)))
      | _ => False)
    | none => False)
  | _, _ => False
def indexAddrD (P : Program) (t : TypeId) (x i : Value) (K : Value → Prop) : Prop := match P.underlying t, x, i with
  | some (.slice e), .slice b n _, .int _ j => (match sizeT P e with
    | some sz => needs (0 ≤ j ∧ j < (n : Int)) (ptr b fun a => K (.pointer (some (a.add (j.toNat * sz)))))
    | none => False)
  | some (.array n e), .pointer (some a), .int _ j => (match sizeT P e with
    | some sz => needs (0 ≤ j ∧ j < (n : Int)) (K (.pointer (some (a.add (j.toNat * sz)))))
    | none => False)
  | _, _, _ => False
def partD (P : Program) (t : TypeId) (cs : List Value) (off : Nat) (K : Value → Prop) : Prop := match P.underlying t with
  | none => False
  | some _ => (match isAggT P t, sizeT P t with
    | true, some n => K (.agg ((cs.drop off).take n).toArray)
    | false, some _ => (match cs[off]? with
      | some v => K v
      | none => False)
    | _, none => False)
def fieldD (P : Program) (t : TypeId) (x : Value) (f : Nat) (K : Value → Prop) : Prop := match P.underlying t, x with
  | some (.struct fs), .agg cs => (match fs[f]? with
    | some fd => partD P fd.type cs.toList fd.offset K
    | none => False)
  | _, _ => False

def convD (P : Program) (dst : TypeId) (src : TypeId) (x : Value) (K : Value → Prop) : Prop := match P.underlying src, P.underlying dst, x with
  | some _, some (.int k), .int _ n => K (.int k (k.wrap n))
  | _, _, _ => False

def nilD (x : Value) (K : Value → Prop) : Prop := match x with
  | .pointer p => ptr p fun a => K (.pointer (some a))
  | .func (.func g) first captured => K (.func (.func g) first captured)
  | .iface t v => K (.iface t v)
  | _ => False

/-- Operations that only look: they yield a value and leave the heap as it is. -/
def isFloat : Op → Bool
  | .move _ | .assign _ | .pick _ _ _ | .nilCheck _ | .binOp _ _ _ _ _ | .unOp _ _ _ | .convert _ _ _ | .fieldAddr _ _ _ | .field _ _ _ | .indexAddr _ _ _
  | .extract _ _ | .slice _ _ _ _ _ | .build _ _ | .makeFunc _ _ _ | .makeInterface _ _ | .load _ _ => true
  | .call c => (match c.callee with
    | .builtin .len => true
    | .builtin .cap => true
    | .builtin .min => true
    | .builtin .max => true
    | _ => false)
  | _ => false
def isLoad : Op → Bool
  | .load _ _ => true
  | _ => false
/-- Operations that make memory and touch no other. -/
def isNew : Op → Bool
  | .alloc _ | .box _ _ | .buildSlice _ _ _ | .makeSlice _ _ _ => true
  | _ => false

/-- One condition for each operation. -/
def opD (P : Program) (C : CallP) (Kp : List PanicEntry → Heap → Prop) (ρ : Operand → Value) (o : Op) (ty : TypeId) (h : Heap) (K : Value → Heap → Prop) : Prop := match o with
  | .move x => K (ρ x) h
  | .assign x => K (ρ x) h
  | .pick c x y => (match ρ c with
    | .bool b => bcase b (K (ρ x) h) (K (ρ y) h)
    | _ => False)
  | .alloc t => (match zeroT P t with
    | some z => K (.pointer (some ⟨h.size, 0, none⟩)) (h.push (.cells z.toArray t))
    | none => False)
  | .box t x => K (.pointer (some ⟨h.size, 0, none⟩)) (h.push (.cells (ρ x).cells t))
  | .build t parts => buildD P t (parts.toList.map fun x => (x.1, ρ x.2)) fun v => K v h
  | .buildSlice t n parts => buildSliceD P t n (parts.toList.map fun x => (x.1, ρ x.2)) h K
  | .load t x => (match ρ x with
    | .pointer (some a) => loadD P t h a fun v => K v h
    | _ => False)
  | .store t x v => (match ρ x with
    | .pointer (some a) => storeD P t h a (ρ v) fun h' => K undef h'
    | _ => False)
  | .nilCheck x => nilD (ρ x) fun v => K v h
  | .binOp op t x y _ => binD P op t (ρ x) (ρ y) fun v => K v h
  | .unOp op _ x => unD op (ρ x) fun v => K v h
  | .convert src dst x => convD P dst src (ρ x) fun v => K v h
  | .makeInterface t x => (match P.underlying t with
    | some (.interface _) => False
    | some _ => K (.iface t (ρ x)) h
    | none => False)
  | .makeFunc fn first captured => K (.func fn (first.toList.map ρ).toArray (captured.toList.map ρ).toArray) h
  | .makeSlice t l c => mkD P t (ρ l) (ρ c) h K
  | .slice t x lo hi mx => slcD P t (ρ x) (lo.map ρ) (hi.map ρ) (mx.map ρ) fun v => K v h
  | .fieldAddr s x f => fieldAddrD P s (ρ x) f fun v => K v h
  | .field t x f => fieldD P t (ρ x) f fun v => K v h
  | .indexAddr t x i => indexAddrD P t (ρ x) (ρ i) fun v => K v h
  | .extract x i => (match ρ x with
    | .tuple vs => (match vs.toList[i]? with
      | some v => K v h
      | none => False)
    | _ => False)
  | .call c => (match c.callee with
    | .value f => callD C Kp (ρ f) (c.args.toList.map ρ) h fun v h' => asResT P ty v fun v' => K v' h'
    | .builtin b => builtinD P b c.argTypes.toList (c.args.toList.map ρ) h K
    | .invoke _ _ => False)
  | _ => False

end Go.Den
