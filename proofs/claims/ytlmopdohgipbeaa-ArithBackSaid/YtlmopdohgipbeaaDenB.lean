/- DenB: for each operation of the model a plain condition on the heap, in continuation form, and the proof that it is enough. No program in sight. -/
import Derived.Test.YtlmopdohgipbeaaDenA
set_option linter.unusedVariables false
set_option linter.unusedSimpArgs false
namespace Go.Den

/-! ### words -/
def needs (p : Prop) [Decidable p] (K : Prop) : Prop := if p then K else False
theorem needs_iff {p : Prop} [Decidable p] {K : Prop} : needs p K ↔ p ∧ K := by
  unfold needs; by_cases h : p <;> simp [h]
theorem needs_of {p : Prop} [Decidable p] {K : Prop} (h : p) (k : K) : needs p K := needs_iff.2 ⟨h, k⟩

def ptr : Option Addr → (Addr → Prop) → Prop
  | some a, K => K a
  | none, _ => False

def bcase (b : Bool) (X Y : Prop) : Prop := match b with
  | true => X
  | false => Y
theorem bcase_of {b : Bool} {X Y : Prop} (h : b = true → X) (k : b = false → Y) : bcase b X Y := by
  cases b
  · exact k rfl
  · exact h rfl

/-- The kinds of a cell. -/
inductive CT where
  | int (k : IntKind) | bool | ptr | slc | str | any

def exC : CT → (Value → Prop) → Prop
  | .int k, p => ∃ x : Int, p (.int k x)
  | .bool, p => ∃ b : Bool, p (.bool b)
  | .ptr, p => ∃ q : Option Addr, p (.pointer q)
  | .slc, p => ∃ (q : Option Addr) (n c : Nat), p (.slice q n c)
  | .str, p => ∃ s : ByteArray, p (.string s)
  | .any, p => ∃ v : Value, p v
theorem exC_some : ∀ (t : CT) (p : Value → Prop), exC t p → ∃ v, p v
  | .int _, _, ⟨_, h⟩ => ⟨_, h⟩
  | .bool, _, ⟨_, h⟩ => ⟨_, h⟩
  | .ptr, _, ⟨_, h⟩ => ⟨_, h⟩
  | .slc, _, ⟨_, _, _, h⟩ => ⟨_, h⟩
  | .str, _, ⟨_, h⟩ => ⟨_, h⟩
  | .any, _, ⟨_, h⟩ => ⟨_, h⟩
def exCs : List CT → (List Value → Prop) → Prop
  | [], p => p []
  | t :: ts, p => exC t fun v => exCs ts fun vs => p (v :: vs)
theorem exCs_some : ∀ (ts : List CT) (p : List Value → Prop), exCs ts p → ∃ vs, p vs
  | [], _, h => ⟨[], h⟩
  | t :: ts, _, h => by
    obtain ⟨v, hv⟩ := exC_some t _ h
    obtain ⟨vs, h'⟩ := exCs_some ts _ hv
    exact ⟨_, h'⟩

/-- What a load of one cell asks. -/
def ldI (h : Heap) (a : Addr) (k : IntKind) (K : Int → Prop) : Prop := ∃ x, hcell h a = some (.int k x) ∧ K x
def ldB (h : Heap) (a : Addr) (K : Bool → Prop) : Prop := ∃ x, hcell h a = some (.bool x) ∧ K x
def ldP (h : Heap) (a : Addr) (K : Option Addr → Prop) : Prop := ∃ x, hcell h a = some (.pointer x) ∧ K x
def ldS (h : Heap) (a : Addr) (K : Option Addr → Nat → Nat → Prop) : Prop := ∃ q n c, hcell h a = some (.slice q n c) ∧ K q n c
def ldT (h : Heap) (a : Addr) (K : ByteArray → Prop) : Prop := ∃ s, hcell h a = some (.string s) ∧ K s
def ldV (h : Heap) (a : Addr) (K : Value → Prop) : Prop := ∃ v, hcell h a = some v ∧ K v
def ldC (h : Heap) (a : Addr) : CT → (Value → Prop) → Prop
  | .int k, K => ldI h a k fun x => K (.int k x)
  | .bool, K => ldB h a fun b => K (.bool b)
  | .ptr, K => ldP h a fun q => K (.pointer q)
  | .slc, K => ldS h a fun q n c => K (.slice q n c)
  | .str, K => ldT h a fun s => K (.string s)
  | .any, K => ldV h a K
theorem ldC_some {h : Heap} {a : Addr} : ∀ {t : CT} {K : Value → Prop}, ldC h a t K → ∃ v, hcell h a = some v ∧ K v
  | .int _, _, ⟨_, h⟩ => ⟨_, h⟩
  | .bool, _, ⟨_, h⟩ => ⟨_, h⟩
  | .ptr, _, ⟨_, h⟩ => ⟨_, h⟩
  | .slc, _, ⟨_, _, _, h⟩ => ⟨_, h⟩
  | .str, _, ⟨_, h⟩ => ⟨_, h⟩
  | .any, _, ⟨_, h⟩ => ⟨_, h⟩
def ldCs (h : Heap) (a : Addr) : Nat → List CT → (List Value → Prop) → Prop
  | _, [], K => K []
  | i, t :: ts, K => ldC h (a.add i) t fun v => ldCs h a (i + 1) ts fun vs => K (v :: vs)

/-- What a store of one cell asks. -/
def stV (h : Heap) (a : Addr) (v : Value) (K : Heap → Prop) : Prop :=
  v.oneCell' = true ∧ (hcell h a).isSome = true ∧ hfrozen h a = false ∧ K (hset h a v)
def stVs (h : Heap) (a : Addr) : Nat → List Value → (Heap → Prop) → Prop
  | _, [], K => K h
  | i, v :: vs, K => stV h (a.add i) v fun h' => stVs h' a (i + 1) vs K

/-- The cells of a type; none where there are more than a few. -/
def ctsL (f : TypeId → Option (List CT)) : List TypeId → Option (List CT)
  | [] => some []
  | t :: ts => match f t, ctsL f ts with
    | some x, some y => some (x ++ y)
    | _, _ => none
def repL (x : List CT) : Nat → List CT
  | 0 => []
  | n + 1 => x ++ repL x n
def cts (P : Program) : Nat → TypeId → Option (List CT)
  | 0, _ => none
  | f + 1, t => match P.underlying t with
    | some (.int k) => some [.int k]
    | some .bool => some [.bool]
    | some (.pointer _) => some [.ptr]
    | some (.slice _) => some [.slc]
    | some .string => some [.str]
    | some (.struct fs) => ctsL (cts P f) (fs.toList.map (·.type))
    | some (.array n e) => match Nat.ble n 8 with
      | true => (match cts P f e with
        | some x => some (repL x n)
        | none => none)
      | false => none
    | some _ => some [.any]
    | none => none
def isAggT (P : Program) (t : TypeId) : Bool := match P.underlying t with
  | some (.struct _) | some (.array _ _) => true
  | _ => false
def sizeT (P : Program) (t : TypeId) : Option Nat := match P.info? t with
  | some i => some i.size
  | none => none

/-! ### load, store -/
def rdAll (h : Heap) (a : Addr) (n : Nat) (cs : List Value) : Prop := cs.length = n ∧ ∀ j v, cs[j]? = some v → hcell h (a.add j) = some v

def loadD (P : Program) (t : TypeId) (h : Heap) (a : Addr) (K : Value → Prop) : Prop :=
  match isAggT P t with
  | false => (match cts P 1 t with
    | some [c] => ldC h a c K
    | _ => False)
  | true => match cts P 8 t, sizeT P t with
    | some ts, some n => (match Nat.beq ts.length n with
      | true => ldCs h a 0 ts fun vs => K (.agg vs.toArray)
      | false => False)
    | none, some n => ∃ cs : List Value, rdAll h a n cs ∧ K (.agg cs.toArray)
    | _, _ => False

def storeD (P : Program) (t : TypeId) (h : Heap) (a : Addr) (v : Value) (K : Heap → Prop) : Prop :=
  match isAggT P t, sizeT P t with
  | false, some 1 => stV h a v K
  | true, some n => (match v with
    | .agg cs => needs (cs.toList.length = n) (stVs h a 0 cs.toList K)
    | _ => False)
  | _, _ => False

/-! ### arithmetic -/
def bitI (op : BinOp) (k : IntKind) (x y : Int) : Int := bits op k x y
def shlI (k : IntKind) (x y : Int) : Int := k.wrap (x * 2 ^ (min y.toNat k.bits))
def shrI (k : IntKind) (x y : Int) : Int := x.fdiv (2 ^ (min y.toNat k.bits))

def intD (op : BinOp) (k : IntKind) (x : Int) (k' : IntKind) (y : Int) (K : Value → Prop) : Prop := match op with
  | .shl => needs (0 ≤ y) (K (.int k (shlI k x y)))
  | .shr => needs (0 ≤ y) (K (.int k (shrI k x y)))
  | .add => needs (k = k') (K (.int k (k.wrap (x + y))))
  | .sub => needs (k = k') (K (.int k (k.wrap (x - y))))
  | .mul => needs (k = k') (K (.int k (k.wrap (x * y))))
  | .quo => needs (k = k' ∧ y ≠ 0) (K (.int k (k.wrap (x.tdiv y))))
  | .rem => needs (k = k' ∧ y ≠ 0) (K (.int k (x.tmod y)))
  | .and => needs (k = k') (K (.int k (bitI .and k x y)))
  | .or => needs (k = k') (K (.int k (bitI .or k x y)))
  | .xor => needs (k = k') (K (.int k (bitI .xor k x y)))
  | .andNot => needs (k = k') (K (.int k (bitI .andNot k x y)))
  | .eql => needs (k = k') (K (.bool (x == y)))
  | .neq => needs (k = k') (K (.bool (x != y)))
  | .lss => needs (k = k') (K (.bool (decide (x < y))))
  | .leq => needs (k = k') (K (.bool (decide (x ≤ y))))
  | .gtr => needs (k = k') (K (.bool (decide (x > y))))
  | .geq => needs (k = k') (K (.bool (decide (x ≥ y))))

def eqD (op : BinOp) (r : Bool) (K : Value → Prop) : Prop := match op with
  | .eql => K (.bool r)
  | .neq => K (.bool (!r))
  | _ => False
def isTy (P : Program) (t : TypeId) (c : TypeDesc → Bool) : Bool := match P.underlying t with
  | some d => c d
  | none => false
def isB : TypeDesc → Bool
  | .bool => true
  | _ => false
def isP : TypeDesc → Bool
  | .pointer _ => true
  | _ => false
def isS : TypeDesc → Bool
  | .slice _ => true
  | _ => false
def whenB (b : Bool) (K : Prop) : Prop := match b with
  | true => K
  | false => False

def binD (P : Program) (op : BinOp) (t : TypeId) (x y : Value) (K : Value → Prop) : Prop := match x, y with
  | .int k a, .int k' b => intD op k a k' b K
  | .bool a, .bool b => whenB (isTy P t isB) (eqD op (a == b) K)
  | .pointer p, .pointer none => whenB (isTy P t isP) (eqD op p.isNone K)
  | .slice p _ _, .slice none _ _ => whenB (isTy P t isS) (eqD op p.isNone K)
  | _, _ => False

def unD (op : UnOp) (x : Value) (K : Value → Prop) : Prop := match op, x with
  | .neg, .int k n => K (.int k (k.wrap (0 - n)))
  | .xor, .int k n => K (.int k (bitI .xor k (if k.signed then -1 else k.max) n))
  | .not, .bool b => K (.bool (!b))
  | _, _ => False

/-! ### building -/
def putL (cells : List Value) : Nat → List Value → List Value
  | _, [] => cells
  | off, v :: vs => putL (cells.set off v) (off + 1) vs
def fillD : List (Nat × Nat × Value) → List Value → (List Value → Prop) → Prop
  | [], cells, K => K cells
  | (off, size, v) :: rest, cells, K => needs (v.cells.toList.length = size ∧ off + size ≤ cells.length) (fillD rest (putL cells off v.cells.toList) K)
def placesD (P : Program) (fs : Array Field) : List (Nat × Value) → Option (List (Nat × Nat × Value))
  | [] => some []
  | (i, v) :: rest => match fs[i]? with
    | none => none
    | some f => match sizeT P f.type, placesD P fs rest with
      | some n, some l => some ((f.offset, n, v) :: l)
      | _, _ => none
def rowsD (size : Nat) : List (Nat × Value) → List (Nat × Nat × Value)
  | [] => []
  | (i, v) :: rest => (i * size, size, v) :: rowsD size rest
def zeroT (P : Program) (t : TypeId) : Option (List Value) := match P.info? t with
  | some i => (match i.zero with
    | some z => some z.cells.toList
    | none => none)
  | none => none
def repZ (z : List Value) : Nat → List Value
  | 0 => []
  | n + 1 => z ++ repZ z n

def allInfo (P : Program) : List Field → Bool
  | [] => true
  | f :: fs => match P.info? f.type with
    | some _ => allInfo P fs
    | none => false
def buildD (P : Program) (t : TypeId) (parts : List (Nat × Value)) (K : Value → Prop) : Prop :=
  match P.underlying t, zeroT P t with
  | some (.struct fs), some z => (match placesD P fs parts, allInfo P fs.toList with
    | some l, true => fillD l z fun cs => K (.agg cs.toArray)
    | _, _ => False)
  | some (.array _ e), some z => (match sizeT P e with
    | some n => fillD (rowsD n parts) z fun cs => K (.agg cs.toArray)
    | none => False)
  | _, _ => False

def buildSliceD (P : Program) (t : TypeId) (len : Nat) (parts : List (Nat × Value)) (h : Heap) (K : Value → Heap → Prop) : Prop :=
  match P.underlying t with
  | some (.slice e) => (match sizeT P e, zeroT P e with
    | some n, some z => needs (len * n ≤ 16777216 ∧ z.length = n ∧ 0 < n) (fillD (rowsD n parts) (repZ z len) fun cs =>
        K (.slice (some ⟨h.size, 0, none⟩) len len) (h.push (.cells cs.toArray e)))
    | _, _ => False)
  | _ => False

end Go.Den
