/-
  A SECOND ENGINE, PART 02: what each operation does to a state.
-/
import Derived.Test.YtbpchamlhblddaaK01
set_option linter.all false
namespace Go.K
open Go Go.RowKit

/-- A constant's cell. -/
def V.of1 : Value → V
  | .bool b => .bool b
  | .int k n => .int k n
  | .string s => .str s
  | .pointer none => .nilp
  | .slice none 0 0 => .emp
  | .nilFunc => .nilf
  | _ => .un
def V.of1s : List Value → List V
  | [] => []
  | x :: r => .of1 x :: V.of1s r
def V.ones : List V → Bool
  | [] => true
  | x :: r => x.one && V.ones r
def V.ofConst : Value → V
  | .agg cs => if V.ones (V.of1s cs.toList) then .agg (V.of1s cs.toList) else .un
  | v => .of1 v

/-- What the engine knows of a type. -/
structure TI where
  kind : Nat := 9
  flds : List (Nat × TypeId) := []
  el : TypeId := 0
  len : Nat := 0
  int : Option IntKind := none
  zero : List Value := []
  z : List V := []
  sz : Nat := 0
  bytes : Nat := 0
  flat : Bool := false

def sumOf : TypeDesc → Nat × List (Nat × TypeId) × TypeId × Nat × Option IntKind
  | .struct fs => (1, fs.toList.map (fun f => (f.offset, f.type)), 0, 0, none)
  | .array n e => (2, [], e, n, none)
  | .slice e => (3, [], e, 0, none)
  | .pointer e => (4, [], e, 0, none)
  | .bool => (5, [], 0, 0, none)
  | .int k => (6, [], 0, 0, some k)
  | .string => (7, [], 0, 0, none)
  | .func _ _ _ => (8, [], 0, 0, none)
  | _ => (10, [], 0, 0, none)

/-- A struct of integers and bools, compared field by field. -/
def fieldsOk (P : Program) : Nat → List Field → List Value → Bool
  | _, [], [] => true
  | j, f :: fs, z :: zs => f.name != "_" && f.offset == j &&
      (match P.underlying f.type, z with | some .bool, .bool _ => true | some (.int k), .int k' _ => k == k' | _, _ => false) && fieldsOk P (j + 1) fs zs
  | _, _, _ => false
def flatOk (P : Program) (t : TypeId) (zero : List Value) : Bool :=
  match P.underlying t with
  | some (.struct fs) => !P.stoodInHeld t && !P.eqGuardType P.depth t && fieldsOk P 0 fs.toList zero
  | _ => false

/-- The table's entry is the program's. -/
structure TI.Facts (P : Program) (t : TypeId) (i : TI) : Prop where
  info : (P.info? t).map (fun x => (x.zero.map (·.cells.toList), x.size, x.bytes)) = some (some i.zero, i.sz, i.bytes)
  und : (P.underlying t).map sumOf = some (i.kind, i.flds, i.el, i.len, i.int)
  flat : i.flat = true → flatOk P t i.zero = true

/-- What a table owes apart from the program. -/
structure TI.Own (i : TI) : Prop where
  z : i.z = V.of1s i.zero
  ones : V.ones i.z = true
  len : i.z.length = i.sz
  int : i.int ≠ none → i.kind ≠ 9

abbrev TT := TypeId → TI
structure TT.Ok (P : Program) (tt : TT) : Prop where
  facts : ∀ t, (tt t).kind ≠ 9 → (tt t).Facts P t
  own : ∀ t, (tt t).Own

def TI.isAgg (i : TI) : Bool := i.kind == 1 || i.kind == 2

/-- What an operation does: what it looks at, its value, what it changes. -/
structure Out where
  fp : List Nat
  r : V
  upd : List (Nat × Own)

inductive Res where
  | fail
  | ok (pre : Prop) (x : Out)

def V.mk (agg : Bool) (cs : List V) : V :=
  match agg, cs with
  | true, cs => .agg cs
  | false, [x] => x
  | _, _ => .un

def V.cells? : V → Option (List V)
  | .agg cs => some cs
  | .tup _ => none
  | .cnd _ _ => none
  | .un => none
  | v => some [v]

def semNew (ow : List Own) (id : Nat) (t : TypeId) (sz : Nat) (cs : List V) : Res :=
  match ow[id]? with
  | some .free => .ok (cs.length = sz ∧ 0 < sz) ⟨[id], .own id 0 0 0, [(id, .blk t 0 sz [cs])]⟩
  | _ => .fail

def semLoad (tt : TT) (i : TI) (ow : List Own) : V → Res
  | .own id ver k off => match ow[id]? with
    | some (.blk ty v _ rows) => .ok (v = ver ∧ k < rows.length ∧ off + i.sz ≤ (rows.getD k (tt ty).z).length ∧ (i.isAgg = true ∨ i.sz = 1) ∧ i.kind ≠ 9) ⟨[id], V.mk i.isAgg (((rows.getD k (tt ty).z).drop off).take i.sz), []⟩
    | some (.froz ty v _ rows) => .ok (v = ver ∧ k < rows.length ∧ off + i.sz ≤ (rows.getD k (tt ty).z).length ∧ (i.isAgg = true ∨ i.sz = 1) ∧ i.kind ≠ 9) ⟨[id], V.mk i.isAgg (((rows.getD k (tt ty).z).drop off).take i.sz), []⟩
    | _ => .fail
  | .pi cells off => .ok (off + i.sz ≤ cells.length ∧ (i.isAgg = true ∨ i.sz = 1) ∧ i.kind ≠ 9) ⟨[], V.mk i.isAgg ((cells.drop off).take i.sz), []⟩
  | _ => .fail

def setCells : List V → Nat → List V → List V
  | cs, _, [] => cs
  | cs, off, x :: r => setCells (cs.set off x) (off + 1) r

def semStore (tt : TT) (i : TI) (ow : List Own) (p x : V) : Res :=
  match p, x.cells? with
  | .own id ver k off, some cs => match ow[id]? with
    | some (.blk ty v sz rows) => .ok (v = ver ∧ k < rows.length ∧ cs.length = i.sz ∧ off + cs.length ≤ sz ∧ i.kind ≠ 9) ⟨[id], .tup [], [(id, .blk ty v sz (rows.set k (setCells (rows.getD k (tt ty).z) off cs)))]⟩
    | _ => .fail
  | _, _ => .fail

def semNil (ow : List Own) : V → Res
  | .own id ver k off => match ow[id]? with
    | some (.blk _ v _ rows) => .ok (v = ver ∧ k < rows.length) ⟨[id], .own id ver k off, []⟩
    | some (.froz _ v _ rows) => .ok (v = ver ∧ k < rows.length) ⟨[id], .own id ver k off, []⟩
    | _ => .fail
  | .pi cells off => .ok True ⟨[], .pi cells off, []⟩
  | _ => .fail

def semField (tt : TT) (t : TypeId) (j : Nat) (ow : List Own) : V → Res
  | .own id ver k o => match (tt t).flds[j]?, ow[id]? with
    | some (off, ft), some (.blk _ v _ rows) => .ok (v = ver ∧ k < rows.length ∧ (tt t).kind = 1 ∧ (tt ft).kind ≠ 9 ∧ (tt ft).sz ≠ 0) ⟨[id], .own id ver k (o + off), []⟩
    | some (off, ft), some (.froz _ v _ rows) => .ok (v = ver ∧ k < rows.length ∧ (tt t).kind = 1 ∧ (tt ft).kind ≠ 9 ∧ (tt ft).sz ≠ 0) ⟨[id], .own id ver k (o + off), []⟩
    | _, _ => .fail
  | .pi cells o => match (tt t).flds[j]? with
    | some (off, ft) => .ok ((tt t).kind = 1 ∧ (tt ft).kind ≠ 9 ∧ (tt ft).sz ≠ 0) ⟨[], .pi cells (o + off), []⟩
    | _ => .fail
  | _ => .fail

def semFieldV (tt : TT) (t : TypeId) (k : Nat) : V → Res
  | .agg cs => match (tt t).flds[k]? with
    | some (off, ft) => .ok ((tt t).kind = 1 ∧ (tt ft).kind ≠ 9 ∧ off + (tt ft).sz ≤ cs.length ∧ ((tt ft).isAgg = true ∨ (tt ft).sz = 1)) ⟨[], V.mk (tt ft).isAgg ((cs.drop off).take (tt ft).sz), []⟩
    | _ => .fail
  | _ => .fail

def semIndex (tt : TT) (t : TypeId) (ow : List Own) : V → V → Res
  | .sl rows, .int _ i => .ok ((tt t).kind = 3 ∧ (tt (tt t).el).kind ≠ 9 ∧ 0 ≤ i ∧ i < rows.length ∧ (rows.getD i.toNat (tt (tt t).el).z).length = (tt (tt t).el).sz) ⟨[], .pi (rows.getD i.toNat (tt (tt t).el).z) 0, []⟩
  | .rs id ver lo hi, .int _ i => match ow[id]? with
    | some (.blk _ v sz rows) => .ok (v = ver ∧ hi ≤ rows.length ∧ (tt t).kind = 3 ∧ (tt (tt t).el).kind ≠ 9 ∧ sz = (tt (tt t).el).sz ∧ 0 ≤ i ∧ lo + i < hi) ⟨[id], .own id ver (lo + i.toNat) 0, []⟩
    | some (.froz _ v sz rows) => .ok (v = ver ∧ hi ≤ rows.length ∧ (tt t).kind = 3 ∧ (tt (tt t).el).kind ≠ 9 ∧ sz = (tt (tt t).el).sz ∧ 0 ≤ i ∧ lo + i < hi) ⟨[id], .own id ver (lo + i.toNat) 0, []⟩
    | _ => .fail
  | .own id ver k o, .int _ i => match ow[id]? with
    | some (.blk _ v _ rows) => .ok (v = ver ∧ k < rows.length ∧ (tt t).kind = 2 ∧ (tt (tt t).el).kind ≠ 9 ∧ 0 ≤ i ∧ i < (tt t).len) ⟨[id], .own id ver k (o + i.toNat * (tt (tt t).el).sz), []⟩
    | some (.froz _ v _ rows) => .ok (v = ver ∧ k < rows.length ∧ (tt t).kind = 2 ∧ (tt (tt t).el).kind ≠ 9 ∧ 0 ≤ i ∧ i < (tt t).len) ⟨[id], .own id ver k (o + i.toNat * (tt (tt t).el).sz), []⟩
    | _ => .fail
  | .pi cells o, .int _ i => .ok ((tt t).kind = 2 ∧ (tt (tt t).el).kind ≠ 9 ∧ 0 ≤ i ∧ i < (tt t).len) ⟨[], .pi cells (o + i.toNat * (tt (tt t).el).sz), []⟩
  | _, _ => .fail

def semIndexV (tt : TT) (t : TypeId) : V → V → Res
  | .agg cs, .int _ i => .ok ((tt t).kind = 2 ∧ (tt (tt t).el).kind ≠ 9 ∧ 0 ≤ i ∧ i < (tt t).len ∧ i.toNat * (tt (tt t).el).sz + (tt (tt t).el).sz ≤ cs.length ∧ ((tt (tt t).el).isAgg = true ∨ (tt (tt t).el).sz = 1))
      ⟨[], V.mk (tt (tt t).el).isAgg ((cs.drop (i.toNat * (tt (tt t).el).sz)).take (tt (tt t).el).sz), []⟩
  | _, _ => .fail

def fills (place : Nat → Option (Nat × Nat)) : List V → List (Nat × V) → Option (List V)
  | cs, [] => some cs
  | cs, (k, x) :: r => match place k, x.cells? with
    | some (off, size), some xs => if xs.length = size ∧ off + size ≤ cs.length then fills place (setCells cs off xs) r else none
    | _, _ => none

def okFlds (tt : TT) : List (Nat × TypeId) → Prop
  | [] => True
  | p :: r => (tt p.2).kind ≠ 9 ∧ okFlds tt r
theorem okFlds_mem {tt : TT} : ∀ {l : List (Nat × TypeId)}, okFlds tt l → ∀ p ∈ l, (tt p.2).kind ≠ 9
  | [], _, p, h => by cases h
  | q :: r, hu, p, h => by
    rcases List.mem_cons.1 h with rfl | h
    · exact hu.1
    · exact okFlds_mem hu.2 p h
def semBuild (tt : TT) (t : TypeId) (idx : List Nat) (xs : List V) : Res :=
  match (tt t).kind with
  | 1 => match fills (fun k => ((tt t).flds[k]?).map fun p => (p.1, (tt p.2).sz)) (tt t).z (idx.zip xs) with
    | some cs => .ok (okFlds tt (tt t).flds) ⟨[], .agg cs, []⟩
    | none => .fail
  | 2 => match fills (fun k => some (k * (tt (tt t).el).sz, (tt (tt t).el).sz)) (tt t).z (idx.zip xs) with
    | some cs => .ok ((tt (tt t).el).kind ≠ 9) ⟨[], .agg cs, []⟩
    | none => .fail
  | _ => .fail

def repl (z : List V) : Nat → List V
  | 0 => []
  | n + 1 => z ++ repl z n
/-- Rows of a list of cells. -/
def chunk (sz : Nat) : Nat → List V → List (List V)
  | 0, _ => []
  | n + 1, cs => cs.take sz :: chunk sz n (cs.drop sz)

def semBuildSlice (tt : TT) (t : TypeId) (len : Nat) (idx : List Nat) (ow : List Own) (id : Nat) (xs : List V) : Res :=
  match ow[id]?, fills (fun k => some (k * (tt (tt t).el).sz, (tt (tt t).el).sz)) (repl (tt (tt t).el).z len) (idx.zip xs) with
  | some .free, some cs => .ok ((tt t).kind = 3 ∧ (tt (tt t).el).kind ≠ 9 ∧ 0 < (tt (tt t).el).sz ∧ len * (tt (tt t).el).sz ≤ 1000 ∧ len ≤ maxLen)
      ⟨[id], .rs id 0 0 len, [(id, .blk (tt t).el 0 (tt (tt t).el).sz (chunk (tt (tt t).el).sz len cs))]⟩
  | _, _ => .fail

def semExtract (k : Nat) : V → Res
  | .tup xs => match xs[k]? with
    | some x => .ok True ⟨[], x, []⟩
    | none => .fail
  | _ => .fail

def semUn : UnOp → V → Res
  | .neg, .int k n => .ok True ⟨[], .int k (k.wrap (0 - n)), []⟩
  | .not, .bool b => .ok True ⟨[], .bool !b, []⟩
  | .xor, .int k n => .ok True ⟨[], .int k (bits .xor k (if k.signed then -1 else k.max) n), []⟩
  | _, _ => .fail

def cellsEq : List V → List V → Option Bool
  | [], [] => some true
  | .int k a :: r, .int k' b :: r' => if k = k' then (cellsEq r r').map fun x => a == b && x else none
  | .bool a :: r, .bool b :: r' => (cellsEq r r').map fun x => a == b && x
  | _, _ => none

def sameKinds : List Value → List V → Bool
  | [], [] => true
  | .int k _ :: zs, .int k' _ :: xs => k == k' && sameKinds zs xs
  | .bool _ :: zs, .bool _ :: xs => sameKinds zs xs
  | _, _ => false

def okv (r : V) : Res := .ok True ⟨[], r, []⟩
def okp (p : Prop) (r : V) : Res := .ok p ⟨[], r, []⟩
/-- A pointer that is not nil. -/
def semPtrNil (op : BinOp) (i : TI) (q : Prop) (fp : List Nat) (b : Bool) : Res :=
  match op with
  | .eql => .ok (i.kind = 4 ∧ q) ⟨fp, .bool b, []⟩
  | .neq => .ok (i.kind = 4 ∧ q) ⟨fp, .bool (!b), []⟩
  | _ => .fail

def semBin (op : BinOp) (i : TI) (ow : List Own) : V → V → Res
  | .int k a, .int k' b =>
    match op with
    | .shl => okp (0 ≤ b ∧ b ≤ k.bits) (.int k (k.wrap (a * 2 ^ b.toNat)))
    | .shr => okp (0 ≤ b ∧ b ≤ k.bits) (.int k (a / 2 ^ b.toNat))
    | _ => if k = k' then
      (match op with
      | .add => okv (.int k (k.wrap (a + b)))
      | .sub => okv (.int k (k.wrap (a - b)))
      | .mul => okv (.int k (k.wrap (a * b)))
      | .quo => okp (b ≠ 0) (.int k (k.wrap (a.tdiv b)))
      | .rem => okp (b ≠ 0) (.int k (a.tmod b))
      | .and => okv (.int k (bits .and k a b))
      | .or => okv (.int k (bits .or k a b))
      | .xor => okv (.int k (bits .xor k a b))
      | .andNot => okv (.int k (bits .andNot k a b))
      | .eql => okv (.bool (a == b))
      | .neq => okv (.bool (a != b))
      | .lss => okv (.bool (decide (a < b)))
      | .leq => okv (.bool (decide (a ≤ b)))
      | .gtr => okv (.bool (decide (a > b)))
      | .geq => okv (.bool (decide (a ≥ b)))
      | _ => .fail)
      else .fail
  | .bool a, .bool b =>
    match op with
    | .eql => okp (i.kind = 5) (.bool (a == b))
    | .neq => okp (i.kind = 5) (.bool (!(a == b)))
    | _ => .fail
  | .str a, .str b =>
    match op with
    | .eql => okv (.bool (a == b))
    | .neq => okv (.bool (!(a == b)))
    | _ => .fail
  | .agg xs, .agg ys =>
    match op, cellsEq xs ys with
    | .eql, some b => okp (i.flat = true ∧ i.kind = 1 ∧ sameKinds i.zero xs = true) (.bool b)
    | .neq, some b => okp (i.flat = true ∧ i.kind = 1 ∧ sameKinds i.zero xs = true) (.bool (!b))
    | _, _ => .fail
  | .own id ver k _, .nilp =>
    match ow[id]? with
    | some (.blk _ v _ rows) => semPtrNil op i (v = ver ∧ k < rows.length) [id] false
    | some (.froz _ v _ rows) => semPtrNil op i (v = ver ∧ k < rows.length) [id] false
    | _ => .fail
  | .pi _ _, .nilp => semPtrNil op i True [] false
  | .nilp, .nilp => semPtrNil op i True [] true
  | _, _ => .fail

def semConv (a b : TI) : V → Res
  | .int _ n => match b.int with
    | some k => okp (a.kind = 6) (.int k (k.wrap n))
    | none => .fail
  | _ => .fail

def semLen (i : TI) (ow : List Own) : V → Res
  | .str s => okp (i.kind = 7) (.int .i64 s.size)
  | .sl rows => okp (i.kind = 3) (.int .i64 rows.length)
  | .emp => okp (i.kind = 3) (.int .i64 0)
  | .rs id ver lo hi => match ow[id]? with
    | some (.blk _ v _ _) => .ok (v = ver ∧ i.kind = 3) ⟨[id], .int .i64 ((hi - lo : Nat) : Int), []⟩
    | some (.froz _ v _ _) => .ok (v = ver ∧ i.kind = 3) ⟨[id], .int .i64 ((hi - lo : Nat) : Int), []⟩
    | _ => .fail
  | _ => .fail

def minmax (mx : Bool) (k : IntKind) (x : Int) : List V → Option Int
  | [] => some x
  | .int k' y :: r => if k = k' then minmax mx k (if mx then (if x < y then y else x) else (if y < x then y else x)) r else none
  | _ => none

/-- The rows of a slice. -/
def V.sl? (ow : List Own) : V → Option (Prop × List Nat × List (List V))
  | .sl rows => some (True, [], rows)
  | .emp => some (True, [], [])
  | .rs id ver lo hi => match ow[id]? with
    | some (.blk _ v _ rows) => some (v = ver ∧ hi ≤ rows.length, [id], (rows.drop lo).take (hi - lo))
    | some (.froz _ v _ rows) => some (v = ver ∧ hi ≤ rows.length, [id], (rows.drop lo).take (hi - lo))
    | _ => none
  | _ => none

/-- append: the first operand a whole slice of the run's own, or one with no room. -/
def semAppend (tt : TT) (t : TypeId) (ow : List Own) (id : Nat) (s x : V) : Res :=
  match s, x.sl? ow with
  | .rs r ver lo hi, some (q, fp, new) => match ow[r]? with
    | some (.blk ty v sz rows) => .ok (q ∧ v = ver ∧ lo = 0 ∧ hi = rows.length ∧ (tt t).kind = 3 ∧ (tt t).el = ty ∧ (tt ty).kind ≠ 9 ∧ (tt ty).sz = sz ∧ (new.getD 0 (tt ty).z).length = sz ∧
        rows.length + new.length ≤ maxLen ∧ (rows.length + new.length) * (tt ty).bytes ≤ 140737488355328) ⟨r :: fp, .rs r (ver + 1) 0 (rows.length + new.length), [(r, .blk ty (ver + 1) sz (rows ++ new))]⟩
    | _ => .fail
  | .emp, some (q, fp, new) => match ow[id]? with
    | some .free => .ok (q ∧ (tt t).kind = 3 ∧ (tt (tt t).el).kind ≠ 9 ∧ 0 < (tt (tt t).el).sz ∧ (new.getD 0 (tt (tt t).el).z).length = (tt (tt t).el).sz ∧ new.length ≤ maxLen ∧ new.length * (tt (tt t).el).bytes ≤ 140737488355328)
        ⟨id :: fp, .rs id 0 0 new.length, [(id, .blk (tt t).el 0 (tt (tt t).el).sz new)]⟩
    | _ => .fail
  | _, _ => .fail

def semMake (tt : TT) (t : TypeId) (ow : List Own) (id : Nat) : V → V → Res
  | .int _ l, .int _ c => match ow[id]? with
    | some .free => .ok ((tt t).kind = 3 ∧ (tt (tt t).el).kind ≠ 9 ∧ 0 < (tt (tt t).el).sz ∧ l = c ∧ 0 ≤ l ∧ l ≤ maxLen ∧ (tt (tt t).el).bytes * l.toNat ≤ 281474976710656)
        ⟨[id], .rs id 0 0 l.toNat, [(id, .blk (tt t).el 0 (tt (tt t).el).sz (List.replicate l.toNat (tt (tt t).el).z))]⟩
    | _ => .fail
  | _, _ => .fail

def boundOf (d : Int) : Option V → Option Int
  | none => some d
  | some (.int _ i) => some i
  | _ => none

def semSlice (tt : TT) (t : TypeId) (ow : List Own) (x : V) (lo hi : Option V) : Res :=
  match x with
  | .sl rows => match boundOf 0 lo, boundOf rows.length hi with
    | some l, some h => okp ((tt t).kind = 3 ∧ (tt (tt t).el).kind ≠ 9 ∧ (rows.getD 0 (tt (tt t).el).z).length = (tt (tt t).el).sz ∧ 0 ≤ l ∧ l ≤ h ∧ h ≤ rows.length) (.sl ((rows.drop l.toNat).take (h - l).toNat))
    | _, _ => .fail
  | .emp => match boundOf 0 lo, boundOf 0 hi with
    | some l, some h => okp ((tt t).kind = 3 ∧ (tt (tt t).el).kind ≠ 9 ∧ l = 0 ∧ h = 0) .emp
    | _, _ => .fail
  | .rs id ver a b => match boundOf 0 lo, boundOf (b - a : Nat) hi, ow[id]? with
    | some l, some h, some (.blk _ v sz rows) => .ok ((tt t).kind = 3 ∧ (tt (tt t).el).kind ≠ 9 ∧ v = ver ∧ sz = (tt (tt t).el).sz ∧ 0 ≤ l ∧ l ≤ h ∧ h ≤ (b - a : Nat) ∧ b ≤ rows.length) ⟨[id], .rs id ver (a + l.toNat) (a + h.toNat), []⟩
    | some l, some h, some (.froz _ v sz rows) => .ok ((tt t).kind = 3 ∧ (tt (tt t).el).kind ≠ 9 ∧ v = ver ∧ sz = (tt (tt t).el).sz ∧ 0 ≤ l ∧ l ≤ h ∧ h ≤ (b - a : Nat) ∧ b ≤ rows.length) ⟨[id], .rs id ver (a + l.toNat) (a + h.toNat), []⟩
    | _, _, _ => .fail
  | _ => .fail

/-- s[:0:0]: no room. -/
def semNoRoom (tt : TT) (t : TypeId) (ow : List Own) : V → V → V → Res
  | x, .int _ h, .int _ m => match x with
    | .sl rows => okp ((tt t).kind = 3 ∧ (tt (tt t).el).kind ≠ 9 ∧ h = 0 ∧ m = 0 ∧ rows.length ≤ rows.length) .emp
    | .emp => okp ((tt t).kind = 3 ∧ (tt (tt t).el).kind ≠ 9 ∧ h = 0 ∧ m = 0) .emp
    | .rs id ver _ _ => match ow[id]? with
      | some (.blk _ v _ _) => .ok ((tt t).kind = 3 ∧ (tt (tt t).el).kind ≠ 9 ∧ h = 0 ∧ m = 0 ∧ v = ver) ⟨[id], .emp, []⟩
      | some (.froz _ v _ _) => .ok ((tt t).kind = 3 ∧ (tt (tt t).el).kind ≠ 9 ∧ h = 0 ∧ m = 0 ∧ v = ver) ⟨[id], .emp, []⟩
      | _ => .fail
    | _ => .fail
  | _, _, _ => .fail

def semBuiltin (tt : TT) (ow : List Own) (id : Nat) (b : Builtin) (ts : List TypeId) (xs : List V) : Res :=
  match b, xs, ts with
  | .len, [x], [t] => semLen (tt t) ow x
  | .min, .int k x :: r, _ => match minmax false k x r with | some y => okv (.int k y) | none => .fail
  | .max, .int k x :: r, _ => match minmax true k x r with | some y => okv (.int k y) | none => .fail
  | .append, [s, x], [t, t'] => if t = t' then semAppend tt t ow id s x else .fail
  | _, _, _ => .fail

/-- Every operation but the calls of functions. -/
def sem (tt : TT) (ow : List Own) (id : Nat) : Op → List V → Res
  | .move _, [x] => okv x
  | .assign _, [x] => okv x
  | .alloc t, [] => match (tt t).kind with | 9 => .fail | _ => semNew ow id t (tt t).sz (tt t).z
  | .box t _, [x] => match x.cells? with | some cs => semNew ow id t cs.length cs | none => .fail
  | .build t parts, xs => semBuild tt t (parts.toList.map (·.1)) xs
  | .buildSlice t n parts, xs => semBuildSlice tt t n (parts.toList.map (·.1)) ow id xs
  | .load t _, [p] => semLoad tt (tt t) ow p
  | .store t _ _, [p, x] => semStore tt (tt t) ow p x
  | .nilCheck _, [x] => semNil ow x
  | .binOp op t _ _ _, [x, y] => semBin op (tt t) ow x y
  | .unOp op _ _, [x] => semUn op x
  | .convert a b _, [x] => semConv (tt a) (tt b) x
  | .fieldAddr t _ k, [p] => semField tt t k ow p
  | .field t _ k, [x] => semFieldV tt t k x
  | .indexAddr t _ _, [x, i] => semIndex tt t ow x i
  | .index t _ _, [x, i] => semIndexV tt t x i
  | .extract _ k, [x] => semExtract k x
  | .makeFunc (.func f) first _, xs => if first.size = 0 then okv (.fn f xs) else .fail
  | .makeSlice t _ _, [l, c] => semMake tt t ow id l c
  | .slice t _ none none none, [x] => semSlice tt t ow x none none
  | .slice t _ (some _) none none, [x, l] => semSlice tt t ow x (some l) none
  | .slice t _ none (some _) none, [x, h] => semSlice tt t ow x none (some h)
  | .slice t _ (some _) (some _) none, [x, l, h] => semSlice tt t ow x (some l) (some h)
  | .slice t _ none (some _) (some _), [x, h, m] => semNoRoom tt t ow x h m
  | .call ⟨.builtin b, _, ts⟩, xs => semBuiltin tt ow id b ts.toList xs
  | _, _ => .fail

def app : List Own → List (Nat × Own) → List Own
  | ow, [] => ow
  | ow, (i, o) :: r => app (ow.set i o) r

/-- Two lists of own things that agree at some ids. -/
def agree (l : List Nat) (a b : List Own) : Prop := ∀ i ∈ l, a[i]? = b[i]?

end Go.K
