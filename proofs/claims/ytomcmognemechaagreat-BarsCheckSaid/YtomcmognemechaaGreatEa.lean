/- An interpreter of the model's code that follows one order and is proved right for all: part 1. -/
import Derived.Defers
import Derived.Recover
import Derived.KernelRfl
import Derived.Laws.Entries
/- The engine: a deterministic interpreter of the model's code over an abstract heap; its definitions. Each piece is small, for the kernel's sake. -/
namespace Go.Eng
noncomputable section

/-- A map from paths. -/
inductive Tr (α : Type) where
  | e
  | n (l : Tr α) (v : Option α) (r : Tr α)

def path (f : Nat) : Nat → List Bool := Nat.rec (motive := fun _ => Nat → List Bool) (fun _ => [])
  (fun _ ih k => cond (Nat.beq k 0) [] (cond (Nat.beq (Nat.mod k 2) 1) (true :: ih (Nat.div k 2)) (false :: ih (Nat.sub (Nat.div k 2) 1)))) f
def at_ (k : Nat) : List Bool := path k k

/-- A block of the abstract heap. 'ro': cells that are read, never written, and may lie anywhere. -/
inductive Blk where
  | cells (cs : List Value)
  | map (es : List MapEntry) (clock : Nat)
  | ro (cs : List Value)

abbrev Heap := Tr Blk

/-- An operand: an operation of this region, so many places back; a slot; a constant; a function. -/
inductive Od where
  | loc (d : Nat)
  | var (p : List Bool)
  | cst (v : Value)
  | fn (f : FuncId)

/-- One operation, its types looked up. 'z': cells of an element. -/
inductive AOp (α : Type) where
  | mov (x : α)
  | pick (c a b : α)
  | nilck (x : α)
  | ext (x : α) (i : Nat)
  | fld (x : α) (off : Nat) (agg : Option Nat)
  | fad (x : α) (off : Nat)
  | ixs (x i : α) (z : Nat)
  | ixa (x i : α) (n z : Nat)
  | ix (x i : α) (n z : Nat) (agg : Option Nat)
  | bin (op : BinOp) (t : TypeId) (x y : α)
  | un (op : UnOp) (x : α)
  | cvt (s d : TypeId) (x : α)
  | mnx (min : Bool) (xs : List α)
  | six (t : TypeId) (x i : α)
  | ssl (t : TypeId) (x : α) (lo hi : Option α)
  | isnil (neg : Bool) (kd : Nat) (x y : α)
  | bld (zero : List Value) (parts : List (Nat × Nat × α))
  | clo (fn : FuncId) (first cap : List α)
  | ifc (t : TypeId) (x : α)
  | tas (x : α) (t : TypeId) (zero : Value) (ok : Bool)
  | lod (x : α) (agg : Option Nat)
  | len (x : α)
  | mln (x : α)
  | sln (x : α)
  | cap (x : α)
  | slc (x : α) (lo hi mx : Option α) (z : Nat)
  | sla (x : α) (lo hi : Option α) (n z : Nat)
  | lku (x k : α) (kt : TypeId) (zero : Value) (ok : Bool)
  | box (x : α)
  | alc (zero : List Value)
  | mks (z bytes : Nat) (zero : List Value) (l c : α)
  | bsl (z len : Nat) (zero : List Value) (parts : List (Nat × Nat × α))
  | mkm (r : Option α)
  | sto (x v : α) (n : Nat)
  | app (z bytes : Nat) (zero : List Value) (s x : α) (zeros : Bool)
  | cpy (z : Nat) (d s : α)
  | clr (x : α) (zero : List Value)
  | mup (m k v : α) (kt : TypeId)
  | men (m k : α) (kt : TypeId) (zero : Value)
  | est (m s v : α)
  | ins (z bytes : Nat) (s i v : α)
  | call (f : α) (args : List α)
  | inv (x : α) (name : String) (args : List α)
  | dfr (f : α) (args : List α)
  | pan (x : α)
  | rcv

/-- An operation in its place. 'keep': the slot that is kept beyond the region. -/
structure AO where
  keep : Option (List Bool)
  guard : Option (Nat × Bool)
  op : AOp Od

/-- A load to be looked at again: it must read what stands 'd' places back. -/
structure Again where
  guard : Option (Nat × Bool)
  op : AOp Od
  d : Nat

inductive ACode where
  | skip
  | reg (dr : Bool) (ops : List (AO × List Again))
  | seq (a b : ACode)
  | cond (c : Od) (a b : ACode)
  | block (id : Nat) (c : ACode)
  | loop (c : ACode)
  | exit (id : Nat)
  | ret

structure AFunc where
  results : List (Od × Option (Option Nat))
  body : ACode

inductive CRet where
  | ok (v : Value) (H : Heap) (nx : Nat)
  | pan (chain : List PanicEntry) (H : Heap) (nx : Nat)

/-- The program as the engine takes it. 'hook': calls whose outcome is known. -/
structure AProg where
  P : Program
  funcs : Nat → Option AFunc
  hook : FuncId → List Value → Heap → Nat → Option CRet

inductive Ex where
  | normal
  | exit (id : Nat)
  | ret
  | panic (chain : List PanicEntry)

abbrev Dfd := Value × List Value

structure St where
  T : Tr Value
  D : List Dfd
  H : Heap
  nx : Nat

abbrev R0 := Option (Ex × St)

/-! ### Small pure functions -/

/-- No address in it. -/
def scalar : Value → Bool
  | .bool _ | .int _ _ | .float _ _ | .complex _ _ _ | .string _ | .nilFunc => true
  | _ => false

def flat : Value → Bool
  | .agg cs => cs.toList.all scalar
  | v => scalar v

/-- What a heapless operation of the model comes to. -/
def quiet {α : Type} (P : Program) : Sem α → Option α
  | .pure a => some a
  | .program k => quiet P (k P)
  | _ => none

/-- 'n' cells, all there. -/
def take? (n : Nat) (l : List Value) : Option (List Value) :=
  Nat.rec (motive := fun _ => List Value → Option (List Value)) (fun _ => some []) (fun _ ih l => List.rec none (fun c cs _ => Option.rec none (fun r => some (c :: r)) (ih cs)) l) n l

def dropN (l : List Value) (n : Nat) : List Value :=
  List.rec (motive := fun _ => Nat → List Value) (fun _ => []) (fun c l ih k => Nat.rec (c :: l) (fun k _ => ih k) k) l n

def overAll : List Value → List Value → Option (List Value)
  | cs, [] => some cs
  | _ :: cs, v :: vs => match overAll cs vs with
    | some r => some (v :: r)
    | none => none
  | [], _ :: _ => none

/-- put 'vs' over the cells from 'o' on, which must be there -/
def over (cs : List Value) (o : Nat) (vs : List Value) : Option (List Value) :=
  Nat.rec (motive := fun _ => List Value → Option (List Value)) (fun cs => overAll cs vs) (fun _ ih cs => List.rec none (fun c cs _ => Option.rec none (fun r => some (c :: r)) (ih cs)) cs) o cs

def cellsOf : Value → List Value
  | .agg cs => cs.toList
  | v => [v]

def headO (l : List Value) : Option Value := List.rec none (fun c _ _ => some c) l
def aggOf (o : Option (List Value)) : Option Value := Option.rec none (fun l => some (.agg l.toArray)) o
def partOf (cs : List Value) (off : Nat) (agg : Option Nat) : Option Value :=
  Option.rec (headO (dropN cs off)) (fun n => aggOf (take? n (dropN cs off))) agg

def fillIn (cells : List Value) : List (Nat × Nat × Value) → Option (List Value)
  | [] => some cells
  | (off, size, v) :: rest => bif Nat.beq (cellsOf v).length size then match over cells off (cellsOf v) with
      | some cells' => fillIn cells' rest
      | none => none
    else none

def repeatN (zero : List Value) (n : Nat) : List Value := Nat.rec [] (fun _ ih => zero ++ ih) n

/-- the slice's capacity as the engine writes it: twice what is sure to be there, one more where that is all there is -/
def sureCap (c : Nat) : Nat := Nat.div c 2
def exact (c : Nat) : Bool := Nat.beq (Nat.mod c 2) 1
def small : Nat := 1099511627776

def nilOne : Nat → Value → Option Bool
  | 0, .pointer none => some true
  | 0, .pointer (some _) => some false
  | 1, .slice none _ _ => some true
  | 1, .slice (some _) _ _ => some false
  | 2, .map none => some true
  | 2, .map (some _) => some false
  | 3, .nilFunc => some true
  | 3, .func _ _ _ => some false
  | 4, .nilIface => some true
  | 4, .iface _ _ => some false
  | _, _ => none

/-- where a key stands: the model's own search over keys whose values are their places -/
def marked : List MapEntry → Nat → List MapEntry
  | [], _ => []
  | e :: es, i => { e with val := .int .i64 i } :: marked es (i + 1)

/-- the same key, to the last bit -/
def keyEq1 : Value → Value → Bool
  | .bool a, .bool b => cond a b (not b)
  | .int j a, .int k b => decide (j = k) && decide (a = b)
  | .string a, .string b => decide (a = b)
  | _, _ => false
def keyEqs : List Value → List Value → Bool
  | [], [] => true
  | a :: as, b :: bs => keyEq1 a b && keyEqs as bs
  | _, _ => false
def keyEq : Value → Value → Bool
  | .agg a, .agg b => keyEqs a.toList b.toList
  | a, b => keyEq1 a b
def keyAt : List MapEntry → Nat → Value → Bool
  | [], _, _ => false
  | e :: _, 0, k => keyEq e.key k
  | _ :: es, i + 1, k => keyAt es i k

def findAt (P : Program) (emp : Bool) (kt : TypeId) (k : Value) (es : List MapEntry) : Option (Option Nat) :=
  bif flat k && es.all (fun e => flat e.key) then match quiet P (Instr.checkKey emp 10000 kt k) with
    | some () => match quiet P (Instr.findKey kt k (marked es 0)) with
      | some (some (i, _)) => bif keyAt es i k then some (some i) else none
      | some none => some none
      | none => none
    | none => none
  else none

def entryAt : List MapEntry → Nat → Option MapEntry
  | [], _ => none
  | e :: _, 0 => some e
  | _ :: es, i + 1 => entryAt es i

def bornAt : List MapEntry → Nat → Nat → Option Nat
  | [], _, _ => none
  | e :: es, b, i => bif Nat.beq e.born b then some i else bornAt es b (i + 1)

def setVal : List MapEntry → Nat → Value → List MapEntry
  | [], _, _ => []
  | e :: es, 0, v => { e with val := v } :: es
  | e :: es, i + 1, v => e :: setVal es i v

/-- equal for sure -/
def veq1 : Value → Value → Bool
  | .bool a, .bool b => cond a b (not b)
  | .int j a, .int k b => decide (j = k) && decide (a = b)
  | .pointer none, .pointer none => true
  | .pointer (some a), .pointer (some b) => decide (a = b)
  | .slice none a b, .slice none c d => Nat.beq a c && Nat.beq b d
  | .slice (some p) a b, .slice (some q) c d => decide (p = q) && Nat.beq a c && Nat.beq b d
  | .map none, .map none => true
  | .map (some a), .map (some b) => Nat.beq a b
  | _, _ => false
def veqs : List Value → List Value → Bool
  | [], [] => true
  | a :: as, b :: bs => veq1 a b && veqs as bs
  | _, _ => false
def veq : Value → Value → Bool
  | .agg a, .agg b => veqs a.toList b.toList
  | a, b => veq1 a b

/-- comparisons and small sums of numbers, at once -/
def fastBin (op : BinOp) (a b : Nat) : Option Value := match op with
  | .add => cond (Nat.blt (Nat.add a b) 2147483648) (some (.int .i64 (.ofNat (Nat.add a b)))) none
  | .sub => cond (Nat.ble b a) (cond (Nat.blt a 2147483648) (some (.int .i64 (.ofNat (Nat.sub a b)))) none) none
  | .mul => cond (Nat.blt (Nat.mul a b) 2147483648) (some (.int .i64 (.ofNat (Nat.mul a b)))) none
  | .eql => some (.bool (Nat.beq a b))
  | .neq => some (.bool (not (Nat.beq a b)))
  | .lss => some (.bool (Nat.blt a b))
  | .leq => some (.bool (Nat.ble a b))
  | .gtr => some (.bool (Nat.blt b a))
  | .geq => some (.bool (Nat.ble b a))
  | _ => none

def fastNeg (op : BinOp) : Option Value := match op with
  | .eql => some (.bool false)
  | .neq => some (.bool true)
  | _ => none

def fast (op : BinOp) (x y : Value) : Option Value := match x, y with
  | .int .i64 (.ofNat a), .int .i64 (.ofNat b) => fastBin op a b
  | .int .i64 (.ofNat _), .int .i64 (.negSucc _) => fastNeg op
  | .int .i64 (.negSucc _), .int .i64 (.ofNat _) => fastNeg op
  | _, _ => none

def notNilI : Value → Bool
  | .nilIface => false
  | _ => true

def slow (P : Program) (op : BinOp) (t : TypeId) (x y : Value) : Option Value :=
  bif flat x && flat y then match quiet P (do eqGuard op t (.const x) (.const y) x y; binOp op t x y) with
    | some v => bif flat v then some v else none
    | none => none
  else none

def flatly (P : Program) (xs : List Value) (s : Sem Value) : Option Value :=
  bif xs.all flat then match quiet P s with
    | some v => bif flat v then some v else none
    | none => none
  else none

def aggSize (P : Program) (t : TypeId) : Option (Option Nat) := match P.info? t, P.underlying t with
  | some i, some (.struct _) | some i, some (.array _ _) => some (some i.size)
  | some _, some _ => some none
  | _, _ => none

/-- a method, found without a step on the way; 'some': its receiver is what the pointer points to -/
def methodOf (P : Program) (t : TypeId) (name : String) : Option (FuncId × Option (Option Nat)) := match P.info? t with
  | some i => match i.methods.toList.find? (·.name == name) with
    | some m => bif m.path.isEmpty then match m.func, P.underlying t with
        | some (f, true), some (.pointer _) => some (f, none)
        | some (f, false), some (.pointer e) => match aggSize P e with
          | some a => some (f, some a)
          | none => none
        | some (f, false), some _ => some (f, none)
        | _, _ => none
      else none
    | none => none
  | none => none

def oneOf : List Value → Value
  | [v] => v
  | vs => .tuple vs.toArray

/-! ### Maps -/
def getV {α : Type} (v : Option α) (gl gr : List Bool → Option α) (p : List Bool) : Option α := List.rec v (fun b p _ => cond b (gl p) (gr p)) p
def getE {α : Type} (_ : List Bool) : Option α := none
def getP {α : Type} (t : Tr α) : List Bool → Option α := Tr.rec getE (fun _ v _ gl gr => getV v gl gr) t

abbrev SP (α : Type) := Tr α → Option α → (Tr α → R0) → R0
def nilS {α : Type} (t : Tr α) (x : Option α) (k : Tr α → R0) : R0 := Tr.rec (k (.n .e x .e)) (fun l _ r _ _ => k (.n l x r)) t
def conE {α : Type} (b : Bool) (ih : SP α) (x : Option α) (k : Tr α → R0) : R0 := cond b (ih .e x fun l => k (.n l none .e)) (ih .e x fun r => k (.n .e none r))
def conN {α : Type} (b : Bool) (ih : SP α) (x : Option α) (k : Tr α → R0) (l : Tr α) (v : Option α) (r : Tr α) : R0 := cond b (ih l x fun l => k (.n l v r)) (ih r x fun r => k (.n l v r))
def conS {α : Type} (b : Bool) (ih : SP α) (t : Tr α) (x : Option α) (k : Tr α → R0) : R0 := Tr.rec (conE b ih x k) (fun l v r _ _ => conN b ih x k l v r) t
/-- The map with 'x' at the path 'p', handed on. -/
def setP {α : Type} (p : List Bool) : SP α := List.rec nilS (fun b _ ih => conS b ih) p

/-! ### Values at operands -/
def bd {α β : Type} (o : Option α) (f : α → Option β) : Option β := Option.rec none f o
abbrev KV := Value → R0
def nthK (L : List Value) (d : Nat) (k : KV) : R0 := List.rec (motive := fun _ => Nat → R0) (fun _ => none) (fun v _ ih d => Nat.rec (k v) (fun d _ => ih d) d) L d
def fnK (f : FuncId) (k : KV) : R0 := k (.func (.func f) #[] #[])
def evK (T : Tr Value) (L : List Value) (x : Od) (k : KV) : R0 := Od.rec (fun d => nthK L d k) (fun p => bd (getP T p) k) k (fun f => fnK f k) x
def evsK (T : Tr Value) (L : List Value) (xs : List Od) : (List Value → R0) → R0 :=
  List.rec (motive := fun _ => (List Value → R0) → R0) (fun k => k []) (fun x _ ih k => evK T L x fun v => ih fun vs => k (v :: vs)) xs
def part2 (T : Tr Value) (L : List Value) (x : Nat × Nat × Od) (k : Nat × Nat × Value → R0) : R0 := Prod.rec (fun a r => Prod.rec (fun b x => evK T L x fun v => k (a, b, v)) r) x
def partsK (T : Tr Value) (L : List Value) (xs : List (Nat × Nat × Od)) : (List (Nat × Nat × Value) → R0) → R0 :=
  List.rec (motive := fun _ => (List (Nat × Nat × Value) → R0) → R0) (fun k => k []) (fun x _ ih k => part2 T L x fun v => ih fun vs => k (v :: vs)) xs

def onPtr (v : Value) (k : Nat → Nat → R0) : R0 := match v with
  | .pointer (some ⟨b, o, none⟩) => k b o
  | _ => none
def onNat (v : Value) (k : Nat → R0) : R0 := match v with
  | .int _ (.ofNat n) => k n
  | _ => none
def onI64 (v : Value) (k : Nat → R0) : R0 := match v with
  | .int .i64 (.ofNat n) => k n
  | _ => none
def onAgg (v : Value) (k : List Value → R0) : R0 := match v with
  | .agg cs => k cs.toList
  | _ => none
def onSl (v : Value) (k : Nat → Nat → Nat → Nat → Nat → R0) : R0 := match v with
  | .slice (some ⟨b, o, some z⟩) len c => k b o z len c
  | _ => none
def onBool (v : Value) (a b : R0) : R0 := match v with
  | .bool t => cond t a b
  | _ => none
def onCells (b : Option Blk) (k : List Value → R0) : R0 := Option.rec none (fun b => Blk.rec k (fun _ _ => none) (fun _ => none) b) b
def onRead (b : Option Blk) (k : List Value → R0) : R0 := Option.rec none (fun b => Blk.rec k (fun _ _ => none) k b) b
def onMapB (b : Option Blk) (k : List MapEntry → Nat → R0) : R0 := Option.rec none (fun b => Blk.rec (fun _ => none) k (fun _ => none) b) b
def cellsK (H : Heap) (b : Nat) (k : List Value → R0) : R0 := onCells (getP H (at_ b)) k
/-- cells to be read: blocks that are not ours to write, too -/
def cellsR (H : Heap) (b : Nat) (k : List Value → R0) : R0 := onRead (getP H (at_ b)) k
def mapK (H : Heap) (v : Value) (k : Nat → List MapEntry → Nat → R0) : R0 := match v with
  | .map (some r) => onMapB (getP H (at_ r)) (k r)
  | _ => none
def optK (T : Tr Value) (L : List Value) (x : Option Od) (dflt : Nat) (k : Nat → R0) : R0 := Option.rec (k dflt) (fun x => evK T L x fun v => onNat v k) x

/-! ### Operations that read the heap at most -/
abbrev LK := Program → Tr Value → List Value → Heap → KV → R0
def lMov (x : Od) : LK := fun _ T L _ k => evK T L x k
def lPick (c a b : Od) : LK := fun _ T L _ k => evK T L c fun c => onBool c (evK T L a k) (evK T L b k)
def nilckV (v : Value) (k : KV) : R0 := match v with
  | .pointer (some a) => k (.pointer (some a))
  | .func (.func f) a b => k (.func (.func f) a b)
  | _ => none
def lNilck (x : Od) : LK := fun _ T L _ k => evK T L x fun v => nilckV v k
def extV (v : Value) (i : Nat) (k : KV) : R0 := match v with
  | .tuple vs => nthK vs.toList i k
  | _ => none
def lExt (x : Od) (i : Nat) : LK := fun _ T L _ k => evK T L x fun v => extV v i k
def lFld (x : Od) (off : Nat) (agg : Option Nat) : LK := fun _ T L _ k => evK T L x fun v => onAgg v fun cs => bd (partOf cs off agg) k
def mkPtr (b o : Nat) (k : KV) : R0 := k (.pointer (some ⟨b, o, none⟩))
def lFad (x : Od) (off : Nat) : LK := fun _ T L _ k => evK T L x fun v => onPtr v fun b o => mkPtr b (Nat.add o off) k
def ixsV (z n : Nat) (k : KV) (b o z' len _c : Nat) : R0 := cond (and (Nat.blt n len) (Nat.beq z z')) (mkPtr b (Nat.add o (Nat.mul n z)) k) none
def lIxs (x i : Od) (z : Nat) : LK := fun _ T L _ k => evK T L x fun v => evK T L i fun i => onNat i fun n => onSl v (ixsV z n k)
def ixaV (n len z : Nat) (k : KV) (b o : Nat) : R0 := cond (Nat.blt n len) (mkPtr b (Nat.add o (Nat.mul n z)) k) none
def lIxa (x i : Od) (len z : Nat) : LK := fun _ T L _ k => evK T L x fun v => evK T L i fun i => onNat i fun n => onPtr v (ixaV n len z k)
def lIx (x i : Od) (len z : Nat) (agg : Option Nat) : LK := fun _ T L _ k => evK T L x fun v => evK T L i fun i => onNat i fun n => onAgg v fun cs => cond (Nat.blt n len) (bd (partOf cs (Nat.mul n z) agg) k) none
def binV (P : Program) (op : BinOp) (t : TypeId) (x y : Value) (k : KV) : R0 := Option.rec (bd (slow P op t x y) k) k (fast op x y)
def lBin (op : BinOp) (t : TypeId) (x y : Od) : LK := fun P T L _ k => evK T L x fun a => evK T L y fun b => binV P op t a b k
def lUn (op : UnOp) (x : Od) : LK := fun P T L _ k => evK T L x fun v => bd (flatly P [v] (Op.unary op v)) k
def lCvt (s d : TypeId) (x : Od) : LK := fun P T L _ k => evK T L x fun v => bd (flatly P [v] (convert s d v)) k
def lMnx (mn : Bool) (xs : List Od) : LK := fun P T L _ k => evsK T L xs fun vs => bd (flatly P vs (cond mn (Builtin.min_ #[] 0 vs.toArray) (Builtin.max_ #[] 0 vs.toArray))) k
def lSix (t : TypeId) (x i : Od) : LK := fun P T L _ k => evK T L x fun v => evK T L i fun i => bd (flatly P [v, i] (Instr.index t v i)) k
def sslK (T : Tr Value) (L : List Value) (x : Option Od) (k : Option Value → R0) : R0 := Option.rec (k none) (fun x => evK T L x fun v => k (some v)) x
def lSsl (t : TypeId) (x : Od) (lo hi : Option Od) : LK := fun P T L _ k => evK T L x fun v => sslK T L lo fun l => sslK T L hi fun h => bd (flatly P (v :: (l.toList ++ h.toList)) (Instr.slice t v l h none)) k
def isnilV (neg : Bool) (kd : Nat) (x y : Value) (k : KV) : R0 := bd (nilOne kd x) fun a => bd (nilOne kd y) fun b => cond (or a b) (k (.bool (xor neg (and a b)))) none
def lIsnil (neg : Bool) (kd : Nat) (x y : Od) : LK := fun _ T L _ k => evK T L x fun a => evK T L y fun b => isnilV neg kd a b k
def lBld (zero : List Value) (parts : List (Nat × Nat × Od)) : LK := fun _ T L _ k => partsK T L parts fun ps => bd (fillIn zero ps) fun cs => k (.agg cs.toArray)
def lClo (f : FuncId) (first cp : List Od) : LK := fun _ T L _ k => evsK T L first fun a => evsK T L cp fun b => k (.func (.func f) a.toArray b.toArray)
def lIfc (t : TypeId) (x : Od) : LK := fun _ T L _ k => evK T L x fun v => k (.iface t v)
def tasV (t : TypeId) (zero : Value) (ok : Bool) (k : KV) (v : Value) : R0 := match v with
  | .nilIface => cond ok (k (.tuple #[zero, .bool false])) none
  | .iface t' v => cond (Nat.beq t' t) (k (cond ok (.tuple #[v, .bool true]) v)) (cond ok (k (.tuple #[zero, .bool false])) none)
  | _ => none
def lTas (x : Od) (t : TypeId) (zero : Value) (ok : Bool) : LK := fun _ T L _ k => evK T L x (tasV t zero ok k)
def lLod (x : Od) (agg : Option Nat) : LK := fun _ T L H k => evK T L x fun v => onPtr v fun b o => cellsR H b fun cs => bd (partOf cs o agg) k
def lenV (v : Value) (k : KV) : R0 := match v with
  | .slice _ n _ => k (.int .i64 (.ofNat n))
  | _ => none
def lLen (x : Od) : LK := fun _ T L _ k => evK T L x fun v => lenV v k
def slnV (v : Value) (k : KV) : R0 := match v with
  | .string s => k (.int .i64 (.ofNat s.size))
  | _ => none
def lSln (x : Od) : LK := fun _ T L _ k => evK T L x fun v => slnV v k
def mlnV (H : Heap) (v : Value) (k : KV) : R0 := match v with
  | .map none => k (.int .i64 (.ofNat 0))
  | .map (some r) => onMapB (getP H (at_ r)) fun es _ => k (.int .i64 (.ofNat es.length))
  | _ => none
def lMln (x : Od) : LK := fun _ T L H k => evK T L x fun v => mlnV H v k
def capV (v : Value) (k : KV) : R0 := match v with
  | .slice none _ _ => k (.int .i64 (.ofNat 0))
  | .slice (some _) _ c => cond (exact c) (k (.int .i64 (.ofNat (sureCap c)))) none
  | _ => none
def lCap (x : Od) : LK := fun _ T L _ k => evK T L x fun v => capV v k
def slcM (T : Tr Value) (L : List Value) (mx : Option Od) (k : KV) (b o z l h c : Nat) : R0 :=
  Option.rec (k (.slice (some ⟨b, Nat.add o (Nat.mul l z), some z⟩) (Nat.sub h l) (Nat.sub c (Nat.mul 2 l))))
    (fun m => evK T L m fun m => onNat m fun m => cond (and (Nat.ble h m) (Nat.ble m (sureCap c))) (k (.slice (some ⟨b, Nat.add o (Nat.mul l z), some z⟩) (Nat.sub h l) (Nat.succ (Nat.mul 2 (Nat.sub m l))))) none) mx
def slcV (T : Tr Value) (L : List Value) (lo hi mx : Option Od) (z : Nat) (k : KV) (v : Value) : R0 := match v with
  | .slice none _ _ => optK T L lo 0 fun l => optK T L hi 0 fun h => cond (and (Nat.beq l 0) (and (Nat.beq h 0) mx.isNone)) (k (.slice none 0 0)) none
  | .slice (some ⟨b, o, some z'⟩) len c => optK T L lo 0 fun l => optK T L hi len fun h => cond (and (Nat.beq z z') (and (Nat.ble l h) (Nat.ble h (sureCap c)))) (slcM T L mx k b o z l h c) none
  | _ => none
def lSlc (x : Od) (lo hi mx : Option Od) (z : Nat) : LK := fun _ T L _ k => evK T L x (slcV T L lo hi mx z k)
def lSla (x : Od) (lo hi : Option Od) (n z : Nat) : LK := fun _ T L _ k => evK T L x fun v => onPtr v fun b o => optK T L lo 0 fun l => optK T L hi n fun h =>
  cond (and (Nat.ble l h) (and (Nat.ble h n) (Nat.blt 0 z))) (k (.slice (some ⟨b, Nat.add o (Nat.mul l z), some z⟩) (Nat.sub h l) (Nat.succ (Nat.mul 2 (Nat.sub n l))))) none
def okV (ok : Bool) (v : Value) (b : Bool) : Value := cond ok (.tuple #[v, .bool b]) v
def lkuE (es : List MapEntry) (zero : Value) (ok : Bool) (k : KV) (i : Option Nat) : R0 := Option.rec (k (okV ok zero false)) (fun i => bd (entryAt es i) fun e => k (okV ok e.val true)) i
def lkuV (P : Program) (kt : TypeId) (zero : Value) (ok : Bool) (H : Heap) (key : Value) (k : KV) (m : Value) : R0 := match m with
  | .map none => cond (flat key) (bd (quiet P (Instr.checkKey true 10000 kt key)) fun _ => k (okV ok zero false)) none
  | .map (some r) => onMapB (getP H (at_ r)) fun es _ => bd (findAt P es.isEmpty kt key es) (lkuE es zero ok k)
  | _ => none
def lLku (m key : Od) (kt : TypeId) (zero : Value) (ok : Bool) : LK := fun P T L H k => evK T L m fun m => evK T L key fun key => lkuV P kt zero ok H key k m
def lNo : LK := fun _ _ _ _ _ => none

/-! ### Operations that change the heap, or make memory -/
abbrev KA := Value → Heap → Nat → R0
abbrev AK := Program → Tr Value → List Value → Heap → Nat → KA → R0
def aLook (f : LK) : AK := fun P T L H nx k => f P T L H fun v => k v H nx
def put1 (H : Heap) (nx b : Nat) (v : Value) (k : KA) (cs : List Value) : R0 := setP (at_ b) H (some (.cells cs)) fun H => k v H nx
def fresh (H : Heap) (nx : Nat) (v : Value) (k : KA) (cs : List Value) : R0 := setP (at_ nx) H (some (.cells cs)) fun H => k v H (Nat.succ nx)
def ptrTo (nx : Nat) : Value := .pointer (some ⟨nx, 0, none⟩)
def slTo (nx z len c : Nat) : Value := .slice (some ⟨nx, 0, some z⟩) len c
def aBox (x : Od) : AK := fun _ T L H nx k => evK T L x fun v => fresh H nx (ptrTo nx) k (cellsOf v)
def aAlc (zero : List Value) : AK := fun _ _ _ H nx k => fresh H nx (ptrTo nx) k zero
def mksV (z bytes : Nat) (zero : List Value) (H : Heap) (nx l c : Nat) (k : KA) : R0 :=
  cond (and (Nat.ble l c) (and (Nat.ble (Nat.mul c bytes) small) (and (Nat.ble c small) (Nat.blt 0 z)))) (fresh H nx (slTo nx z l (Nat.succ (Nat.mul 2 c))) k (repeatN zero c)) none
def aMks (z bytes : Nat) (zero : List Value) (l c : Od) : AK := fun _ T L H nx k => evK T L l fun l => onNat l fun l => evK T L c fun c => onNat c fun c => mksV z bytes zero H nx l c k
def aBsl (z len : Nat) (zero : List Value) (parts : List (Nat × Nat × Od)) : AK := fun _ T L H nx k => partsK T L parts fun ps => bd (fillIn (repeatN zero len) ps) fun cs =>
  cond (Nat.blt 0 z) (fresh H nx (slTo nx z len (Nat.succ (Nat.mul 2 len))) k cs) none
def aMkm (r : Option Od) : AK := fun _ T L H nx k => optK T L r 0 fun _ => setP (at_ nx) H (some (.map [] 0)) fun H => k (.map (some nx)) H (Nat.succ nx)
def putNth (l : List Value) : Nat → Value → (List Value → R0) → R0 :=
  List.rec (motive := fun _ => Nat → Value → (List Value → R0) → R0) (fun _ _ _ => none) (fun c l ih o v k => Nat.rec (k (v :: l)) (fun o _ => ih o v fun l => k (c :: l)) o) l
def stoL (H : Heap) (nx b o : Nat) (cs old : List Value) (k : KA) : R0 :=
  List.rec none (fun c r _ => List.rec (putNth old o c (put1 H nx b undef k)) (fun _ _ _ => bd (over old o cs) (put1 H nx b undef k)) r) cs
def oneC : Value → Bool
  | .agg _ | .tuple _ => false
  | _ => true
def allOne (l : List Value) : Bool := List.rec true (fun v _ ih => cond (oneC v) ih false) l
def stoV (H : Heap) (nx n : Nat) (cs : List Value) (k : KA) (b o : Nat) : R0 := cond (and (Nat.beq cs.length n) (allOne cs)) (cellsK H b fun old => stoL H nx b o cs old k) none
def aSto (x v : Od) (n : Nat) : AK := fun _ T L H nx k => evK T L x fun x => evK T L v fun v => onPtr x (stoV H nx n (cellsOf v) k)
/-- the cells of a slice, or a string's bytes -/
def srcK (H : Heap) (z : Nat) (k : Nat → List Value → R0) (v : Value) : R0 := match v with
  | .slice none _ _ => k 0 []
  | .slice (some ⟨b, o, some z'⟩) n _ => cond (Nat.beq z z') (cond (Nat.beq n 0) (k 0 []) (cellsR H b fun cs => bd (take? (Nat.mul n z) (dropN cs o)) fun cs => k n cs)) none
  | _ => none
def appNew (z bytes : Nat) (H : Heap) (nx : Nat) (k : KA) (len n : Nat) (old new : List Value) : R0 :=
  cond (and (Nat.ble (Nat.mul (Nat.add len n) bytes) small) (Nat.ble (Nat.add len n) small)) (fresh H nx (slTo nx z (Nat.add len n) (Nat.mul 2 (Nat.add len n))) k (old ++ new)) none
def appOff (z bytes : Nat) (H : Heap) (nx : Nat) (k : KA) (b o len c n : Nat) (new : List Value) : R0 :=
  cellsK H b fun cs => bd (take? (Nat.mul len z) (dropN cs o)) fun old =>
    cond (exact c) (appNew z bytes H nx k len n old new) (setP (at_ b) H none fun H => appNew z bytes H nx k len n old new)
def appIn (z : Nat) (H : Heap) (nx : Nat) (k : KA) (b o len c n : Nat) (new : List Value) : R0 :=
  cellsK H b fun cs => bd (over cs (Nat.add o (Nat.mul len z)) new) (put1 H nx b (.slice (some ⟨b, o, some z⟩) (Nat.add len n) c) k)
def appV (z bytes : Nat) (H : Heap) (nx : Nat) (k : KA) (s : Value) (n : Nat) (new : List Value) : R0 := match s with
  | .slice none _ _ => cond (Nat.beq n 0) (k (.slice none 0 0) H nx) (cond (Nat.blt 0 z) (appNew z bytes H nx k 0 n [] new) none)
  | .slice (some ⟨b, o, some z'⟩) len c => cond (and (Nat.beq z z') (and (Nat.blt 0 z) (allOne new)))
      (cond (Nat.beq n 0) (k (.slice (some ⟨b, o, some z⟩) len c) H nx) (cond (Nat.ble (Nat.add len n) (sureCap c)) (appIn z H nx k b o len c n new) (appOff z bytes H nx k b o len c n new))) none
  | _ => none
def appZ (bytes : Nat) (zero : List Value) (k : Nat → List Value → R0) (n : Nat) : R0 := cond (and (Nat.ble n small) (Nat.ble (Nat.mul n bytes) small)) (k n (repeatN zero n)) none
def appSrc (z bytes : Nat) (zero : List Value) (zeros : Bool) (H : Heap) (x : Value) (k : Nat → List Value → R0) : R0 := cond zeros (onNat x (appZ bytes zero k)) (srcK H z k x)
def aApp (z bytes : Nat) (zero : List Value) (s x : Od) (zeros : Bool) : AK := fun _ T L H nx k => evK T L s fun s => evK T L x fun x => appSrc z bytes zero zeros H x (appV z bytes H nx k s)
def cpyV (z : Nat) (H : Heap) (nx : Nat) (k : KA) (n : Nat) (cs : List Value) (b o z' len _c : Nat) : R0 := cond (Nat.beq z z')
  (cond (Nat.beq (Nat.min n len) 0) (k (.int .i64 (.ofNat 0)) H nx) (bd (take? (Nat.mul (Nat.min n len) z) cs) fun cs => cond (allOne cs) (cellsK H b fun old => bd (over old o cs) (put1 H nx b (.int .i64 (.ofNat (Nat.min n len))) k)) none)) none
def cpyD (z : Nat) (H : Heap) (nx : Nat) (k : KA) (d : Value) (n : Nat) (cs : List Value) : R0 := match d with
  | .slice none _ _ => k (.int .i64 (.ofNat 0)) H nx
  | d => onSl d (cpyV z H nx k n cs)
def aCpy (z : Nat) (d s : Od) : AK := fun _ T L H nx k => evK T L d fun d => evK T L s fun s => srcK H z (cpyD z H nx k d) s
def clrV (zero : List Value) (H : Heap) (nx : Nat) (k : KA) (x : Value) : R0 := match x with
  | .slice none _ _ => k undef H nx
  | .slice (some ⟨b, o, some z⟩) n _ => cond (Nat.beq n 0) (k undef H nx) (cond (and (Nat.beq z zero.length) (allOne zero)) (cellsK H b fun cs => bd (over cs o (repeatN zero n)) (put1 H nx b undef k)) none)
  | _ => none
def aClr (x : Od) (zero : List Value) : AK := fun _ T L H nx k => evK T L x fun x => clrV zero H nx k x
def newEntry (es : List MapEntry) (c : Nat) (key v : Value) : Blk := .map (es ++ [{ key, val := v, born := c }]) (Nat.succ c)
def aMup (m key v : Od) (kt : TypeId) : AK := fun P T L H nx k => evK T L m fun m => evK T L key fun key => evK T L v fun v => mapK H m fun r es c =>
  bd (findAt P false kt key es) fun i => Option.rec (setP (at_ r) H (some (newEntry es c key v)) fun H => k undef H nx) (fun i => setP (at_ r) H (some (.map (setVal es i v) c)) fun H => k undef H nx) i
def aMen (m key : Od) (kt : TypeId) (zero : Value) : AK := fun P T L H nx k => evK T L m fun m => evK T L key fun key => mapK H m fun r es c =>
  bd (findAt P false kt key es) fun i => Option.rec (setP (at_ r) H (some (newEntry es c key zero)) fun H => k (.tuple #[zero, .int .i64 (.ofNat c)]) H nx)
    (fun i => bd (entryAt es i) fun e => k (.tuple #[e.val, .int .i64 (.ofNat e.born)]) H nx) i
def aEst (m s v : Od) : AK := fun _ T L H nx k => evK T L m fun m => evK T L s fun s => onNat s fun b => evK T L v fun v => mapK H m fun r es c =>
  bd (bornAt es b 0) fun i => setP (at_ r) H (some (.map (setVal es i v) c)) fun H => k undef H nx
def insV (z bytes : Nat) (H : Heap) (nx : Nat) (k : KA) (i : Nat) (b o z1 len _c b2 o2 z2 m _c2 : Nat) : R0 :=
  cond (and (Nat.beq z z1) (and (Nat.beq z z2) (and (Nat.blt 0 z) (and (Nat.blt 0 m) (and (Nat.ble i len) (not (Nat.beq b b2)))))))
    (cellsK H b fun cs => cellsK H b2 fun cs2 => bd (take? (Nat.mul len z) (dropN cs o)) fun old => bd (take? (Nat.mul m z) (dropN cs2 o2)) fun new => bd (take? (Nat.mul i z) old) fun front =>
      cond (and (allOne old) (allOne new)) (setP (at_ b) H none fun H => appNew z bytes H nx k len m front (new ++ dropN old (Nat.mul i z))) none) none
def aIns (z bytes : Nat) (s i v : Od) : AK := fun _ T L H nx k => evK T L s fun s => evK T L i fun i => onI64 i fun i => evK T L v fun v => onSl s fun b o z1 len c => onSl v (insV z bytes H nx k i b o z1 len c)
def aNo : AK := fun _ _ _ _ _ _ => none

/-- What each operation comes to, but for calls. -/
def lookT (o : AOp Od) : LK := AOp.rec (motive := fun _ => LK) lMov lPick lNilck lExt lFld lFad lIxs lIxa lIx lBin lUn lCvt lMnx lSix lSsl lIsnil lBld lClo lIfc lTas lLod lLen lMln lSln lCap lSlc lSla lLku
  (fun _ => lNo) (fun _ => lNo) (fun _ _ _ _ _ => lNo) (fun _ _ _ _ => lNo) (fun _ => lNo) (fun _ _ _ => lNo) (fun _ _ _ _ _ _ => lNo) (fun _ _ _ => lNo) (fun _ _ => lNo) (fun _ _ _ _ => lNo) (fun _ _ _ _ => lNo) (fun _ _ _ => lNo) (fun _ _ _ _ _ => lNo)
  (fun _ _ => lNo) (fun _ _ _ => lNo) (fun _ _ => lNo) (fun _ => lNo) lNo o
def actT (o : AOp Od) : AK := AOp.rec (motive := fun _ => AK) (fun x => aLook (lMov x)) (fun x y z => aLook (lPick x y z)) (fun x => aLook (lNilck x)) (fun x y => aLook (lExt x y)) (fun x y z => aLook (lFld x y z)) (fun x y => aLook (lFad x y))
  (fun x y z => aLook (lIxs x y z)) (fun a b c d => aLook (lIxa a b c d)) (fun a b c d e => aLook (lIx a b c d e)) (fun a b c d => aLook (lBin a b c d)) (fun a b => aLook (lUn a b)) (fun a b c => aLook (lCvt a b c)) (fun a b => aLook (lMnx a b))
  (fun a b c => aLook (lSix a b c)) (fun a b c d => aLook (lSsl a b c d)) (fun a b c d => aLook (lIsnil a b c d)) (fun a b => aLook (lBld a b)) (fun a b c => aLook (lClo a b c)) (fun a b => aLook (lIfc a b)) (fun a b c d => aLook (lTas a b c d))
  (fun a b => aLook (lLod a b)) (fun a => aLook (lLen a)) (fun a => aLook (lMln a)) (fun a => aLook (lSln a)) (fun a => aLook (lCap a)) (fun a b c d e => aLook (lSlc a b c d e)) (fun a b c d e => aLook (lSla a b c d e)) (fun a b c d e => aLook (lLku a b c d e))
  aBox aAlc aMks aBsl aMkm aSto aApp aCpy aClr aMup aMen aEst aIns (fun _ _ => aNo) (fun _ _ _ => aNo) (fun _ _ => aNo) (fun _ => aNo) aNo o

/-! ### The run -/
abbrev RC := Tr Value → List Dfd → Heap → Nat → R0
structure Run where
  code : ACode → RC
  call : FuncId → List Value → Heap → Nat → Option CRet

abbrev RL := Tr Value → List Value → List Dfd → Heap → Nat → R0
def wantB (want : Bool) (v : Value) : Bool := match v with
  | .bool b => cond b want (not want)
  | _ => false
def nthO (L : List Value) (d : Nat) : Option Value := List.rec (motive := fun _ => Nat → Option Value) (fun _ => none) (fun v _ ih d => Nat.rec (some v) (fun d _ => ih d) d) L d
def wantO (want : Bool) (v : Option Value) : Bool := Option.rec false (wantB want) v
def wanted (L : List Value) (g : Option (Nat × Bool)) : Bool := Option.rec true (fun p => Prod.rec (fun d want => wantO want (nthO L d)) p) g

/-- the loads to be looked at again -/
def again1 (P : Program) (T : Tr Value) (L : List Value) (H : Heap) (a : Again) (k : R0) : R0 := cond (wanted L a.guard) (lookT a.op P T L H fun v => nthK L a.d fun u => cond (veq u v) k none) k
def againK (P : Program) (T : Tr Value) (L : List Value) (H : Heap) (l : List Again) (k : R0) : R0 := List.rec k (fun a _ ih => again1 P T L H a ih) l

def keepK (T : Tr Value) (p : Option (List Bool)) (v : Value) (k : Tr Value → R0) : R0 := Option.rec (k T) (fun p => setP p T (some v) k) p
/-- an operation is through: what it gave is put away -/
def contO (P : Program) (p : Option (List Bool)) (ag : List Again) (k : RL) (T : Tr Value) (L : List Value) (D : List Dfd) (v : Value) (H : Heap) (nx : Nat) : R0 :=
  keepK T p v fun T => againK P T (v :: L) H ag (k T (v :: L) D H nx)

abbrev OK := AProg → Run → Option (List Bool) → List Again → RL → AOp Od → RL
def oAct : OK := fun A _ p ag k o T L D H nx => actT o A.P T L H nx (contO A.P p ag k T L D)
def onRet (P : Program) (p : Option (List Bool)) (ag : List Again) (k : RL) (T : Tr Value) (L : List Value) (D : List Dfd) (c : CRet) : R0 :=
  CRet.rec (fun v H nx => contO P p ag k T L D v H nx) (fun ch H nx => some (.panic ch, ⟨T, D, H, nx⟩)) c
def targetK (args : List Value) (k : FuncId → List Value → R0) (f : Value) : R0 := match f with
  | .func (.func f) first captured => k f (first.toList ++ args ++ captured.toList)
  | _ => none
def oCall (f : Od) (args : List Od) : OK := fun A r p ag k _ T L D H nx => evK T L f fun f => evsK T L args fun vs => targetK vs (fun g vs => bd (r.call g vs H nx) (onRet A.P p ag k T L D)) f
def recvK (H : Heap) (v : Value) (a : Option (Option Nat)) (k : KV) : R0 := Option.rec (k v) (fun agg => onPtr v fun b o => cellsR H b fun cs => bd (partOf cs o agg) k) a
def invV (P : Program) (name : String) (H : Heap) (k : FuncId → Value → R0) (v : Value) : R0 := match v with
  | .iface t v => bd (methodOf P t name) fun m => recvK H v m.2 (k m.1)
  | _ => none
def oInv (x : Od) (name : String) (args : List Od) : OK := fun A r p ag k _ T L D H nx => evK T L x fun x => evsK T L args fun vs => invV A.P name H (fun g v => bd (r.call g (v :: vs) H nx) (onRet A.P p ag k T L D)) x
def onFn (f : Value) (k : R0) : R0 := match f with
  | .func (.func _) _ _ => k
  | _ => none
def oDfr (f : Od) (args : List Od) : OK := fun A _ p ag k _ T L D H nx => evK T L f fun f => evsK T L args fun vs => onFn f (contO A.P p ag k T L ((f, vs) :: D) undef H nx)
def panV (T : Tr Value) (D : List Dfd) (H : Heap) (nx : Nat) (v : Value) : R0 := match v with
  | .iface t v => some (.panic [{ v := .iface t v, recovered := false }], ⟨T, D, H, nx⟩)
  | _ => none
def oPan (x : Od) : OK := fun _ _ _ _ _ _ T L D H nx => evK T L x (panV T D H nx)
def oNo : OK := fun _ _ _ _ _ _ _ _ _ _ _ => none
def opT (o : AOp Od) : OK := AOp.rec (motive := fun _ => OK) (fun _ => oAct) (fun _ _ _ => oAct) (fun _ => oAct) (fun _ _ => oAct) (fun _ _ _ => oAct) (fun _ _ => oAct) (fun _ _ _ => oAct) (fun _ _ _ _ => oAct) (fun _ _ _ _ _ => oAct) (fun _ _ _ _ => oAct) (fun _ _ => oAct) (fun _ _ _ => oAct) (fun _ _ => oAct) (fun _ _ _ => oAct) (fun _ _ _ _ => oAct) (fun _ _ _ _ => oAct) (fun _ _ => oAct) (fun _ _ _ => oAct) (fun _ _ => oAct) (fun _ _ _ _ => oAct) (fun _ _ => oAct) (fun _ => oAct) (fun _ => oAct) (fun _ => oAct) (fun _ => oAct) (fun _ _ _ _ _ => oAct) (fun _ _ _ _ _ => oAct) (fun _ _ _ _ _ => oAct) (fun _ => oAct) (fun _ => oAct) (fun _ _ _ _ _ => oAct) (fun _ _ _ _ => oAct) (fun _ => oAct) (fun _ _ _ => oAct) (fun _ _ _ _ _ _ => oAct) (fun _ _ _ => oAct) (fun _ _ => oAct) (fun _ _ _ _ => oAct) (fun _ _ _ _ => oAct) (fun _ _ _ => oAct) (fun _ _ _ _ _ => oAct) oCall oInv oDfr oPan oNo o
def opG (A : AProg) (r : Run) (o : AO) (ag : List Again) (k : RL) : RL := fun T L D H nx =>
  cond (wanted L o.guard) (opT o.op A r o.keep ag k o.op T L D H nx) (contO A.P o.keep ag k T L D undef H nx)
def ops0 : RL := fun T _ D H nx => some (.normal, ⟨T, D, H, nx⟩)
def opP (A : AProg) (r : Run) (x : AO × List Again) (k : RL) : RL := Prod.rec (fun o ag => opG A r o ag k) x
def runOps (A : AProg) (r : Run) (l : List (AO × List Again)) : RL := List.rec (motive := fun _ => RL) ops0 (fun o _ ih => opP A r o ih) l

def onSt (k : RC) (st : St) : R0 := St.rec (fun T D H nx => k T D H nx) st
def stay (e : Ex) (st : St) : R0 := some (e, st)
def seqE (k : RC) (e : Ex) : St → R0 := Ex.rec (onSt k) (fun i => stay (.exit i)) (stay .ret) (fun c => stay (.panic c)) e
def seqK (k : RC) (o : Ex × St) : R0 := Prod.rec (fun e st => seqE k e st) o
def cSkip : RC := fun T D H nx => some (.normal, ⟨T, D, H, nx⟩)
def cReg (A : AProg) (r : Run) (ops : List (AO × List Again)) : RC := fun T D H nx => runOps A r ops T [] D H nx
/-- a region whose order is drawn: nothing may stop it -/
def drawE (e : Ex) : St → R0 := Ex.rec (stay .normal) (fun _ _ => none) (fun _ => none) (fun _ _ => none) e
def drawK (o : Ex × St) : R0 := Prod.rec (fun e st => drawE e st) o
def cDraw (A : AProg) (r : Run) (ops : List (AO × List Again)) : RC := fun T D H nx => bd (runOps A r ops T [] D H nx) drawK
def cSeq (a b : RC) : RC := fun T D H nx => bd (a T D H nx) (seqK b)
def cCond (c : Od) (a b : RC) : RC := fun T D H nx => evK T [] c fun v => onBool v (a T D H nx) (b T D H nx)
def blockE (id : Nat) (e : Ex) : St → R0 := Ex.rec (stay .normal) (fun i => cond (Nat.beq i id) (stay .normal) (stay (.exit i))) (stay .ret) (fun c => stay (.panic c)) e
def blockK (id : Nat) (o : Ex × St) : R0 := Prod.rec (fun e st => blockE id e st) o
def cBlock (id : Nat) (a : RC) : RC := fun T D H nx => bd (a T D H nx) (blockK id)
def cLoop (r : Run) (c : ACode) (a : RC) : RC := fun T D H nx => bd (a T D H nx) (seqK (r.code (.loop c)))
def cExit (id : Nat) : RC := fun T D H nx => some (.exit id, ⟨T, D, H, nx⟩)
def cRet : RC := fun T D H nx => some (.ret, ⟨T, D, H, nx⟩)
abbrev CK := AProg → Run → RC
def kSkip : CK := fun _ _ => cSkip
def kReg (dr : Bool) (ops : List (AO × List Again)) : CK := fun A r => cond dr (cDraw A r ops) (cReg A r ops)
def kSeq (a b : CK) : CK := fun A r => cSeq (a A r) (b A r)
def kCond (c : Od) (a b : CK) : CK := fun A r => cCond c (a A r) (b A r)
def kBlock (id : Nat) (a : CK) : CK := fun A r => cBlock id (a A r)
def kLoop (c : ACode) (a : CK) : CK := fun A r => cLoop r c (a A r)
def kExit (id : Nat) : CK := fun _ _ => cExit id
def kRet : CK := fun _ _ => cRet
def codeT (c : ACode) : CK := ACode.rec (motive := fun _ => CK) kSkip kReg (fun _ _ a b => kSeq a b) (fun c _ _ a b => kCond c a b) (fun id _ a => kBlock id a) kLoop kExit kRet c

/-! deferred functions, which may recover -/
/-- a body that begins with a recover: where it is put, and the rest -/
def splitRcv : ACode → Option (List Bool × ACode)
  | .seq a b => match splitRcv a with
    | some (p, a') => some (p, .seq a' b)
    | none => none
  | .reg false [(⟨some p, none, .rcv⟩, [])] => some (p, .skip)
  | _ => none

def recovered (u : FrameMode) : Value × FrameMode := match u with
  | .panicking ({ v, recovered := false, goexit := false } :: older) => (v, .panicking ({ v, recovered := true } :: older))
  | u => (.nilIface, u)

/-- a result's variable -/
def resK (T : Tr Value) (H : Heap) (x : Od × Option (Option Nat)) (k : Value → Option CRet) : Option CRet := match x with
  | (.var p, none) => bd (getP T p) k
  | (.var p, some agg) => match getP T p with
    | some (.pointer (some ⟨b, o, none⟩)) => match getP H (at_ b) with
      | some (.cells cs) => bd (partOf cs o agg) k
      | _ => none
    | _ => none
  | _ => none
def resultsK (T : Tr Value) (H : Heap) : List (Od × Option (Option Nat)) → (List Value → Option CRet) → Option CRet
  | [], k => k []
  | x :: xs, k => resK T H x fun v => resultsK T H xs fun vs => k (v :: vs)

/-- how a deferred call ends: the mode that it leaves behind -/
def endD (o : Ex × St) (u : FrameMode) : Option (FrameMode × Heap × Nat) := match o with
  | (.normal, ⟨_, [], H, nx⟩) | (.ret, ⟨_, [], H, nx⟩) => some (settle u, H, nx)
  | (.panic ch, ⟨_, [], H, nx⟩) => some (raised u ch, H, nx)
  | _ => none

def startT (l : List Value) : Tr Value → (Tr Value → R0) → R0 := List.rec (motive := fun _ => Nat → Tr Value → (Tr Value → R0) → R0) (fun _ T k => k T) (fun v _ ih i T k => setP (at_ i) T (some v) fun T => ih (Nat.succ i) T k) l 0

def deferredK (A : AProg) (r : Run) (f : Value) (args : List Value) (u : FrameMode) (H : Heap) (nx : Nat) : Option (FrameMode × Heap × Nat) := match f with
  | .func (.func g) first captured => match A.funcs g with
    | some ⟨[], c⟩ => match splitRcv c with
      | some (p, c') => bd (startT (first.toList ++ args ++ captured.toList) .e fun T => setP p T (some (recovered u).1) fun T => codeT c' A r T [] H nx) fun o => endD o (recovered u).2
      | none => bd (startT (first.toList ++ args ++ captured.toList) .e fun T => codeT c A r T [] H nx) fun o => endD o u
    | _ => none
  | _ => none

def unwindD (A : AProg) (r : Run) : List Dfd → FrameMode → Heap → Nat → Option (FrameMode × Heap × Nat)
  | [], u, H, nx => some (u, H, nx)
  | (f, args) :: ds, u, H, nx => match deferredK A r f args u H nx with
    | some (u, H, nx) => unwindD A r ds u H nx
    | none => none

def leaveM (af : AFunc) (T : Tr Value) (x : FrameMode × Heap × Nat) : Option CRet := match x with
  | (.returning, H, nx) => resultsK T H af.results fun vs => some (.ok (oneOf vs) H nx)
  | (.panicking ch, H, nx) => some (.pan ch H nx)
  | _ => none
def leaveF (A : AProg) (r : Run) (af : AFunc) (u : FrameMode) (st : St) : Option CRet := St.rec (fun T D H nx => bd (unwindD A r D u H nx) (leaveM af T)) st
def endE (A : AProg) (r : Run) (af : AFunc) (e : Ex) : St → Option CRet := Ex.rec (leaveF A r af .returning) (fun _ _ => none) (leaveF A r af .returning) (fun ch => leaveF A r af (.panicking ch)) e
def endF (A : AProg) (r : Run) (af : AFunc) (o : Ex × St) : Option CRet := Prod.rec (fun e st => endE A r af e st) o
def callF1 (A : AProg) (r : Run) (vs : List Value) (H : Heap) (nx : Nat) (af : AFunc) : Option CRet := bd (startT vs .e fun T => codeT af.body A r T [] H nx) (endF A r af)
def callF (A : AProg) (r : Run) (g : FuncId) (vs : List Value) (H : Heap) (nx : Nat) : Option CRet := Option.rec (bd (A.funcs g) (callF1 A r vs H nx)) some (A.hook g vs H nx)
def run0 : Run := ⟨fun _ _ _ _ _ => none, fun _ _ _ _ => none⟩
def run (A : AProg) (n : Nat) : Run := Nat.rec run0 (fun _ r => ⟨fun c => codeT c A r, callF A r⟩) n
end
end Go.Eng
/- The engine: from the model's code to its own. -/
namespace Go.Eng

def pathC : Nat → Nat → List Bool
  | 0, _ => []
  | f + 1, k => bif Nat.beq k 0 then [] else bif Nat.beq (k % 2) 1 then true :: pathC f (k / 2) else false :: pathC f (k / 2 - 1)
def slotPath (t : Nat) : List Bool := pathC t t

def scalarC : Value → Bool
  | .bool _ | .int _ _ | .float _ _ | .complex _ _ _ | .string _ | .nilFunc | .nilIface | .pointer none | .slice none 0 0 | .map none => true
  | _ => false
def constOk : Value → Bool
  | .agg cs => cs.toList.all scalarC
  | v => scalarC v
def cellsC : Value → List Value
  | .agg cs => cs.toList
  | v => [v]

def isIn (l : List Nat) (n : Nat) : Bool := l.any (Nat.beq n)

/-- what is known of the slots: where each one's value stands -/
abbrev Env := List (Nat × Od)

def find (env : Env) (t : Nat) : Option Od := match env with
  | [] => none
  | (u, x) :: r => bif Nat.beq u t then some x else find r t

def cv (kept : List Nat) (n : Nat) (env : Env) : Operand → Option Od
  | .tmp t => bif Nat.blt t n then match find env t with
    | some x => some x
    | none => bif isIn kept t then some (.var (slotPath t)) else none
    else none
  | .const v => bif constOk v then some (.cst v) else none
  | .func f => some (.fn f)
  | .global _ => none

/-- the operation with other operands -/
def AOp.map {α β : Type} (f : α → β) : AOp α → AOp β
  | .mov v0 => .mov (f v0)
  | .pick v0 v1 v2 => .pick (f v0) (f v1) (f v2)
  | .nilck v0 => .nilck (f v0)
  | .ext v0 v1 => .ext (f v0) v1
  | .fld v0 v1 v2 => .fld (f v0) v1 v2
  | .fad v0 v1 => .fad (f v0) v1
  | .ixs v0 v1 v2 => .ixs (f v0) (f v1) v2
  | .ixa v0 v1 v2 v3 => .ixa (f v0) (f v1) v2 v3
  | .ix v0 v1 v2 v3 v4 => .ix (f v0) (f v1) v2 v3 v4
  | .bin v0 v1 v2 v3 => .bin v0 v1 (f v2) (f v3)
  | .un v0 v1 => .un v0 (f v1)
  | .cvt v0 v1 v2 => .cvt v0 v1 (f v2)
  | .mnx v0 v1 => .mnx v0 (v1.map f)
  | .six v0 v1 v2 => .six v0 (f v1) (f v2)
  | .ssl v0 v1 v2 v3 => .ssl v0 (f v1) (v2.map f) (v3.map f)
  | .isnil v0 v1 v2 v3 => .isnil v0 v1 (f v2) (f v3)
  | .bld v0 v1 => .bld v0 (v1.map fun x => (x.1, x.2.1, f x.2.2))
  | .clo v0 v1 v2 => .clo v0 (v1.map f) (v2.map f)
  | .ifc v0 v1 => .ifc v0 (f v1)
  | .tas v0 v1 v2 v3 => .tas (f v0) v1 v2 v3
  | .lod v0 v1 => .lod (f v0) v1
  | .len v0 => .len (f v0)
  | .mln v0 => .mln (f v0)
  | .sln v0 => .sln (f v0)
  | .cap v0 => .cap (f v0)
  | .slc v0 v1 v2 v3 v4 => .slc (f v0) (v1.map f) (v2.map f) (v3.map f) v4
  | .sla v0 v1 v2 v3 v4 => .sla (f v0) (v1.map f) (v2.map f) v3 v4
  | .lku v0 v1 v2 v3 v4 => .lku (f v0) (f v1) v2 v3 v4
  | .box v0 => .box (f v0)
  | .alc v0 => .alc v0
  | .mks v0 v1 v2 v3 v4 => .mks v0 v1 v2 (f v3) (f v4)
  | .bsl v0 v1 v2 v3 => .bsl v0 v1 v2 (v3.map fun x => (x.1, x.2.1, f x.2.2))
  | .mkm v0 => .mkm (v0.map f)
  | .sto v0 v1 v2 => .sto (f v0) (f v1) v2
  | .app v0 v1 v2 v3 v4 v5 => .app v0 v1 v2 (f v3) (f v4) v5
  | .cpy v0 v1 v2 => .cpy v0 (f v1) (f v2)
  | .clr v0 v1 => .clr (f v0) v1
  | .mup v0 v1 v2 v3 => .mup (f v0) (f v1) (f v2) v3
  | .men v0 v1 v2 v3 => .men (f v0) (f v1) v2 v3
  | .est v0 v1 v2 => .est (f v0) (f v1) (f v2)
  | .ins v0 v1 v2 v3 v4 => .ins v0 v1 (f v2) (f v3) (f v4)
  | .call v0 v1 => .call (f v0) (v1.map f)
  | .inv v0 v1 v2 => .inv (f v0) v1 (v2.map f)
  | .dfr v0 v1 => .dfr (f v0) (v1.map f)
  | .pan v0 => .pan (f v0)
  | .rcv  => .rcv 

def travL {α β : Type} (c : α → Option β) : List α → Option (List β)
  | [] => some []
  | x :: xs => match c x, travL c xs with
    | some a, some as => some (a :: as)
    | _, _ => none

def travO {α β : Type} (c : α → Option β) : Option α → Option (Option β)
  | none => some none
  | some x => (c x).map some

def travP {α β : Type} (c : α → Option β) : List (Nat × Nat × α) → Option (List (Nat × Nat × β))
  | [] => some []
  | (i, j, x) :: xs => match c x, travP c xs with
    | some a, some as => some ((i, j, a) :: as)
    | _, _ => none

def AOp.trav {α β : Type} (c : α → Option β) : AOp α → Option (AOp β)
  | .mov v0 => match c v0 with
    | some wv0 => some (.mov wv0)
    | _ => none
  | .pick v0 v1 v2 => match c v0, c v1, c v2 with
    | some wv0, some wv1, some wv2 => some (.pick wv0 wv1 wv2)
    | _, _, _ => none
  | .nilck v0 => match c v0 with
    | some wv0 => some (.nilck wv0)
    | _ => none
  | .ext v0 v1 => match c v0 with
    | some wv0 => some (.ext wv0 v1)
    | _ => none
  | .fld v0 v1 v2 => match c v0 with
    | some wv0 => some (.fld wv0 v1 v2)
    | _ => none
  | .fad v0 v1 => match c v0 with
    | some wv0 => some (.fad wv0 v1)
    | _ => none
  | .ixs v0 v1 v2 => match c v0, c v1 with
    | some wv0, some wv1 => some (.ixs wv0 wv1 v2)
    | _, _ => none
  | .ixa v0 v1 v2 v3 => match c v0, c v1 with
    | some wv0, some wv1 => some (.ixa wv0 wv1 v2 v3)
    | _, _ => none
  | .ix v0 v1 v2 v3 v4 => match c v0, c v1 with
    | some wv0, some wv1 => some (.ix wv0 wv1 v2 v3 v4)
    | _, _ => none
  | .bin v0 v1 v2 v3 => match c v2, c v3 with
    | some wv2, some wv3 => some (.bin v0 v1 wv2 wv3)
    | _, _ => none
  | .un v0 v1 => match c v1 with
    | some wv1 => some (.un v0 wv1)
    | _ => none
  | .cvt v0 v1 v2 => match c v2 with
    | some wv2 => some (.cvt v0 v1 wv2)
    | _ => none
  | .mnx v0 v1 => match travL c v1 with
    | some wv1 => some (.mnx v0 wv1)
    | _ => none
  | .six v0 v1 v2 => match c v1, c v2 with
    | some wv1, some wv2 => some (.six v0 wv1 wv2)
    | _, _ => none
  | .ssl v0 v1 v2 v3 => match c v1, travO c v2, travO c v3 with
    | some wv1, some wv2, some wv3 => some (.ssl v0 wv1 wv2 wv3)
    | _, _, _ => none
  | .isnil v0 v1 v2 v3 => match c v2, c v3 with
    | some wv2, some wv3 => some (.isnil v0 v1 wv2 wv3)
    | _, _ => none
  | .bld v0 v1 => match travP c v1 with
    | some wv1 => some (.bld v0 wv1)
    | _ => none
  | .clo v0 v1 v2 => match travL c v1, travL c v2 with
    | some wv1, some wv2 => some (.clo v0 wv1 wv2)
    | _, _ => none
  | .ifc v0 v1 => match c v1 with
    | some wv1 => some (.ifc v0 wv1)
    | _ => none
  | .tas v0 v1 v2 v3 => match c v0 with
    | some wv0 => some (.tas wv0 v1 v2 v3)
    | _ => none
  | .lod v0 v1 => match c v0 with
    | some wv0 => some (.lod wv0 v1)
    | _ => none
  | .len v0 => match c v0 with
    | some wv0 => some (.len wv0)
    | _ => none
  | .mln v0 => match c v0 with
    | some wv0 => some (.mln wv0)
    | _ => none
  | .sln v0 => match c v0 with
    | some wv0 => some (.sln wv0)
    | _ => none
  | .cap v0 => match c v0 with
    | some wv0 => some (.cap wv0)
    | _ => none
  | .slc v0 v1 v2 v3 v4 => match c v0, travO c v1, travO c v2, travO c v3 with
    | some wv0, some wv1, some wv2, some wv3 => some (.slc wv0 wv1 wv2 wv3 v4)
    | _, _, _, _ => none
  | .sla v0 v1 v2 v3 v4 => match c v0, travO c v1, travO c v2 with
    | some wv0, some wv1, some wv2 => some (.sla wv0 wv1 wv2 v3 v4)
    | _, _, _ => none
  | .lku v0 v1 v2 v3 v4 => match c v0, c v1 with
    | some wv0, some wv1 => some (.lku wv0 wv1 v2 v3 v4)
    | _, _ => none
  | .box v0 => match c v0 with
    | some wv0 => some (.box wv0)
    | _ => none
  | .alc v0 => some (.alc v0)
  | .mks v0 v1 v2 v3 v4 => match c v3, c v4 with
    | some wv3, some wv4 => some (.mks v0 v1 v2 wv3 wv4)
    | _, _ => none
  | .bsl v0 v1 v2 v3 => match travP c v3 with
    | some wv3 => some (.bsl v0 v1 v2 wv3)
    | _ => none
  | .mkm v0 => match travO c v0 with
    | some wv0 => some (.mkm wv0)
    | _ => none
  | .sto v0 v1 v2 => match c v0, c v1 with
    | some wv0, some wv1 => some (.sto wv0 wv1 v2)
    | _, _ => none
  | .app v0 v1 v2 v3 v4 v5 => match c v3, c v4 with
    | some wv3, some wv4 => some (.app v0 v1 v2 wv3 wv4 v5)
    | _, _ => none
  | .clr v0 v1 => match c v0 with
    | some wv0 => some (.clr wv0 v1)
    | _ => none
  | .cpy v0 v1 v2 => match c v1, c v2 with
    | some wv1, some wv2 => some (.cpy v0 wv1 wv2)
    | _, _ => none
  | .mup v0 v1 v2 v3 => match c v0, c v1, c v2 with
    | some wv0, some wv1, some wv2 => some (.mup wv0 wv1 wv2 v3)
    | _, _, _ => none
  | .men v0 v1 v2 v3 => match c v0, c v1 with
    | some wv0, some wv1 => some (.men wv0 wv1 v2 v3)
    | _, _ => none
  | .est v0 v1 v2 => match c v0, c v1, c v2 with
    | some wv0, some wv1, some wv2 => some (.est wv0 wv1 wv2)
    | _, _, _ => none
  | .ins v0 v1 v2 v3 v4 => match c v2, c v3, c v4 with
    | some wv2, some wv3, some wv4 => some (.ins v0 v1 wv2 wv3 wv4)
    | _, _, _ => none
  | .call v0 v1 => match c v0, travL c v1 with
    | some wv0, some wv1 => some (.call wv0 wv1)
    | _, _ => none
  | .inv v0 v1 v2 => match c v0, travL c v2 with
    | some wv0, some wv2 => some (.inv wv0 v1 wv2)
    | _, _ => none
  | .dfr v0 v1 => match c v0, travL c v1 with
    | some wv0, some wv1 => some (.dfr wv0 wv1)
    | _, _ => none
  | .pan v0 => match c v0 with
    | some wv0 => some (.pan wv0)
    | _ => none
  | .rcv  => some (.rcv )

def sizeAt (P : Program) (t : TypeId) : Option Nat := (P.info? t).map (·.size)
def bytesAt (P : Program) (t : TypeId) : Option Nat := (P.info? t).map (·.bytes)
def aggC (P : Program) (t : TypeId) : Option (Option Nat) := match P.info? t, P.underlying t with
  | some i, some (.struct _) | some i, some (.array _ _) => some (some i.size)
  | some _, some _ => some none
  | _, _ => none
def zeroVal (P : Program) (t : TypeId) : Option Value := match P.info? t with
  | some i => match i.zero with
    | some z => bif constOk z then some z else none
    | none => none
  | none => none
def zeroCells (P : Program) (t : TypeId) : Option (List Value) := (zeroVal P t).map cellsC

def scalarType (P : Program) (t : TypeId) : Bool := match P.underlying t with
  | some .bool | some (.int _) | some (.float _) | some .string => true
  | _ => false

def placesS (P : Program) (fs : List Field) : List (Nat × Operand) → Option (List (Nat × Nat × Operand))
  | [] => some []
  | (i, x) :: r => match fs[i]?, placesS P fs r with
    | some f, some rs => match sizeAt P f.type with
      | some s => some ((f.offset, s, x) :: rs)
      | none => none
    | _, _ => none

def placesA (z : Nat) : List (Nat × Operand) → List (Nat × Nat × Operand)
  | [] => []
  | (i, x) :: r => (i * z, z, x) :: placesA z r

def isConstOp : Operand → Bool
  | .const _ => true
  | _ => false

def isNeq : BinOp → Bool
  | .neq => true
  | _ => false

def compileBin (P : Program) (op : BinOp) (t : TypeId) (x y : Operand) : Option (AOp Operand) :=
  match op with
  | .eql | .neq => match P.underlying t with
    | some (.pointer _) => some (.isnil (isNeq op) 0 x y)
    | some (.slice _) => some (.isnil (isNeq op) 1 x y)
    | some (.map _ _) => some (.isnil (isNeq op) 2 x y)
    | some (.func _ _ _) => some (.isnil (isNeq op) 3 x y)
    | some (.interface _) => bif isConstOp x || isConstOp y then some (.isnil (isNeq op) 4 x y) else none
    | some _ => some (.bin op t x y)
    | none => none
  | _ => some (.bin op t x y)

def compileBuiltin (P : Program) (b : Builtin) (ts : Array TypeId) (args : Array Operand) : Option (AOp Operand) :=
  match b, ts.toList, args.toList with
  | .append, [t, t2], [s, x] => match P.underlying t with
    | some (.slice e) => match sizeAt P e, bytesAt P e, zeroCells P e, P.underlying t2 with
      | some z, some n, some zero, some (.int _) => bif Nat.beq zero.length z then some (.app z n zero s x true) else none
      | some z, some n, some zero, some (.slice _) => bif Nat.beq zero.length z then some (.app z n zero s x false) else none
      | _, _, _, _ => none
    | _ => none
  | .len, t :: _, [x] => match P.underlying t with
    | some (.slice _) => some (.len x)
    | some .string => some (.sln x)
    | some (.map _ _) => some (.mln x)
    | _ => none
  | .cap, t :: _, [x] => match P.underlying t with
    | some (.slice _) => some (.cap x)
    | _ => none
  | .copy, t :: _, [d, s] => match P.underlying t with
    | some (.slice e) => match sizeAt P e with
      | some z => some (.cpy z d s)
      | none => none
    | _ => none
  | .min, _, xs => some (.mnx true xs)
  | .max, _, xs => some (.mnx false xs)
  | .recover, _, [] => some .rcv
  | .clear, t :: _, [x] => match P.underlying t with
    | some (.slice e) => match zeroCells P e with
      | some zero => some (.clr x zero)
      | none => none
    | _ => none
  | _, _, _ => none

def compileOp (P : Program) (ins : List Nat) (o : Oper) : Option (AOp Operand) :=
  match o.op with
  | .move x | .assign x => some (.mov x)
  | .pick a x y => some (.pick a x y)
  | .alloc t => (zeroCells P t).map .alc
  | .box _ x => some (.box x)
  | .build t parts => match P.underlying t, zeroCells P t with
    | some (.struct fs), some zero => bif fs.toList.all (fun f => (sizeAt P f.type).isSome) then (placesS P fs.toList parts.toList).map (.bld zero) else none
    | some (.array _ e), some zero => match sizeAt P e with
      | some z => some (.bld zero (placesA z parts.toList))
      | none => none
    | _, _ => none
  | .buildSlice t len parts => match P.underlying t with
    | some (.slice e) => match sizeAt P e, zeroCells P e with
      | some z, some zero => bif Nat.ble (len * z) 16777216 && Nat.beq zero.length z then some (.bsl z len zero (placesA z parts.toList)) else none
      | _, _ => none
    | _ => none
  | .load t a => (aggC P t).map (.lod a)
  | .store t a x => (sizeAt P t).map (.sto a x)
  | .nilCheck x => some (.nilck x)
  | .binOp op t x y _ => compileBin P op t x y
  | .unOp op _ x => some (.un op x)
  | .convert s d x => bif scalarType P s && scalarType P d then some (.cvt s d x) else none
  | .makeInterface t x => match P.underlying t with
    | some (.interface _) => none
    | some _ => some (.ifc t x)
    | none => none
  | .makeFunc (.func f) a b => some (.clo f a.toList b.toList)
  | .makeMap t r => match P.underlying t with
    | some (.map _ _) => some (.mkm r)
    | _ => none
  | .makeSlice t l k => match P.underlying t with
    | some (.slice e) => match sizeAt P e, bytesAt P e, zeroCells P e with
      | some z, some n, some zero => bif Nat.beq zero.length z then some (.mks z n zero l k) else none
      | _, _, _ => none
    | _ => none
  | .slice t x lo hi mx => match P.underlying t with
    | some (.slice e) => bif mx.isNone || hi.isSome then (sizeAt P e).map (.slc x lo hi mx) else none
    | some .string => match mx with
      | none => some (.ssl t x lo hi)
      | some _ => none
    | _ => none
  | .fieldAddr s x f => match P.underlying s with
    | some (.struct fs) => match fs.toList[f]? with
      | some fd => match sizeAt P fd.type with
        | some (_ + 1) => some (.fad x fd.offset)
        | _ => none
      | none => none
    | _ => none
  | .field s x f => match P.underlying s with
    | some (.struct fs) => match fs.toList[f]? with
      | some fd => (aggC P fd.type).map (.fld x fd.offset)
      | none => none
    | _ => none
  | .indexAddr t x i => match P.underlying t with
    | some (.array n e) => (sizeAt P e).map (.ixa x i n)
    | some (.slice e) => (sizeAt P e).map (.ixs x i)
    | _ => none
  | .index t x i => match P.underlying t with
    | some (.array n e) => match aggC P e, sizeAt P e with
      | some a, some z => some (.ix x i n z a)
      | _, _ => none
    | some .string => some (.six t x i)
    | _ => none
  | .lookup t x k ok => match P.underlying t with
    | some (.map kt e) => (zeroVal P e).map fun z => .lku x k kt z ok
    | _ => none
  | .mapUpdate t m k v | .insert t m k v => match P.underlying t with
    | some (.map kt _) => some (.mup m k v kt)
    | _ => none
  | .mapEntry t m k => match P.underlying t with
    | some (.map kt e) => (zeroVal P e).map (.men m k kt)
    | _ => none
  | .entryStore _ m s v => some (.est m s v)
  | .typeAssert x _ t ok => match P.underlying t with
    | some (.interface _) => none
    | some _ => (zeroVal P t).map fun z => .tas x t z ok
    | none => none
  | .extract t i => some (.ext t i)
  | .call d => match d.callee with
    | .builtin b => compileBuiltin P b d.argTypes d.args
    | .value (.func g) => bif isIn ins g then match d.args.toList, d.argTypes.toList with
        | [s, i, v], t :: _ => match P.underlying t with
          | some (.slice e) => match sizeAt P e, bytesAt P e with
            | some 1, some 8 => some (.ins 1 8 s i v)
            | _, _ => none
          | _ => none
        | _, _ => none
      else some (.call (.func g) d.args.toList)
    | .value f => some (.call f d.args.toList)
    | .invoke x name => some (.inv x name d.args.toList)
  | .defer d => match d.callee with
    | .value f => some (.dfr f d.args.toList)
    | _ => none
  | .panic x => some (.pan x)
  | _ => none

inductive Kd where
  | pure | load | make | heavy

def kdOf {α : Type} : AOp α → Kd
  | .lod _ _ | .mln _ | .lku _ _ _ _ _ => .load
  | .box _ | .alc _ | .mks _ _ _ _ _ | .bsl _ _ _ _ | .mkm _ => .make
  | .sto _ _ _ | .app _ _ _ _ _ _ | .cpy _ _ _ | .clr _ _ | .mup _ _ _ _ | .men _ _ _ _ | .est _ _ _ | .ins _ _ _ _ _ | .call _ _ | .inv _ _ _ | .dfr _ _ | .pan _ | .rcv => .heavy
  | _ => .pure

/-- the same of the model's operation, for the plan -/
def kdC : Op → Kd
  | .load _ _ | .lookup _ _ _ _ => .load
  | .box _ _ | .alloc _ | .makeSlice _ _ _ | .buildSlice _ _ _ | .makeMap _ _ => .make
  | .store _ _ _ | .mapUpdate _ _ _ _ | .insert _ _ _ _ | .mapEntry _ _ _ | .entryStore _ _ _ _ | .defer _ | .panic _ => .heavy
  | .call d => match d.callee with
    | .builtin .append | .builtin .copy | .builtin .clear | .builtin .recover => .heavy
    | .builtin .len => .load
    | .builtin _ => .pure
    | _ => .heavy
  | _ => .pure

/-- what each operation is behind, as a number's bits -/
def befores (ops : List Oper) : List Nat :=
  (ops.foldl (fun acc o => acc ++ [o.after.toList.foldl (fun s e => bif Region.binds .any e then s ||| 2 ^ e.on ||| acc.getD e.on 0 else s) 0]) [])

def maskOf (p : Kd → Bool) (ks : List Kd) : Nat := (ks.zipIdx.filter fun x => p x.1).foldl (fun s x => s ||| 2 ^ x.2) 0
def isHeavy : Kd → Bool | .heavy => true | _ => false
def isMake : Kd → Bool | .make => true | _ => false
def isLoad : Kd → Bool | .load => true | _ => false
def sub (a b : Nat) : Bool := Nat.beq (a &&& b) a

/-- the order in which the engine goes through a region whose order is drawn (a guess: 'compileOps' looks at it) -/
def planFor (bef : List Nat) (ks : List Kd) : List Nat :=
  let nh := maskOf (fun k => isHeavy k || isMake k) ks
  let n := bef.length
  let hs := (List.range n).filter fun i => match ks[i]? with | some k => isHeavy k | none => false
  let (done, l) := hs.foldl (fun (done, l) h =>
    let bh := bef.getD h 0
    let now := (List.range n).filter fun i => !(Nat.testBit done i) && i != h && (Nat.testBit bh i || (match ks[i]? with
      | some .pure | some .load => sub (bef.getD i 0 &&& nh) bh
      | _ => false))
    let l := l ++ now ++ [h]
    (l.foldl (fun s i => s ||| 2 ^ i) done, l)) (0, [])
  l ++ (List.range n).filter fun i => !(Nat.testBit done i)

def tmpsOf (o : Oper) : List Nat := o.op.operands.toList.filterMap fun | .tmp t => some t | _ => none

/-- of each slot that the operation reads: whoever writes it in this region stands ahead of it, or behind -/
def hygienic (ops : List Oper) (bef : List Nat) (j : Nat) (o : Oper) : Bool :=
  (tmpsOf o).all fun t => ops.zipIdx.all fun (q, i) => match q.dst with
    | some d => !(Nat.beq d t) || Nat.testBit (bef.getD j 0) i || Nat.testBit (bef.getD i 0) j
    | none => true

def oneDst (ops : List Oper) : Bool := ops.zipIdx.all fun (o, i) => ops.zipIdx.all fun (q, j) => Nat.beq i j || (match o.dst, q.dst with | some a, some b => !(Nat.beq a b) | _, _ => true)

/-- one place further back -/
def shift : Od → Od
  | .loc d => .loc (d + 1)
  | x => x
def shiftAll (env : Env) : Env := env.map fun (t, x) => (t, shift x)
def without (env : Env) (t : Nat) : Env := env.filter fun p => !(Nat.beq p.1 t)
def samePath : List Bool → List Bool → Bool
  | [], [] => true
  | true :: p, true :: q => samePath p q
  | false :: p, false :: q => samePath p q
  | _, _ => false
def isVar (p : List Bool) : Od → Bool
  | .var q => samePath p q
  | _ => false
def locOf : Od → Option Nat
  | .loc d => some d
  | _ => none

/-- what has been laid. 'out': the newest first. -/
structure Laid where
  env : Env
  loads : List Nat
  heavy : Nat
  make : Nat
  done : Nat
  out : List (AO × List Again)

def laid0 : Laid := ⟨[], [], 0, 0, 0, []⟩

def readLater (t : Nat) (rest : List Oper) : Bool := rest.any fun o => (tmpsOf o).any (Nat.beq t)

/-- slots whose value is read off a slot that is to be written: into the list with them -/
def spillVar (p : List Bool) (rest : List Oper) : Env → Laid → Laid
  | [], s => s
  | (t, x) :: r, s => bif isVar p x then
      (bif readLater t rest then spillVar p rest r { s with env := (t, .loc 0) :: without (shiftAll s.env) t, out := (⟨none, none, .mov x⟩, []) :: s.out } else spillVar p rest r { s with env := without s.env t })
    else spillVar p rest r s

def isMove : Op → Bool
  | .move _ | .assign _ => true
  | _ => false

def guardC (ops : List Oper) (env : Env) : Option (Nat × Bool) → Option (Option (Nat × Bool))
  | none => some none
  | some (g, w) => match ops[g]? with
    | some o => match o.dst with
      | some t => match find env t with
        | some x => (locOf x).map fun d => some (d, w)
        | none => none
      | none => none
    | none => none

/-- no slot that the operation 'j' reads has been written since -/
def readsStill (ops : List Oper) (bef : List Nat) (done j : Nat) (o : Oper) : Bool :=
  (tmpsOf o).all fun t => ops.zipIdx.all fun (q, i) => match q.dst with
    | some d => !(Nat.beq d t) || Nat.testBit (bef.getD j 0) i || !(Nat.testBit done i)
    | none => true

def againsC (P : Program) (kept : List Nat) (n : Nat) (ops : List Oper) (bef : List Nat) (done : Nat) (env : Env) (bh : Nat) : List Nat → Option (List Again)
  | [] => some []
  | j :: r => match againsC P kept n ops bef done env bh r with
    | none => none
    | some as => bif Nat.testBit bh j then some as else match ops[j]? with
      | some o => bif !(readsStill ops bef done j o) then none else match (compileOp P [] o).bind (AOp.trav (cv kept n env)), guardC ops env o.guard, (o.dst.bind (find env)).bind locOf with
        | some a, some g, some d => some (⟨g, a, d⟩ :: as)
        | _, _, _ => none
      | none => none

def keepOf (kept : List Nat) : Option Nat → Option (List Bool)
  | some d => bif isIn kept d then some (slotPath d) else none
  | none => none

def envAfter (env : Env) : Option Nat → Env
  | some t => (t, .loc 0) :: without (shiftAll env) t
  | none => shiftAll env

/-- the operation's value goes into the list -/
def emit (P : Program) (kept : List Nat) (n : Nat) (ops : List Oper) (bef : List Nat) (b : Nat) (o : Oper) (g : Option (Nat × Bool)) (a : AOp Od) (s : Laid) : Option Laid :=
  match (bif isHeavy (kdOf a) then againsC P kept n ops bef s.done (envAfter s.env o.dst) b s.loads else some []) with
  | none => none
  | some as => match keepOf kept o.dst with
    | none => some { s with env := envAfter s.env o.dst, out := (⟨none, g, a⟩, as) :: s.out }
    | some p => bif (shiftAll s.env).any (fun e => isVar p e.2) then none else some { s with env := envAfter s.env o.dst, out := (⟨some p, g, a⟩, as) :: s.out }

def spilled (l : List Oper) (s : Laid) : Option (List Bool) → Laid
  | some p => spillVar p l s.env s
  | none => s

def layOp (P : Program) (ins kept : List Nat) (n : Nat) (ops rest : List Oper) (bef : List Nat) (b : Nat) (solo : Bool) (o : Oper) (s0 : Laid) : Option Laid :=
  let s := spilled (o :: rest) s0 (keepOf kept o.dst)
  match (compileOp P ins o).bind (AOp.trav (cv kept n s.env)), guardC ops s.env o.guard with
  | some a, some g =>
    match a, o.dst, g with
    | .mov x, some t, none =>
      bif (keepOf kept (some t)).isNone && isMove o.op && !solo then some { s with env := (t, x) :: without s.env t }
      else emit P kept n ops bef b o g a s
    | _, _, _ => emit P kept n ops bef b o g a s
  | _, _ => none

def guardSlots (ops : List Oper) : List Nat := ops.filterMap fun o => o.guard.map (·.1)

def layAll (P : Program) (ins kept : List Nat) (n : Nat) (draw : Bool) (ops : List Oper) (bef solo : List Nat) : List Nat → Laid → Option Laid
  | [], s => some s
  | i :: is, s => match ops[i]? with
    | none => none
    | some o =>
      let b := bif draw then bef.getD i 0 else 2 ^ ops.length - 1
      match layOp P ins kept n ops (is.filterMap fun i => ops[i]?) bef b (isIn solo i) o s with
      | none => none
      | some s1 => match compileOp P ins o with
        | none => none
        | some k =>
          bif (match o.dst with | some d => Nat.blt d n | none => true) then
            bif !draw || (sub b s.done && !(Nat.testBit s.done i) && hygienic ops bef i o && (match o.guard with | some (g, _) => Nat.testBit b g | none => true)
              && (match kdOf k with | .heavy => sub s.heavy b && sub s.make b | .load => sub s.heavy b | _ => true)) then
              layAll P ins kept n draw ops bef solo is { s1 with loads := (bif isLoad (kdOf k) then i :: s1.loads else s1.loads), heavy := (bif isHeavy (kdOf k) then s1.heavy ||| 2 ^ i else s1.heavy), make := (bif isMake (kdOf k) then s1.make ||| 2 ^ i else s1.make), done := s1.done ||| 2 ^ i }
            else none
          else none

def compileOps (P : Program) (ins kept : List Nat) (n : Nat) (draw : Bool) (ops : List Oper) : Option (List (AO × List Again)) :=
  (bif draw then
    let bef := befores ops
    let plan := planFor bef (ops.map fun o => kdC o.op)
    bif oneDst ops then (layAll P ins kept n true ops bef (guardSlots ops) plan laid0).bind fun s => bif (List.range ops.length).all fun i => Nat.testBit s.done i then some s else none else none
  else layAll P ins kept n false ops [] (guardSlots ops) (List.range ops.length) laid0).map fun s => s.out.reverse

def isRcv {α : Type} : AOp α → Bool
  | .rcv => true
  | _ => false

/-- a region that recovers, and does nothing else -/
def rcvOf (kept : List Nat) (n : Nat) (ops : List Oper) : Option (List Bool) := match ops with
  | [o] => match o.op, o.guard, o.dst with
    | .call d, none, some t => match d.callee with
      | .builtin .recover => bif d.args.toList.isEmpty && Nat.blt t n && isIn kept t then some (slotPath t) else none
      | _ => none
    | _, _, _ => none
  | _ => none

def compileReg (P : Program) (ins kept : List Nat) (n : Nat) (draw : Bool) (ops : List Oper) : Option ACode := match rcvOf kept n ops, draw with
  | some p, false => some (.reg false [(⟨some p, none, .rcv⟩, [])])
  | _, _ => match compileOps P ins kept n draw ops with
    | some l => bif l.any fun x => isRcv x.1.op then none else some (.reg draw l)
    | none => none

def compileCode (P : Program) (ins kept : List Nat) (n : Nat) : Code → Option ACode
  | .skip => some .skip
  | .label _ => some .skip
  | .region _ ops draw => compileReg P ins kept n draw ops.toList
  | .seq a b => match compileCode P ins kept n a, compileCode P ins kept n b with
    | some a, some b => some (.seq a b)
    | _, _ => none
  | .cond c a b => match cv kept n ([] : Env) c, compileCode P ins kept n a, compileCode P ins kept n b with
    | some c, some a, some b => some (.cond c a b)
    | _, _, _ => none
  | .block id c => (compileCode P ins kept n c).map (.block id)
  | .loop c => (compileCode P ins kept n c).map .loop
  | .exit id => some (.exit id)
  | .ret => some .ret
  | _ => none

def compileResult (P : Program) (kept : List Nat) (n : Nat) : ResultVar → Option (Od × Option (Option Nat))
  | .tmp t => bif Nat.blt t n && isIn kept t then some (.var (slotPath t), none) else none
  | .cell a t => bif Nat.blt a n && isIn kept a then (aggC P t).map fun g => (.var (slotPath a), some g) else none

def compileResults (P : Program) (kept : List Nat) (n : Nat) : List ResultVar → Option (List (Od × Option (Option Nat)))
  | [] => some []
  | r :: rs => match compileResult P kept n r, compileResults P kept n rs with
    | some a, some as => some (a :: as)
    | _, _ => none

/-! which slots are kept beyond a region -/
def insNat (t : Nat) (l : List Nat) : List Nat := bif isIn l t then l else t :: l
def readIn (ops : List Oper) : List Nat := (ops.foldl (fun (seen, l) o => (o.dst.toList ++ seen, (tmpsOf o).foldl (fun l t => bif isIn seen t then l else insNat t l) l)) (([] : List Nat), ([] : List Nat))).2
def keptIn : Code → List Nat → List Nat
  | .region _ ops _, l => (readIn ops.toList).foldl (fun l t => insNat t l) l
  | .seq a b, l => keptIn b (keptIn a l)
  | .cond c a b, l => keptIn b (keptIn a (match c with | .tmp t => insNat t l | _ => l))
  | .block _ c, l | .loop c, l => keptIn c l
  | _, l => l
def keptOf (f : Func) : List Nat := match f.body with
  | some c => keptIn c (f.results.toList.foldl (fun l r => match r with | .tmp t => insNat t l | .cell t _ => insNat t l) [])
  | none => []

def compileFunc (P : Program) (ins kept : List Nat) (f : Func) : Option AFunc := match f.body with
  | some c => match compileCode P ins kept f.ntmps c, compileResults P kept f.ntmps f.results.toList with
    | some b, some r => some ⟨r, b⟩
    | _, _ => none
  | none => none
end Go.Eng
/- The engine: plain lemmas on its maps, lists and operands. -/
namespace Go.Eng
noncomputable section

@[simp] theorem bd_none {α β : Type} (f : α → Option β) : bd none f = none := rfl
@[simp] theorem bd_some {α β : Type} (a : α) (f : α → Option β) : bd (some a) f = f a := rfl
theorem bd_eq {α β : Type} {o : Option α} {f : α → Option β} {r : β} (h : bd o f = some r) : ∃ a, o = some a ∧ f a = some r := by
  cases o with
  | none => cases h
  | some a => exact ⟨a, rfl, h⟩

/-! ### maps -/
section
variable {α : Type}
@[simp] theorem getP_e (p : List Bool) : getP (.e : Tr α) p = none := rfl
@[simp] theorem getP_n_nil (l : Tr α) (v : Option α) (r : Tr α) : getP (.n l v r) [] = v := rfl
@[simp] theorem getP_n_cons (l : Tr α) (v : Option α) (r : Tr α) (b : Bool) (p : List Bool) : getP (.n l v r) (b :: p) = cond b (getP l p) (getP r p) := rfl

def insP : List Bool → Tr α → Option α → Tr α
  | [], .e, x => .n .e x .e
  | [], .n l _ r, x => .n l x r
  | b :: p, .e, x => cond b (.n (insP p .e x) none .e) (.n .e none (insP p .e x))
  | b :: p, .n l v r, x => cond b (.n (insP p l x) v r) (.n l v (insP p r x))

theorem setP_eq (p : List Bool) : ∀ (t : Tr α) (x : Option α) (k : Tr α → R0), setP p t x k = k (insP p t x) := by
  induction p with
  | nil => intro t x k; cases t <;> rfl
  | cons b p ih =>
    intro t x k
    have h : setP (b :: p) t x k = conS b (setP p) t x k := rfl
    rw [h]
    cases t with
    | e => cases b <;> simp [conS, conE, insP, ih]
    | n l v r => cases b <;> simp [conS, conN, insP, ih]

theorem getP_insP (p : List Bool) : ∀ (t : Tr α) (x : Option α), getP (insP p t x) p = x := by
  induction p with
  | nil => intro t x; cases t <;> rfl
  | cons b p ih => intro t x; cases t <;> cases b <;> simp [insP, ih]

theorem getP_insP_ne (p : List Bool) : ∀ (q : List Bool) (t : Tr α) (x : Option α), q ≠ p → getP (insP p t x) q = getP t q := by
  induction p with
  | nil =>
    intro q t x h
    cases q with
    | nil => exact absurd rfl h
    | cons c q => cases t <;> cases c <;> rfl
  | cons b p ih =>
    intro q t x h
    cases q with
    | nil => cases t <;> cases b <;> rfl
    | cons c q =>
      by_cases e : c = b
      · subst e
        have hne : q ≠ p := fun e => h (by rw [e])
        cases t <;> cases c <;> simp [insP, ih q _ _ hne]
      · cases t <;> cases b <;> cases c <;> first | exact absurd rfl e | simp [insP]
end

/-- the number of a path -/
def unPath : List Bool → Nat
  | [] => 0
  | true :: p => 2 * unPath p + 1
  | false :: p => 2 * unPath p + 2

theorem path_succ (f k : Nat) : path (f + 1) k = cond (Nat.beq k 0) [] (cond (Nat.beq (Nat.mod k 2) 1) (true :: path f (Nat.div k 2)) (false :: path f (Nat.sub (Nat.div k 2) 1))) := rfl

theorem unPath_path (f : Nat) : ∀ k, k ≤ f → unPath (path f k) = k := by
  induction f with
  | zero => intro k h; have : k = 0 := by omega
            subst this; rfl
  | succ f ih =>
    intro k h
    rw [path_succ]
    by_cases h0 : k = 0
    · subst h0; rfl
    · have hb : Nat.beq k 0 = false := by
        cases e : Nat.beq k 0 with
        | true => exact absurd (Nat.eq_of_beq_eq_true e) h0
        | false => rfl
      rw [hb]; simp only [cond_false]
      by_cases h1 : k % 2 = 1
      · have : Nat.beq (Nat.mod k 2) 1 = true := by
          show Nat.beq (k % 2) 1 = true
          rw [h1]; rfl
        rw [this]; simp only [cond_true, unPath]
        have := ih (k / 2) (by omega)
        show 2 * unPath (path f (k / 2)) + 1 = k
        rw [this]; omega
      · have hm : Nat.beq (Nat.mod k 2) 1 = false := by
          cases e : Nat.beq (Nat.mod k 2) 1 with
          | true => exact absurd (Nat.eq_of_beq_eq_true e) h1
          | false => rfl
        rw [hm]; simp only [cond_false, unPath]
        have := ih (k / 2 - 1) (by omega)
        show 2 * unPath (path f (k / 2 - 1)) + 2 = k
        rw [this]; omega

theorem at_inj {a b : Nat} (h : at_ a = at_ b) : a = b := by
  have ha := unPath_path a a (Nat.le_refl _)
  have hb := unPath_path b b (Nat.le_refl _)
  unfold at_ at h
  rw [← ha, ← hb, h]

theorem pathC_eq (f : Nat) : ∀ k, pathC f k = path f k := by
  induction f with
  | zero => intro k; rfl
  | succ f ih =>
    intro k
    rw [path_succ]
    show (bif Nat.beq k 0 then [] else bif Nat.beq (k % 2) 1 then true :: pathC f (k / 2) else false :: pathC f (k / 2 - 1)) = _
    rw [ih, ih]; rfl

theorem slotPath_eq (t : Nat) : slotPath t = at_ t := pathC_eq t t

/-! ### operands -/
def valO (T : Tr Value) (L : List Value) : Od → Option Value
  | .loc d => L[d]?
  | .var p => getP T p
  | .cst v => some v
  | .fn f => some (.func (.func f) #[] #[])

theorem nthK_eq (L : List Value) : ∀ (d : Nat) (k : KV), nthK L d k = bd L[d]? k := by
  induction L with
  | nil => intro d k; rfl
  | cons v L ih =>
    intro d k
    cases d with
    | zero => rfl
    | succ d => exact ih d k

theorem nthO_eq (L : List Value) : ∀ d, nthO L d = L[d]? := by
  induction L with
  | nil => intro d; rfl
  | cons v L ih =>
    intro d
    cases d with
    | zero => rfl
    | succ d => exact ih d

theorem evK_eq (T : Tr Value) (L : List Value) (x : Od) (k : KV) : evK T L x k = bd (valO T L x) k := by
  cases x with
  | loc d => exact nthK_eq L d k
  | var p => rfl
  | cst v => rfl
  | fn f => rfl

def valsO (T : Tr Value) (L : List Value) : List Od → Option (List Value)
  | [] => some []
  | x :: xs => match valO T L x, valsO T L xs with
    | some v, some vs => some (v :: vs)
    | _, _ => none

theorem evsK_eq (T : Tr Value) (L : List Value) (xs : List Od) : ∀ k, evsK T L xs k = bd (valsO T L xs) k := by
  induction xs with
  | nil => intro k; rfl
  | cons x xs ih =>
    intro k
    show evK T L x (fun v => evsK T L xs fun vs => k (v :: vs)) = _
    rw [evK_eq]
    cases h : valO T L x with
    | none => simp [valsO, h]
    | some v =>
      simp only [bd_some, ih, valsO, h]
      cases valsO T L xs <;> rfl

def valsP (T : Tr Value) (L : List Value) : List (Nat × Nat × Od) → Option (List (Nat × Nat × Value))
  | [] => some []
  | (i, j, x) :: xs => match valO T L x, valsP T L xs with
    | some v, some vs => some ((i, j, v) :: vs)
    | _, _ => none

theorem partsK_eq (T : Tr Value) (L : List Value) (xs : List (Nat × Nat × Od)) : ∀ k, partsK T L xs k = bd (valsP T L xs) k := by
  induction xs with
  | nil => intro k; rfl
  | cons x xs ih =>
    intro k
    obtain ⟨i, j, x⟩ := x
    show evK T L x (fun v => partsK T L xs fun vs => k ((i, j, v) :: vs)) = _
    rw [evK_eq]
    cases h : valO T L x with
    | none => simp [valsP, h]
    | some v =>
      simp only [bd_some, ih, valsP, h]
      cases valsP T L xs <;> rfl

/-- the operand's value as a constant -/
def cstv (T : Tr Value) (L : List Value) (x : Od) : Od := .cst ((valO T L x).getD undef)

theorem evK_cst (T : Tr Value) (L : List Value) (v : Value) (k : KV) : evK T L (.cst v) k = k v := rfl

theorem evK_cstv {T : Tr Value} {L : List Value} {x : Od} {k : KV} {r : Ex × St} (T' : Tr Value) (L' : List Value) (h : evK T L x k = some r) : evK T' L' (cstv T L x) k = some r := by
  rw [evK_eq] at h
  obtain ⟨v, hv, h⟩ := bd_eq h
  show k ((valO T L x).getD undef) = _
  rw [hv]; exact h

theorem evsK_cstv {T : Tr Value} {L : List Value} (T' : Tr Value) (L' : List Value) {r : Ex × St} (xs : List Od) : ∀ {k : List Value → R0}, evsK T L xs k = some r → evsK T' L' (xs.map (cstv T L)) k = some r := by
  induction xs with
  | nil => intro k h; exact h
  | cons x xs ih =>
    intro k h
    have h' : evK T L x (fun v => evsK T L xs fun vs => k (v :: vs)) = some r := h
    rw [evK_eq] at h'
    obtain ⟨v, hv, h'⟩ := bd_eq h'
    show evK T' L' (cstv T L x) (fun v => evsK T' L' (xs.map (cstv T L)) fun vs => k (v :: vs)) = some r
    have : cstv T L x = .cst v := by unfold cstv; rw [hv]; rfl
    rw [this, evK_cst]
    exact ih h'

theorem partsK_cstv {T : Tr Value} {L : List Value} (T' : Tr Value) (L' : List Value) {r : Ex × St} (xs : List (Nat × Nat × Od)) : ∀ {k : List (Nat × Nat × Value) → R0}, partsK T L xs k = some r → partsK T' L' (xs.map fun x => (x.1, x.2.1, cstv T L x.2.2)) k = some r := by
  induction xs with
  | nil => intro k h; exact h
  | cons x xs ih =>
    intro k h
    obtain ⟨i, j, x⟩ := x
    have h' : evK T L x (fun v => partsK T L xs fun vs => k ((i, j, v) :: vs)) = some r := h
    rw [evK_eq] at h'
    obtain ⟨v, hv, h'⟩ := bd_eq h'
    show evK T' L' (cstv T L x) (fun v => partsK T' L' (xs.map fun x => (x.1, x.2.1, cstv T L x.2.2)) fun vs => k ((i, j, v) :: vs)) = some r
    have : cstv T L x = .cst v := by unfold cstv; rw [hv]; rfl
    rw [this, evK_cst]
    exact ih h'

theorem optK_cstv {T : Tr Value} {L : List Value} (T' : Tr Value) (L' : List Value) {r : Ex × St} (x : Option Od) (d : Nat) {k : Nat → R0} (h : optK T L x d k = some r) : optK T' L' (x.map (cstv T L)) d k = some r := by
  cases x with
  | none => exact h
  | some x => exact evK_cstv (k := fun v => onNat v k) T' L' h

theorem sslK_cstv {T : Tr Value} {L : List Value} (T' : Tr Value) (L' : List Value) {r : Ex × St} (x : Option Od) {k : Option Value → R0} (h : sslK T L x k = some r) : sslK T' L' (x.map (cstv T L)) k = some r := by
  cases x with
  | none => exact h
  | some x => exact evK_cstv (k := fun v => k (some v)) T' L' h
end
end Go.Eng
/- The engine: an operation over its operands' values does what it does over the operands. -/
namespace Go.Eng
variable {T : Tr Value} (T' : Tr Value) {L : List Value} (L' : List Value) {r : Ex × St}

theorem evK_to {x : Od} {k k' : KV} (h : evK T L x k = some r) (hk : ∀ v, k v = some r → k' v = some r) : evK T' L' (cstv T L x) k' = some r := by
  rw [evK_eq] at h
  obtain ⟨v, hv, h⟩ := bd_eq h
  show k' ((valO T L x).getD undef) = _
  rw [hv]; exact hk v h

theorem evsK_to {xs : List Od} : ∀ {k k' : List Value → R0}, evsK T L xs k = some r → (∀ v, k v = some r → k' v = some r) → evsK T' L' (xs.map (cstv T L)) k' = some r := by
  induction xs with
  | nil => intro k k' h hk; exact hk _ h
  | cons x xs ih =>
    intro k k' h hk
    exact evK_to T' L' (k := fun v => evsK T L xs fun vs => k (v :: vs)) h fun _ h => ih h fun vs h => hk _ h

theorem part2_to {x : Nat × Nat × Od} {k k' : Nat × Nat × Value → R0} (h : part2 T L x k = some r) (hk : ∀ v, k v = some r → k' v = some r) : part2 T' L' (x.1, x.2.1, cstv T L x.2.2) k' = some r :=
  evK_to T' L' (k := fun v => k (x.1, x.2.1, v)) h fun _ h => hk _ h

theorem partsK_to {xs : List (Nat × Nat × Od)} : ∀ {k k' : List (Nat × Nat × Value) → R0}, partsK T L xs k = some r → (∀ v, k v = some r → k' v = some r) →
    partsK T' L' (xs.map fun x => (x.1, x.2.1, cstv T L x.2.2)) k' = some r := by
  induction xs with
  | nil => intro k k' h hk; exact hk _ h
  | cons x xs ih =>
    intro k k' h hk
    exact part2_to T' L' (k := fun v => partsK T L xs fun vs => k (v :: vs)) h fun v h => ih h fun vs h => hk _ h

theorem onNat_to {v : Value} {k k' : Nat → R0} (h : onNat v k = some r) (hk : ∀ n, k n = some r → k' n = some r) : onNat v k' = some r := by
  unfold onNat at h ⊢
  split at h
  · exact hk _ h
  · cases h

theorem onI64_to {v : Value} {k k' : Nat → R0} (h : onI64 v k = some r) (hk : ∀ n, k n = some r → k' n = some r) : onI64 v k' = some r := by
  unfold onI64 at h ⊢
  split at h
  · exact hk _ h
  · cases h

theorem optK_to {x : Option Od} {d : Nat} {k k' : Nat → R0} (h : optK T L x d k = some r) (hk : ∀ v, k v = some r → k' v = some r) : optK T' L' (x.map (cstv T L)) d k' = some r := by
  cases x with
  | none => exact hk _ h
  | some x => exact evK_to T' L' (k := fun v => onNat v k) h fun v h => onNat_to h hk

theorem sslK_to {x : Option Od} {k k' : Option Value → R0} (h : sslK T L x k = some r) (hk : ∀ v, k v = some r → k' v = some r) : sslK T' L' (x.map (cstv T L)) k' = some r := by
  cases x with
  | none => exact hk _ h
  | some x => exact evK_to T' L' (k := fun v => k (some v)) h fun v h => hk _ h

theorem onBool_to {v : Value} {a b a' b' : R0} (h : onBool v a b = some r) (ha : a = some r → a' = some r) (hb : b = some r → b' = some r) : onBool v a' b' = some r := by
  unfold onBool at h ⊢
  split at h
  · rename_i t
    cases t
    · exact hb h
    · exact ha h
  · cases h

theorem bd_to {α : Type} {o : Option α} {k k' : α → R0} (h : bd o k = some r) (hk : ∀ a, k a = some r → k' a = some r) : bd o k' = some r := by
  cases o with
  | none => cases h
  | some a => exact hk a h

theorem onSl_to {v : Value} {k k' : Nat → Nat → Nat → Nat → Nat → R0} (h : onSl v k = some r) (hk : ∀ a b c d e, k a b c d e = some r → k' a b c d e = some r) : onSl v k' = some r := by
  unfold onSl at h ⊢
  split at h
  · exact hk _ _ _ _ _ h
  · cases h

theorem onPtr_to {v : Value} {k k' : Nat → Nat → R0} (h : onPtr v k = some r) (hk : ∀ a b, k a b = some r → k' a b = some r) : onPtr v k' = some r := by
  unfold onPtr at h ⊢
  split at h
  · exact hk _ _ h
  · cases h

theorem cond_to {c : Bool} {a b a' b' : R0} (h : cond c a b = some r) (ha : a = some r → a' = some r) (hb : b = some r → b' = some r) : cond c a' b' = some r := by
  cases c
  · exact hb h
  · exact ha h

variable {P : Program} {H : Heap} {nx : Nat}

theorem slcM_to {mx : Option Od} {k : KV} {b o z l h c : Nat} (hh : slcM T L mx k b o z l h c = some r) : slcM T' L' (mx.map (cstv T L)) k b o z l h c = some r := by
  cases mx with
  | none => exact hh
  | some m => exact evK_to T' L' (k := fun m => onNat m _) hh fun v h => h

theorem slcV_to {lo hi mx : Option Od} {z : Nat} {k : KV} {v : Value} (h : slcV T L lo hi mx z k v = some r) : slcV T' L' (lo.map (cstv T L)) (hi.map (cstv T L)) (mx.map (cstv T L)) z k v = some r := by
  unfold slcV at h ⊢
  split at h
  · refine optK_to T' L' h fun l h => optK_to T' L' h fun i h => ?_
    have e : (mx.map (cstv T L)).isNone = mx.isNone := by cases mx <;> rfl
    rw [e]; exact h
  · exact optK_to T' L' h fun l h => optK_to T' L' h fun i h => cond_to h (slcM_to T' L') id
  · cases h

theorem lookT_to {a : AOp Od} {k : KV} (h : lookT a P T L H k = some r) : lookT (a.map (cstv T L)) P T' L' H k = some r := by
  cases a with
  | mov x => exact evK_to T' L' h fun v h => h
  | pick c x y => exact evK_to T' L' h fun v h => onBool_to h (fun h => evK_to T' L' h fun _ h => h) (fun h => evK_to T' L' h fun _ h => h)
  | nilck x => exact evK_to T' L' h fun v h => h
  | ext x i => exact evK_to T' L' h fun v h => h
  | fld x off agg => exact evK_to T' L' h fun v h => h
  | fad x off => exact evK_to T' L' h fun v h => h
  | ixs x i z => exact evK_to T' L' h fun v h => evK_to T' L' h fun i h => h
  | ixa x i n z => exact evK_to T' L' h fun v h => evK_to T' L' h fun i h => h
  | ix x i n z agg => exact evK_to T' L' h fun v h => evK_to T' L' h fun i h => h
  | bin op t x y => exact evK_to T' L' h fun v h => evK_to T' L' h fun i h => h
  | un op x => exact evK_to T' L' h fun v h => h
  | cvt s d x => exact evK_to T' L' h fun v h => h
  | mnx mn xs => exact evsK_to T' L' h fun v h => h
  | six t x i => exact evK_to T' L' h fun v h => evK_to T' L' h fun i h => h
  | ssl t x lo hi => exact evK_to T' L' h fun v h => sslK_to T' L' h fun l h => sslK_to T' L' h fun i h => h
  | isnil neg kd x y => exact evK_to T' L' h fun v h => evK_to T' L' h fun i h => h
  | bld zero parts => exact partsK_to T' L' h fun v h => h
  | clo fn first cap => exact evsK_to T' L' h fun v h => evsK_to T' L' h fun i h => h
  | ifc t x => exact evK_to T' L' h fun v h => h
  | tas x t zero ok => exact evK_to T' L' h fun v h => h
  | lod x agg => exact evK_to T' L' h fun v h => h
  | len x => exact evK_to T' L' h fun v h => h
  | mln x => exact evK_to T' L' h fun v h => h
  | sln x => exact evK_to T' L' h fun v h => h
  | cap x => exact evK_to T' L' h fun v h => h
  | slc x lo hi mx z => exact evK_to T' L' h fun v h => slcV_to T' L' h
  | sla x lo hi n z => exact evK_to T' L' h fun v h => onPtr_to h fun b o h => optK_to T' L' h fun l h => optK_to T' L' h fun i h => h
  | lku x key kt zero ok => exact evK_to T' L' h fun v h => evK_to T' L' h fun i h => h
  | _ => cases h

theorem actT_to {a : AOp Od} {k : KA} (h : actT a P T L H nx k = some r) : actT (a.map (cstv T L)) P T' L' H nx k = some r := by
  cases a with
  | box x => exact evK_to T' L' h fun v h => h
  | alc zero => exact h
  | mks z bytes zero l c => exact evK_to T' L' h fun v h => onNat_to h fun n h => evK_to T' L' h fun i h => h
  | bsl z len zero parts => exact partsK_to T' L' h fun v h => h
  | mkm x => exact optK_to T' L' (d := 0) (k := fun _ => setP (at_ nx) H (some (.map [] 0)) fun H => k (.map (some nx)) H (Nat.succ nx)) h fun v h => h
  | sto x v n => exact evK_to T' L' h fun v h => evK_to T' L' h fun i h => h
  | app z bytes zero s x zeros => exact evK_to T' L' h fun v h => evK_to T' L' h fun i h => h
  | cpy z d s => exact evK_to T' L' h fun v h => evK_to T' L' h fun i h => h
  | clr x zero => exact evK_to T' L' h fun v h => h
  | mup m key v kt => exact evK_to T' L' h fun v h => evK_to T' L' h fun i h => evK_to T' L' h fun u h => h
  | men m key kt zero => exact evK_to T' L' h fun v h => evK_to T' L' h fun i h => h
  | est m s v => exact evK_to T' L' h fun v h => evK_to T' L' h fun i h => onNat_to h fun n h => evK_to T' L' h fun u h => h
  | ins z bytes s i v => exact evK_to T' L' h fun v h => evK_to T' L' h fun i h => onI64_to h fun n h => evK_to T' L' h fun u h => h
  | call f args => cases h
  | inv x name args => cases h
  | dfr f args => cases h
  | pan x => cases h
  | rcv => cases h
  | mov x => exact lookT_to T' L' (a := .mov x) h
  | pick c x y => exact lookT_to T' L' (a := .pick c x y) h
  | nilck x => exact lookT_to T' L' (a := .nilck x) h
  | ext x i => exact lookT_to T' L' (a := .ext x i) h
  | fld x off agg => exact lookT_to T' L' (a := .fld x off agg) h
  | fad x off => exact lookT_to T' L' (a := .fad x off) h
  | ixs x i z => exact lookT_to T' L' (a := .ixs x i z) h
  | ixa x i n z => exact lookT_to T' L' (a := .ixa x i n z) h
  | ix x i n z agg => exact lookT_to T' L' (a := .ix x i n z agg) h
  | bin op t x y => exact lookT_to T' L' (a := .bin op t x y) h
  | un op x => exact lookT_to T' L' (a := .un op x) h
  | cvt s d x => exact lookT_to T' L' (a := .cvt s d x) h
  | mnx mn xs => exact lookT_to T' L' (a := .mnx mn xs) h
  | six t x i => exact lookT_to T' L' (a := .six t x i) h
  | ssl t x lo hi => exact lookT_to T' L' (a := .ssl t x lo hi) h
  | isnil neg kd x y => exact lookT_to T' L' (a := .isnil neg kd x y) h
  | bld zero parts => exact lookT_to T' L' (a := .bld zero parts) h
  | clo fn first cap => exact lookT_to T' L' (a := .clo fn first cap) h
  | ifc t x => exact lookT_to T' L' (a := .ifc t x) h
  | tas x t zero ok => exact lookT_to T' L' (a := .tas x t zero ok) h
  | lod x agg => exact lookT_to T' L' (a := .lod x agg) h
  | len x => exact lookT_to T' L' (a := .len x) h
  | mln x => exact lookT_to T' L' (a := .mln x) h
  | sln x => exact lookT_to T' L' (a := .sln x) h
  | cap x => exact lookT_to T' L' (a := .cap x) h
  | slc x lo hi mx z => exact lookT_to T' L' (a := .slc x lo hi mx z) h
  | sla x lo hi n z => exact lookT_to T' L' (a := .sla x lo hi n z) h
  | lku x key kt zero ok => exact lookT_to T' L' (a := .lku x key kt zero ok) h
end Go.Eng
/- The engine: how its values and its heap stand to the model's. -/
namespace Go.Eng

/-- where an abstract block lies: the block, the place of its first cell, and how many cells the block has -/
structure Ref where
  blk : Nat
  sh : Nat
  size : Nat

abbrev Rho := Nat → Option Ref

/-- no slice has more places -/
def capMax : Nat := 9223372036854775807

/-- what the engine may carry without a look at it -/
def anyOne : Value → Bool
  | .agg _ | .tuple _ | .bool _ => false
  | _ => true

mutual
inductive VR (ρ : Rho) : Value → Value → Prop where
  | sc {v : Value} (h : scalar v = true) : VR ρ v v
  | nilI : VR ρ .nilIface .nilIface
  | pnil : VR ρ (.pointer none) (.pointer none)
  | ptr {b o : Nat} {r : Ref} (h : ρ b = some r) : VR ρ (.pointer (some ⟨b, o, none⟩)) (.pointer (some ⟨r.blk, r.sh + o, none⟩))
  | snil : VR ρ (.slice none 0 0) (.slice none 0 0)
  | sl {b o z len c p c' : Nat} {r : Ref} (h : ρ b = some r) (hl : len ≤ c' ∧ c' ≤ capMax) (hs : sureCap c ≤ c') (he : exact c = true → c' = sureCap c)
      (hp : c' = 0 ∨ (p = r.sh + o ∧ p + c' * z ≤ r.size)) : VR ρ (.slice (some ⟨b, o, some z⟩) len c) (.slice (some ⟨r.blk, p, none⟩) len c')
  | mnil : VR ρ (.map none) (.map none)
  | map {b : Nat} {r : Ref} (h : ρ b = some r) : VR ρ (.map (some b)) (.map (some r.blk))
  | func {f : FuncId} {a a' c c' : List Value} (h : VRs ρ a a') (h' : VRs ρ c c') : VR ρ (.func (.func f) ⟨a⟩ ⟨c⟩) (.func (.func f) ⟨a'⟩ ⟨c'⟩)
  | iface {t : TypeId} {v v' : Value} (h : VR ρ v v') : VR ρ (.iface t v) (.iface t v')
  | agg {a a' : List Value} (h : VRs ρ a a') : VR ρ (.agg ⟨a⟩) (.agg ⟨a'⟩)
  | tuple {a a' : List Value} (h : VRs ρ a a') : VR ρ (.tuple ⟨a⟩) (.tuple ⟨a'⟩)
  | any {u : Value} (h : anyOne u = true) : VR ρ (.chan none) u
inductive VRs (ρ : Rho) : List Value → List Value → Prop where
  | nil : VRs ρ [] []
  | cons {v v' : Value} {vs vs' : List Value} (h : VR ρ v v') (hs : VRs ρ vs vs') : VRs ρ (v :: vs) (v' :: vs')
end

def Ext (ρ ρ' : Rho) : Prop := ∀ b r, ρ b = some r → ρ' b = some r
theorem Ext.refl (ρ : Rho) : Ext ρ ρ := fun _ _ h => h
theorem Ext.trans {a b c : Rho} (h : Ext a b) (h' : Ext b c) : Ext a c := fun _ _ x => h' _ _ (h _ _ x)

mutual
theorem VR.mono {ρ ρ' : Rho} (e : Ext ρ ρ') : ∀ {v v' : Value}, VR ρ v v' → VR ρ' v v'
  | _, _, .sc h => .sc h
  | _, _, .nilI => .nilI
  | _, _, .pnil => .pnil
  | _, _, .ptr h => .ptr (e _ _ h)
  | _, _, .snil => .snil
  | _, _, .sl h hl hs he hp => .sl (e _ _ h) hl hs he hp
  | _, _, .mnil => .mnil
  | _, _, .map h => .map (e _ _ h)
  | _, _, .func h h' => .func (VRs.mono e h) (VRs.mono e h')
  | _, _, .iface h => .iface (VR.mono e h)
  | _, _, .agg h => .agg (VRs.mono e h)
  | _, _, .tuple h => .tuple (VRs.mono e h)
  | _, _, .any h => .any h
theorem VRs.mono {ρ ρ' : Rho} (e : Ext ρ ρ') : ∀ {v v' : List Value}, VRs ρ v v' → VRs ρ' v v'
  | _, _, .nil => .nil
  | _, _, .cons h hs => .cons (VR.mono e h) (VRs.mono e hs)
end

section lists
variable {ρ : Rho}
theorem VRs.length {a a' : List Value} (h : VRs ρ a a') : a'.length = a.length := by
  induction a generalizing a' with
  | nil => cases h; rfl
  | cons v a ih => cases h with | cons h hs => simp [ih hs]

theorem VRs.get {a a' : List Value} (h : VRs ρ a a') : ∀ {i : Nat} {v : Value}, a[i]? = some v → ∃ v', a'[i]? = some v' ∧ VR ρ v v' := by
  induction a generalizing a' with
  | nil => intro i v hv; simp at hv
  | cons u a ih =>
    intro i v hv
    cases h with
    | cons h hs =>
      cases i with
      | zero => simp at hv; subst hv; exact ⟨_, rfl, h⟩
      | succ i => simpa using ih hs (by simpa using hv)

theorem VRs.append {a a' b b' : List Value} (h : VRs ρ a a') (h' : VRs ρ b b') : VRs ρ (a ++ b) (a' ++ b') := by
  induction a generalizing a' with
  | nil => cases h; exact h'
  | cons v a ih => cases h with | cons h hs => exact .cons h (ih hs)

theorem VRs.of_get {a a' : List Value} (hl : a'.length = a.length) (h : ∀ (i : Nat) (v : Value), a[i]? = some v → ∃ v', a'[i]? = some v' ∧ VR ρ v v') : VRs ρ a a' := by
  induction a generalizing a' with
  | nil => cases a' with
    | nil => exact .nil
    | cons => simp at hl
  | cons v a ih =>
    cases a' with
    | nil => simp at hl
    | cons v' a' =>
      obtain ⟨u, hu, hr⟩ := h 0 v rfl
      simp at hu; subst hu
      refine .cons hr (ih (by simpa using hl) fun i w hw => ?_)
      have := h (i + 1) w (by simpa using hw)
      simpa using this

theorem VRs.drop {a a' : List Value} (h : VRs ρ a a') (n : Nat) : VRs ρ (a.drop n) (a'.drop n) := by
  induction n generalizing a a' with
  | zero => exact h
  | succ n ih => cases h with
    | nil => exact .nil
    | cons h hs => exact ih hs

theorem VRs.take {a a' : List Value} (h : VRs ρ a a') (n : Nat) : VRs ρ (a.take n) (a'.take n) := by
  induction n generalizing a a' with
  | zero => simp; exact .nil
  | succ n ih => cases h with
    | nil => exact .nil
    | cons h hs => exact .cons h (ih hs)
end lists

/-! ### scalars -/
theorem VR.scalar_eq {ρ : Rho} {v v' : Value} (h : VR ρ v v') (hs : scalar v = true) : v' = v := by
  cases h with
  | sc _ => rfl
  | _ => simp [scalar] at hs

theorem VRs.scalar_eq {ρ : Rho} {a a' : List Value} (h : VRs ρ a a') (hs : a.all scalar = true) : a' = a := by
  induction a generalizing a' with
  | nil => cases h; rfl
  | cons v a ih =>
    cases h with
    | cons h hr =>
      simp at hs
      rw [h.scalar_eq hs.1, ih hr (by simpa using hs.2)]

theorem VR.flat_eq {ρ : Rho} {v v' : Value} (h : VR ρ v v') (hs : flat v = true) : v' = v := by
  cases h with
  | sc _ => rfl
  | agg h => rw [h.scalar_eq (by simpa [flat] using hs)]
  | _ => simp [flat, scalar] at hs

theorem VRs.of_scalar {ρ : Rho} {a : List Value} (hs : a.all scalar = true) : VRs ρ a a := by
  induction a with
  | nil => exact .nil
  | cons v a ih => simp at hs; exact .cons (.sc hs.1) (ih (by simpa using hs.2))

theorem VR.of_flat {ρ : Rho} {v : Value} (hs : flat v = true) : VR ρ v v := by
  cases v with
  | agg cs => exact .agg (.of_scalar (by simpa [flat] using hs))
  | _ => exact .sc (by simpa [flat] using hs)

/-! ### the heap -/
inductive ERs (ρ : Rho) : List MapEntry → List MapEntry → Prop where
  | nil : ERs ρ [] []
  | cons {e e' : MapEntry} {es es' : List MapEntry} (hk : VR ρ e.key e'.key) (hv : VR ρ e.val e'.val) (hb : e'.born = e.born) (h : ERs ρ es es') : ERs ρ (e :: es) (e' :: es')

theorem ERs.mono {ρ ρ' : Rho} (e : Ext ρ ρ') {a a' : List MapEntry} (h : ERs ρ a a') : ERs ρ' a a' := by
  induction h with
  | nil => exact .nil
  | cons hk hv hb _ ih => exact .cons (hk.mono e) (hv.mono e) hb ih

/-- its cells read so, wherever they lie, frozen or not -/
def RdR (ρ : Rho) (hp : Array Obj) (r : Ref) (cs : List Value) : Prop := ∃ a e f, hp[r.blk]? = some (.cells a e f) ∧ a.size = r.size ∧ ∀ i v, cs[i]? = some v → ∃ v', a[r.sh + i]? = some v' ∧ VR ρ v v'

def BR (ρ : Rho) (hp : Array Obj) (r : Ref) : Blk → Prop
  | .cells cs => ∃ a e, hp[r.blk]? = some (.cells a e (0, 0)) ∧ a.size = r.size ∧ ∀ i v, cs[i]? = some v → ∃ v', a[r.sh + i]? = some v' ∧ VR ρ v v'
  | .map es c => ∃ es', hp[r.blk]? = some (.map es' c) ∧ ERs ρ es es'.toList
  | .ro cs => RdR ρ hp r cs

/-- ours to write -/
def Blk.mine : Blk → Bool
  | .ro _ => false
  | _ => true

theorem BR.mono {ρ ρ' : Rho} (e : Ext ρ ρ') {hp : Array Obj} {r : Ref} {k : Blk} (h : BR ρ hp r k) : BR ρ' hp r k := by
  cases k with
  | cells cs =>
    obtain ⟨a, t, h1, h2, h3⟩ := h
    exact ⟨a, t, h1, h2, fun i v hv => let ⟨v', g, hr⟩ := h3 i v hv; ⟨v', g, hr.mono e⟩⟩
  | map es c =>
    obtain ⟨es', h1, h2⟩ := h
    exact ⟨es', h1, h2.mono e⟩
  | ro cs =>
    obtain ⟨a, t, f, h1, h2, h3⟩ := h
    exact ⟨a, t, f, h1, h2, fun i v hv => let ⟨v', g, hr⟩ := h3 i v hv; ⟨v', g, hr.mono e⟩⟩

theorem BR.lt {ρ : Rho} {hp : Array Obj} {r : Ref} {k : Blk} (h : BR ρ hp r k) : r.blk < hp.size := by
  cases k with
  | cells cs =>
    obtain ⟨a, t, h1, _⟩ := h
    exact (Array.getElem?_eq_some_iff.1 h1).1
  | map es c =>
    obtain ⟨es', h1, _⟩ := h
    exact (Array.getElem?_eq_some_iff.1 h1).1
  | ro cs =>
    obtain ⟨a, t, f, h1, _⟩ := h
    exact (Array.getElem?_eq_some_iff.1 h1).1

/-- a block that reads as before -/
theorem BR.of_same {ρ : Rho} {hp hp' : Array Obj} {r : Ref} {k : Blk} (h : BR ρ hp r k) (e : hp'[r.blk]? = hp[r.blk]?) : BR ρ hp' r k := by
  cases k with
  | cells cs => obtain ⟨a, t, h1, h2⟩ := h; exact ⟨a, t, e.trans h1, h2⟩
  | map es c => obtain ⟨es', h1, h2⟩ := h; exact ⟨es', e.trans h1, h2⟩
  | ro cs => obtain ⟨a, t, f, h1, h2⟩ := h; exact ⟨a, t, f, e.trans h1, h2⟩

structure HR (ρ : Rho) (H : Heap) (nx : Nat) (hp : Array Obj) : Prop where
  blk : ∀ b k, getP H (at_ b) = some k → ∃ r, ρ b = some r ∧ BR ρ hp r k
  inj : ∀ b c k l r s, getP H (at_ b) = some k → getP H (at_ c) = some l → k.mine = true → ρ b = some r → ρ c = some s → r.blk = s.blk → b = c
  new : ∀ b, nx ≤ b → ρ b = none

def Own (ρ : Rho) (H : Heap) (k : Nat) : Prop := ∃ b x r, getP H (at_ b) = some x ∧ x.mine = true ∧ ρ b = some r ∧ r.blk = k

/-- what is not ours to write was there before -/
def Ros (H' H : Heap) : Prop := ∀ b x, getP H' (at_ b) = some x → x.mine = false → getP H (at_ b) = some x
theorem Ros.refl (H : Heap) : Ros H H := fun _ _ h _ => h
theorem Ros.trans {H2 H1 H : Heap} (h : Ros H2 H1) (h' : Ros H1 H) : Ros H2 H := fun b x hb hm => h' b x (h b x hb hm) hm
theorem Ros.forget (H : Heap) (b : Nat) : Ros (insP (at_ b) H none) H := by
  intro c x hc _
  by_cases e : at_ c = at_ b
  · rw [e, getP_insP] at hc; cases hc
  · rwa [getP_insP_ne _ _ _ _ e] at hc
theorem Ros.put (H : Heap) (b : Nat) (k : Blk) (hk : k.mine = true := by rfl) : Ros (insP (at_ b) H (some k)) H := by
  intro c x hc hx
  by_cases e : at_ c = at_ b
  · rw [e, getP_insP] at hc
    have : k = x := by simpa using hc
    subst this
    rw [hk] at hx; cases hx
  · rwa [getP_insP_ne _ _ _ _ e] at hc

/-- From one state to another: what was known stays known; nothing but our own blocks, and new ones, has turned. -/
structure Stp (ρ : Rho) (H : Heap) (w : World) (ρ' : Rho) (H' : Heap) (w' : World) : Prop where
  ext : Ext ρ ρ'
  own : ∀ k, Own ρ' H' k → Own ρ H k ∨ w.heap.size ≤ k
  ro : Ros H' H
  frame : ∀ k, k < w.heap.size → ¬ Own ρ H k → w'.heap[k]? = w.heap[k]?
  size : w.heap.size ≤ w'.heap.size
  os : w'.os = w.os
  tape : w'.tape = w.tape
  output : w'.output = w.output

theorem Stp.refl (ρ : Rho) (H : Heap) (w : World) : Stp ρ H w ρ H w := ⟨.refl ρ, fun _ h => .inl h, .refl H, fun _ _ _ => rfl, Nat.le_refl _, rfl, rfl, rfl⟩

theorem Stp.trans {ρ ρ1 ρ2 : Rho} {H H1 H2 : Heap} {w w1 w2 : World} (h : Stp ρ H w ρ1 H1 w1) (h' : Stp ρ1 H1 w1 ρ2 H2 w2) : Stp ρ H w ρ2 H2 w2 := by
  refine ⟨h.ext.trans h'.ext, fun k hk => ?_, h'.ro.trans h.ro, fun k hk hn => ?_, Nat.le_trans h.size h'.size, h'.os.trans h.os, h'.tape.trans h.tape, h'.output.trans h.output⟩
  · rcases h'.own k hk with h1 | h1
    · exact h.own k h1
    · exact .inr (Nat.le_trans h.size h1)
  · have h1 : ¬ Own ρ1 H1 k := fun ho => by
      rcases h.own k ho with h2 | h2
      · exact hn h2
      · omega
    rw [h'.frame k (Nat.lt_of_lt_of_le hk h.size) h1, h.frame k hk hn]

/-- a draw turns nothing -/
theorem Stp.drew (ρ : Rho) (H : Heap) (w : World) (n : Nat) : Stp ρ H w ρ H { w with drawn := n } := ⟨.refl ρ, fun _ h => .inl h, .refl H, fun _ _ _ => rfl, Nat.le_refl _, rfl, rfl, rfl⟩

/-! ### steps of the heap -/
section steps
variable {ρ : Rho} {H : Heap} {nx : Nat} {hp : Array Obj}

/-- a new block -/
def Rho.with (ρ : Rho) (b : Nat) (r : Ref) : Rho := fun x => if x = b then some r else ρ x

theorem Rho.with_self (ρ : Rho) (b : Nat) (r : Ref) : ρ.with b r b = some r := by simp [Rho.with]
theorem Rho.with_ne (ρ : Rho) {b c : Nat} (r : Ref) (h : c ≠ b) : ρ.with b r c = ρ c := by simp [Rho.with, h]
theorem HR.ext_with (h : HR ρ H nx hp) (r : Ref) : Ext ρ (ρ.with nx r) := by
  intro b s hb
  have hne : b ≠ nx := by
    intro e; subst e
    rw [h.new b (Nat.le_refl _)] at hb; cases hb
  rw [Rho.with_ne _ _ hne]; exact hb

/-- an abstract block is given up -/
theorem HR.forget (h : HR ρ H nx hp) (b : Nat) : HR ρ (insP (at_ b) H none) nx hp := by
  have key : ∀ c k, getP (insP (at_ b) H none) (at_ c) = some k → getP H (at_ c) = some k := by
    intro c k hc
    by_cases e : at_ c = at_ b
    · rw [e, getP_insP] at hc; cases hc
    · rwa [getP_insP_ne _ _ _ _ e] at hc
  exact ⟨fun c k hc => h.blk c k (key c k hc), fun c d k l r s hc hd => h.inj c d k l r s (key _ _ hc) (key _ _ hd), h.new⟩

theorem Own.of_forget {b k : Nat} (h : Own ρ (insP (at_ b) H none) k) : Own ρ H k := by
  obtain ⟨c, x, r, hc, hm, hr, e⟩ := h
  refine ⟨c, x, r, ?_, hm, hr, e⟩
  by_cases e : at_ c = at_ b
  · rw [e, getP_insP] at hc; cases hc
  · rwa [getP_insP_ne _ _ _ _ e] at hc

/-- a new abstract block: at a concrete block that none of ours lies in -/
theorem HR.make (h : HR ρ H nx hp) {hp' : Array Obj} {k : Blk} {r : Ref}
    (hold : ∀ b x s, getP H (at_ b) = some x → ρ b = some s → hp'[s.blk]? = hp[s.blk]? ∧ s.blk ≠ r.blk) (hk : BR (ρ.with nx r) hp' r k) :
    HR (ρ.with nx r) (insP (at_ nx) H (some k)) (nx + 1) hp' := by
  have ext := h.ext_with r
  have cases' : ∀ b x, getP (insP (at_ nx) H (some k)) (at_ b) = some x → (b = nx ∧ x = k) ∨ (b ≠ nx ∧ getP H (at_ b) = some x) := by
    intro b x hb
    by_cases e : at_ b = at_ nx
    · rw [e, getP_insP] at hb
      exact .inl ⟨at_inj e, by simpa using hb.symm⟩
    · rw [getP_insP_ne _ _ _ _ e] at hb
      exact .inr ⟨fun e' => e (by rw [e']), hb⟩
  refine ⟨fun b x hb => ?_, fun b c x y s t hb hc hm hs ht e => ?_, fun b hb => ?_⟩
  · rcases cases' b x hb with ⟨rfl, rfl⟩ | ⟨hne, hb⟩
    · exact ⟨r, Rho.with_self _ _ _, hk⟩
    · obtain ⟨s, hs, hbr⟩ := h.blk b x hb
      exact ⟨s, ext b s hs, (hbr.mono ext).of_same (hold b x s hb hs).1⟩
  · rcases cases' b x hb with ⟨eb, _⟩ | ⟨hnb, hb'⟩
    · rcases cases' c y hc with ⟨ec, _⟩ | ⟨hnc, hc'⟩
      · rw [eb, ec]
      · rw [eb, Rho.with_self] at hs; cases hs
        rw [Rho.with_ne _ _ hnc] at ht
        exact absurd e.symm (hold c y t hc' ht).2
    · rcases cases' c y hc with ⟨ec, _⟩ | ⟨hnc, hc'⟩
      · rw [ec, Rho.with_self] at ht; cases ht
        rw [Rho.with_ne _ _ hnb] at hs
        exact absurd e (hold b x s hb' hs).2
      · rw [Rho.with_ne _ _ hnb] at hs
        rw [Rho.with_ne _ _ hnc] at ht
        exact h.inj b c x y s t hb' hc' hm hs ht e
  · rw [Rho.with_ne _ _ (by omega)]
    exact h.new b (by omega)

theorem Own.of_make {k : Blk} {r : Ref} {j : Nat} (h : Own (ρ.with nx r) (insP (at_ nx) H (some k)) j) : j = r.blk ∨ Own ρ H j := by
  obtain ⟨b, x, s, hb, hm, hs, e⟩ := h
  by_cases e' : at_ b = at_ nx
  · have := at_inj e'; subst this
    rw [Rho.with_self] at hs; cases hs
    exact .inl e.symm
  · rw [getP_insP_ne _ _ _ _ e'] at hb
    rw [Rho.with_ne _ _ (fun e => e' (by rw [e]))] at hs
    exact .inr ⟨b, x, s, hb, hm, hs, e⟩

/-- an abstract block is written -/
theorem HR.write (h : HR ρ H nx hp) {hp' : Array Obj} {b : Nat} {k0 k : Blk} {r : Ref} (hb : getP H (at_ b) = some k0) (hr : ρ b = some r)
    (hold : ∀ i, i ≠ r.blk → hp'[i]? = hp[i]?) (hk : BR ρ hp' r k) (hm0 : k0.mine = true := by rfl) : HR ρ (insP (at_ b) H (some k)) nx hp' := by
  have cases' : ∀ c x, getP (insP (at_ b) H (some k)) (at_ c) = some x → (c = b ∧ x = k) ∨ (c ≠ b ∧ getP H (at_ c) = some x) := by
    intro c x hc
    by_cases e : at_ c = at_ b
    · rw [e, getP_insP] at hc
      exact .inl ⟨at_inj e, by simpa using hc.symm⟩
    · rw [getP_insP_ne _ _ _ _ e] at hc
      exact .inr ⟨fun e' => e (by rw [e']), hc⟩
  have back : ∀ c x, getP (insP (at_ b) H (some k)) (at_ c) = some x → ∃ y, getP H (at_ c) = some y ∧ (x.mine = true → y.mine = true) := by
    intro c x hc
    rcases cases' c x hc with ⟨rfl, rfl⟩ | ⟨_, hc⟩
    · exact ⟨k0, hb, fun _ => hm0⟩
    · exact ⟨x, hc, id⟩
  refine ⟨fun c x hc => ?_, fun c d x y s t hc hd hm hs ht e => ?_, h.new⟩
  · rcases cases' c x hc with ⟨rfl, rfl⟩ | ⟨hne, hc⟩
    · exact ⟨r, hr, hk⟩
    · obtain ⟨s, hs, hbr⟩ := h.blk c x hc
      refine ⟨s, hs, hbr.of_same (hold _ fun e => hne (h.inj b c k0 x r s hb hc hm0 hr hs e.symm).symm)⟩
  · obtain ⟨x', hc', hm'⟩ := back c x hc
    obtain ⟨y', hd', _⟩ := back d y hd
    exact h.inj c d x' y' s t hc' hd' (hm' hm) hs ht e

theorem Own.of_write {b : Nat} {k0 k : Blk} {j : Nat} (hb : getP H (at_ b) = some k0) (h : Own ρ (insP (at_ b) H (some k)) j) (hm0 : k0.mine = true := by rfl) : Own ρ H j := by
  obtain ⟨c, x, s, hc, hm, hs, e⟩ := h
  by_cases e' : at_ c = at_ b
  · exact ⟨c, k0, s, by rw [e']; exact hb, hm0, hs, e⟩
  · rw [getP_insP_ne _ _ _ _ e'] at hc
    exact ⟨c, x, s, hc, hm, hs, e⟩
end steps
end Go.Eng
/- The engine: operations that read at most, each against the model's. -/
namespace Go.Eng

/-! ### lists -/
theorem dropN_eq (l : List Value) : ∀ n, dropN l n = l.drop n := by
  induction l with
  | nil => intro n; cases n <;> rfl
  | cons c l ih =>
    intro n
    cases n with
    | zero => rfl
    | succ n => exact ih n

theorem take?_eq (n : Nat) : ∀ (l r : List Value), take? n l = some r → r = l.take n ∧ n ≤ l.length := by
  induction n with
  | zero => intro l r h; cases h; simp
  | succ n ih =>
    intro l r h
    cases l with
    | nil => cases h
    | cons c l =>
      have h' : (Option.rec none (fun r => some (c :: r)) (take? n l) : Option (List Value)) = some r := h
      cases e : take? n l with
      | none => rw [e] at h'; cases h'
      | some q =>
        rw [e] at h'
        have h'' : some (c :: q) = some r := h'
        obtain ⟨h1, h2⟩ := ih l q e
        cases h''
        exact ⟨by rw [h1]; rfl, by simpa using h2⟩

theorem take?_get {n : Nat} {l r : List Value} (h : take? n l = some r) : r.length = n ∧ ∀ i, i < n → r[i]? = l[i]? := by
  obtain ⟨h1, h2⟩ := take?_eq n l r h
  subst h1
  exact ⟨by simp; omega, fun i hi => by rw [List.getElem?_take]; simp [hi]⟩

theorem headO_eq (l : List Value) : headO l = l[0]? := by cases l <;> rfl

/-- what a part is, by its places -/
theorem partOf_none {cs : List Value} {off : Nat} {v : Value} (h : partOf cs off none = some v) : cs[off]? = some v := by
  have h' : headO (dropN cs off) = some v := h
  rw [headO_eq, dropN_eq, List.getElem?_drop] at h'
  simpa using h'

theorem partOf_some {cs : List Value} {off n : Nat} {v : Value} (h : partOf cs off (some n) = some v) :
    ∃ l, v = .agg ⟨l⟩ ∧ l.length = n ∧ ∀ i, i < n → l[i]? = cs[off + i]? := by
  have h' : aggOf (take? n (dropN cs off)) = some v := h
  cases e : take? n (dropN cs off) with
  | none => rw [e] at h'; cases h'
  | some l =>
    rw [e] at h'
    have h'' : some (Value.agg l.toArray) = some v := h'
    cases h''
    obtain ⟨h1, h2⟩ := take?_get e
    refine ⟨l, rfl, h1, fun i hi => ?_⟩
    rw [h2 i hi, dropN_eq, List.getElem?_drop]

variable {P : Program} {w : World}

/-! ### runs that touch nothing -/
theorem quiet_run {α : Type} {s : Sem α} {a : α} (h : quiet P s = some a) : s.run P w = .ok a w := by
  induction s with
  | pure b => cases h; rfl
  | program k ih => exact ih P h
  | _ => cases h

theorem run_info {t : TypeId} {i : TypeInfo} (h : P.info? t = some i) : (typeInfo t).run P w = .ok i w := by
  simp [typeInfo, h]

theorem run_size {t : TypeId} {n : Nat} (h : sizeAt P t = some n) : (sizeOf t).run P w = .ok n w := by
  unfold sizeAt at h
  cases e : P.info? t with
  | none => rw [e] at h; cases h
  | some i =>
    rw [e] at h
    simp at h
    simp [sizeOf, run_info e, h]

theorem run_bytes {t : TypeId} {n : Nat} (h : bytesAt P t = some n) : ∃ i, (typeInfo t).run P w = .ok i w ∧ i.bytes = n := by
  unfold bytesAt at h
  cases e : P.info? t with
  | none => rw [e] at h; cases h
  | some i =>
    rw [e] at h
    simp at h
    exact ⟨i, run_info e, h⟩

theorem aggC_some {t : TypeId} {n : Nat} (h : aggC P t = some (some n)) : (isAgg t).run P w = .ok true w ∧ (sizeOf t).run P w = .ok n w := by
  unfold aggC at h
  split at h
  · rename_i i fs hi hu
    cases h
    exact ⟨by simp [isAgg, run_underlying hu], by simp [sizeOf, run_info hi]⟩
  · rename_i i a b hi hu
    cases h
    exact ⟨by simp [isAgg, run_underlying hu], by simp [sizeOf, run_info hi]⟩
  · cases h
  · cases h

theorem aggC_none {t : TypeId} (h : aggC P t = some none) : (isAgg t).run P w = .ok false w := by
  unfold aggC at h
  split at h
  · cases h
  · cases h
  · rename_i i d h1 h2 hi hu
    have hd : (underlying t).run P w = .ok d w := run_underlying hu w
    simp only [isAgg, Sem.run_bind, hd, Result.andThen_ok]
    cases d with
    | struct fs => exact (h1 fs rfl).elim
    | array n e => exact (h2 n e rfl).elim
    | _ => rfl
  · cases h

theorem run_zero {t : TypeId} {z : Value} (h : zeroVal P t = some z) : (zeroValue t).run P w = .ok z w ∧ constOk z = true := by
  unfold zeroVal at h
  split at h
  · rename_i i hi
    split at h
    · rename_i z' hz
      cases hc : constOk z' with
      | false => rw [hc] at h; cases h
      | true =>
        rw [hc] at h
        have h' : some z' = some z := h
        cases h'
        exact ⟨by simp [zeroValue, run_info hi, hz], hc⟩
    · cases h
  · cases h

/-! ### cells -/
theorem cell_of {hp : Array Obj} {b o : Nat} {a : Array Value} {e : TypeId} {f : Nat × Nat} {v : Value} (w : World) (hw : w.heap = hp) (h : hp[b]? = some (.cells a e f)) (hv : a[o]? = some v) : w.cell? ⟨b, o, none⟩ = some v := by
  unfold World.cell?
  rw [hw]
  simp [h, hv]

theorem run_load_cell {a : Addr} {v : Value} (h : w.cell? a = some v) : (load a).run P w = .ok v w := by
  simp [load, Sem.run, h]

theorem run_loadCellsFrom (b o : Nat) (f : Nat → Value) : ∀ (n i : Nat) (acc : Array Value), (∀ j, j < n → w.cell? ⟨b, o + (i + j), none⟩ = some (f (i + j))) →
    (loadCellsFrom ⟨b, o, none⟩ i n acc).run P w = .ok (acc ++ ((List.range n).map fun j => f (i + j)).toArray) w := by
  intro n
  induction n with
  | zero => intro i acc _; simp [loadCellsFrom, Sem.run_pure]
  | succ n ih =>
    intro i acc h
    have h0 : (load (Addr.add ⟨b, o, none⟩ i)).run P w = .ok (f i) w := by
      rw [Addr.add_lit]
      exact run_load_cell (by simpa using h 0 (by omega))
    simp only [loadCellsFrom, Sem.run_bind, h0, Result.andThen_ok]
    rw [ih (i + 1) (acc.push (f i)) (fun j hj => by have := h (j + 1) (by omega); rw [show i + 1 + j = i + (j + 1) by omega]; exact this)]
    congr 1
    apply Array.ext'
    simp [List.range_succ_eq_map]
    intro a _; congr 1; omega

theorem run_loadCells {b o n : Nat} {l : List Value} (hl : l.length = n) (h : ∀ i v, l[i]? = some v → w.cell? ⟨b, o + i, none⟩ = some v) : (loadCells ⟨b, o, none⟩ n).run P w = .ok ⟨l⟩ w := by
  have := run_loadCellsFrom (P := P) (w := w) b o (fun i => l.getD i undef) n 0 #[] (fun j hj => by
    have hj' : j < l.length := by omega
    have := h j l[j] (by simp [hj'])
    simpa [List.getD_eq_getElem?_getD, hj'] using this)
  unfold loadCells
  rw [this]
  congr 1
  apply Array.ext'
  simp
  apply List.ext_getElem
  · simp [hl]
  · intro i h1 h2
    simp
    simp at h1
    rw [List.getElem?_eq_getElem (by omega)]; rfl

end Go.Eng
/- The engine: operations that read at most, each against the model's. -/
namespace Go.Eng
variable {P : Program} {w : World} {ρ : Rho} {H : Heap} {nx : Nat} {r : Ex × St}

theorem VR.agg_inv {cs : Array Value} {u : Value} (h : VR ρ (.agg cs) u) : ∃ cs', u = .agg cs' ∧ VRs ρ cs.toList cs'.toList := by
  cases h with
  | sc h => simp [scalar] at h
  | agg h => exact ⟨_, rfl, h⟩

theorem VR.tuple_inv {cs : Array Value} {u : Value} (h : VR ρ (.tuple cs) u) : ∃ cs', u = .tuple cs' ∧ VRs ρ cs.toList cs'.toList := by
  cases h with
  | sc h => simp [scalar] at h
  | tuple h => exact ⟨_, rfl, h⟩

theorem VR.int_inv {k : IntKind} {n : Int} {u : Value} (h : VR ρ (.int k n) u) : u = .int k n := h.scalar_eq rfl
theorem VR.bool_inv {b : Bool} {u : Value} (h : VR ρ (.bool b) u) : u = .bool b := h.scalar_eq rfl
theorem VR.ptr_inv {b o : Nat} {u : Value} (h : VR ρ (.pointer (some ⟨b, o, none⟩)) u) : ∃ s, ρ b = some s ∧ u = .pointer (some ⟨s.blk, s.sh + o, none⟩) := by
  cases h with
  | sc h => simp [scalar] at h
  | ptr h => exact ⟨_, h, rfl⟩

theorem onPtr_some {v : Value} {k : Nat → Nat → R0} (h : onPtr v k = some r) : ∃ b o, v = .pointer (some ⟨b, o, none⟩) ∧ k b o = some r := by
  unfold onPtr at h
  split at h
  · exact ⟨_, _, rfl, h⟩
  · cases h

theorem onNat_some {v : Value} {k : Nat → R0} (h : onNat v k = some r) : ∃ (i : IntKind) (n : Nat), v = .int i (.ofNat n) ∧ k n = some r := by
  unfold onNat at h
  split at h
  · exact ⟨_, _, rfl, h⟩
  · cases h

theorem onAgg_some {v : Value} {k : List Value → R0} (h : onAgg v k = some r) : ∃ cs : Array Value, v = .agg cs ∧ k cs.toList = some r := by
  unfold onAgg at h
  split at h
  · exact ⟨_, rfl, h⟩
  · cases h

theorem onSl_some {v : Value} {k : Nat → Nat → Nat → Nat → Nat → R0} (h : onSl v k = some r) : ∃ b o z len c, v = .slice (some ⟨b, o, some z⟩) len c ∧ k b o z len c = some r := by
  unfold onSl at h
  split at h
  · exact ⟨_, _, _, _, _, rfl, h⟩
  · cases h

theorem onBool_some {v : Value} {a b : R0} (h : onBool v a b = some r) : (v = .bool true ∧ a = some r) ∨ (v = .bool false ∧ b = some r) := by
  unfold onBool at h
  split at h
  · rename_i t
    cases t
    · exact .inr ⟨rfl, h⟩
    · exact .inl ⟨rfl, h⟩
  · cases h

theorem cond_some {c : Bool} {a : R0} (h : cond c a none = some r) : c = true ∧ a = some r := by
  cases c
  · cases h
  · exact ⟨rfl, h⟩

theorem cellsK_some {b : Nat} {k : List Value → R0} (h : cellsK H b k = some r) : ∃ cs, getP H (at_ b) = some (.cells cs) ∧ k cs = some r := by
  unfold cellsK onCells at h
  cases e : getP H (at_ b) with
  | none => rw [e] at h; cases h
  | some x =>
    rw [e] at h
    cases x with
    | cells cs => exact ⟨cs, rfl, h⟩
    | map es c => cases h
    | ro cs => cases h

theorem cellsR_some {b : Nat} {k : List Value → R0} (h : cellsR H b k = some r) : ∃ cs x, getP H (at_ b) = some x ∧ (∀ (ρ : Rho) (hp : Array Obj) (s : Ref), BR ρ hp s x → RdR ρ hp s cs) ∧ k cs = some r := by
  unfold cellsR onRead at h
  cases e : getP H (at_ b) with
  | none => rw [e] at h; cases h
  | some x =>
    rw [e] at h
    cases x with
    | cells cs => exact ⟨cs, _, rfl, fun _ _ _ h => let ⟨a, e, h1, h2⟩ := h; ⟨a, e, _, h1, h2⟩, h⟩
    | map es c => cases h
    | ro cs => exact ⟨cs, _, rfl, fun _ _ _ h => h, h⟩

theorem onMapB_some {b : Nat} {k : List MapEntry → Nat → R0} (h : onMapB (getP H (at_ b)) k = some r) : ∃ es c, getP H (at_ b) = some (.map es c) ∧ k es c = some r := by
  unfold onMapB at h
  cases e : getP H (at_ b) with
  | none => rw [e] at h; cases h
  | some x =>
    rw [e] at h
    cases x with
    | cells cs => cases h
    | map es c => exact ⟨es, c, rfl, h⟩
    | ro cs => cases h

/-! ### parts and loads -/
theorem part_sound {t : TypeId} {off : Nat} {g : Option Nat} {a a' : List Value} {v : Value} (hg : aggC P t = some g) (hr : VRs ρ a a') (h : partOf a off g = some v) :
    ∃ u, (part t ⟨a'⟩ off).run P w = .ok u w ∧ VR ρ v u := by
  cases g with
  | none =>
    obtain ⟨u, hu, hv⟩ := hr.get (partOf_none h)
    refine ⟨u, ?_, hv⟩
    simp [part, aggC_none hg, hu, Sem.run_pure]
  | some n =>
    obtain ⟨l, rfl, hl, hi⟩ := partOf_some h
    obtain ⟨h1, h2⟩ := aggC_some (w := w) hg
    refine ⟨.agg (Array.extract ⟨a'⟩ off (off + n)), by simp [part, h1, h2, Sem.run_pure], ?_⟩
    have hal := hr.length
    have hlen : n = 0 ∨ off + n ≤ a.length := by
      by_cases hn : n = 0
      · exact .inl hn
      · right
        have h0 := hi (n - 1) (by omega)
        rw [List.getElem?_eq_getElem (by omega)] at h0
        have := (List.getElem?_eq_some_iff.1 h0.symm).1
        omega
    have hx : (Array.extract ⟨a'⟩ off (off + n)) = ⟨(a'.drop off).take n⟩ := by
      apply Array.ext'
      simp [Array.toList_extract, List.extract_eq_take_drop]
    rw [hx]
    refine .agg (.of_get ?_ fun i u hu => ?_)
    · simp; omega
    · have hin : i < n := by rw [← hl]; exact (List.getElem?_eq_some_iff.1 hu).1
      rw [hi i hin] at hu
      obtain ⟨u', hu', hv⟩ := hr.get hu
      exact ⟨u', by rw [List.getElem?_take]; simp [hin, hu'], hv⟩

theorem load_sound {t : TypeId} {o : Nat} {g : Option Nat} {cs : List Value} {s : Ref} {v : Value} (hg : aggC P t = some g) (hb : RdR ρ w.heap s cs) (h : partOf cs o g = some v) :
    ∃ u, (loadVar t ⟨s.blk, s.sh + o, none⟩).run P w = .ok u w ∧ VR ρ v u := by
  obtain ⟨a, e, f, h1, h2, h3⟩ := hb
  cases g with
  | none =>
    obtain ⟨u, hu, hv⟩ := h3 _ _ (partOf_none h)
    refine ⟨u, ?_, hv⟩
    simp [loadVar, aggC_none hg, cell_of w rfl h1 hu]
  | some n =>
    obtain ⟨l, rfl, hl, hi⟩ := partOf_some h
    obtain ⟨g1, g2⟩ := aggC_some (w := w) hg
    have key : ∀ m, m ≤ n → ∃ l' : List Value, l'.length = m ∧ ∀ i, i < m → ∃ x y, l[i]? = some x ∧ l'[i]? = some y ∧ a[s.sh + (o + i)]? = some y ∧ VR ρ x y := by
      intro m
      induction m with
      | zero => intro _; exact ⟨[], rfl, fun i hi => by omega⟩
      | succ m ih =>
        intro hm
        obtain ⟨l', hl', hq⟩ := ih (by omega)
        have hx : l[m]? = some l[m] := List.getElem?_eq_getElem (by omega)
        obtain ⟨y, hy, hv⟩ := h3 (o + m) l[m] (by rw [← hi m (by omega)]; exact hx)
        refine ⟨l' ++ [y], by simp [hl'], fun i hin => ?_⟩
        by_cases e : i = m
        · subst e
          exact ⟨_, y, hx, by simp [hl'], hy, hv⟩
        · obtain ⟨x, z, q1, q2, q3, q4⟩ := hq i (by omega)
          exact ⟨x, z, q1, by rw [List.getElem?_append_left (by omega)]; exact q2, q3, q4⟩
    obtain ⟨l', hl', hq⟩ := key n (Nat.le_refl _)
    have hrun : (loadCells ⟨s.blk, s.sh + o, none⟩ n).run P w = .ok ⟨l'⟩ w := run_loadCells hl' fun i v hv => by
      have hin : i < n := by rw [← hl']; exact (List.getElem?_eq_some_iff.1 hv).1
      obtain ⟨x, y, q1, q2, q3, q4⟩ := hq i hin
      rw [hv] at q2; cases q2
      exact cell_of w rfl h1 (by rw [Nat.add_assoc]; exact q3)
    refine ⟨.agg ⟨l'⟩, by simp [loadVar, g1, g2, hrun, Sem.run_pure], .agg (.of_get (by omega) fun i x hx => ?_)⟩
    have hin : i < n := by rw [← hl]; exact (List.getElem?_eq_some_iff.1 hx).1
    obtain ⟨x', y, q1, q2, q3, q4⟩ := hq i hin
    rw [hx] at q1; cases q1
    exact ⟨y, q2, q4⟩

theorem lod_sound {t : TypeId} {g : Option Nat} {v u : Value} {k : KV} (hg : aggC P t = some g) (hH : HR ρ H nx w.heap) (hv : VR ρ v u)
    (h : (onPtr v fun b o => cellsR H b fun cs => bd (partOf cs o g) k) = some r) : ∃ x y, k x = some r ∧ (Instr.loadAt t u).run P w = .ok y w ∧ VR ρ x y := by
  obtain ⟨b, o, rfl, h⟩ := onPtr_some h
  obtain ⟨cs, xb, hb, hxb, h⟩ := cellsR_some h
  obtain ⟨x, hx, h⟩ := bd_eq h
  obtain ⟨s, hs, rfl⟩ := hv.ptr_inv
  obtain ⟨s', hs', hbr⟩ := hH.blk b _ hb
  have hbr := hxb _ _ _ hbr
  rw [hs] at hs'; cases hs'
  obtain ⟨y, hy, hxy⟩ := load_sound (w := w) hg hbr hx
  exact ⟨x, y, h, by simpa [Instr.loadAt, Instr.sureAddr, Sem.run_pure] using hy, hxy⟩

theorem fld_sound {t : TypeId} {f : Nat} {fs : Array Field} {fd : Field} {g : Option Nat} {v u : Value} {k : KV} (hu : P.underlying t = some (.struct fs)) (hf : fs.toList[f]? = some fd) (hg : aggC P fd.type = some g)
    (hv : VR ρ v u) (h : (onAgg v fun cs => bd (partOf cs fd.offset g) k) = some r) : ∃ x y, k x = some r ∧ (Instr.field t u f).run P w = .ok y w ∧ VR ρ x y := by
  obtain ⟨cs, rfl, h⟩ := onAgg_some h
  obtain ⟨x, hx, h⟩ := bd_eq h
  obtain ⟨cs', rfl, hr⟩ := hv.agg_inv
  obtain ⟨y, hy, hxy⟩ := part_sound (w := w) hg hr hx
  refine ⟨x, y, h, ?_, hxy⟩
  have hf' : fs[f]? = some fd := by rw [← Array.getElem?_toList]; exact hf
  simpa [Instr.field, run_underlying hu, hf', asAgg, Sem.run_pure] using hy

theorem fad_sound {t : TypeId} {f : Nat} {fs : Array Field} {fd : Field} {n : Nat} {v u : Value} {k : KV} (hu : P.underlying t = some (.struct fs)) (hf : fs.toList[f]? = some fd) (hn : sizeAt P fd.type = some (n + 1))
    (hv : VR ρ v u) (h : (onPtr v fun b o => mkPtr b (Nat.add o fd.offset) k) = some r) : ∃ x y, k x = some r ∧ (Instr.fieldAt t u f).run P w = .ok y w ∧ VR ρ x y := by
  obtain ⟨b, o, rfl, h⟩ := onPtr_some h
  obtain ⟨s, hs, rfl⟩ := hv.ptr_inv
  have hf' : fs[f]? = some fd := by rw [← Array.getElem?_toList]; exact hf
  refine ⟨_, .pointer (some ⟨s.blk, s.sh + (o + fd.offset), none⟩), h, ?_, .ptr hs⟩
  simp [Instr.fieldAt, run_underlying hu, hf', Instr.sureAddr, fieldPlace, run_size hn, Sem.run_pure, Addr.add_lit, Nat.add_assoc]

theorem ixs_sound {t e : TypeId} {z : Nat} {v u i j : Value} {k : KV} (hu : P.underlying t = some (.slice e)) (hz : sizeAt P e = some z) (hv : VR ρ v u) (hi : VR ρ i j)
    (h : (onNat i fun n => onSl v (ixsV z n k)) = some r) : ∃ x y, k x = some r ∧ (Instr.indexAt t u j).run P w = .ok y w ∧ VR ρ x y := by
  obtain ⟨ki, n, rfl, h1⟩ := onNat_some h
  obtain ⟨b, o, z', len, c, rfl, h2⟩ := onSl_some h1
  obtain ⟨hc, h3⟩ := cond_some h2
  have hj := hi.int_inv; subst hj
  simp only [Bool.and_eq_true] at hc
  have hn : n < len := by simpa [Nat.blt_eq] using hc.1
  have hz' : z = z' := Nat.eq_of_beq_eq_true hc.2
  subst hz'
  clear h h1 h2
  cases hv with
  | sc h => simp [scalar] at h
  | @sl _ _ _ _ _ p c' s hs hl hsc he hp =>
    have hp' : p = s.sh + o := by rcases hp with h0 | h0 <;> omega
    refine ⟨_, .pointer (some ⟨s.blk, s.sh + (o + n * z), none⟩), h3, ?_, .ptr hs⟩
    subst hp'
    simp [Instr.indexAt, asIntOf, run_underlying hu, run_size hz, hn, Addr.add_lit, Nat.add_assoc]

theorem ixa_sound {t e : TypeId} {z len : Nat} {v u i j : Value} {k : KV} (hu : P.underlying t = some (.array len e)) (hz : sizeAt P e = some z) (hv : VR ρ v u) (hi : VR ρ i j)
    (h : (onNat i fun n => onPtr v (ixaV n len z k)) = some r) : ∃ x y, k x = some r ∧ (Instr.indexAt t u j).run P w = .ok y w ∧ VR ρ x y := by
  obtain ⟨ki, n, rfl, h1⟩ := onNat_some h
  obtain ⟨b, o, rfl, h2⟩ := onPtr_some h1
  obtain ⟨hc, h3⟩ := cond_some h2
  have hj := hi.int_inv; subst hj
  have hn : n < len := by simpa [Nat.blt_eq] using hc
  obtain ⟨s, hs, rfl⟩ := hv.ptr_inv
  refine ⟨_, .pointer (some ⟨s.blk, s.sh + (o + n * z), none⟩), h3, ?_, .ptr hs⟩
  simp [Instr.indexAt, asIntOf, Instr.sureAddr, run_underlying hu, run_size hz, hn, Addr.add_lit, Nat.add_assoc]

theorem ix_sound {t e : TypeId} {z len : Nat} {g : Option Nat} {v u i j : Value} {k : KV} (hu : P.underlying t = some (.array len e)) (hg : aggC P e = some g) (hz : sizeAt P e = some z) (hv : VR ρ v u) (hi : VR ρ i j)
    (h : (onNat i fun n => onAgg v fun cs => cond (Nat.blt n len) (bd (partOf cs (Nat.mul n z) g) k) none) = some r) : ∃ x y, k x = some r ∧ (Instr.index t u j).run P w = .ok y w ∧ VR ρ x y := by
  obtain ⟨ki, n, rfl, h1⟩ := onNat_some h
  obtain ⟨cs, rfl, h2⟩ := onAgg_some h1
  obtain ⟨hc, h3⟩ := cond_some h2
  obtain ⟨x, hx, h4⟩ := bd_eq h3
  have hj := hi.int_inv; subst hj
  have hn : n < len := by simpa [Nat.blt_eq] using hc
  obtain ⟨cs', rfl, hr⟩ := hv.agg_inv
  obtain ⟨y, hy, hxy⟩ := part_sound (w := w) hg hr hx
  refine ⟨x, y, h4, ?_, hxy⟩
  simpa [Instr.index, asIntOf, run_underlying hu, run_size hz, hn] using hy

theorem ext_sound {i : Nat} {v u : Value} {k : KV} (hv : VR ρ v u) (h : extV v i k = some r) : ∃ x y, k x = some r ∧ (Instr.extract u i).run P w = .ok y w ∧ VR ρ x y := by
  unfold extV at h
  split at h
  · rw [nthK_eq] at h
    obtain ⟨x, hx, h1⟩ := bd_eq h
    obtain ⟨vs', rfl, hr⟩ := hv.tuple_inv
    obtain ⟨y, hy, hxy⟩ := hr.get hx
    refine ⟨x, y, h1, ?_, hxy⟩
    have hy' : vs'[i]? = some y := by rw [← Array.getElem?_toList]; exact hy
    simp [Instr.extract, hy', Sem.run_pure]
  · cases h

theorem nilck_sound {v u : Value} {k : KV} (hv : VR ρ v u) (h : nilckV v k = some r) : ∃ x y, k x = some r ∧
    (match u with
      | .pointer none | .nilIface | .nilFunc => runtimePanic .nilDeref
      | .func (.method name) first captured =>
        match (first[0]? : Option Value) with
        | some .nilIface => runtimePanic .nilDeref
        | some (.iface t w) => do
          if (← nilAhead ((← program).types.size + Made.depth) t w name) != some false then
            unsupported (.noEntry "op/nilCheck.the method's receiver behind this interface value is a nil pointer, or cannot be seen to be none, and the arguments act or may panic (ledger 612)")
          pure (.value (.func (.method name) first captured))
        | _ => pure (.value (.func (.method name) first captured))
      | x => pure (.value x) : Sem Next).run P w = .ok (.value y) w ∧ VR ρ x y := by
  unfold nilckV at h
  split at h
  · cases hv with
    | sc h => simp [scalar] at h
    | @ptr b o s hs => exact ⟨_, _, h, rfl, .ptr hs⟩
  · cases hv with
    | sc h => simp [scalar] at h
    | func h1 h2 => exact ⟨_, _, h, rfl, .func h1 h2⟩
  · cases h

/-! ### numbers, texts, bools -/
theorem VRs.flat_eq {a a' : List Value} (h : VRs ρ a a') (hs : a.all flat = true) : a' = a := by
  induction a generalizing a' with
  | nil => cases h; rfl
  | cons v a ih =>
    cases h with
    | cons h hr =>
      simp only [List.all_cons, Bool.and_eq_true] at hs
      rw [h.flat_eq hs.1, ih hr hs.2]

theorem flatly_some {vs : List Value} {s : Sem Value} {x : Value} (h : flatly P vs s = some x) : vs.all flat = true ∧ quiet P s = some x ∧ flat x = true := by
  unfold flatly at h
  cases hf : vs.all flat with
  | false => rw [hf] at h; cases h
  | true =>
    rw [hf] at h
    cases hq : quiet P s with
    | none => rw [hq] at h; cases h
    | some v =>
      rw [hq] at h
      cases hv : flat v with
      | false => simp [hv] at h
      | true =>
        simp [hv] at h
        subst h
        exact ⟨rfl, rfl, hv⟩

theorem flatly_sound {vs us : List Value} {s : Sem Value} {k : KV} (hvs : VRs ρ vs us) (h : bd (flatly P vs s) k = some r) : us = vs ∧ ∃ x, k x = some r ∧ s.run P w = .ok x w ∧ VR ρ x x := by
  obtain ⟨x, hx, h1⟩ := bd_eq h
  obtain ⟨hf, hq, hv⟩ := flatly_some hx
  exact ⟨hvs.flat_eq hf, x, h1, quiet_run hq, .of_flat hv⟩

theorem un_sound {op : UnOp} {v u : Value} {k : KV} (hv : VR ρ v u) (h : bd (flatly P [v] (Op.unary op v)) k = some r) : ∃ x y, k x = some r ∧ (Op.unary op u).run P w = .ok y w ∧ VR ρ x y := by
  obtain ⟨e, x, h1, h2, h3⟩ := flatly_sound (w := w) (.cons hv .nil) h
  cases e
  exact ⟨x, x, h1, h2, h3⟩

theorem cvt_sound {s d : TypeId} {v u : Value} {k : KV} (hv : VR ρ v u) (h : bd (flatly P [v] (convert s d v)) k = some r) : ∃ x y, k x = some r ∧ (convert s d u).run P w = .ok y w ∧ VR ρ x y := by
  obtain ⟨e, x, h1, h2, h3⟩ := flatly_sound (w := w) (.cons hv .nil) h
  cases e
  exact ⟨x, x, h1, h2, h3⟩

theorem six_sound {t : TypeId} {v u i j : Value} {k : KV} (hv : VR ρ v u) (hi : VR ρ i j) (h : bd (flatly P [v, i] (Instr.index t v i)) k = some r) : ∃ x y, k x = some r ∧ (Instr.index t u j).run P w = .ok y w ∧ VR ρ x y := by
  obtain ⟨e, x, h1, h2, h3⟩ := flatly_sound (w := w) (.cons hv (.cons hi .nil)) h
  cases e
  exact ⟨x, x, h1, h2, h3⟩

theorem ifc_sound {t : TypeId} {d : TypeDesc} {v u : Value} {k : KV} (hd : P.underlying t = some d) (hn : ∀ ms, d ≠ .interface ms) (hv : VR ρ v u) (h : k (.iface t v) = some r) :
    ∃ x y, k x = some r ∧ (Instr.makeInterface t u).run P w = .ok y w ∧ VR ρ x y := by
  refine ⟨_, _, h, ?_, .iface hv⟩
  simp only [Instr.makeInterface, Sem.run_bind, run_underlying hd, Result.andThen_ok]
  cases d with
  | interface ms => exact absurd rfl (hn ms)
  | _ => rfl

theorem cap_sound {t e ty : TypeId} {v u : Value} {k : KV} (hu : P.underlying t = some (.slice e)) (hv : VR ρ v u) (h : capV v k = some r) : ∃ x y, k x = some r ∧ (Builtin.cap_ #[t] ty #[u]).run P w = .ok y w ∧ VR ρ x y := by
  unfold capV at h
  split at h
  · cases hv with
    | sc h => simp [scalar] at h
    | snil => exact ⟨_, _, h, by simp [Builtin.cap_, run_underlying hu, goInt, Sem.run_pure], .sc rfl⟩
  · obtain ⟨he, h1⟩ := cond_some h
    cases hv with
    | sc h => simp [scalar] at h
    | sl hs hl hsc hx hp =>
      refine ⟨_, _, h1, ?_, .sc rfl⟩
      rw [← hx he]
      simp [Builtin.cap_, run_underlying hu, goInt, Sem.run_pure]
  · cases h

theorem len_sound {t e ty : TypeId} {v u : Value} {k : KV} (hd : P.underlying t = some (.slice e)) (hv : VR ρ v u) (h : lenV v k = some r) :
    ∃ x y, k x = some r ∧ (Builtin.len_ #[t] ty #[u]).run P w = .ok y w ∧ VR ρ x y := by
  unfold lenV at h
  split at h
  · cases hv with
    | sc h => simp [scalar] at h
    | snil => exact ⟨_, _, h, by simp [Builtin.len_, run_underlying hd, goInt, Sem.run_pure], .sc rfl⟩
    | sl hs hl hsc hx hp => exact ⟨_, _, h, by simp [Builtin.len_, run_underlying hd, goInt, Sem.run_pure], .sc rfl⟩
  · cases h

theorem sln_sound {t ty : TypeId} {v u : Value} {k : KV} (hd : P.underlying t = some .string) (hv : VR ρ v u) (h : slnV v k = some r) :
    ∃ x y, k x = some r ∧ (Builtin.len_ #[t] ty #[u]).run P w = .ok y w ∧ VR ρ x y := by
  unfold slnV at h
  split at h
  · have hu := hv.scalar_eq rfl
    subst hu
    exact ⟨_, _, h, by simp [Builtin.len_, run_underlying hd, goInt, Sem.run_pure], .sc rfl⟩
  · cases h
end Go.Eng
/- The engine: operations that read at most, each against the model's: comparisons, sums, what is built. -/
namespace Go.Eng
variable {P : Program} {w : World} {ρ : Rho} {H : Heap} {nx : Nat} {r : Ex × St}

/-! ### nil or not -/
theorem VR.nilOne {v u : Value} {kd : Nat} {b : Bool} (h : VR ρ v u) (hn : nilOne kd v = some b) : Go.Eng.nilOne kd u = some b := by
  cases h with
  | sc h => exact hn
  | nilI => exact hn
  | pnil => exact hn
  | snil => exact hn
  | mnil => exact hn
  | any h =>
    unfold Go.Eng.nilOne at hn
    split at hn <;> simp_all
  | ptr h =>
    unfold Go.Eng.nilOne at hn ⊢
    split at hn <;> simp_all
  | sl h hl hs he hp =>
    unfold Go.Eng.nilOne at hn ⊢
    split at hn <;> simp_all
  | map h =>
    unfold Go.Eng.nilOne at hn ⊢
    split at hn <;> simp_all
  | func h h' =>
    unfold Go.Eng.nilOne at hn ⊢
    split at hn <;> simp_all
  | iface h =>
    unfold Go.Eng.nilOne at hn ⊢
    split at hn <;> simp_all
  | agg h =>
    unfold Go.Eng.nilOne at hn ⊢
    split at hn <;> simp_all
  | tuple h =>
    unfold Go.Eng.nilOne at hn ⊢
    split at hn <;> simp_all

def kdFits : Nat → TypeDesc → Bool
  | 0, .pointer _ | 1, .slice _ | 2, .map _ _ | 3, .func _ _ _ | 4, .interface _ => true
  | _, _ => false

theorem equalIn_nil (n : Nat) {t : TypeId} {d : TypeDesc} {kd : Nat} {u v : Value} {a b : Bool} (hd : P.underlying t = some d) (hk : kdFits kd d = true) (ha : nilOne kd u = some a) (hb : nilOne kd v = some b) (hab : (a || b) = true) :
    (Op.equalIn (n + 1) t u v).run P w = .ok (a && b) w := by
  simp only [Op.equalIn, Sem.run_bind, run_underlying hd, Result.andThen_ok]
  unfold kdFits at hk
  split at hk
  all_goals first
    | cases hk; done
    | (unfold nilOne at ha hb
       split at ha <;> (try contradiction) <;> (try omega) <;> split at hb <;> (try contradiction) <;> (try omega) <;> simp at ha hb <;> subst ha <;> subst hb <;> first | (simp at hab; done) | rfl)

theorem equal_nil {t : TypeId} {d : TypeDesc} {kd : Nat} {u v : Value} {a b : Bool} (hd : P.underlying t = some d) (hk : kdFits kd d = true) (ha : nilOne kd u = some a) (hb : nilOne kd v = some b) (hab : (a || b) = true) :
    (Op.equal t u v).run P w = .ok (a && b) w := equalIn_nil 9999 hd hk ha hb hab

theorem isnil_sound {op : BinOp} {t : TypeId} {d : TypeDesc} {kd : Nat} {x y : Operand} {v u v' u' : Value} {k : KV} (ho : op = .eql ∨ op = .neq) (hd : P.underlying t = some d) (hk : kdFits kd d = true)
    (hc : kd = 4 → (isConstOp x || isConstOp y) = true)
    (hv : VR ρ v u) (hv' : VR ρ v' u') (h : isnilV (isNeq op) kd v v' k = some r) :
    ∃ z q, k z = some r ∧ (do eqGuard op t x y u u'; binOp op t u u' : Sem Value).run P w = .ok q w ∧ VR ρ z q := by
  unfold isnilV at h
  obtain ⟨a, ha, h1⟩ := bd_eq h
  obtain ⟨b, hb, h2⟩ := bd_eq h1
  obtain ⟨hab, h3⟩ := cond_some h2
  have ha' := hv.nilOne ha
  have hb' := hv'.nilOne hb
  have he := equal_nil (w := w) hd hk ha' hb' hab
  refine ⟨_, _, h3, ?_, .sc rfl⟩
  have hg : (eqGuard op t x y u u').run P w = .ok () w := by
    unfold nilOne at ha' hb'
    split at ha' <;> split at hb' <;> (try contradiction) <;> rcases ho with rfl | rfl <;> simp [eqGuard, Sem.run_pure] <;>
      (intro hx hy; have := hc rfl; cases x <;> cases y <;> simp_all [isConstOp])
  have hb2 : (binOp op t u u').run P w = .ok (.bool (xor (isNeq op) (a && b))) w := by
    rcases ho with rfl | rfl
    · have : binOp .eql t u u' = (do pure (.bool (← Op.equal t u u'))) := by
        unfold nilOne at ha' hb'
        split at ha' <;> split at hb' <;> (try contradiction) <;> rfl
      rw [this]
      simp [he, Sem.run_pure, isNeq]
    · have : binOp .neq t u u' = (do pure (.bool (!(← Op.equal t u u')))) := by
        unfold nilOne at ha' hb'
        split at ha' <;> split at hb' <;> (try contradiction) <;> rfl
      rw [this]
      simp only [Sem.run_bind, he, Result.andThen_ok, isNeq]
      cases a <;> cases b <;> rfl
  simp only [Sem.run_bind, hg, Result.andThen_ok, hb2]

/-! ### sums and comparisons -/
theorem eqGuard_flat (op : BinOp) (t : TypeId) (x y x' y' : Operand) {u v : Value} (hu : flat u = true) : eqGuard op t x y u v = eqGuard op t x' y' u v := by
  unfold eqGuard
  cases u <;> cases v <;> first | rfl | (simp [flat, scalar] at hu)

theorem slow_sound {op : BinOp} {t : TypeId} {x y : Operand} {v u v' u' q : Value} (hv : VR ρ v u) (hv' : VR ρ v' u') (h : slow P op t v v' = some q) :
    (do eqGuard op t x y u u'; binOp op t u u' : Sem Value).run P w = .ok q w ∧ VR ρ q q := by
  unfold slow at h
  cases hf : flat v && flat v' with
  | false => rw [hf] at h; cases h
  | true =>
    rw [hf] at h
    simp only [Bool.and_eq_true] at hf
    have e := hv.flat_eq hf.1
    have e' := hv'.flat_eq hf.2
    subst e; subst e'
    cases hq : quiet P (do eqGuard op t (.const u) (.const u') u u'; binOp op t u u') with
    | none => rw [hq] at h; cases h
    | some z =>
      rw [hq] at h
      cases hz : flat z with
      | false => simp [hz] at h
      | true =>
        simp [hz] at h
        subst h
        rw [eqGuard_flat op t x y (.const u) (.const u') hf.1]
        exact ⟨quiet_run hq, .of_flat hz⟩

theorem wrap_small {n : Nat} (h : n < 2147483648) : IntKind.i64.wrap (Int.ofNat n) = Int.ofNat n := by
  unfold IntKind.wrap IntKind.bits IntKind.signed
  simp only [Int.ofNat_eq_natCast]
  have h1 : (n : Int) % (2 ^ 64 : Int) = n := by omega
  simp only [h1]
  rw [if_neg]
  simp
  omega

theorem beq_nat (a b : Nat) : (Int.ofNat a == Int.ofNat b) = Nat.beq a b := by
  rw [Bool.eq_iff_iff]
  simp [Nat.beq_eq]
  omega
theorem bne_nat (a b : Nat) : (Int.ofNat a != Int.ofNat b) = !Nat.beq a b := by rw [bne, beq_nat]
theorem blt_nat (a b : Nat) : decide (Int.ofNat a < Int.ofNat b) = Nat.blt a b := by
  rw [Bool.eq_iff_iff]
  simp [Nat.blt_eq]
theorem ble_nat (a b : Nat) : decide (Int.ofNat a ≤ Int.ofNat b) = Nat.ble a b := by
  rw [Bool.eq_iff_iff]
  simp [Nat.ble_eq]

theorem fast_sound {op : BinOp} {t : TypeId} {x y : Operand} {v v' q : Value} (h : fast op v v' = some q) :
    (do eqGuard op t x y v v'; binOp op t v v' : Sem Value).run P w = .ok q w ∧ scalar q = true ∧ scalar v = true ∧ scalar v' = true := by
  unfold fast at h
  split at h
  · rename_i a b
    have hg : eqGuard op t x y (.int .i64 (.ofNat a)) (.int .i64 (.ofNat b)) = pure () := by cases op <;> rfl
    rw [hg]
    unfold fastBin at h
    split at h
    · cases hc : Nat.blt (Nat.add a b) 2147483648 with
      | false => rw [hc] at h; cases h
      | true =>
        rw [hc] at h; simp at h; subst h
        have hlt : a + b < 2147483648 := by simpa [Nat.blt_eq] using hc
        have := wrap_small hlt
        refine ⟨?_, rfl, rfl, rfl⟩
        simp [binOp, Op.intArith, Sem.run_pure]
        simpa using this
    · cases hc : Nat.ble b a with
      | false => rw [hc] at h; cases h
      | true =>
        rw [hc] at h
        cases hd : Nat.blt a 2147483648 with
        | false => rw [hd] at h; cases h
        | true =>
          rw [hd] at h; simp at h; subst h
          have hle : b ≤ a := by simpa [Nat.ble_eq] using hc
          have hlt : a < 2147483648 := by simpa [Nat.blt_eq] using hd
          have := wrap_small (n := a - b) (by omega)
          refine ⟨?_, rfl, rfl, rfl⟩
          simp [binOp, Op.intArith, Sem.run_pure]
          rw [← Int.ofNat_sub hle]
          simpa using this
    · cases hc : Nat.blt (Nat.mul a b) 2147483648 with
      | false => rw [hc] at h; cases h
      | true =>
        rw [hc] at h; simp at h; subst h
        have hlt : a * b < 2147483648 := by simpa [Nat.blt_eq] using hc
        have := wrap_small hlt
        refine ⟨?_, rfl, rfl, rfl⟩
        simp [binOp, Op.intArith, Sem.run_pure]
        simpa using this
    · cases h; exact ⟨by rw [← beq_nat]; rfl, rfl, rfl, rfl⟩
    · cases h; exact ⟨by rw [← bne_nat]; rfl, rfl, rfl, rfl⟩
    · cases h; exact ⟨by rw [← blt_nat]; rfl, rfl, rfl, rfl⟩
    · cases h; exact ⟨by rw [← ble_nat]; rfl, rfl, rfl, rfl⟩
    · cases h; exact ⟨by rw [← blt_nat]; rfl, rfl, rfl, rfl⟩
    · cases h; exact ⟨by rw [← ble_nat]; rfl, rfl, rfl, rfl⟩
    · cases h
  · rename_i a b
    have hg : eqGuard op t x y (.int .i64 (.ofNat a)) (.int .i64 (.negSucc b)) = pure () := by cases op <;> rfl
    rw [hg]
    unfold fastNeg at h
    split at h
    · cases h; exact ⟨rfl, rfl, rfl, rfl⟩
    · cases h; exact ⟨rfl, rfl, rfl, rfl⟩
    · cases h
  · rename_i a b
    have hg : eqGuard op t x y (.int .i64 (.negSucc a)) (.int .i64 (.ofNat b)) = pure () := by cases op <;> rfl
    rw [hg]
    unfold fastNeg at h
    split at h
    · cases h; exact ⟨rfl, rfl, rfl, rfl⟩
    · cases h; exact ⟨rfl, rfl, rfl, rfl⟩
    · cases h
  · cases h

theorem bin_sound {op : BinOp} {t : TypeId} {x y : Operand} {v u v' u' : Value} {k : KV} (hv : VR ρ v u) (hv' : VR ρ v' u') (h : binV P op t v v' k = some r) :
    ∃ z q, k z = some r ∧ (do eqGuard op t x y u u'; binOp op t u u' : Sem Value).run P w = .ok q w ∧ VR ρ z q := by
  unfold binV at h
  cases hf : fast op v v' with
  | some q =>
    rw [hf] at h
    obtain ⟨h1, h2, h3, h4⟩ := fast_sound (P := P) (w := w) (t := t) (x := x) (y := y) hf
    have e := hv.scalar_eq h3
    have e' := hv'.scalar_eq h4
    subst e; subst e'
    exact ⟨q, q, h, h1, .sc h2⟩
  | none =>
    rw [hf] at h
    obtain ⟨q, hq, h1⟩ := bd_eq h
    obtain ⟨h2, h3⟩ := slow_sound (w := w) (x := x) (y := y) hv hv' hq
    exact ⟨q, q, h1, h2, h3⟩
end Go.Eng
/- The engine: operations that read at most, each against the model's: what is built, slices, maps. -/
namespace Go.Eng
variable {P : Program} {w : World} {ρ : Rho} {H : Heap} {nx : Nat} {r : Ex × St}

/-! ### constants -/
theorem VR.of_scalarC {v : Value} (h : scalarC v = true) : VR ρ v v := by
  unfold scalarC at h
  split at h
  · exact .sc rfl
  · exact .sc rfl
  · exact .sc rfl
  · exact .sc rfl
  · exact .sc rfl
  · exact .sc rfl
  · exact .nilI
  · exact .pnil
  · exact .snil
  · exact .mnil
  · cases h

theorem VRs.of_scalarC {a : List Value} (h : a.all scalarC = true) : VRs ρ a a := by
  induction a with
  | nil => exact .nil
  | cons v a ih =>
    simp only [List.all_cons, Bool.and_eq_true] at h
    exact .cons (.of_scalarC h.1) (ih h.2)

theorem VR.of_const {v : Value} (h : constOk v = true) : VR ρ v v := by
  unfold constOk at h
  split at h
  · exact .agg (.of_scalarC h)
  · exact .of_scalarC h

theorem VR.cells {v u : Value} (h : VR ρ v u) : VRs ρ (cellsOf v) u.cells.toList := by
  cases h with
  | agg h => exact h
  | sc h => cases v <;> first | exact .cons (.sc h) .nil | (simp [scalar] at h)
  | nilI => exact .cons .nilI .nil
  | pnil => exact .cons .pnil .nil
  | ptr h => exact .cons (.ptr h) .nil
  | snil => exact .cons .snil .nil
  | sl h1 h2 h3 h4 h5 => exact .cons (.sl h1 h2 h3 h4 h5) .nil
  | mnil => exact .cons .mnil .nil
  | map h => exact .cons (.map h) .nil
  | func h h' => exact .cons (.func h h') .nil
  | iface h => exact .cons (.iface h) .nil
  | tuple h => exact .cons (.tuple h) .nil
  | any h => cases u <;> first | exact .cons (.any h) .nil | (simp [anyOne] at h)

theorem zeroCells_of {t : TypeId} {z : Value} {l : List Value} (h : zeroCells P t = some l) (hz : zeroVal P t = some z) : l = z.cells.toList ∧ VRs ρ l l := by
  unfold zeroCells at h
  rw [hz] at h
  simp at h
  subst h
  obtain ⟨h1, h2⟩ := run_zero (w := default) hz
  have e : cellsC z = z.cells.toList := by cases z <;> rfl
  have e2 : cellsC z = cellsOf z := by cases z <;> rfl
  refine ⟨e, ?_⟩
  have := (VR.of_const (ρ := ρ) h2).cells
  rw [← e] at this
  rw [← e2] at this
  exact this

theorem zeroCells_some {t : TypeId} {l : List Value} (h : zeroCells P t = some l) : ∃ z, zeroVal P t = some z ∧ l = z.cells.toList := by
  have h0 := h
  unfold zeroCells at h
  cases hz : zeroVal P t with
  | none => rw [hz] at h; cases h
  | some z => exact ⟨z, rfl, (zeroCells_of (ρ := fun _ => none) h0 hz).1⟩

/-! ### type assertions -/
theorem tas_sound {t xt : TypeId} {d : TypeDesc} {z : Value} {ok : Bool} {v u : Value} {k : KV} (hd : P.underlying t = some d) (hn : ∀ ms, d ≠ .interface ms) (hz : zeroVal P t = some z) (hv : VR ρ v u)
    (h : tasV t z ok k v = some r) : ∃ x y, k x = some r ∧ (Instr.typeAssert u xt t ok).run P w = .ok y w ∧ VR ρ x y := by
  obtain ⟨hz1, hz2⟩ := run_zero (w := w) hz
  have hzr : VR ρ (.tuple #[z, .bool false]) (.tuple #[z, .bool false]) := .tuple (.cons (.of_const hz2) (.cons (.sc rfl) .nil))
  unfold tasV at h
  split at h
  · cases ok with
    | false => cases h
    | true =>
      cases hv with
      | sc h => simp [scalar] at h
      | nilI =>
        refine ⟨_, .tuple #[z, .bool false], h, ?_, hzr⟩
        simp only [Instr.typeAssert, Sem.run_bind, run_underlying hd, Result.andThen_ok]
        cases d with
        | interface ms => exact absurd rfl (hn ms)
        | _ => simp [hz1, Sem.run_pure]
  · rename_i t' v'
    cases hv with
    | sc h => simp [scalar] at h
    | @iface _ _ u' hv' =>
      cases he : Nat.beq t' t with
      | true =>
        rw [he] at h
        have he' : t' = t := Nat.eq_of_beq_eq_true he
        subst he'
        cases ok with
        | true =>
          refine ⟨_, .tuple #[u', .bool true], h, ?_, .tuple (.cons hv' (.cons (.sc rfl) .nil))⟩
          simp only [Instr.typeAssert, Sem.run_bind, run_underlying hd, Result.andThen_ok]
          cases d with
          | interface ms => exact absurd rfl (hn ms)
          | _ => simp [Sem.run_pure]
        | false =>
          refine ⟨_, u', h, ?_, hv'⟩
          simp only [Instr.typeAssert, Sem.run_bind, run_underlying hd, Result.andThen_ok]
          cases d with
          | interface ms => exact absurd rfl (hn ms)
          | _ => simp [Sem.run_pure]
      | false =>
        rw [he] at h
        have he' : t' ≠ t := Nat.ne_of_beq_eq_false he
        cases ok with
        | false => cases h
        | true =>
          refine ⟨_, .tuple #[z, .bool false], h, ?_, hzr⟩
          simp only [Instr.typeAssert, Sem.run_bind, run_underlying hd, Result.andThen_ok]
          cases d with
          | interface ms => exact absurd rfl (hn ms)
          | _ => simp [hz1, Sem.run_pure, he']
  · cases h

/-! ### what is built -/
theorem overAll_get : ∀ (vs cs r : List Value), overAll cs vs = some r → r.length = cs.length ∧ vs.length ≤ cs.length ∧ ∀ i, r[i]? = if i < vs.length then vs[i]? else cs[i]? := by
  intro vs
  induction vs with
  | nil => intro cs r h; cases cs <;> (simp [overAll] at h; subst h; simp)
  | cons v vs ih =>
    intro cs r h
    cases cs with
    | nil => simp [overAll] at h
    | cons c cs =>
      unfold overAll at h
      cases e : overAll cs vs with
      | none => simp [e] at h
      | some q =>
        simp [e] at h
        subst h
        obtain ⟨h1, h2, h3⟩ := ih cs q e
        refine ⟨by simp [h1], by simp; omega, fun i => ?_⟩
        cases i with
        | zero => simp
        | succ i => simp [h3 i]

theorem over_get : ∀ (o : Nat) (cs vs r : List Value), over cs o vs = some r → r.length = cs.length ∧ o + vs.length ≤ cs.length ∧ ∀ i, r[i]? = if o ≤ i ∧ i < o + vs.length then vs[i - o]? else cs[i]? := by
  intro o
  induction o with
  | zero =>
    intro cs vs r h
    obtain ⟨h1, h2, h3⟩ := overAll_get vs cs r h
    exact ⟨h1, by omega, fun i => by rw [h3 i]; simp⟩
  | succ o ih =>
    intro cs vs r h
    cases cs with
    | nil => cases h
    | cons c cs =>
      have h' : (Option.rec none (fun r => some (c :: r)) (over cs o vs) : Option (List Value)) = some r := h
      cases e : over cs o vs with
      | none => rw [e] at h'; cases h'
      | some q =>
        rw [e] at h'
        have h'' : some (c :: q) = some r := h'
        cases h''
        obtain ⟨h1, h2, h3⟩ := ih cs vs q e
        refine ⟨by simp [h1], by simp; omega, fun i => ?_⟩
        cases i with
        | zero => simp
        | succ i =>
          simp only [List.getElem?_cons_succ, h3 i]
          have : (o + 1 ≤ i + 1 ∧ i + 1 < o + 1 + vs.length) ↔ (o ≤ i ∧ i < o + vs.length) := by omega
          simp only [this]
          congr 2
          omega

/-- cells put over cells, as the model does it -/
theorem foldl_put (off : Nat) : ∀ (l : List Value) (n : Nat) (a : Array Value), off + n + l.length ≤ a.size →
    ((l.zipIdx n).foldl (fun cs (x : Value × Nat) => cs.setIfInBounds (off + x.2) x.1) a).size = a.size ∧
    ∀ i : Nat, ((l.zipIdx n).foldl (fun cs (x : Value × Nat) => cs.setIfInBounds (off + x.2) x.1) a)[i]? = if off + n ≤ i ∧ i < off + n + l.length then l[i - (off + n)]? else a[i]? := by
  intro l
  induction l with
  | nil => intro n a _; refine ⟨rfl, fun i => ?_⟩; rw [if_neg (by simp)]; rfl
  | cons v l ih =>
    intro n a hl
    simp only [List.zipIdx_cons, List.foldl_cons, List.length_cons] at hl ⊢
    obtain ⟨h1, h2⟩ := ih (n + 1) (a.setIfInBounds (off + n) v) (by simp; omega)
    refine ⟨by rw [h1]; simp, fun i => ?_⟩
    rw [h2 i]
    by_cases c1 : off + (n + 1) ≤ i ∧ i < off + (n + 1) + l.length
    · rw [if_pos c1, if_pos (by omega)]
      have : i - (off + n) = (i - (off + (n + 1))) + 1 := by omega
      rw [this, List.getElem?_cons_succ]
    · rw [if_neg c1, Array.getElem?_setIfInBounds]
      by_cases c2 : off + n = i
      · subst c2
        rw [if_pos rfl, if_pos (by omega), if_pos (by omega)]
        simp
      · rw [if_neg c2, if_neg (by omega)]

theorem fill_sound (place : Nat → Option (Nat × Nat)) : ∀ (ps : List (Nat × Nat × Value)) (qs : List (Nat × Value)) (a r : List Value) (b : Array Value),
    ps.length = qs.length → (∀ (i : Nat) (p : Nat × Nat × Value) (q : Nat × Value), ps[i]? = some p → qs[i]? = some q → place q.1 = some (p.1, p.2.1) ∧ VR ρ p.2.2 q.2) → VRs ρ a b.toList → fillIn a ps = some r →
    ∃ c, Instr.fill place b qs = some c ∧ VRs ρ r c.toList := by
  intro ps
  induction ps with
  | nil =>
    intro qs a r b hl _ hr h
    cases qs with
    | nil => simp [fillIn] at h; subst h; exact ⟨b, rfl, hr⟩
    | cons => simp at hl
  | cons p ps ih =>
    intro qs a r b hl hp hr h
    cases qs with
    | nil => simp at hl
    | cons q qs =>
      obtain ⟨off, size, v⟩ := p
      obtain ⟨i, u⟩ := q
      obtain ⟨h1, h2⟩ := hp 0 _ _ rfl rfl
      simp only at h1 h2
      unfold fillIn at h
      cases hs : Nat.beq (cellsOf v).length size with
      | false => rw [hs] at h; cases h
      | true =>
        rw [hs] at h
        have hs' := Nat.eq_of_beq_eq_true hs
        simp only [cond_true] at h
        cases ho : over a off (cellsOf v) with
        | none => simp [ho] at h
        | some a1 =>
          simp [ho] at h
          obtain ⟨o1, o2, o3⟩ := over_get off a (cellsOf v) a1 ho
          have hc := h2.cells
          have hcl := hc.length
          have hal := hr.length
          have hsz : u.cells.size = size := by rw [← hs', ← hcl]; simp
          have hbs : b.size = a.length := by simpa using hal
          obtain ⟨f1, f2⟩ := foldl_put off u.cells.toList 0 b (by simp only [Array.length_toList]; omega)
          have hfold : u.cells.zipIdx.foldl (fun cs (x : Value × Nat) => cs.setIfInBounds (off + x.2) x.1) b = (u.cells.toList.zipIdx 0).foldl (fun cs (x : Value × Nat) => cs.setIfInBounds (off + x.2) x.1) b := by
            rw [← Array.foldl_toList, Array.toList_zipIdx]
          obtain ⟨c, c1, c2⟩ := ih qs a1 r ((u.cells.toList.zipIdx 0).foldl (fun cs (x : Value × Nat) => cs.setIfInBounds (off + x.2) x.1) b) (by simpa using hl) (fun j x y hx hy => hp (j + 1) x y (by simpa using hx) (by simpa using hy)) (by
            refine .of_get (by simp only [Array.length_toList]; omega) fun j x hx => ?_
            rw [o3 j] at hx
            simp only [Array.getElem?_toList]
            rw [f2 j]
            simp only [Nat.add_zero, Array.length_toList] at hcl ⊢
            by_cases cc : off ≤ j ∧ j < off + (cellsOf v).length
            · rw [if_pos cc] at hx
              rw [if_pos (by omega)]
              exact hc.get hx
            · rw [if_neg cc] at hx
              rw [if_neg (by omega)]
              obtain ⟨y, hy, hxy⟩ := hr.get hx
              exact ⟨y, by simpa using hy, hxy⟩) h
          refine ⟨c, ?_, c2⟩
          have hng : ¬ (u.cells.size ≠ size ∨ off + u.cells.size > b.size) := by omega
          unfold Instr.fill
          simp only [h1]
          rw [if_neg (by simpa using hng), hfold]
          exact c1
theorem bld_sound_struct {t : TypeId} {fs : Array Field} {zero : List Value} {xs : List (Nat × Operand)} {pl : List (Nat × Nat × Operand)} {ps : List (Nat × Nat × Value)} {qs : List (Nat × Value)} {cs : List Value}
    (hu : P.underlying t = some (.struct fs)) (hz : zeroCells P t = some zero) (hpl : placesS P fs.toList xs = some pl)
    (hl : ps.length = qs.length) (hps : ∀ (i : Nat) (p : Nat × Nat × Value) (q : Nat × Value), ps[i]? = some p → qs[i]? = some q → ∃ f s, fs.toList[q.1]? = some f ∧ sizeAt P f.type = some s ∧ p.1 = f.offset ∧ p.2.1 = s ∧ VR ρ p.2.2 q.2)
    (hsz : ∀ (i : Nat) (f : Field), fs.toList[i]? = some f → ∃ s, sizeAt P f.type = some s)
    (h : fillIn zero ps = some cs) : ∃ y, (Instr.build t qs.toArray).run P w = .ok y w ∧ VR ρ (.agg cs.toArray) y := by
  obtain ⟨z, hz1, hz2⟩ := zeroCells_some hz
  have hzr := (zeroCells_of (ρ := ρ) hz hz1).2
  obtain ⟨hzr1, _⟩ := run_zero (w := w) hz1
  have hpm : ∀ (l : List Field), (∀ (i : Nat) (f : Field), l[i]? = some f → ∃ s, sizeAt P f.type = some s) → ∃ m : List (Nat × Nat), (l.mapM (m := Sem) fun f => do pure (f.offset, ← sizeOf f.type)).run P w = .ok m w ∧ m.length = l.length ∧
      ∀ (i : Nat) (f : Field) (s : Nat), l[i]? = some f → sizeAt P f.type = some s → m[i]? = some (f.offset, s) := by
    intro l
    induction l with
    | nil => intro _; exact ⟨[], rfl, rfl, fun i f s hf => by simp at hf⟩
    | cons f l ih =>
      intro hl
      obtain ⟨s, hs⟩ := hl 0 f rfl
      obtain ⟨m, h1, h2, h3⟩ := ih fun i g hg => hl (i + 1) g (by simpa using hg)
      refine ⟨(f.offset, s) :: m, ?_, by simp [h2], fun i g s' hg hs' => ?_⟩
      · rw [List.mapM_cons]
        simp only [Sem.run_bind, run_size hs, Result.andThen_ok, Sem.run_pure, h1]
      · cases i with
        | zero => simp at hg; subst hg; rw [hs] at hs'; cases hs'; rfl
        | succ i => simpa using h3 i g s' (by simpa using hg) hs'
  obtain ⟨m, h1, h2, h3⟩ := hpm fs.toList hsz
  obtain ⟨c, hc1, hc2⟩ := fill_sound (ρ := ρ) (fun i => (m.toArray)[i]?) ps qs zero cs z.cells hl (fun i p q hp hq => by
    obtain ⟨f, s, g1, g2, g3, g4, g5⟩ := hps i p q hp hq
    refine ⟨?_, g5⟩
    rw [g3, g4]
    simpa using h3 _ f s g1 g2) (by rw [← hz2]; exact hzr) h
  refine ⟨.agg c, ?_, .agg hc2⟩
  have hm : (fs.mapM (m := Sem) fun f => do pure (f.offset, ← sizeOf f.type)).run P w = .ok m.toArray w := by
    rw [Array.mapM_eq_mapM_toList]
    rw [map_eq_pure_bind]
    simp only [Sem.run_bind, h1, Result.andThen_ok, Sem.run_pure]
  simp only [Instr.build, Sem.run_bind, hzr1, Result.andThen_ok, run_underlying hu, hm, hc1]
  rfl

theorem bld_sound_array {t e : TypeId} {n z : Nat} {zero : List Value} {ps : List (Nat × Nat × Value)} {qs : List (Nat × Value)} {cs : List Value}
    (hu : P.underlying t = some (.array n e)) (hz : zeroCells P t = some zero) (hs : sizeAt P e = some z)
    (hl : ps.length = qs.length) (hps : ∀ (i : Nat) (p : Nat × Nat × Value) (q : Nat × Value), ps[i]? = some p → qs[i]? = some q → p.1 = q.1 * z ∧ p.2.1 = z ∧ VR ρ p.2.2 q.2)
    (h : fillIn zero ps = some cs) : ∃ y, (Instr.build t qs.toArray).run P w = .ok y w ∧ VR ρ (.agg cs.toArray) y := by
  obtain ⟨v, hz1, hz2⟩ := zeroCells_some hz
  have hzr := (zeroCells_of (ρ := ρ) hz hz1).2
  obtain ⟨hzr1, _⟩ := run_zero (w := w) hz1
  obtain ⟨c, hc1, hc2⟩ := fill_sound (ρ := ρ) (fun i => some (i * z, z)) ps qs zero cs v.cells hl (fun i p q hp hq => by
    obtain ⟨g1, g2, g3⟩ := hps i p q hp hq
    exact ⟨by rw [g1, g2], g3⟩) (by rw [← hz2]; exact hzr) h
  refine ⟨.agg c, ?_, .agg hc2⟩
  simp only [Instr.build, Sem.run_bind, hzr1, Result.andThen_ok, run_underlying hu, run_size hs, hc1]
  rfl
end Go.Eng
/- The engine: operations that read at most, each against the model's: slices, maps. -/
namespace Go.Eng
variable {P : Program} {w : World} {ρ : Rho} {H : Heap} {nx : Nat} {r : Ex × St}

/-! ### slices of slices -/
inductive OR (ρ : Rho) : Option Value → Option Value → Prop where
  | no : OR ρ none none
  | one {v u : Value} (h : VR ρ v u) : OR ρ (some v) (some u)

theorem OR.nat {k : IntKind} {n : Nat} {x : Option Value} (h : OR ρ (some (.int k (.ofNat n))) x) : x = some (.int k (.ofNat n)) := by
  cases h with
  | one h => rw [h.int_inv]

theorem bound_run {k : IntKind} {n y : Nat} {c : BoundsCode} (h : n ≤ y) : (Instr.sliceBound (.int k (.ofNat n)) y c).run P w = .ok n w := by
  have : (n : Int) ≤ y := by omega
  simp [Instr.sliceBound, asIntOf, Sem.run_pure, this]

theorem bound_run' {k : IntKind} {n y : Nat} {c : BoundsCode} (h : n ≤ y) : (Instr.sliceBound (.int k (n : Int)) y c).run P w = .ok n w := bound_run h

theorem bounds_run (b : Bool) {len cap l h m : Nat} {lo hi mx : Option Value} (hlo : (lo = none ∧ l = 0) ∨ ∃ ki : IntKind, lo = some (.int ki (.ofNat l)))
    (hhi : (hi = none ∧ mx = none ∧ h = len) ∨ ∃ ki : IntKind, hi = some (.int ki (.ofNat h))) (hmx : (mx = none ∧ m = cap) ∨ ∃ ki : IntKind, mx = some (.int ki (.ofNat m)) ∧ m ≤ cap)
    (h1 : l ≤ h) (h2 : h ≤ m) : (Instr.sliceBounds b len cap lo hi mx).run P w = .ok (l, h, m) w := by
  unfold Instr.sliceBounds
  rcases hmx with ⟨rfl, rfl⟩ | ⟨k3, rfl, hm⟩
  · rcases hhi with ⟨rfl, _, rfl⟩ | ⟨k2, rfl⟩
    · rcases hlo with ⟨rfl, rfl⟩ | ⟨k1, rfl⟩
      · simp [Sem.run_pure]
      · simp [Sem.run_pure, bound_run' h1]
    · rcases hlo with ⟨rfl, rfl⟩ | ⟨k1, rfl⟩
      · simp [Sem.run_pure, bound_run' h2]
      · simp [Sem.run_pure, bound_run' h1, bound_run' h2]
  · rcases hhi with ⟨_, hh, _⟩ | ⟨k2, rfl⟩
    · cases hh
    · rcases hlo with ⟨rfl, rfl⟩ | ⟨k1, rfl⟩
      · simp [Sem.run_pure, bound_run' h2, bound_run' hm]
      · simp [Sem.run_pure, bound_run' h1, bound_run' h2, bound_run' hm]

theorem optK_cst {T : Tr Value} {L : List Value} {x : Option Value} {d : Nat} {k : Nat → R0} (h : optK T L (x.map Od.cst) d k = some r) :
    ∃ n, k n = some r ∧ ((x = none ∧ n = d) ∨ ∃ ki : IntKind, x = some (.int ki (.ofNat n))) := by
  cases x with
  | none => exact ⟨d, h, .inl ⟨rfl, rfl⟩⟩
  | some v =>
    have h' : onNat v k = some r := h
    obtain ⟨ki, n, rfl, h1⟩ := onNat_some h'
    exact ⟨n, h1, .inr ⟨ki, rfl⟩⟩

theorem optI {x x' : Option Value} {n d : Nat} (hr : OR ρ x x') (h : (x = none ∧ n = d) ∨ ∃ ki : IntKind, x = some (.int ki (.ofNat n))) : (x' = none ∧ n = d) ∨ ∃ ki : IntKind, x' = some (.int ki (.ofNat n)) := by
  rcases h with ⟨rfl, rfl⟩ | ⟨ki, rfl⟩
  · cases hr; exact .inl ⟨rfl, rfl⟩
  · exact .inr ⟨ki, hr.nat⟩

theorem sureCap_sub (c l : Nat) : sureCap (Nat.sub c (Nat.mul 2 l)) = sureCap c - l := by
  show (c - 2 * l) / 2 = c / 2 - l
  omega
theorem exact_iff (c : Nat) : exact c = true ↔ c % 2 = 1 := by
  unfold exact
  rw [Nat.beq_eq]
  exact Iff.rfl
theorem sureCap_eq (c : Nat) : sureCap c = c / 2 := rfl

theorem slice_run {t e : TypeId} {z len c' l h m p b : Nat} {lo hi mx : Option Value} (hu : P.underlying t = some (.slice e)) (hz : sizeAt P e = some z)
    (hb : (Instr.sliceBounds true len c' lo hi mx).run P w = .ok (l, h, m) w) :
    (Instr.sliceAt t (.slice (some ⟨b, p, none⟩) len c') lo hi mx).run P w = .ok (.slice (some (if m = l then ⟨b, p, none⟩ else ⟨b, p + l * z, none⟩)) (h - l) (m - l)) w := by
  simp only [Instr.sliceAt, Instr.slice, Sem.run_bind, run_underlying hu, Result.andThen_ok, hb, run_size hz, Sem.run_pure]
  by_cases e : m = l
  · simp [e]
  · simp [e, Addr.add_lit]

theorem slc_sound {T : Tr Value} {L : List Value} {t e : TypeId} {z : Nat} {v u : Value} {lo hi mx lo' hi' mx' : Option Value} {k : KV} (hu : P.underlying t = some (.slice e)) (hz : sizeAt P e = some z)
    (hm : (mx.isNone || hi.isSome) = true) (hv : VR ρ v u) (hlo : OR ρ lo lo') (hhi : OR ρ hi hi') (hmx : OR ρ mx mx')
    (h : slcV T L (lo.map Od.cst) (hi.map Od.cst) (mx.map Od.cst) z k v = some r) : ∃ x y, k x = some r ∧ (Instr.sliceAt t u lo' hi' mx').run P w = .ok y w ∧ VR ρ x y := by
  unfold slcV at h
  split at h
  · -- nil
    obtain ⟨l, h1, hl⟩ := optK_cst h
    obtain ⟨g, h2, hg⟩ := optK_cst h1
    obtain ⟨hc, h3⟩ := cond_some h2
    simp only [Bool.and_eq_true] at hc
    obtain ⟨c1, c2, c3⟩ := hc
    have el : l = 0 := Nat.eq_of_beq_eq_true c1
    have eg : g = 0 := Nat.eq_of_beq_eq_true c2
    subst el; subst eg
    have hmn : mx = none := by cases mx <;> simp at c3 ⊢
    subst hmn
    cases hmx
    cases hv with
    | sc h => simp [scalar] at h
    | snil =>
      have hb := bounds_run (P := P) (w := w) true (len := 0) (cap := 0) (m := 0) (optI hlo hl) (by
        rcases optI hhi hg with ⟨e, _⟩ | hk
        · exact .inl ⟨e, rfl, rfl⟩
        · exact .inr hk) (.inl ⟨rfl, rfl⟩) (Nat.le_refl _) (Nat.le_refl _)
      refine ⟨_, _, h3, ?_, .snil⟩
      simp only [Instr.sliceAt, Instr.slice, Sem.run_bind, run_underlying hu, Result.andThen_ok, hb, run_size hz, Sem.run_pure]
      rfl
  · rename_i b o z' len c
    obtain ⟨l, h1, hl⟩ := optK_cst h
    obtain ⟨g, h2, hg⟩ := optK_cst h1
    obtain ⟨hc, h3⟩ := cond_some h2
    simp only [Bool.and_eq_true] at hc
    obtain ⟨c1, c2, c3⟩ := hc
    have ez : z = z' := Nat.eq_of_beq_eq_true c1
    subst ez
    have hlg : l ≤ g := Nat.le_of_ble_eq_true c2
    have hgc : g ≤ sureCap c := Nat.le_of_ble_eq_true c3
    clear h h1 h2
    cases hv with
    | sc h => simp [scalar] at h
    | @sl _ _ _ _ _ p c' s hs hln hsc he hp =>
      cases mx with
      | none =>
        cases hmx
        have hb := bounds_run (P := P) (w := w) true (len := len) (cap := c') (m := c') (optI hlo hl) (by
          rcases optI hhi hg with ⟨e, e2⟩ | hk
          · exact .inl ⟨e, rfl, e2⟩
          · exact .inr hk) (.inl ⟨rfl, rfl⟩) hlg (by omega)
        have h4 : k (.slice (some ⟨b, Nat.add o (Nat.mul l z), some z⟩) (Nat.sub g l) (Nat.sub c (Nat.mul 2 l))) = some r := h3
        refine ⟨_, _, h4, slice_run hu hz hb, ?_⟩
        have hq : ∀ q : Nat, (c' - l = 0 ∨ (q = s.sh + (o + l * z) ∧ q + (c' - l) * z ≤ s.size)) → VR ρ (.slice (some ⟨b, Nat.add o (Nat.mul l z), some z⟩) (Nat.sub g l) (Nat.sub c (Nat.mul 2 l))) (.slice (some ⟨s.blk, q, none⟩) (g - l) (c' - l)) := by
          intro q hq
          refine .sl hs ⟨(show g - l ≤ c' - l by omega), by omega⟩ (by rw [sureCap_sub]; omega) (fun hx => ?_) hq
          rw [exact_iff] at hx
          have hx' : (c - 2 * l) % 2 = 1 := hx
          have := he ((exact_iff c).2 (by omega))
          rw [sureCap_sub]; omega
        by_cases e : c' = l
        · rw [if_pos e]; exact hq p (.inl (by omega))
        · rw [if_neg e]
          refine hq (p + l * z) (.inr ?_)
          rcases hp with h0 | ⟨h5, h6⟩
          · omega
          · have : c' * z = l * z + (c' - l) * z := by rw [← Nat.add_mul]; congr 1; omega
            omega
      | some m =>
        have h4 : onNat m (fun m => cond (and (Nat.ble g m) (Nat.ble m (sureCap c))) (k (.slice (some ⟨b, Nat.add o (Nat.mul l z), some z⟩) (Nat.sub g l) (Nat.succ (Nat.mul 2 (Nat.sub m l))))) none) = some r := h3
        obtain ⟨ki, m, rfl, h5⟩ := onNat_some h4
        obtain ⟨hc, h6⟩ := cond_some h5
        simp only [Bool.and_eq_true] at hc
        have hgm : g ≤ m := Nat.le_of_ble_eq_true hc.1
        have hmc : m ≤ sureCap c := Nat.le_of_ble_eq_true hc.2
        have hmx' := hmx.nat
        have hb := bounds_run (P := P) (w := w) true (len := len) (cap := c') (m := m) (mx := mx') (optI hlo hl) (by
          rcases optI hhi hg with ⟨e, e2⟩ | hk
          · cases hhi with
            | no => simp at hm
            | one => cases e
          · exact .inr hk) (.inr ⟨ki, hmx', by omega⟩) hlg hgm
        refine ⟨_, _, h6, slice_run hu hz hb, ?_⟩
        have hq : ∀ q : Nat, (m - l = 0 ∨ (q = s.sh + (o + l * z) ∧ q + (m - l) * z ≤ s.size)) → VR ρ (.slice (some ⟨b, Nat.add o (Nat.mul l z), some z⟩) (Nat.sub g l) (Nat.succ (Nat.mul 2 (Nat.sub m l)))) (.slice (some ⟨s.blk, q, none⟩) (g - l) (m - l)) := by
          intro q hq
          have e1 : sureCap (Nat.succ (Nat.mul 2 (Nat.sub m l))) = m - l := by
            show (2 * (m - l) + 1) / 2 = m - l
            omega
          exact .sl hs ⟨(show g - l ≤ m - l by omega), by omega⟩ (by rw [e1]; exact Nat.le_refl _) (fun _ => e1.symm) hq
        by_cases e : m = l
        · rw [if_pos e]; exact hq p (.inl (by omega))
        · rw [if_neg e]
          refine hq (p + l * z) (.inr ?_)
          rcases hp with h0 | ⟨h5, h6⟩
          · omega
          · have h7 : m * z = l * z + (m - l) * z := by rw [← Nat.add_mul]; congr 1; omega
            have h8 : m * z ≤ c' * z := Nat.mul_le_mul_right _ (by omega)
            omega
  · cases h
end Go.Eng
/- The engine: maps that are looked up. -/
namespace Go.Eng
variable {P : Program} {w : World} {ρ : Rho} {H : Heap} {nx : Nat} {r : Ex × St}

theorem quiet_bind {α β : Type} (s : Sem α) (f : α → Sem β) : quiet P (s >>= f) = (quiet P s).bind fun a => quiet P (f a) := by
  induction s with
  | pure a => rfl
  | program k ih => exact ih P
  | _ => rfl

theorem quiet_pure {α : Type} (a : α) : quiet P (pure a) = some a := rfl

/-- what is found, over entries with other values -/
def Fit (es : List MapEntry) (i : Nat) (x y : Option (Nat × Value)) : Prop :=
  (x = none ∧ y = none) ∨ ∃ j v e, x = some (j, v) ∧ i ≤ j ∧ es[j - i]? = some e ∧ y = some (j, e.val)

theorem Fit.tail {e : MapEntry} {es : List MapEntry} {i : Nat} {x y : Option (Nat × Value)} (h : Fit es (i + 1) x y) : Fit (e :: es) i x y := by
  rcases h with h | ⟨j, v, e', h1, h2, h3, h4⟩
  · exact .inl h
  · refine .inr ⟨j, v, e', h1, by omega, ?_, h4⟩
    have : j - i = (j - (i + 1)) + 1 := by omega
    rw [this, List.getElem?_cons_succ]
    exact h3

theorem findNow_sound (d : TypeDesc) (k : Value) : ∀ (es1 es2 : List MapEntry) (i : Nat), es2.map (·.key) = es1.map (·.key) →
    (Instr.findNow d k es1 i = none → Instr.findNow d k es2 i = none) ∧ ∀ x, Instr.findNow d k es1 i = some x → ∃ y, Instr.findNow d k es2 i = some y ∧ Fit es2 i x y := by
  intro es1
  induction es1 with
  | nil =>
    intro es2 i h
    cases es2 with
    | nil => exact ⟨fun h => h, fun x hx => by simp [Instr.findNow] at hx; subst hx; exact ⟨none, rfl, .inl ⟨rfl, rfl⟩⟩⟩
    | cons => simp at h
  | cons e1 es1 ih =>
    intro es2 i h
    cases es2 with
    | nil => simp at h
    | cons e2 es2 =>
      simp only [List.map_cons, List.cons.injEq] at h
      obtain ⟨hk, ht⟩ := h
      obtain ⟨h1, h2⟩ := ih es2 (i + 1) ht
      unfold Instr.findNow
      rw [hk]
      cases hs : Instr.sameNow d k e1.key with
      | none => exact ⟨fun _ => rfl, fun x hx => by simp at hx⟩
      | some b =>
        cases b with
        | true =>
          refine ⟨fun hx => by simp at hx, fun x hx => ?_⟩
          simp at hx
          subst hx
          exact ⟨_, rfl, .inr ⟨i, _, e2, rfl, Nat.le_refl _, by simp, rfl⟩⟩
        | false =>
          refine ⟨fun hx => h1 hx, fun x hx => ?_⟩
          obtain ⟨y, hy, hf⟩ := h2 x hx
          exact ⟨y, hy, hf.tail⟩

theorem findAsking_sound (kt : TypeId) (k : Value) : ∀ (es1 es2 : List MapEntry) (i : Nat) (x : Option (Nat × Value)), es2.map (·.key) = es1.map (·.key) →
    quiet P (Instr.findAsking kt k es1 i) = some x → ∃ y, (Instr.findAsking kt k es2 i).run P w = .ok y w ∧ Fit es2 i x y := by
  intro es1
  induction es1 with
  | nil =>
    intro es2 i x h hq
    cases es2 with
    | nil =>
      simp [Instr.findAsking] at hq
      cases hq
      exact ⟨none, rfl, .inl ⟨rfl, rfl⟩⟩
    | cons => simp at h
  | cons e1 es1 ih =>
    intro es2 i x h hq
    cases es2 with
    | nil => simp at h
    | cons e2 es2 =>
      simp only [List.map_cons, List.cons.injEq] at h
      obtain ⟨hk, ht⟩ := h
      unfold Instr.findAsking at hq ⊢
      rw [quiet_bind] at hq
      rw [hk]
      cases hs : quiet P (Op.equal kt k e1.key) with
      | none => rw [hs] at hq; cases hq
      | some b =>
        rw [hs] at hq
        simp only [Sem.run_bind, quiet_run hs, Result.andThen_ok]
        cases b with
        | true =>
          have : x = some (i, e1.val) := by simpa [quiet_pure] using hq.symm
          subst this
          exact ⟨_, rfl, .inr ⟨i, _, e2, rfl, Nat.le_refl _, by simp, rfl⟩⟩
        | false =>
          obtain ⟨y, hy, hf⟩ := ih es2 (i + 1) x ht (by simpa using hq)
          exact ⟨y, by simpa using hy, hf.tail⟩

theorem findKey_sound (kt : TypeId) (k : Value) (es1 es2 : List MapEntry) (x : Option (Nat × Value)) (h : es2.map (·.key) = es1.map (·.key))
    (hq : quiet P (Instr.findKey kt k es1) = some x) : ∃ y, (Instr.findKey kt k es2).run P w = .ok y w ∧ Fit es2 0 x y := by
  unfold Instr.findKey at hq ⊢
  rw [quiet_bind] at hq
  cases hu : quiet P (underlying kt) with
  | none => rw [hu] at hq; cases hq
  | some d =>
    rw [hu] at hq
    simp only [Sem.run_bind, quiet_run hu, Result.andThen_ok]
    obtain ⟨h1, h2⟩ := findNow_sound d k es1 es2 0 h
    cases hf : Instr.findNow d k es1 0 with
    | some z =>
      obtain ⟨y, hy, hfit⟩ := h2 z hf
      have : x = z := by simpa [hf, quiet_pure] using hq.symm
      subst this
      exact ⟨y, by simp [hy, Sem.run_pure], hfit⟩
    | none =>
      have hq' : quiet P (Instr.findAsking kt k es1) = some x := by simpa [hf] using hq
      obtain ⟨y, hy, hfit⟩ := findAsking_sound (w := w) kt k es1 es2 0 x h hq'
      exact ⟨y, by simpa [h1 hf] using hy, hfit⟩

theorem marked_keys (es : List MapEntry) : ∀ i, (marked es i).map (·.key) = es.map (·.key) := by
  induction es with
  | nil => intro i; rfl
  | cons e es ih => intro i; simp [marked, ih]

theorem ERs.keys {es es' : List MapEntry} (h : ERs ρ es es') (hf : es.all (fun e => flat e.key) = true) : es'.map (·.key) = es.map (·.key) := by
  induction h with
  | nil => rfl
  | cons hk hv hb _ ih =>
    simp only [List.all_cons, Bool.and_eq_true] at hf
    simp [hk.flat_eq hf.1, ih hf.2]

theorem ERs.length {es es' : List MapEntry} (h : ERs ρ es es') : es'.length = es.length := by
  induction h with
  | nil => rfl
  | cons _ _ _ _ ih => simp [ih]

theorem ERs.get {es es' : List MapEntry} (h : ERs ρ es es') : ∀ {i : Nat} {e' : MapEntry}, es'[i]? = some e' → ∃ e, es[i]? = some e ∧ VR ρ e.key e'.key ∧ VR ρ e.val e'.val ∧ e'.born = e.born := by
  induction h with
  | nil => intro i e' he; simp at he
  | cons hk hv hb _ ih =>
    intro i e' he
    cases i with
    | zero => simp at he; subst he; exact ⟨_, rfl, hk, hv, hb⟩
    | succ i => simpa using ih (by simpa using he)

theorem entryAt_eq (es : List MapEntry) : ∀ i, entryAt es i = es[i]? := by
  induction es with
  | nil => intro i; rfl
  | cons e es ih =>
    intro i
    cases i with
    | zero => rfl
    | succ i => simpa [entryAt] using ih i

theorem keyAt_some {es : List MapEntry} : ∀ {i : Nat} {k : Value}, keyAt es i k = true → ∃ e, es[i]? = some e ∧ keyEq e.key k = true := by
  induction es with
  | nil => intro i k h; simp [keyAt] at h
  | cons e es ih =>
    intro i k h
    cases i with
    | zero => exact ⟨e, rfl, h⟩
    | succ i => simpa using ih h

theorem keyEq1_sound {a b : Value} (n : Nat) (h : keyEq1 a b = true) : a = b ∧ Instr.sameBits n a b = true := by
  unfold keyEq1 at h
  split at h
  · rename_i x y
    cases x <;> cases y <;> first | (cases h; done) | exact ⟨rfl, by unfold Instr.sameBits; rfl⟩
  · simp only [Bool.and_eq_true, decide_eq_true_eq] at h
    obtain ⟨rfl, rfl⟩ := h
    exact ⟨rfl, by unfold Instr.sameBits; simp⟩
  · simp only [decide_eq_true_eq] at h
    subst h
    refine ⟨rfl, ?_⟩
    unfold Instr.sameBits
    rename_i s
    show (s == s) = true
    first | exact beq_self_eq_true s | (show (s.data == s.data) = true; simp) | exact decide_eq_true rfl
  · cases h

theorem keyEqs_sound (n : Nat) : ∀ {a b : List Value}, keyEqs a b = true → a = b ∧ (a.zip b).all (fun x => Instr.sameBits n x.1 x.2) = true := by
  intro a
  induction a with
  | nil => intro b h; cases b with
    | nil => exact ⟨rfl, rfl⟩
    | cons => cases h
  | cons x a ih =>
    intro b h
    cases b with
    | nil => cases h
    | cons y b =>
      simp only [keyEqs, Bool.and_eq_true] at h
      obtain ⟨h1, h2⟩ := keyEq1_sound n h.1
      obtain ⟨h3, h4⟩ := ih h.2
      exact ⟨by rw [h1, h3], by simp only [List.zip_cons_cons, List.all_cons, h2, h4]; rfl⟩

theorem keyEq_sound' {a b : Value} (n : Nat) (h : keyEq a b = true) : a = b ∧ Instr.sameBits (n + 1) a b = true := by
  unfold keyEq at h
  split at h
  · rename_i x y
    obtain ⟨h1, h2⟩ := keyEqs_sound n h
    have e : x = y := Array.ext' h1
    refine ⟨by rw [e], ?_⟩
    unfold Instr.sameBits
    simp only [Bool.and_eq_true]
    exact ⟨by rw [e]; simp, h2⟩
  · exact keyEq1_sound (n + 1) h

theorem keyEq_sound {a b : Value} (h : keyEq a b = true) : a = b ∧ Instr.sameBits 10000 a b = true := keyEq_sound' 9999 h

theorem findAt_sound {emp : Bool} {kt : TypeId} {k : Value} {es es' : List MapEntry} {x : Option Nat} (h : findAt P emp kt k es = some x) (hr : ERs ρ es es') :
    flat k = true ∧ (Instr.checkKey emp 10000 kt k).run P w = .ok () w ∧ ((x = none ∧ (Instr.findKey kt k es').run P w = .ok none w) ∨
      ∃ i e e', x = some i ∧ es[i]? = some e ∧ es'[i]? = some e' ∧ VR ρ e.val e'.val ∧ e'.born = e.born ∧ e'.key = k ∧ e.key = k ∧ Instr.sameBits 10000 e'.key k = true ∧ (Instr.findKey kt k es').run P w = .ok (some (i, e'.val)) w) := by
  unfold findAt at h
  cases hf : (flat k && es.all (fun e => flat e.key)) with
  | false => rw [hf] at h; cases h
  | true =>
    rw [hf] at h
    simp only [Bool.and_eq_true] at hf
    cases hc : quiet P (Instr.checkKey emp 10000 kt k) with
    | none => simp [hc] at h
    | some u =>
      cases hq : quiet P (Instr.findKey kt k (marked es 0)) with
      | none => simp [hc, hq] at h
      | some q =>
        have hkeys : es'.map (·.key) = (marked es 0).map (·.key) := by rw [marked_keys, hr.keys hf.2]
        obtain ⟨y, hy, hfit⟩ := findKey_sound (w := w) kt k (marked es 0) es' q hkeys hq
        refine ⟨hf.1, quiet_run hc, ?_⟩
        rcases hfit with ⟨rfl, rfl⟩ | ⟨j, v, e', rfl, h2, h3, rfl⟩
        · simp [hc, hq] at h
          subst h
          exact .inl ⟨rfl, hy⟩
        · simp only [hc, hq, cond_true] at h
          cases hk : keyAt es j k with
          | false => simp [hk] at h
          | true =>
            simp [hk] at h
            subst h
            simp only [Nat.sub_zero] at h3
            obtain ⟨e, he, hke⟩ := keyAt_some hk
            obtain ⟨g1, g2⟩ := keyEq_sound hke
            obtain ⟨e2, he2, hr1, hr2, hr3⟩ := hr.get h3
            rw [he] at he2; cases he2
            have hke' : e'.key = e.key := hr1.flat_eq (by rw [g1]; exact hf.1)
            exact .inr ⟨j, e, e', rfl, he, h3, hr2, hr3, hke'.trans g1, g1, by rw [hke']; exact g2, hy⟩
end Go.Eng
/- The engine: every operation that reads at most. -/
namespace Go.Eng
variable {P : Program} {w : World} {ρ : Rho} {H : Heap} {nx : Nat} {r : Ex × St}

/-- of all its operands -/
def AOp.all {α : Type} (p : α → Prop) : AOp α → Prop
  | .mov v0 => p v0
  | .pick v0 v1 v2 => p v0 ∧ p v1 ∧ p v2
  | .nilck v0 => p v0
  | .ext v0 _ => p v0
  | .fld v0 _ _ => p v0
  | .fad v0 _ => p v0
  | .ixs v0 v1 _ => p v0 ∧ p v1
  | .ixa v0 v1 _ _ => p v0 ∧ p v1
  | .ix v0 v1 _ _ _ => p v0 ∧ p v1
  | .bin _ _ v2 v3 => p v2 ∧ p v3
  | .un _ v1 => p v1
  | .cvt _ _ v2 => p v2
  | .mnx _ v1 => (∀ x ∈ v1, p x)
  | .six _ v1 v2 => p v1 ∧ p v2
  | .ssl _ v1 v2 v3 => p v1 ∧ (∀ x ∈ v2, p x) ∧ (∀ x ∈ v3, p x)
  | .isnil _ _ v2 v3 => p v2 ∧ p v3
  | .bld _ v1 => (∀ x ∈ v1, p x.2.2)
  | .clo _ v1 v2 => (∀ x ∈ v1, p x) ∧ (∀ x ∈ v2, p x)
  | .ifc _ v1 => p v1
  | .tas v0 _ _ _ => p v0
  | .lod v0 _ => p v0
  | .len v0 => p v0
  | .mln v0 => p v0
  | .sln v0 => p v0
  | .cap v0 => p v0
  | .slc v0 v1 v2 v3 _ => p v0 ∧ (∀ x ∈ v1, p x) ∧ (∀ x ∈ v2, p x) ∧ (∀ x ∈ v3, p x)
  | .sla v0 v1 v2 _ _ => p v0 ∧ (∀ x ∈ v1, p x) ∧ (∀ x ∈ v2, p x)
  | .lku v0 v1 _ _ _ => p v0 ∧ p v1
  | .box v0 => p v0
  | .alc _ => True
  | .mks _ _ _ v3 v4 => p v3 ∧ p v4
  | .bsl _ _ _ v3 => (∀ x ∈ v3, p x.2.2)
  | .mkm v0 => (∀ x ∈ v0, p x)
  | .sto v0 v1 _ => p v0 ∧ p v1
  | .app _ _ _ v3 v4 _ => p v3 ∧ p v4
  | .cpy _ v1 v2 => p v1 ∧ p v2
  | .clr v0 _ => p v0
  | .mup v0 v1 v2 _ => p v0 ∧ p v1 ∧ p v2
  | .men v0 v1 _ _ => p v0 ∧ p v1
  | .est v0 v1 v2 => p v0 ∧ p v1 ∧ p v2
  | .ins _ _ v2 v3 v4 => p v2 ∧ p v3 ∧ p v4
  | .call v0 v1 => p v0 ∧ (∀ x ∈ v1, p x)
  | .inv v0 _ v2 => p v0 ∧ (∀ x ∈ v2, p x)
  | .dfr v0 v1 => p v0 ∧ (∀ x ∈ v1, p x)
  | .pan v0 => p v0
  | .rcv  => True

theorem travL_sound {α β : Type} (d : β) {c : α → Option β} : ∀ {l : List α} {m : List β}, travL c l = some m → m = l.map (fun x => (c x).getD d) ∧ ∀ x ∈ l, ∃ y, c x = some y := by
  intro l
  induction l with
  | nil => intro m h; cases h; exact ⟨rfl, fun x hx => by simp at hx⟩
  | cons x l ih =>
    intro m h
    unfold travL at h
    cases hx : c x with
    | none => simp [hx] at h
    | some a =>
      cases hl : travL c l with
      | none => simp [hx, hl] at h
      | some as =>
        simp [hx, hl] at h
        subst h
        obtain ⟨h1, h2⟩ := ih hl
        refine ⟨by simp [hx, ← h1], fun y hy => ?_⟩
        rcases List.mem_cons.1 hy with rfl | hy
        · exact ⟨a, hx⟩
        · exact h2 y hy

theorem travO_sound {α β : Type} (d : β) {c : α → Option β} {l : Option α} {m : Option β} (h : travO c l = some m) : m = l.map (fun x => (c x).getD d) ∧ ∀ x ∈ l, ∃ y, c x = some y := by
  cases l with
  | none => cases h; exact ⟨rfl, fun x hx => by simp at hx⟩
  | some x =>
    unfold travO at h
    cases hx : c x with
    | none => simp [hx] at h
    | some a =>
      simp [hx] at h
      subst h
      exact ⟨by simp [hx], fun y hy => by simp at hy; subst hy; exact ⟨a, hx⟩⟩

theorem travP_sound {α β : Type} (d : β) {c : α → Option β} : ∀ {l : List (Nat × Nat × α)} {m : List (Nat × Nat × β)}, travP c l = some m → m = l.map (fun x => (x.1, x.2.1, (c x.2.2).getD d)) ∧ ∀ x ∈ l, ∃ y, c x.2.2 = some y := by
  intro l
  induction l with
  | nil => intro m h; cases h; exact ⟨rfl, fun x hx => by simp at hx⟩
  | cons x l ih =>
    intro m h
    obtain ⟨i, j, x⟩ := x
    unfold travP at h
    cases hx : c x with
    | none => simp [hx] at h
    | some a =>
      cases hl : travP c l with
      | none => simp [hx, hl] at h
      | some as =>
        simp [hx, hl] at h
        subst h
        obtain ⟨h1, h2⟩ := ih hl
        refine ⟨by simp [hx, ← h1], fun y hy => ?_⟩
        rcases List.mem_cons.1 hy with rfl | hy
        · exact ⟨a, hx⟩
        · exact h2 y hy

theorem trav_sound {α β : Type} (d : β) {c : α → Option β} {a : AOp α} {b : AOp β} (h : a.trav c = some b) : b = a.map (fun x => (c x).getD d) ∧ a.all (fun x => ∃ y, c x = some y) := by
  cases a <;> simp only [AOp.trav] at h <;> (try split at h) <;> first
    | (cases h; done)
    | (cases h
       simp only [AOp.map, AOp.all]
       try simp_all only [Option.getD_some, Option.some.injEq, exists_eq', and_self, and_true, true_and]
       first
       | done
       | (rename_i h1 h2 h3; exact ⟨by rw [← (travO_sound d h1).1, ← (travO_sound d h2).1, ← (travO_sound d h3).1], (travO_sound d h1).2, (travO_sound d h2).2, (travO_sound d h3).2⟩)
       | (rename_i h1 h2; exact ⟨by rw [← (travO_sound d h1).1, ← (travO_sound d h2).1], (travO_sound d h1).2, (travO_sound d h2).2⟩)
       | (rename_i h1 h2; exact ⟨by rw [← (travL_sound d h1).1, ← (travL_sound d h2).1], (travL_sound d h1).2, (travL_sound d h2).2⟩)
       | (rename_i h1; exact ⟨by rw [← (travL_sound d h1).1], (travL_sound d h1).2⟩)
       | (rename_i h1; exact ⟨by rw [← (travP_sound d h1).1], (travP_sound d h1).2⟩)
       | (rename_i h1; exact ⟨by rw [← (travO_sound d h1).1], (travO_sound d h1).2⟩))

theorem all_mono {α : Type} {p q : α → Prop} (hpq : ∀ x, p x → q x) {a : AOp α} (h : a.all p) : a.all q := by
  cases a <;> simp only [AOp.all] at h ⊢ <;> first
    | trivial
    | exact hpq _ h
    | exact ⟨hpq _ h.1, hpq _ h.2⟩
    | exact ⟨hpq _ h.1, hpq _ h.2.1, hpq _ h.2.2⟩
    | exact fun x hx => hpq _ (h x hx)
    | exact ⟨hpq _ h.1, fun x hx => hpq _ (h.2 x hx)⟩
    | exact ⟨fun x hx => hpq _ (h.1 x hx), fun x hx => hpq _ (h.2 x hx)⟩
    | exact ⟨hpq _ h.1, fun x hx => hpq _ (h.2.1 x hx), fun x hx => hpq _ (h.2.2 x hx)⟩
    | exact ⟨hpq _ h.1, fun x hx => hpq _ (h.2.1 x hx), fun x hx => hpq _ (h.2.2.1 x hx), fun x hx => hpq _ (h.2.2.2 x hx)⟩

/-! ### maps -/
theorem getObj_run {hp : Array Obj} {b : Nat} {es : Array MapEntry} {c : Nat} (w : World) (hw : w.heap = hp) (h : hp[b]? = some (.map es c)) : (getObj b).run P w = .ok (.map es c) w := by
  subst hw
  simp [getObj, Sem.run, h]

theorem mln_sound {t kt e ty : TypeId} {v u : Value} {k : KV} (hd : P.underlying t = some (.map kt e)) (hH : HR ρ H nx w.heap) (hv : VR ρ v u) (h : mlnV H v k = some r) :
    ∃ x y, k x = some r ∧ (Builtin.len_ #[t] ty #[u]).run P w = .ok y w ∧ VR ρ x y := by
  unfold mlnV at h
  split at h
  · cases hv with
    | sc h => simp [scalar] at h
    | mnil => exact ⟨_, _, h, by simp [Builtin.len_, run_underlying hd, goInt, Sem.run_pure], .sc rfl⟩
  · obtain ⟨es, c, hb, h1⟩ := onMapB_some h
    cases hv with
    | sc h => simp [scalar] at h
    | @map _ s hs =>
      obtain ⟨s', hs', es', he, hr⟩ := hH.blk _ _ hb
      rw [hs] at hs'; cases hs'
      refine ⟨_, _, h1, ?_, .sc rfl⟩
      have hl : es'.size = es.length := by simpa using hr.length
      simp [Builtin.len_, run_underlying hd, getObj_run w rfl he, hl, goInt, Sem.run_pure]
  · cases h

theorem okV_pair {ok : Bool} {v u : Value} {b : Bool} (h : VR ρ v u) : VR ρ (okV ok v b) (if ok = true then .tuple #[u, .bool b] else u) := by
  cases ok with
  | true => exact .tuple (.cons h (.cons (.sc rfl) .nil))
  | false => exact h

theorem lku_sound {t kt e : TypeId} {z : Value} {ok : Bool} {v u kv ku : Value} {k : KV} (hd : P.underlying t = some (.map kt e)) (hz : zeroVal P e = some z) (hH : HR ρ H nx w.heap) (hv : VR ρ v u) (hk : VR ρ kv ku)
    (h : lkuV P kt z ok H kv k v = some r) : ∃ x y, k x = some r ∧ (Instr.lookup t u ku ok).run P w = .ok y w ∧ VR ρ x y := by
  obtain ⟨hz1, hz2⟩ := run_zero (w := w) hz
  unfold lkuV at h
  split at h
  · obtain ⟨hf, h1⟩ := cond_some h
    obtain ⟨_, hq, h2⟩ := bd_eq h1
    have := hk.flat_eq hf
    subst this
    cases hv with
    | sc h => simp [scalar] at h
    | mnil =>
      refine ⟨_, _, h2, ?_, okV_pair (.of_const hz2)⟩
      have hck : (Instr.checkKey true 10000 kt ku).run P w = .ok () w := quiet_run hq
      obtain ⟨y, hy, hfit⟩ : ∃ y, (Instr.findKey kt ku []).run P w = .ok y w ∧ y = none := by
        refine ⟨none, ?_, rfl⟩
        unfold Instr.findKey
        cases hu : P.underlying kt with
        | none =>
          exfalso
          have hq' : quiet P (Instr.checkKey true (9999 + 1) kt ku) = some () := hq
          unfold Instr.checkKey at hq'
          rw [quiet_bind] at hq'
          have : quiet P (underlying kt) = none := by
            unfold underlying
            simp [quiet_bind, quiet, program, hu]
            rfl
          rw [this] at hq'
          cases hq'
        | some d => simp [run_underlying hu, Instr.findNow, Sem.run_pure]
      subst hfit
      simp only [Instr.lookup, Sem.run_bind, run_underlying hd, Result.andThen_ok, Sem.run_pure, hck, hy, hz1, List.isEmpty_toArray, Array.isEmpty_empty]
      have hck' : (Instr.checkKey ([] : List MapEntry).isEmpty 10000 kt ku).run P w = .ok () w := hck
      simp only [hck', hy, hz1, Result.andThen_ok, Sem.run_bind, Sem.run_pure]
  · obtain ⟨es, c, hb, h1⟩ := onMapB_some h
    obtain ⟨x, hx, h2⟩ := bd_eq h1
    cases hv with
    | sc h => simp [scalar] at h
    | @map _ s hs =>
      obtain ⟨s', hs', es', he, hr⟩ := hH.blk _ _ hb
      rw [hs] at hs'; cases hs'
      obtain ⟨hf, hck, hcase⟩ := findAt_sound (w := w) hx hr
      have := hk.flat_eq hf
      subst this
      have hemp : es'.isEmpty = es.isEmpty := by
        have hl : es'.size = es.length := by simpa using hr.length
        cases es with
        | nil => simp [Array.isEmpty, hl]
        | cons => simp [Array.isEmpty, hl]
      rcases hcase with ⟨rfl, hfk⟩ | ⟨i, e1, e2, rfl, g1, g2, g3, g4, g5, g6, g7, hfk⟩
      · refine ⟨_, _, h2, ?_, okV_pair (.of_const hz2)⟩
        simp only [Instr.lookup, Sem.run_bind, run_underlying hd, Result.andThen_ok, getObj_run w rfl he, Sem.run_pure, hemp, hck, hfk, hz1]
      · have h3 : bd (entryAt es i) (fun e => k (okV ok e.val true)) = some r := h2
        rw [entryAt_eq, g1] at h3
        refine ⟨_, _, h3, ?_, okV_pair g3⟩
        simp only [Instr.lookup, Sem.run_bind, run_underlying hd, Result.andThen_ok, getObj_run w rfl he, Sem.run_pure, hemp, hck, hfk]
  · cases h
end Go.Eng
/- The engine: every operation that reads at most. -/
namespace Go.Eng
variable {P : Program} {w : World} {ρ : Rho} {H : Heap} {nx : Nat} {r : Ex × St} {T : Tr Value} {L : List Value}

theorem evsK_cst : ∀ (vs : List Value) (k : List Value → R0), evsK T L (vs.map Od.cst) k = k vs := by
  intro vs
  induction vs with
  | nil => intro k; rfl
  | cons v vs ih =>
    intro k
    show evsK T L (vs.map Od.cst) (fun vs => k (v :: vs)) = k (v :: vs)
    rw [ih]

theorem partsK_cst : ∀ (vs : List (Nat × Nat × Value)) (k : List (Nat × Nat × Value) → R0), partsK T L (vs.map fun x => (x.1, x.2.1, Od.cst x.2.2)) k = k vs := by
  intro vs
  induction vs with
  | nil => intro k; rfl
  | cons v vs ih =>
    intro k
    obtain ⟨a, b, v⟩ := v
    show partsK T L (vs.map fun x => (x.1, x.2.1, Od.cst x.2.2)) (fun vs => k ((a, b, v) :: vs)) = k ((a, b, v) :: vs)
    rw [ih]

theorem VRs.map {α : Type} {f g : α → Value} : ∀ {l : List α}, (∀ x ∈ l, VR ρ (f x) (g x)) → VRs ρ (l.map f) (l.map g) := by
  intro l
  induction l with
  | nil => intro _; exact .nil
  | cons x l ih => intro h; exact .cons (h x (by simp)) (ih fun y hy => h y (by simp [hy]))

theorem OR.map {α : Type} {f g : α → Value} {o : Option α} (h : ∀ x ∈ o, VR ρ (f x) (g x)) : OR ρ (o.map f) (o.map g) := by
  cases o with
  | none => exact .no
  | some x => exact .one (h x rfl)


/-- what an operation gives: the engine goes on, and the model did the same -/
def Good (P : Program) (w : World) (ρ : Rho) (H : Heap) (nx : Nat) (r : Ex × St) (k : KA) (s : Sem Next) : Prop :=
  ∃ v H' nx' u w' ρ', k v H' nx' = some r ∧ (s.run P w = .ok (.value u) w' ∨ (s.run P w = .ok .skip w' ∧ u = undef)) ∧ VR ρ' v u ∧ HR ρ' H' nx' w'.heap ∧ Stp ρ H w ρ' H' w' ∧ nx ≤ nx' ∧ ∀ b, b < nx → ρ' b = ρ b

theorem Good.look {k : KA} {s : Sem Value} {s' : Sem Next} (hs : s' = (do pure (.value (← s)))) (hH : HR ρ H nx w.heap) (h : ∃ x y, k x H nx = some r ∧ s.run P w = .ok y w ∧ VR ρ x y) : Good P w ρ H nx r k s' := by
  obtain ⟨x, y, h1, h2, h3⟩ := h
  subst hs
  exact ⟨x, H, nx, y, w, ρ, h1, .inl (by simp only [Sem.run_bind, h2, Result.andThen_ok, Sem.run_pure]), h3, hH, .refl ρ H w, Nat.le_refl _, fun _ _ => rfl⟩

variable {ρa ρc : Operand → Value} {o : Oper} {k : KA} {ins : List Nat}
abbrev Av (ρa : Operand → Value) : Operand → Od := fun x => Od.cst (ρa x)

theorem placesS_get {fs : List Field} : ∀ {xs : List (Nat × Operand)} {pl : List (Nat × Nat × Operand)}, placesS P fs xs = some pl → pl.length = xs.length ∧ ∀ (i : Nat) (p : Nat × Nat × Operand) (x : Nat × Operand),
    pl[i]? = some p → xs[i]? = some x → ∃ f s, fs[x.1]? = some f ∧ sizeAt P f.type = some s ∧ p = (f.offset, s, x.2) := by
  intro xs
  induction xs with
  | nil => intro pl h; cases h; exact ⟨rfl, fun i p x hp => by simp at hp⟩
  | cons x xs ih =>
    intro pl h
    obtain ⟨j, x⟩ := x
    unfold placesS at h
    cases hf : fs[j]? with
    | none => simp [hf] at h
    | some f =>
      cases hr : placesS P fs xs with
      | none => simp [hf, hr] at h
      | some rs =>
        cases hs : sizeAt P f.type with
        | none => simp [hf, hr, hs] at h
        | some s =>
          simp [hf, hr, hs] at h
          subst h
          obtain ⟨h1, h2⟩ := ih hr
          refine ⟨by simp [h1], fun i p y hp hy => ?_⟩
          cases i with
          | zero => simp at hp hy; subst hp; subst hy; exact ⟨f, s, hf, hs, rfl⟩
          | succ i => exact h2 i p y (by simpa using hp) (by simpa using hy)

theorem placesA_get {z : Nat} : ∀ (xs : List (Nat × Operand)), (placesA z xs).length = xs.length ∧ ∀ (i : Nat) (p : Nat × Nat × Operand) (x : Nat × Operand),
    (placesA z xs)[i]? = some p → xs[i]? = some x → p = (x.1 * z, z, x.2) := by
  intro xs
  induction xs with
  | nil => exact ⟨rfl, fun i p x hp => by simp [placesA] at hp⟩
  | cons x xs ih =>
    obtain ⟨j, x⟩ := x
    obtain ⟨h1, h2⟩ := ih
    refine ⟨by simp [placesA, h1], fun i p y hp hy => ?_⟩
    cases i with
    | zero => simp [placesA] at hp hy; subst hp; subst hy; rfl
    | succ i => exact h2 i p y (by simpa [placesA] using hp) (by simpa using hy)

theorem build_sound {t : TypeId} {xs : Array (Nat × Operand)} {a : AOp Operand} (ho : o.op = .build t xs) (hc : compileOp P ins o = some a) (ha : a.all fun x => VR ρ (ρa x) (ρc x)) (hH : HR ρ H nx w.heap)
    (h : actT (a.map (Av ρa)) P T L H nx k = some r) : Good P w ρ H nx r k (execOp ρc o) := by
  have he : execOp ρc o = (do pure (.value (← Instr.build t (xs.map fun (i, x) => (i, ρc x))))) := by simp only [execOp, ho]
  refine .look he hH ?_
  have hq : (xs.map fun (i, x) => (i, ρc x)) = (xs.toList.map fun x => (x.1, ρc x.2)).toArray := by
    apply Array.ext'; simp
  rw [hq]
  simp only [compileOp, ho] at hc
  split at hc
  · rename_i fs zero hu hz
    cases hall : fs.toList.all (fun f => (sizeAt P f.type).isSome) with
    | false => rw [hall] at hc; cases hc
    | true =>
      rw [hall] at hc
      cases hp : placesS P fs.toList xs.toList with
      | none => simp [hp] at hc
      | some pl =>
        simp [hp] at hc
        subst hc
        obtain ⟨h1, h2⟩ := placesS_get hp
        have h' : partsK T L ((pl.map fun x => (x.1, x.2.1, ρa x.2.2)).map fun x => (x.1, x.2.1, Od.cst x.2.2)) (fun ps => bd (fillIn zero ps) fun cs => k (.agg cs.toArray) H nx) = some r := by
          rw [List.map_map]; exact h
        rw [partsK_cst] at h'
        obtain ⟨cs, hf, hk⟩ := bd_eq h'
        obtain ⟨y, hy, hv⟩ := bld_sound_struct (w := w) (ρ := ρ) hu hz hp (ps := pl.map fun x => (x.1, x.2.1, ρa x.2.2)) (qs := xs.toList.map fun x => (x.1, ρc x.2)) (by simp [h1]) (fun i p q hpi hqi => by
          simp only [List.getElem?_map, Option.map_eq_some_iff] at hpi hqi
          obtain ⟨p', hp', rfl⟩ := hpi
          obtain ⟨q', hq', rfl⟩ := hqi
          obtain ⟨f, s, g1, g2, rfl⟩ := h2 i p' q' hp' hq'
          exact ⟨f, s, g1, g2, rfl, rfl, ha _ (List.mem_of_getElem? hp')⟩) (fun i f hfi => by
            have := List.all_eq_true.1 hall f (List.mem_of_getElem? hfi)
            exact Option.isSome_iff_exists.1 this) hf
        exact ⟨_, y, hk, hy, hv⟩
  · rename_i n e zero hu hz
    cases hs : sizeAt P e with
    | none => simp [hs] at hc
    | some z =>
      simp [hs] at hc
      subst hc
      obtain ⟨h1, h2⟩ := placesA_get (z := z) xs.toList
      have h' : partsK T L (((placesA z xs.toList).map fun x => (x.1, x.2.1, ρa x.2.2)).map fun x => (x.1, x.2.1, Od.cst x.2.2)) (fun ps => bd (fillIn zero ps) fun cs => k (.agg cs.toArray) H nx) = some r := by
        rw [List.map_map]; exact h
      rw [partsK_cst] at h'
      obtain ⟨cs, hf, hk⟩ := bd_eq h'
      obtain ⟨y, hy, hv⟩ := bld_sound_array (w := w) (ρ := ρ) hu hz hs (ps := (placesA z xs.toList).map fun x => (x.1, x.2.1, ρa x.2.2)) (qs := xs.toList.map fun x => (x.1, ρc x.2)) (by simp [h1]) (fun i p q hpi hqi => by
        simp only [List.getElem?_map, Option.map_eq_some_iff] at hpi hqi
        obtain ⟨p', hp', rfl⟩ := hpi
        obtain ⟨q', hq', rfl⟩ := hqi
        have := h2 i p' q' hp' hq'
        subst this
        exact ⟨rfl, rfl, ha _ (List.mem_of_getElem? hp')⟩) hf
      exact ⟨_, y, hk, hy, hv⟩
  · cases hc
end Go.Eng
