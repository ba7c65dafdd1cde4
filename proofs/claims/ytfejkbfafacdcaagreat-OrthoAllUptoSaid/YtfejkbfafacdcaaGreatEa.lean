import Derived.Defers
import Derived.Recover
import Derived.KernelRfl
import Derived.Laws.Entries
/- An interpreter of the model's code that follows one order and is proved right for all: part 1. -/

namespace Go.Eng
noncomputable section
inductive Tr (α:Type) where
 | e
 | n (l:Tr α) (v:Option α) (r:Tr α)
def path (f:Nat):Nat→List Bool:=Nat.rec (motive:=fun _=>Nat→List Bool) (fun _=>[])
 (fun _ ih k=>cond (Nat.beq k 0) [] (cond (Nat.beq (Nat.mod k 2) 1) (true::ih (Nat.div k 2)) (false::ih (Nat.sub (Nat.div k 2) 1)))) f
def at_ (k:Nat):List Bool:=path k k
inductive gT where
 | cells (cs:List Value)
 | map (es:List MapEntry) (clock:Nat)
 | ro (cs:List Value)
 | iter (m:Option Nat) (since:Nat) (seen:List Nat) (last:Nat)
abbrev Heap:=Tr gT
inductive Od where
 | loc (d:Nat)
 | var (p:List Bool)
 | aF (v:Value)
 | fn (f:FuncId)
inductive bG (α:Type) where
 | ae (x:α)
 | pick (c a b:α)
 | aj (x:α)
 | ext (x:α) (i:Nat)
 | uY (x:α) (off:Nat) (agg:Option Nat)
 | ar (x:α) (off:Nat)
 | aB (x i:α) (z:Nat)
 | kl (x i:α) (n z:Nat)
 | ix (x i:α) (n z:Nat) (agg:Option Nat)
 | bin (op:BinOp) (t:TypeId) (x y:α)
 | un (op:UnOp) (x:α)
 | vT (s d:TypeId) (x:α)
 | nR (min:Bool) (xs:List α)
 | GF (t:TypeId) (x i:α)
 | BC (t:TypeId) (x:α) (lo hi:Option α)
 | dP (neg:Bool) (kd:Nat) (x y:α)
 | fR (zero:List Value) (parts:List (Nat×Nat×α))
 | yW (fn:FuncId) (first cap:List α)
 | uZ (t:TypeId) (x:α)
 | BD (x:α) (t:TypeId) (zero:Value) (ok:Bool)
 | ah (x:α) (agg:Option Nat)
 | len (x:α)
 | Bn (x:α)
 | Dc (x:α)
 | cap (x:α)
 | u0 (x:α) (lo hi mx:Option α) (z:Nat)
 | G8 (x:α) (lo hi:Option α) (n z:Nat)
 | nr (x k:α) (kt:TypeId) (zero:Value) (ok:Bool)
 | box (x:α)
 | eX (zero:List Value)
 | jF (z bytes:Nat) (zero:List Value) (l c:α)
 | gz (z len:Nat) (zero:List Value) (parts:List (Nat×Nat×α))
 | Bo (r:Option α)
 | a8 (x v:α) (n:Nat)
 | app (z bytes:Nat) (zero:List Value) (s x:α) (eN:Bool)
 | KM (z:Nat) (d s:α)
 | Ku (x:α) (zero:List Value)
 | G9 (m k v:α) (kt:TypeId)
 | Dd (m k:α) (kt:TypeId) (zero:Value)
 | De (m s v:α)
 | ins (z bytes:Nat) (s i v:α)
 | call (f:α) (args:List α)
 | inv (x:α) (name:String) (args:List α)
 | oF (f:α) (args:List α)
 | nI (x:α)
 | vU
 | vV (x:α)
 | nxt (x:α)
 | KN (x:α)
structure AO where
 keep:Option (List Bool)
 guard:Option (Nat×Bool)
 op:bG Od
structure bL where
 guard:Option (Nat×Bool)
 op:bG Od
 d:Nat
inductive aL where
 | skip
 | aa (dr:Bool) (ops:List (AO×List bL))
 | seq (a b:aL)
 | cond (c:Od) (a b:aL)
 | block (id:Nat) (c:aL)
 | loop (c:aL)
 | exit (id:Nat)
 | ret
structure aq where
 results:List (Od×Option (Option Nat))
 body:aL
inductive df where
 | ok (v:Value) (H:Heap) (nx:Nat)
 | nI (chain:List PanicEntry) (H:Heap) (nx:Nat)
structure aG where
 P:Program
 funcs:Nat→Option aq
 aH:FuncId→List Value→Heap→Nat→Option df
inductive Ex where
 | normal
 | exit (id:Nat)
 | ret
 | panic (chain:List PanicEntry)
abbrev eT:=Value×List Value
structure St where
 T:Tr Value
 D:List eT
 H:Heap
 nx:Nat
abbrev R0:=Option (Ex×St)
def scalar:Value→Bool
 | .bool _ | .int _ _ | .float _ _ | .complex _ _ _ | .string _ | .nilFunc=>true
 | _=>false
def flat:Value→Bool
 | .agg cs=>cs.toList.all scalar
 | v=>scalar v
def quiet {α:Type} (P:Program):Sem α→Option α
 | .pure a=>some a
 | .program k=>quiet P (k P)
 | _=>none
def take? (n:Nat) (l:List Value):Option (List Value):=
 Nat.rec (motive:=fun _=>List Value→Option (List Value)) (fun _=>some []) (fun _ ih l=>List.rec none (fun c cs _=>Option.rec none (fun r=>some (c::r)) (ih cs)) l) n l
def e9 (l:List Value) (n:Nat):List Value:=
 List.rec (motive:=fun _=>Nat→List Value) (fun _=>[]) (fun c l ih k=>Nat.rec (c::l) (fun k _=>ih k) k) l n
def eh:List Value→List Value→Option (List Value)
 | cs,[]=>some cs
 | _::cs,v::vs=>match eh cs vs with
  | some r=>some (v::r)
  | none=>none
 | [],_::_=>none
def gA (cs:List Value) (o:Nat) (vs:List Value):Option (List Value):=
 Nat.rec (motive:=fun _=>List Value→Option (List Value)) (fun cs=>eh cs vs) (fun _ ih cs=>List.rec none (fun c cs _=>Option.rec none (fun r=>some (c::r)) (ih cs)) cs) o cs
def cellsOf:Value→List Value
 | .agg cs=>cs.toList
 | v=>[v]
def vW (l:List Value):Option Value:=List.rec none (fun c _ _=>some c) l
def Hb (o:Option (List Value)):Option Value:=Option.rec none (fun l=>some (.agg l.toArray)) o
def partOf (cs:List Value) (off:Nat) (agg:Option Nat):Option Value:=
 Option.rec (vW (e9 cs off)) (fun n=>Hb (take? n (e9 cs off))) agg
def eD (cells:List Value):List (Nat×Nat×Value)→Option (List Value)
 | []=>some cells
 | (off,size,v)::rest=>bif Nat.beq (cellsOf v).length size then match gA cells off (cellsOf v) with
   | some NY=>eD NY rest
   | none=>none
  else none
def a7 (zero:List Value) (n:Nat):List Value:=Nat.rec [] (fun _ ih=>zero++ih) n
def aE (c:Nat):Nat:=Nat.div c 2
def exact (c:Nat):Bool:=Nat.beq (Nat.mod c 2) 1
def small:Nat:=1099511627776
def cJ:Nat→Value→Option Bool
 | 0,.pointer none=>some true
 | 0,.pointer (some _)=>some false
 | 1,.slice none _ _=>some true
 | 1,.slice (some _) _ _=>some false
 | 2,.map none=>some true
 | 2,.map (some _)=>some false
 | 3,.nilFunc=>some true
 | 3,.func _ _ _=>some false
 | 4,.nilIface=>some true
 | 4,.iface _ _=>some false
 | _,_=>none
def marked:List MapEntry→Nat→List MapEntry
 | [],_=>[]
 | e::es,i=>{ e with val:=.int .i64 i }::marked es (i + 1)
def sY:Value→Value→Bool
 | .bool a,.bool b=>cond a b (not b)
 | .int j a,.int k b=>decide (j=k)&&decide (a=b)
 | .string a,.string b=>decide (a=b)
 | _,_=>false
def sZ:List Value→List Value→Bool
 | [],[]=>true
 | a::as,b::bs=>sY a b&&sZ as bs
 | _,_=>false
def s4:Value→Value→Bool
 | .agg a,.agg b=>sZ a.toList b.toList
 | a,b=>sY a b
def s5:List MapEntry→Nat→Value→Bool
 | [],_,_=>false
 | e::_,0,k=>s4 e.key k
 | _::es,i + 1,k=>s5 es i k
def findAt (P:Program) (emp:Bool) (kt:TypeId) (k:Value) (es:List MapEntry):Option (Option Nat):=
 bif flat k&&es.all (fun e=>flat e.key) then match quiet P (Instr.checkKey emp 10000 kt k) with
  | some ()=>match quiet P (Instr.findKey kt k (marked es 0)) with
   | some (some (i,_))=>bif s5 es i k then some (some i) else none
   | some none=>some none
   | none=>none
  | none=>none
 else none
def eY:List MapEntry→Nat→Option MapEntry
 | [],_=>none
 | e::_,0=>some e
 | _::es,i + 1=>eY es i
def je:List MapEntry→Nat→Nat→Option Nat
 | [],_,_=>none
 | e::es,b,i=>bif Nat.beq e.born b then some i else je es b (i + 1)
def gV:List MapEntry→Nat→Value→List MapEntry
 | [],_,_=>[]
 | e::es,0,v=>{ e with val:=v }::es
 | e::es,i + 1,v=>e::gV es i v
def fa:Value→Value→Bool
 | .bool a,.bool b=>cond a b (not b)
 | .int j a,.int k b=>decide (j=k)&&decide (a=b)
 | .pointer none,.pointer none=>true
 | .pointer (some a),.pointer (some b)=>decide (a=b)
 | .slice none a b,.slice none c d=>Nat.beq a c&&Nat.beq b d
 | .slice (some p) a b,.slice (some q) c d=>decide (p=q)&&Nat.beq a c&&Nat.beq b d
 | .map none,.map none=>true
 | .map (some a),.map (some b)=>Nat.beq a b
 | _,_=>false
def KO:List Value→List Value→Bool
 | [],[]=>true
 | a::as,b::bs=>fa a b&&KO as bs
 | _,_=>false
def km:Value→Value→Bool
 | .agg a,.agg b=>KO a.toList b.toList
 | a,b=>fa a b
def Df (op:BinOp) (a b:Nat):Option Value:=match op with
 | .add=>cond (Nat.blt (Nat.add a b) 2147483648) (some (.int .i64 (.ofNat (Nat.add a b)))) none
 | .sub=>cond (Nat.ble b a) (cond (Nat.blt a 2147483648) (some (.int .i64 (.ofNat (Nat.sub a b)))) none) none
 | .mul=>cond (Nat.blt (Nat.mul a b) 2147483648) (some (.int .i64 (.ofNat (Nat.mul a b)))) none
 | .eql=>some (.bool (Nat.beq a b))
 | .neq=>some (.bool (not (Nat.beq a b)))
 | .lss=>some (.bool (Nat.blt a b))
 | .leq=>some (.bool (Nat.ble a b))
 | .gtr=>some (.bool (Nat.blt b a))
 | .geq=>some (.bool (Nat.ble b a))
 | _=>none
def so (op:BinOp):Option Value:=match op with
 | .eql=>some (.bool false)
 | .neq=>some (.bool true)
 | _=>none
def vg (op:BinOp) (x y:Value):Option Value:=match x,y with
 | .int .i64 (.ofNat a),.int .i64 (.ofNat b)=>Df op a b
 | .int .i64 (.ofNat _),.int .i64 (.negSucc _)=>so op
 | .int .i64 (.negSucc _),.int .i64 (.ofNat _)=>so op
 | _,_=>none
def VK:Value→Bool
 | .nilIface=>false
 | _=>true
def yI (lo hi:Nat):Value:=.chan (some (Nat.add (Nat.mul lo 18446744073709551616) hi))
def yX (k:Nat):Nat:=Nat.div k 18446744073709551616
def vX (k:Nat):Nat:=Nat.mod k 18446744073709551616
def ey:Value→Bool
 | .chan (some _)=>true
 | _=>false
def cr:Value→Option (Nat×Nat)
 | .int .i64 (.ofNat n)=>some (n,n)
 | .chan (some k)=>some (yX k,vX k)
 | _=>none
def lY (op:BinOp) (a b c d:Nat):Option Value:=match op with
 | .add=>bif Nat.blt (Nat.add b d) 9223372036854775808 then some (yI (Nat.add a c) (Nat.add b d)) else none
 | .leq=>bif Nat.ble b c then some (.bool true) else bif Nat.blt d a then some (.bool false) else none
 | .gtr=>bif Nat.ble b c then some (.bool false) else bif Nat.blt d a then some (.bool true) else none
 | .lss=>bif Nat.blt b c then some (.bool true) else bif Nat.ble d a then some (.bool false) else none
 | .geq=>bif Nat.blt b c then some (.bool false) else bif Nat.ble d a then some (.bool true) else none
 | _=>none
def s6 (op:BinOp) (x y:Value):Option Value:=bif ey x||ey y then match cr x,cr y with
  | some (a,b),some (c,d)=>lY op a b c d
  | _,_=>none
 else none
def p7 (mn:Bool) (xs:List Value):Option Value:=match mn,xs with
 | true,[x,y]=>bif ey x||ey y then match cr x,cr y with
   | some (a,b),some (c,d)=>some (yI (Nat.min a c) (Nat.min b d))
   | _,_=>none
  else none
 | _,_=>none
def kr (P:Program) (op:BinOp) (t:TypeId) (x y:Value):Option Value:=
 bif flat x&&flat y then match quiet P (do eqGuard op t (.const x) (.const y) x y;binOp op t x y) with
  | some v=>bif flat v then some v else none
  | none=>none
 else s6 op x y
def gE (P:Program) (xs:List Value) (s:Sem Value):Option Value:=
 bif xs.all flat then match quiet P s with
  | some v=>bif flat v then some v else none
  | none=>none
 else none
def xg (P:Program) (t:TypeId):Option (Option Nat):=match P.info? t,P.underlying t with
 | some i,some (.struct _)|some i,some (.array _ _)=>some (some i.size)
 | some _,some _=>some none
 | _,_=>none
def methodOf (P:Program) (t:TypeId) (name:String):Option (FuncId×Option (Option Nat)):=match P.info? t with
 | some i=>match i.methods.toList.find? (·.name == name) with
  | some m=>bif m.path.isEmpty then match m.func,P.underlying t with
    | some (f,true),some (.pointer _)=>some (f,none)
    | some (f,false),some (.pointer e)=>match xg P e with
     | some a=>some (f,some a)
     | none=>none
    | some (f,false),some _=>some (f,none)
    | _,_=>none
   else none
  | none=>none
 | none=>none
def oneOf:List Value→Value
 | [v]=>v
 | vs=>.tuple vs.toArray
def Wy {α:Type} (v:Option α) (gl gr:List Bool→Option α) (p:List Bool):Option α:=List.rec v (fun b p _=>cond b (gl p) (gr p)) p
def Wz {α:Type} (_:List Bool):Option α:=none
def ao {α:Type} (t:Tr α):List Bool→Option α:=Tr.rec Wz (fun _ v _ gl gr=>Wy v gl gr) t
abbrev SP (α:Type):=Tr α→Option α→(Tr α→R0)→R0
def WA {α:Type} (t:Tr α) (x:Option α) (k:Tr α→R0):R0:=Tr.rec (k (.n .e x .e)) (fun l _ r _ _=>k (.n l x r)) t
def R2 {α:Type} (b:Bool) (ih:SP α) (x:Option α) (k:Tr α→R0):R0:=cond b (ih .e x fun l=>k (.n l none .e)) (ih .e x fun r=>k (.n .e none r))
def R3 {α:Type} (b:Bool) (ih:SP α) (x:Option α) (k:Tr α→R0) (l:Tr α) (v:Option α) (r:Tr α):R0:=cond b (ih l x fun l=>k (.n l v r)) (ih r x fun r=>k (.n l v r))
def KP {α:Type} (b:Bool) (ih:SP α) (t:Tr α) (x:Option α) (k:Tr α→R0):R0:=Tr.rec (R2 b ih x k) (fun l v r _ _=>R3 b ih x k l v r) t
def dx {α:Type} (p:List Bool):SP α:=List.rec WA (fun b _ ih=>KP b ih) p
def bd {α β:Type} (o:Option α) (f:α→Option β):Option β:=Option.rec none f o
abbrev KV:=Value→R0
def s7 (L:List Value) (d:Nat) (k:KV):R0:=List.rec (motive:=fun _=>Nat→R0) (fun _=>none) (fun v _ ih d=>Nat.rec (k v) (fun d _=>ih d) d) L d
def fnK (f:FuncId) (k:KV):R0:=k (.func (.func f) #[] #[])
def a5 (T:Tr Value) (L:List Value) (x:Od) (k:KV):R0:=Od.rec (fun d=>s7 L d k) (fun p=>bd (ao T p) k) k (fun f=>fnK f k) x
def cS (T:Tr Value) (L:List Value) (xs:List Od):(List Value→R0)→R0:=
 List.rec (motive:=fun _=>(List Value→R0)→R0) (fun k=>k []) (fun x _ ih k=>a5 T L x fun v=>ih fun vs=>k (v::vs)) xs
def Hc (T:Tr Value) (L:List Value) (x:Nat×Nat×Od) (k:Nat×Nat×Value→R0):R0:=Prod.rec (fun a r=>Prod.rec (fun b x=>a5 T L x fun v=>k (a,b,v)) r) x
def dg (T:Tr Value) (L:List Value) (xs:List (Nat×Nat×Od)):(List (Nat×Nat×Value)→R0)→R0:=
 List.rec (motive:=fun _=>(List (Nat×Nat×Value)→R0)→R0) (fun k=>k []) (fun x _ ih k=>Hc T L x fun v=>ih fun vs=>k (v::vs)) xs
def dm (v:Value) (k:Nat→Nat→R0):R0:=match v with
 | .pointer (some ⟨b,o,none⟩)=>k b o
 | _=>none
def cF (v:Value) (k:Nat→R0):R0:=match v with
 | .int _ (.ofNat n)=>k n
 | _=>none
def nJ (v:Value) (k:Nat→R0):R0:=match v with
 | .int .i64 (.ofNat n)=>k n
 | _=>none
def nK (v:Value) (k:List Value→R0):R0:=match v with
 | .agg cs=>k cs.toList
 | _=>none
def lZ (v:Value) (k:Nat→Nat→Nat→Nat→Nat→R0):R0:=match v with
 | .slice (some ⟨b,o,some z⟩) len c=>k b o z len c
 | _=>none
def fD (v:Value) (a b:R0):R0:=match v with
 | .bool t=>cond t a b
 | _=>none
def sq (b:Option gT) (k:List Value→R0):R0:=Option.rec none (fun b=>gT.rec k (fun _ _=>none) (fun _=>none) (fun _ _ _ _=>none) b) b
def onRead (b:Option gT) (k:List Value→R0):R0:=Option.rec none (fun b=>gT.rec k (fun _ _=>none) k (fun _ _ _ _=>none) b) b
def fe (b:Option gT) (k:List MapEntry→Nat→R0):R0:=Option.rec none (fun b=>gT.rec (fun _=>none) k (fun _=>none) (fun _ _ _ _=>none) b) b
def eU (H:Heap) (b:Nat) (k:List Value→R0):R0:=sq (ao H (at_ b)) k
def cA (H:Heap) (b:Nat) (k:List Value→R0):R0:=onRead (ao H (at_ b)) k
def oL (H:Heap) (v:Value) (k:Nat→List MapEntry→Nat→R0):R0:=match v with
 | .map (some r)=>fe (ao H (at_ r)) (k r)
 | _=>none
def gR (T:Tr Value) (L:List Value) (x:Option Od) (WB:Nat) (k:Nat→R0):R0:=Option.rec (k WB) (fun x=>a5 T L x fun v=>cF v k) x
abbrev LK:=Program→Tr Value→List Value→Heap→KV→R0
def R4 (x:Od):LK:=fun _ T L _ k=>a5 T L x k
def MK (c a b:Od):LK:=fun _ T L _ k=>a5 T L c fun c=>fD c (a5 T L a k) (a5 T L b k)
def s8 (v:Value) (k:KV):R0:=match v with
 | .pointer (some a)=>k (.pointer (some a))
 | .func (.func f) a b=>k (.func (.func f) a b)
 | _=>none
def Hd (x:Od):LK:=fun _ T L _ k=>a5 T L x fun v=>s8 v k
def He (v:Value) (i:Nat) (k:KV):R0:=match v with
 | .tuple vs=>s7 vs.toList i k
 | _=>none
def R5 (x:Od) (i:Nat):LK:=fun _ T L _ k=>a5 T L x fun v=>He v i k
def R6 (x:Od) (off:Nat) (agg:Option Nat):LK:=fun _ T L _ k=>a5 T L x fun v=>nK v fun cs=>bd (partOf cs off agg) k
def Dg (b o:Nat) (k:KV):R0:=k (.pointer (some ⟨b,o,none⟩))
def R7 (x:Od) (off:Nat):LK:=fun _ T L _ k=>a5 T L x fun v=>dm v fun b o=>Dg b (Nat.add o off) k
def NZ (z n:Nat) (k:KV) (b o z' len _c:Nat):R0:=cond (and (Nat.blt n len) (Nat.beq z z')) (Dg b (Nat.add o (Nat.mul n z)) k) none
def R8 (x i:Od) (z:Nat):LK:=fun _ T L _ k=>a5 T L x fun v=>a5 T L i fun i=>cF i fun n=>lZ v (NZ z n k)
def N0 (n len z:Nat) (k:KV) (b o:Nat):R0:=cond (Nat.blt n len) (Dg b (Nat.add o (Nat.mul n z)) k) none
def R9 (x i:Od) (len z:Nat):LK:=fun _ T L _ k=>a5 T L x fun v=>a5 T L i fun i=>cF i fun n=>dm v (N0 n len z k)
def lIx (x i:Od) (len z:Nat) (agg:Option Nat):LK:=fun _ T L _ k=>a5 T L x fun v=>a5 T L i fun i=>cF i fun n=>nK v fun cs=>cond (Nat.blt n len) (bd (partOf cs (Nat.mul n z) agg) k) none
def eE (P:Program) (op:BinOp) (t:TypeId) (x y:Value) (k:KV):R0:=Option.rec (bd (kr P op t x y) k) k (vg op x y)
def Sa (op:BinOp) (t:TypeId) (x y:Od):LK:=fun P T L _ k=>a5 T L x fun a=>a5 T L y fun b=>eE P op t a b k
def lUn (op:UnOp) (x:Od):LK:=fun P T L _ k=>a5 T L x fun v=>bd (gE P [v] (Op.unary op v)) k
def Sb (s d:TypeId) (x:Od):LK:=fun P T L _ k=>a5 T L x fun v=>bd (gE P [v] (convert s d v)) k
def vh (P:Program) (mn:Bool) (vs:List Value):Option Value:=Option.rec (gE P vs (cond mn (Builtin.min_ #[] 0 vs.toArray) (Builtin.max_ #[] 0 vs.toArray))) some (p7 mn vs)
def Sc (mn:Bool) (xs:List Od):LK:=fun P T L _ k=>cS T L xs fun vs=>bd (vh P mn vs) k
def Sd (t:TypeId) (x i:Od):LK:=fun P T L _ k=>a5 T L x fun v=>a5 T L i fun i=>bd (gE P [v,i] (Instr.index t v i)) k
def vi (T:Tr Value) (L:List Value) (x:Option Od) (k:Option Value→R0):R0:=Option.rec (k none) (fun x=>a5 T L x fun v=>k (some v)) x
def Se (t:TypeId) (x:Od) (lo hi:Option Od):LK:=fun P T L _ k=>a5 T L x fun v=>vi T L lo fun l=>vi T L hi fun h=>bd (gE P (v::(l.toList++h.toList)) (Instr.slice t v l h none)) k
def xh (neg:Bool) (kd:Nat) (x y:Value) (k:KV):R0:=bd (cJ kd x) fun a=>bd (cJ kd y) fun b=>cond (or a b) (k (.bool (xor neg (and a b)))) none
def Hf (neg:Bool) (kd:Nat) (x y:Od):LK:=fun _ T L _ k=>a5 T L x fun a=>a5 T L y fun b=>xh neg kd a b k
def Sf (zero:List Value) (parts:List (Nat×Nat×Od)):LK:=fun _ T L _ k=>dg T L parts fun ps=>bd (eD zero ps) fun cs=>k (.agg cs.toArray)
def Sg (f:FuncId) (first cp:List Od):LK:=fun _ T L _ k=>cS T L first fun a=>cS T L cp fun b=>k (.func (.func f) a.toArray b.toArray)
def Sh (t:TypeId) (x:Od):LK:=fun _ T L _ k=>a5 T L x fun v=>k (.iface t v)
def KQ (t:TypeId) (zero:Value) (ok:Bool) (k:KV) (v:Value):R0:=match v with
 | .nilIface=>cond ok (k (.tuple #[zero,.bool false])) none
 | .iface t' v=>cond (Nat.beq t' t) (k (cond ok (.tuple #[v,.bool true]) v)) (cond ok (k (.tuple #[zero,.bool false])) none)
 | _=>none
def Si (x:Od) (t:TypeId) (zero:Value) (ok:Bool):LK:=fun _ T L _ k=>a5 T L x (KQ t zero ok k)
def Sj (x:Od) (agg:Option Nat):LK:=fun _ T L H k=>a5 T L x fun v=>dm v fun b o=>cA H b fun cs=>bd (partOf cs o agg) k
def Hg (v:Value) (k:KV):R0:=match v with
 | .slice _ n _=>k (.int .i64 (.ofNat n))
 | _=>none
def Sk (x:Od):LK:=fun _ T L _ k=>a5 T L x fun v=>Hg v k
def Hh (v:Value) (k:KV):R0:=match v with
 | .string s=>k (.int .i64 (.ofNat s.size))
 | _=>none
def Sl (x:Od):LK:=fun _ T L _ k=>a5 T L x fun v=>Hh v k
def xi (H:Heap) (v:Value) (k:KV):R0:=match v with
 | .map none=>k (.int .i64 (.ofNat 0))
 | .map (some r)=>fe (ao H (at_ r)) fun es _=>k (.int .i64 (.ofNat es.length))
 | _=>none
def Sm (x:Od):LK:=fun _ T L H k=>a5 T L x fun v=>xi H v k
def yY (v:Value) (k:KV):R0:=match v with
 | .slice none _ _=>k (.int .i64 (.ofNat 0))
 | .slice (some _) _ c=>cond (exact c) (k (.int .i64 (.ofNat (aE c)))) (k (yI (aE c) 9223372036854775807))
 | _=>none
def Sn (x:Od):LK:=fun _ T L _ k=>a5 T L x fun v=>yY v k
def Er (T:Tr Value) (L:List Value) (mx:Option Od) (k:KV) (b o z l h c:Nat):R0:=
 Option.rec (k (.slice (some ⟨b,Nat.add o (Nat.mul l z),some z⟩) (Nat.sub h l) (Nat.sub c (Nat.mul 2 l))))
  (fun m=>a5 T L m fun m=>cF m fun m=>cond (and (Nat.ble h m) (Nat.ble m (aE c))) (k (.slice (some ⟨b,Nat.add o (Nat.mul l z),some z⟩) (Nat.sub h l) (Nat.succ (Nat.mul 2 (Nat.sub m l))))) none) mx
def xj (T:Tr Value) (L:List Value) (lo hi mx:Option Od) (z:Nat) (k:KV) (v:Value):R0:=match v with
 | .slice none _ _=>gR T L lo 0 fun l=>gR T L hi 0 fun h=>cond (and (Nat.beq l 0) (and (Nat.beq h 0) mx.isNone)) (k (.slice none 0 0)) none
 | .slice (some ⟨_,_,none⟩) 0 _=>gR T L lo 0 fun l=>gR T L hi 0 fun h=>cond (and (Nat.beq l 0) (and (Nat.beq h 0) mx.isNone)) (k (.slice (some ⟨0,0,none⟩) 0 1)) none
 | .slice (some ⟨b,o,some z'⟩) len c=>gR T L lo 0 fun l=>gR T L hi len fun h=>cond (and (Nat.beq z z') (and (Nat.ble l h) (Nat.ble h (aE c)))) (Er T L mx k b o z l h c) none
 | _=>none
def So (x:Od) (lo hi mx:Option Od) (z:Nat):LK:=fun _ T L _ k=>a5 T L x (xj T L lo hi mx z k)
def Sp (x:Od) (lo hi:Option Od) (n z:Nat):LK:=fun _ T L _ k=>a5 T L x fun v=>dm v fun b o=>gR T L lo 0 fun l=>gR T L hi n fun h=>
 cond (and (Nat.ble l h) (and (Nat.ble h n) (Nat.blt 0 z))) (k (.slice (some ⟨b,Nat.add o (Nat.mul l z),some z⟩) (Nat.sub h l) (Nat.succ (Nat.mul 2 (Nat.sub n l))))) none
def Rb (ok:Bool) (v:Value) (b:Bool):Value:=cond ok (.tuple #[v,.bool b]) v
def Sq (es:List MapEntry) (zero:Value) (ok:Bool) (k:KV) (i:Option Nat):R0:=Option.rec (k (Rb ok zero false)) (fun i=>bd (eY es i) fun e=>k (Rb ok e.val true)) i
def vj (P:Program) (kt:TypeId) (zero:Value) (ok:Bool) (H:Heap) (key:Value) (k:KV) (m:Value):R0:=match m with
 | .map none=>cond (flat key) (bd (quiet P (Instr.checkKey true 10000 kt key)) fun _=>k (Rb ok zero false)) none
 | .map (some r)=>fe (ao H (at_ r)) fun es _=>bd (findAt P es.isEmpty kt key es) (Sq es zero ok k)
 | _=>none
def Sr (m key:Od) (kt:TypeId) (zero:Value) (ok:Bool):LK:=fun P T L H k=>a5 T L m fun m=>a5 T L key fun key=>vj P kt zero ok H key k m
def vk:LK:=fun _ _ _ _ _=>none
abbrev KA:=Value→Heap→Nat→R0
abbrev AK:=Program→Tr Value→List Value→Heap→Nat→KA→R0
def dQ (f:LK):AK:=fun P T L H nx k=>f P T L H fun v=>k v H nx
def lR (H:Heap) (nx b:Nat) (v:Value) (k:KA) (cs:List Value):R0:=dx (at_ b) H (some (.cells cs)) fun H=>k v H nx
def fresh (H:Heap) (nx:Nat) (v:Value) (k:KA) (cs:List Value):R0:=dx (at_ nx) H (some (.cells cs)) fun H=>k v H (Nat.succ nx)
def ptrTo (nx:Nat):Value:=.pointer (some ⟨nx,0,none⟩)
def rS (nx z len c:Nat):Value:=.slice (some ⟨nx,0,some z⟩) len c
def WD (x:Od):AK:=fun _ T L H nx k=>a5 T L x fun v=>fresh H nx (ptrTo nx) k (cellsOf v)
def WE (zero:List Value):AK:=fun _ _ _ H nx k=>fresh H nx (ptrTo nx) k zero
def KR (z bytes:Nat) (zero:List Value) (H:Heap) (nx l c:Nat) (k:KA):R0:=
 cond (and (Nat.ble l c) (and (Nat.ble (Nat.mul c bytes) small) (and (Nat.ble c small) (Nat.blt 0 z)))) (fresh H nx (rS nx z l (Nat.succ (Nat.mul 2 c))) k (a7 zero c)) none
def WG (z bytes:Nat) (zero:List Value) (l c:Od):AK:=fun _ T L H nx k=>a5 T L l fun l=>cF l fun l=>a5 T L c fun c=>cF c fun c=>KR z bytes zero H nx l c k
def WH (z len:Nat) (zero:List Value) (parts:List (Nat×Nat×Od)):AK:=fun _ T L H nx k=>dg T L parts fun ps=>bd (eD (a7 zero len) ps) fun cs=>
 cond (Nat.blt 0 z) (fresh H nx (rS nx z len (Nat.succ (Nat.mul 2 len))) k cs) none
def WI (r:Option Od):AK:=fun _ T L H nx k=>gR T L r 0 fun _=>dx (at_ nx) H (some (.map [] 0)) fun H=>k (.map (some nx)) H (Nat.succ nx)
def s9 (l:List Value):Nat→Value→(List Value→R0)→R0:=
 List.rec (motive:=fun _=>Nat→Value→(List Value→R0)→R0) (fun _ _ _=>none) (fun c l ih o v k=>Nat.rec (k (v::l)) (fun o _=>ih o v fun l=>k (c::l)) o) l
def KS (H:Heap) (nx b o:Nat) (cs old:List Value) (k:KA):R0:=
 List.rec none (fun c r _=>List.rec (s9 old o c (lR H nx b undef k)) (fun _ _ _=>bd (gA old o cs) (lR H nx b undef k)) r) cs
def p8:Value→Bool
 | .agg _ | .tuple _=>false
 | _=>true
def bZ (l:List Value):Bool:=List.rec true (fun v _ ih=>cond (p8 v) ih false) l
def Es (H:Heap) (nx n:Nat) (cs:List Value) (k:KA) (b o:Nat):R0:=cond (and (Nat.beq cs.length n) (bZ cs)) (eU H b fun old=>KS H nx b o cs old k) none
def WJ (x v:Od) (n:Nat):AK:=fun _ T L H nx k=>a5 T L x fun x=>a5 T L v fun v=>dm x (Es H nx n (cellsOf v) k)
def iJ (H:Heap) (z:Nat) (k:Nat→List Value→R0) (v:Value):R0:=match v with
 | .slice none _ _=>k 0 []
 | .slice (some ⟨_,_,none⟩) 0 _=>k 0 []
 | .slice (some ⟨b,o,some z'⟩) n _=>cond (Nat.beq z z') (cond (Nat.beq n 0) (k 0 []) (cA H b fun cs=>bd (take? (Nat.mul n z) (e9 cs o)) fun cs=>k n cs)) none
 | _=>none
def eF (z bytes:Nat) (H:Heap) (nx:Nat) (k:KA) (len n:Nat) (old new:List Value):R0:=
 cond (and (Nat.ble (Nat.mul (Nat.add len n) bytes) small) (Nat.ble (Nat.add len n) small)) (fresh H nx (rS nx z (Nat.add len n) (Nat.mul 2 (Nat.add len n))) k (old++new)) none
def kY (z bytes:Nat) (H:Heap) (nx:Nat) (k:KA) (b o len c n:Nat) (new:List Value):R0:=
 eU H b fun cs=>bd (take? (Nat.mul len z) (e9 cs o)) fun old=>
  cond (exact c) (eF z bytes H nx k len n old new) (dx (at_ b) H none fun H=>eF z bytes H nx k len n old new)
def lM (cs:List Value) (o:Nat) (vs:List Value):Option (List Value):=Option.rec (cond (Nat.beq cs.length o) (some (cs++vs)) none) some (gA cs o vs)
def q7 (z:Nat) (H:Heap) (nx:Nat) (k:KA) (b o len c n:Nat) (new:List Value):R0:=
 eU H b fun cs=>bd (lM cs (Nat.add o (Nat.mul len z)) new) (lR H nx b (.slice (some ⟨b,o,some z⟩) (Nat.add len n) c) k)
def p9 (z bytes:Nat) (H:Heap) (nx:Nat) (k:KA) (s:Value) (n:Nat) (new:List Value):R0:=match s with
 | .slice none _ _=>cond (Nat.beq n 0) (k (.slice none 0 0) H nx) (cond (Nat.blt 0 z) (eF z bytes H nx k 0 n [] new) none)
 | .slice (some ⟨b,o,some z'⟩) len c=>cond (and (Nat.beq z z') (and (Nat.blt 0 z) (bZ new)))
   (cond (Nat.beq n 0) (k (.slice (some ⟨b,o,some z⟩) len c) H nx) (cond (Nat.ble (Nat.add len n) (aE c)) (q7 z H nx k b o len c n new) (kY z bytes H nx k b o len c n new))) none
 | _=>none
def Ss (bytes:Nat) (zero:List Value) (k:Nat→List Value→R0) (n:Nat):R0:=cond (and (Nat.ble n small) (Nat.ble (Nat.mul n bytes) small)) (k n (a7 zero n)) none
def xk (z bytes:Nat) (zero:List Value) (eN:Bool) (H:Heap) (x:Value) (k:Nat→List Value→R0):R0:=cond eN (cF x (Ss bytes zero k)) (iJ H z k x)
def WK (z bytes:Nat) (zero:List Value) (s x:Od) (eN:Bool):AK:=fun _ T L H nx k=>a5 T L s fun s=>a5 T L x fun x=>xk z bytes zero eN H x (p9 z bytes H nx k s)
def WL (z:Nat) (H:Heap) (nx:Nat) (k:KA) (n:Nat) (cs:List Value) (b o z' len _c:Nat):R0:=cond (Nat.beq z z')
 (cond (Nat.beq (Nat.min n len) 0) (k (.int .i64 (.ofNat 0)) H nx) (bd (take? (Nat.mul (Nat.min n len) z) cs) fun cs=>cond (bZ cs) (eU H b fun old=>bd (gA old o cs) (lR H nx b (.int .i64 (.ofNat (Nat.min n len))) k)) none)) none
def KT (z:Nat) (H:Heap) (nx:Nat) (k:KA) (d:Value) (n:Nat) (cs:List Value):R0:=match d with
 | .slice none _ _=>k (.int .i64 (.ofNat 0)) H nx
 | d=>lZ d (WL z H nx k n cs)
def WM (z:Nat) (d s:Od):AK:=fun _ T L H nx k=>a5 T L d fun d=>a5 T L s fun s=>iJ H z (KT z H nx k d) s
def KU (zero:List Value) (H:Heap) (nx:Nat) (k:KA) (x:Value):R0:=match x with
 | .slice none _ _=>k undef H nx
 | .slice (some ⟨b,o,some z⟩) n _=>cond (Nat.beq n 0) (k undef H nx) (cond (and (Nat.beq z zero.length) (bZ zero)) (eU H b fun cs=>bd (gA cs o (a7 zero n)) (lR H nx b undef k)) none)
 | _=>none
def WN (x:Od) (zero:List Value):AK:=fun _ T L H nx k=>a5 T L x fun x=>KU zero H nx k x
def ff (es:List MapEntry) (c:Nat) (key v:Value):gT:=.map (es++[{ key,val:=v,born:=c }]) (Nat.succ c)
def WQ (m key v:Od) (kt:TypeId):AK:=fun P T L H nx k=>a5 T L m fun m=>a5 T L key fun key=>a5 T L v fun v=>oL H m fun r es c=>
 bd (findAt P false kt key es) fun i=>Option.rec (dx (at_ r) H (some (ff es c key v)) fun H=>k undef H nx) (fun i=>dx (at_ r) H (some (.map (gV es i v) c)) fun H=>k undef H nx) i
def WR (m key:Od) (kt:TypeId) (zero:Value):AK:=fun P T L H nx k=>a5 T L m fun m=>a5 T L key fun key=>oL H m fun r es c=>
 bd (findAt P false kt key es) fun i=>Option.rec (dx (at_ r) H (some (ff es c key zero)) fun H=>k (.tuple #[zero,.int .i64 (.ofNat c)]) H nx)
  (fun i=>bd (eY es i) fun e=>k (.tuple #[e.val,.int .i64 (.ofNat e.born)]) H nx) i
def WS (m s v:Od):AK:=fun _ T L H nx k=>a5 T L m fun m=>a5 T L s fun s=>cF s fun b=>a5 T L v fun v=>oL H m fun r es c=>
 bd (je es b 0) fun i=>dx (at_ r) H (some (.map (gV es i v) c)) fun H=>k undef H nx
def Hi (z bytes:Nat) (H:Heap) (nx:Nat) (k:KA) (i:Nat) (b o z1 len _c b2 o2 z2 m _c2:Nat):R0:=
 cond (and (Nat.beq z z1) (and (Nat.beq z z2) (and (Nat.blt 0 z) (and (Nat.blt 0 m) (and (Nat.ble i len) (not (Nat.beq b b2)))))))
  (eU H b fun cs=>eU H b2 fun jf=>bd (take? (Nat.mul len z) (e9 cs o)) fun old=>bd (take? (Nat.mul m z) (e9 jf o2)) fun new=>bd (take? (Nat.mul i z) old) fun front=>
   cond (and (bZ old) (bZ new)) (dx (at_ b) H none fun H=>eF z bytes H nx k len m front (new++e9 old (Nat.mul i z))) none) none
def WT (z bytes:Nat) (s i v:Od):AK:=fun _ T L H nx k=>a5 T L s fun s=>a5 T L i fun i=>nJ i fun i=>a5 T L v fun v=>lZ s fun b o z1 len c=>lZ v (Hi z bytes H nx k i b o z1 len c)
def Su:AK:=fun _ _ _ _ _ _=>none
def ma (o:Option gT) (k:Option Nat→Nat→List Nat→Nat→R0):R0:=match o with
 | some (.iter m a s c)=>k m a s c
 | _=>none
def KW (H:Heap) (nx:Nat) (k:KA) (m:Value):R0:=match m with
 | .map none=>dx (at_ nx) H (some (.iter none 0 [] 0)) fun H=>k (ptrTo nx) H (Nat.succ nx)
 | .map (some b)=>fe (ao H (at_ b)) fun _ c=>dx (at_ nx) H (some (.iter (some b) c [] c)) fun H=>k (ptrTo nx) H (Nat.succ nx)
 | _=>none
def WU (x:Od):AK:=fun _ T L H nx k=>a5 T L x (KW H nx k)
def ta (es:List MapEntry) (seen:List Nat):List MapEntry:=es.filter fun e=>!seen.contains e.born
def KX (H:Heap) (nx:Nat) (k:KA) (r b since:Nat) (seen:List Nat) (c:Nat) (l:List MapEntry):R0:=match l with
 | []=>k (.tuple #[.bool false]) H nx
 | [e]=>cond (Nat.blt e.born since) (dx (at_ r) H (some (.iter (some b) since (seen++[e.born]) c)) fun H=>k (.tuple #[.bool true,e.key,e.val]) H nx) none
 | _=>none
def Sv (H:Heap) (nx:Nat) (k:KA) (r:Nat) (m:Option Nat) (since:Nat) (seen:List Nat) (last:Nat):R0:=
 Option.rec (k (.tuple #[.bool false]) H nx) (fun b=>fe (ao H (at_ b)) fun es c=>
  cond (!seen.isEmpty&&!es.isEmpty&&es.all fun e=>decide (e.born≥last)) none (KX H nx k r b since seen c (ta es seen))) m
def WV (x:Od):AK:=fun _ T L H nx k=>a5 T L x fun v=>dm v fun r o=>cond (Nat.beq o 0) (ma (ao H (at_ r)) (Sv H nx k r)) none
def Sw (H:Heap) (nx:Nat) (k:KA) (m:Option Nat) (WW:Nat) (seen:List Nat) (last:Nat):R0:=
 Option.rec none (fun b=>bd seen.getLast? fun st=>fe (ao H (at_ b)) fun es c=>cond (Nat.beq c last) (bd (es.find? fun e=>e.born == st) fun e=>k (.tuple #[e.key,e.val]) H nx) none) m
def WX (x:Od):AK:=fun _ T L H nx k=>a5 T L x fun v=>dm v fun r o=>cond (Nat.beq o 0) (ma (ao H (at_ r)) (Sw H nx k)) none
def dv (o:bG Od):LK:=bG.rec (motive:=fun _=>LK) R4 MK Hd R5 R6 R7 R8 R9 lIx Sa lUn Sb Sc Sd Se Hf Sf Sg Sh Si Sj Sk Sm Sl Sn So Sp Sr
 (fun _=>vk) (fun _=>vk) (fun _ _ _ _ _=>vk) (fun _ _ _ _=>vk) (fun _=>vk) (fun _ _ _=>vk) (fun _ _ _ _ _ _=>vk) (fun _ _ _=>vk) (fun _ _=>vk) (fun _ _ _ _=>vk) (fun _ _ _ _=>vk) (fun _ _ _=>vk) (fun _ _ _ _ _=>vk)
 (fun _ _=>vk) (fun _ _ _=>vk) (fun _ _=>vk) (fun _=>vk) vk (fun _=>vk) (fun _=>vk) (fun _=>vk) o
def cm (o:bG Od):AK:=bG.rec (motive:=fun _=>AK) (fun x=>dQ (R4 x)) (fun x y z=>dQ (MK x y z)) (fun x=>dQ (Hd x)) (fun x y=>dQ (R5 x y)) (fun x y z=>dQ (R6 x y z)) (fun x y=>dQ (R7 x y))
 (fun x y z=>dQ (R8 x y z)) (fun a b c d=>dQ (R9 a b c d)) (fun a b c d e=>dQ (lIx a b c d e)) (fun a b c d=>dQ (Sa a b c d)) (fun a b=>dQ (lUn a b)) (fun a b c=>dQ (Sb a b c)) (fun a b=>dQ (Sc a b))
 (fun a b c=>dQ (Sd a b c)) (fun a b c d=>dQ (Se a b c d)) (fun a b c d=>dQ (Hf a b c d)) (fun a b=>dQ (Sf a b)) (fun a b c=>dQ (Sg a b c)) (fun a b=>dQ (Sh a b)) (fun a b c d=>dQ (Si a b c d))
 (fun a b=>dQ (Sj a b)) (fun a=>dQ (Sk a)) (fun a=>dQ (Sm a)) (fun a=>dQ (Sl a)) (fun a=>dQ (Sn a)) (fun a b c d e=>dQ (So a b c d e)) (fun a b c d e=>dQ (Sp a b c d e)) (fun a b c d e=>dQ (Sr a b c d e))
 WD WE WG WH WI WJ WK WM WN WQ WR WS WT (fun _ _=>Su) (fun _ _ _=>Su) (fun _ _=>Su) (fun _=>Su) Su WU WV WX o
abbrev RC:=Tr Value→List eT→Heap→Nat→R0
structure jg where
 code:aL→RC
 call:FuncId→List Value→Heap→Nat→Option df
abbrev RL:=Tr Value→List Value→List eT→Heap→Nat→R0
def nL (want:Bool) (v:Value):Bool:=match v with
 | .bool b=>cond b want (not want)
 | _=>false
def BE (L:List Value) (d:Nat):Option Value:=List.rec (motive:=fun _=>Nat→Option Value) (fun _=>none) (fun v _ ih d=>Nat.rec (some v) (fun d _=>ih d) d) L d
def vY (want:Bool) (v:Option Value):Bool:=Option.rec false (nL want) v
def wanted (L:List Value) (g:Option (Nat×Bool)):Bool:=Option.rec true (fun p=>Prod.rec (fun d want=>vY want (BE L d)) p) g
def Hj (P:Program) (T:Tr Value) (L:List Value) (H:Heap) (a:bL) (k:R0):R0:=cond (wanted L a.guard) (dv a.op P T L H fun v=>s7 L a.d fun u=>cond (km u v) k none) k
def fS (P:Program) (T:Tr Value) (L:List Value) (H:Heap) (l:List bL) (k:R0):R0:=List.rec k (fun a _ ih=>Hj P T L H a ih) l
def Hk (T:Tr Value) (p:Option (List Bool)) (v:Value) (k:Tr Value→R0):R0:=Option.rec (k T) (fun p=>dx p T (some v) k) p
def br (P:Program) (p:Option (List Bool)) (ag:List bL) (k:RL) (T:Tr Value) (L:List Value) (D:List eT) (v:Value) (H:Heap) (nx:Nat):R0:=
 Hk T p v fun T=>fS P T (v::L) H ag (k T (v::L) D H nx)
abbrev OK:=aG→jg→Option (List Bool)→List bL→RL→bG Od→RL
def dK:OK:=fun A _ p ag k o T L D H nx=>cm o A.P T L H nx (br A.P p ag k T L D)
def dA (P:Program) (p:Option (List Bool)) (ag:List bL) (k:RL) (T:Tr Value) (L:List Value) (D:List eT) (c:df):R0:=
 df.rec (fun v H nx=>br P p ag k T L D v H nx) (fun ch H nx=>some (.panic ch,⟨T,D,H,nx⟩)) c
def ft (args:List Value) (k:FuncId→List Value→R0) (f:Value):R0:=match f with
 | .func (.func f) first captured=>k f (first.toList++args++captured.toList)
 | _=>none
def Sx (f:Od) (args:List Od):OK:=fun A r p ag k _ T L D H nx=>a5 T L f fun f=>cS T L args fun vs=>ft vs (fun g vs=>bd (r.call g vs H nx) (dA A.P p ag k T L D)) f
def yZ (H:Heap) (v:Value) (a:Option (Option Nat)) (k:KV):R0:=Option.rec (k v) (fun agg=>dm v fun b o=>cA H b fun cs=>bd (partOf cs o agg) k) a
def nt (P:Program) (name:String) (H:Heap) (k:FuncId→Value→R0) (v:Value):R0:=match v with
 | .iface t v=>bd (methodOf P t name) fun m=>yZ H v m.2 (k m.1)
 | _=>none
def WY (x:Od) (name:String) (args:List Od):OK:=fun A r p ag k _ T L D H nx=>a5 T L x fun x=>cS T L args fun vs=>nt A.P name H (fun g v=>bd (r.call g (v::vs) H nx) (dA A.P p ag k T L D)) x
def qa (f:Value) (k:R0):R0:=match f with
 | .func (.func _) _ _=>k
 | _=>none
def WZ (f:Od) (args:List Od):OK:=fun A _ p ag k _ T L D H nx=>a5 T L f fun f=>cS T L args fun vs=>qa f (br A.P p ag k T L ((f,vs)::D) undef H nx)
def y0 (T:Tr Value) (D:List eT) (H:Heap) (nx:Nat) (v:Value):R0:=match v with
 | .iface t v=>some (.panic [{ v:=.iface t v,recovered:=false }],⟨T,D,H,nx⟩)
 | _=>none
def W0 (x:Od):OK:=fun _ _ _ _ _ _ T L D H nx=>a5 T L x (y0 T D H nx)
def oNo:OK:=fun _ _ _ _ _ _ _ _ _ _ _=>none
def pX (o:bG Od):OK:=bG.rec (motive:=fun _=>OK) (fun _=>dK) (fun _ _ _=>dK) (fun _=>dK) (fun _ _=>dK) (fun _ _ _=>dK) (fun _ _=>dK) (fun _ _ _=>dK) (fun _ _ _ _=>dK) (fun _ _ _ _ _=>dK) (fun _ _ _ _=>dK) (fun _ _=>dK) (fun _ _ _=>dK) (fun _ _=>dK) (fun _ _ _=>dK) (fun _ _ _ _=>dK) (fun _ _ _ _=>dK) (fun _ _=>dK) (fun _ _ _=>dK) (fun _ _=>dK) (fun _ _ _ _=>dK) (fun _ _=>dK) (fun _=>dK) (fun _=>dK) (fun _=>dK) (fun _=>dK) (fun _ _ _ _ _=>dK) (fun _ _ _ _ _=>dK) (fun _ _ _ _ _=>dK) (fun _=>dK) (fun _=>dK) (fun _ _ _ _ _=>dK) (fun _ _ _ _=>dK) (fun _=>dK) (fun _ _ _=>dK) (fun _ _ _ _ _ _=>dK) (fun _ _ _=>dK) (fun _ _=>dK) (fun _ _ _ _=>dK) (fun _ _ _ _=>dK) (fun _ _ _=>dK) (fun _ _ _ _ _=>dK) Sx WY WZ W0 oNo (fun _=>dK) (fun _=>dK) (fun _=>dK) o
def opG (A:aG) (r:jg) (o:AO) (ag:List bL) (k:RL):RL:=fun T L D H nx=>
 cond (wanted L o.guard) (pX o.op A r o.keep ag k o.op T L D H nx) (br A.P o.keep ag k T L D undef H nx)
def W1:RL:=fun T _ D H nx=>some (.normal,⟨T,D,H,nx⟩)
def opP (A:aG) (r:jg) (x:AO×List bL) (k:RL):RL:=Prod.rec (fun o ag=>opG A r o ag k) x
def bz (A:aG) (r:jg) (l:List (AO×List bL)):RL:=List.rec (motive:=fun _=>RL) W1 (fun o _ ih=>opP A r o ih) l
def W2 (k:RC) (st:St):R0:=St.rec (fun T D H nx=>k T D H nx) st
def stay (e:Ex) (st:St):R0:=some (e,st)
def W3 (k:RC) (e:Ex):St→R0:=Ex.rec (W2 k) (fun i=>stay (.exit i)) (stay .ret) (fun c=>stay (.panic c)) e
def mb (k:RC) (o:Ex×St):R0:=Prod.rec (fun e st=>W3 k e st) o
def Hl:RC:=fun T D H nx=>some (.normal,⟨T,D,H,nx⟩)
def Sy (A:aG) (r:jg) (ops:List (AO×List bL)):RC:=fun T D H nx=>bz A r ops T [] D H nx
def Sz (e:Ex):St→R0:=Ex.rec (stay .normal) (fun _ _=>none) (fun _=>none) (fun _ _=>none) e
def td (o:Ex×St):R0:=Prod.rec (fun e st=>Sz e st) o
def ML (A:aG) (r:jg) (ops:List (AO×List bL)):RC:=fun T D H nx=>bd (bz A r ops T [] D H nx) td
def SA (a b:RC):RC:=fun T D H nx=>bd (a T D H nx) (mb b)
def MM (c:Od) (a b:RC):RC:=fun T D H nx=>a5 T [] c fun v=>fD v (a T D H nx) (b T D H nx)
def N1 (id:Nat) (e:Ex):St→R0:=Ex.rec (stay .normal) (fun i=>cond (Nat.beq i id) (stay .normal) (stay (.exit i))) (stay .ret) (fun c=>stay (.panic c)) e
def nS (id:Nat) (o:Ex×St):R0:=Prod.rec (fun e st=>N1 id e st) o
def Hm (id:Nat) (a:RC):RC:=fun T D H nx=>bd (a T D H nx) (nS id)
def MN (r:jg) (c:aL) (a:RC):RC:=fun T D H nx=>bd (a T D H nx) (mb (r.code (.loop c)))
def MO (id:Nat):RC:=fun T D H nx=>some (.exit id,⟨T,D,H,nx⟩)
def SB:RC:=fun T D H nx=>some (.ret,⟨T,D,H,nx⟩)
abbrev CK:=aG→jg→RC
def SC:CK:=fun _ _=>Hl
def W4 (dr:Bool) (ops:List (AO×List bL)):CK:=fun A r=>cond dr (ML A r ops) (Sy A r ops)
def W5 (a b:CK):CK:=fun A r=>SA (a A r) (b A r)
def SD (c:Od) (a b:CK):CK:=fun A r=>MM c (a A r) (b A r)
def N2 (id:Nat) (a:CK):CK:=fun A r=>Hm id (a A r)
def SE (c:aL) (a:CK):CK:=fun A r=>MN r c (a A r)
def SF (id:Nat):CK:=fun _ _=>MO id
def W6:CK:=fun _ _=>SB
def bW (c:aL):CK:=aL.rec (motive:=fun _=>CK) SC W4 (fun _ _ a b=>W5 a b) (fun c _ _ a b=>SD c a b) (fun id _ a=>N2 id a) SE SF W6 c
def kx:aL→Option (List Bool×aL)
 | .seq a b=>match kx a with
  | some (p,a')=>some (p,.seq a' b)
  | none=>none
 | .aa false [(⟨some p,none,.vU⟩,[])]=>some (p,.skip)
 | _=>none
def recovered (u:FrameMode):Value×FrameMode:=match u with
 | .panicking ({ v,recovered:=false,goexit:=false }::SG)=>(v,.panicking ({ v,recovered:=true }::SG))
 | u=>(.nilIface,u)
def Et (T:Tr Value) (H:Heap) (x:Od×Option (Option Nat)) (k:Value→Option df):Option df:=match x with
 | (.var p,none)=>bd (ao T p) k
 | (.var p,some agg)=>match ao T p with
  | some (.pointer (some ⟨b,o,none⟩))=>match ao H (at_ b) with
   | some (.cells cs)=>bd (partOf cs o agg) k
   | _=>none
  | _=>none
 | _=>none
def fI (T:Tr Value) (H:Heap):List (Od×Option (Option Nat))→(List Value→Option df)→Option df
 | [],k=>k []
 | x::xs,k=>Et T H x fun v=>fI T H xs fun vs=>k (v::vs)
def Eu (o:Ex×St) (u:FrameMode):Option (FrameMode×Heap×Nat):=match o with
 | (.normal,⟨_,[],H,nx⟩)|(.ret,⟨_,[],H,nx⟩)=>some (settle u,H,nx)
 | (.panic ch,⟨_,[],H,nx⟩)=>some (raised u ch,H,nx)
 | _=>none
def kZ (l:List Value):Tr Value→(Tr Value→R0)→R0:=List.rec (motive:=fun _=>Nat→Tr Value→(Tr Value→R0)→R0) (fun _ T k=>k T) (fun v _ ih i T k=>dx (at_ i) T (some v) fun T=>ih (Nat.succ i) T k) l 0
def gd (A:aG) (r:jg) (f:Value) (args:List Value) (u:FrameMode) (H:Heap) (nx:Nat):Option (FrameMode×Heap×Nat):=match f with
 | .func (.func g) first captured=>match A.funcs g with
  | some ⟨[],c⟩=>match kx c with
   | some (p,c')=>bd (kZ (first.toList++args++captured.toList) .e fun T=>dx p T (some (recovered u).1) fun T=>bW c' A r T [] H nx) fun o=>Eu o (recovered u).2
   | none=>bd (kZ (first.toList++args++captured.toList) .e fun T=>bW c A r T [] H nx) fun o=>Eu o u
  | _=>none
 | _=>none
def fu (A:aG) (r:jg):List eT→FrameMode→Heap→Nat→Option (FrameMode×Heap×Nat)
 | [],u,H,nx=>some (u,H,nx)
 | (f,args)::ds,u,H,nx=>match gd A r f args u H nx with
  | some (u,H,nx)=>fu A r ds u H nx
  | none=>none
def k7 (af:aq) (T:Tr Value) (x:FrameMode×Heap×Nat):Option df:=match x with
 | (.returning,H,nx)=>fI T H af.results fun vs=>some (.ok (oneOf vs) H nx)
 | (.panicking ch,H,nx)=>some (.nI ch H nx)
 | _=>none
def mc (A:aG) (r:jg) (af:aq) (u:FrameMode) (st:St):Option df:=St.rec (fun T D H nx=>bd (fu A r D u H nx) (k7 af T)) st
def W7 (A:aG) (r:jg) (af:aq) (e:Ex):St→Option df:=Ex.rec (mc A r af .returning) (fun _ _=>none) (mc A r af .returning) (fun ch=>mc A r af (.panicking ch)) e
def vl (A:aG) (r:jg) (af:aq) (o:Ex×St):Option df:=Prod.rec (fun e st=>W7 A r af e st) o
def jh (A:aG) (r:jg) (vs:List Value) (H:Heap) (nx:Nat) (af:aq):Option df:=bd (kZ vs .e fun T=>bW af.body A r T [] H nx) (vl A r af)
def MP (A:aG) (r:jg) (g:FuncId) (vs:List Value) (H:Heap) (nx:Nat):Option df:=Option.rec (bd (A.funcs g) (jh A r vs H nx)) some (A.aH g vs H nx)
def W8:jg:=⟨fun _ _ _ _ _=>none,fun _ _ _ _=>none⟩
def run (A:aG) (n:Nat):jg:=Nat.rec W8 (fun _ r=>⟨fun c=>bW c A r,MP A r⟩) n
end
end Go.Eng

namespace Go.Eng
def vZ:Nat→Nat→List Bool
 | 0,_=>[]
 | f + 1,k=>bif Nat.beq k 0 then [] else bif Nat.beq (k % 2) 1 then true::vZ f (k / 2) else false::vZ f (k / 2 - 1)
def b7 (t:Nat):List Bool:=vZ t t
def oM:Value→Bool
 | .bool _ | .int _ _ | .float _ _ | .complex _ _ _ | .string _ | .nilFunc | .nilIface | .pointer none | .slice none 0 0 | .map none=>true
 | _=>false
def iK:Value→Bool
 | .agg cs=>cs.toList.all oM
 | v=>oM v
def BF:Value→List Value
 | .agg cs=>cs.toList
 | v=>[v]
def dB (l:List Nat) (n:Nat):Bool:=l.any (Nat.beq n)
abbrev Env:=List (Nat×Od)
def find (env:Env) (t:Nat):Option Od:=match env with
 | []=>none
 | (u,x)::r=>bif Nat.beq u t then some x else find r t
def cv (kept:List Nat) (n:Nat) (env:Env):Operand→Option Od
 | .tmp t=>bif Nat.blt t n then match find env t with
  | some x=>some x
  | none=>bif dB kept t then some (.var (b7 t)) else none
  else none
 | .const v=>bif iK v then some (.aF v) else none
 | .func f=>some (.fn f)
 | .global _=>none
def bG.map {α β:Type} (f:α→β):bG α→bG β
 | .ae v0=>.ae (f v0)
 | .pick v0 v1 v2=>.pick (f v0) (f v1) (f v2)
 | .aj v0=>.aj (f v0)
 | .ext v0 v1=>.ext (f v0) v1
 | .uY v0 v1 v2=>.uY (f v0) v1 v2
 | .ar v0 v1=>.ar (f v0) v1
 | .aB v0 v1 v2=>.aB (f v0) (f v1) v2
 | .kl v0 v1 v2 v3=>.kl (f v0) (f v1) v2 v3
 | .ix v0 v1 v2 v3 v4=>.ix (f v0) (f v1) v2 v3 v4
 | .bin v0 v1 v2 v3=>.bin v0 v1 (f v2) (f v3)
 | .un v0 v1=>.un v0 (f v1)
 | .vT v0 v1 v2=>.vT v0 v1 (f v2)
 | .nR v0 v1=>.nR v0 (v1.map f)
 | .GF v0 v1 v2=>.GF v0 (f v1) (f v2)
 | .BC v0 v1 v2 v3=>.BC v0 (f v1) (v2.map f) (v3.map f)
 | .dP v0 v1 v2 v3=>.dP v0 v1 (f v2) (f v3)
 | .fR v0 v1=>.fR v0 (v1.map fun x=>(x.1,x.2.1,f x.2.2))
 | .yW v0 v1 v2=>.yW v0 (v1.map f) (v2.map f)
 | .uZ v0 v1=>.uZ v0 (f v1)
 | .BD v0 v1 v2 v3=>.BD (f v0) v1 v2 v3
 | .ah v0 v1=>.ah (f v0) v1
 | .len v0=>.len (f v0)
 | .Bn v0=>.Bn (f v0)
 | .Dc v0=>.Dc (f v0)
 | .cap v0=>.cap (f v0)
 | .u0 v0 v1 v2 v3 v4=>.u0 (f v0) (v1.map f) (v2.map f) (v3.map f) v4
 | .G8 v0 v1 v2 v3 v4=>.G8 (f v0) (v1.map f) (v2.map f) v3 v4
 | .nr v0 v1 v2 v3 v4=>.nr (f v0) (f v1) v2 v3 v4
 | .box v0=>.box (f v0)
 | .eX v0=>.eX v0
 | .jF v0 v1 v2 v3 v4=>.jF v0 v1 v2 (f v3) (f v4)
 | .gz v0 v1 v2 v3=>.gz v0 v1 v2 (v3.map fun x=>(x.1,x.2.1,f x.2.2))
 | .Bo v0=>.Bo (v0.map f)
 | .a8 v0 v1 v2=>.a8 (f v0) (f v1) v2
 | .app v0 v1 v2 v3 v4 v5=>.app v0 v1 v2 (f v3) (f v4) v5
 | .KM v0 v1 v2=>.KM v0 (f v1) (f v2)
 | .Ku v0 v1=>.Ku (f v0) v1
 | .G9 v0 v1 v2 v3=>.G9 (f v0) (f v1) (f v2) v3
 | .Dd v0 v1 v2 v3=>.Dd (f v0) (f v1) v2 v3
 | .De v0 v1 v2=>.De (f v0) (f v1) (f v2)
 | .ins v0 v1 v2 v3 v4=>.ins v0 v1 (f v2) (f v3) (f v4)
 | .call v0 v1=>.call (f v0) (v1.map f)
 | .inv v0 v1 v2=>.inv (f v0) v1 (v2.map f)
 | .oF v0 v1=>.oF (f v0) (v1.map f)
 | .nI v0=>.nI (f v0)
 | .vU=>.vU 
 | .vV v0=>.vV (f v0)
 | .nxt v0=>.nxt (f v0)
 | .KN v0=>.KN (f v0)
def gF {α β:Type} (c:α→Option β):List α→Option (List β)
 | []=>some []
 | x::xs=>match c x,gF c xs with
  | some a,some as=>some (a::as)
  | _,_=>none
def lN {α β:Type} (c:α→Option β):Option α→Option (Option β)
 | none=>some none
 | some x=>(c x).map some
def oN {α β:Type} (c:α→Option β):List (Nat×Nat×α)→Option (List (Nat×Nat×β))
 | []=>some []
 | (i,j,x)::xs=>match c x,oN c xs with
  | some a,some as=>some ((i,j,a)::as)
  | _,_=>none
def bG.fE {α β:Type} (c:α→Option β):bG α→Option (bG β)
 | .ae v0=>match c v0 with
  | some fT=>some (.ae fT)
  | _=>none
 | .pick v0 v1 v2=>match c v0,c v1,c v2 with
  | some fT,some ky,some qd=>some (.pick fT ky qd)
  | _,_,_=>none
 | .aj v0=>match c v0 with
  | some fT=>some (.aj fT)
  | _=>none
 | .ext v0 v1=>match c v0 with
  | some fT=>some (.ext fT v1)
  | _=>none
 | .uY v0 v1 v2=>match c v0 with
  | some fT=>some (.uY fT v1 v2)
  | _=>none
 | .ar v0 v1=>match c v0 with
  | some fT=>some (.ar fT v1)
  | _=>none
 | .aB v0 v1 v2=>match c v0,c v1 with
  | some fT,some ky=>some (.aB fT ky v2)
  | _,_=>none
 | .kl v0 v1 v2 v3=>match c v0,c v1 with
  | some fT,some ky=>some (.kl fT ky v2 v3)
  | _,_=>none
 | .ix v0 v1 v2 v3 v4=>match c v0,c v1 with
  | some fT,some ky=>some (.ix fT ky v2 v3 v4)
  | _,_=>none
 | .bin v0 v1 v2 v3=>match c v2,c v3 with
  | some qd,some BG=>some (.bin v0 v1 qd BG)
  | _,_=>none
 | .un v0 v1=>match c v1 with
  | some ky=>some (.un v0 ky)
  | _=>none
 | .vT v0 v1 v2=>match c v2 with
  | some qd=>some (.vT v0 v1 qd)
  | _=>none
 | .nR v0 v1=>match gF c v1 with
  | some ky=>some (.nR v0 ky)
  | _=>none
 | .GF v0 v1 v2=>match c v1,c v2 with
  | some ky,some qd=>some (.GF v0 ky qd)
  | _,_=>none
 | .BC v0 v1 v2 v3=>match c v1,lN c v2,lN c v3 with
  | some ky,some qd,some BG=>some (.BC v0 ky qd BG)
  | _,_,_=>none
 | .dP v0 v1 v2 v3=>match c v2,c v3 with
  | some qd,some BG=>some (.dP v0 v1 qd BG)
  | _,_=>none
 | .fR v0 v1=>match oN c v1 with
  | some ky=>some (.fR v0 ky)
  | _=>none
 | .yW v0 v1 v2=>match gF c v1,gF c v2 with
  | some ky,some qd=>some (.yW v0 ky qd)
  | _,_=>none
 | .uZ v0 v1=>match c v1 with
  | some ky=>some (.uZ v0 ky)
  | _=>none
 | .BD v0 v1 v2 v3=>match c v0 with
  | some fT=>some (.BD fT v1 v2 v3)
  | _=>none
 | .ah v0 v1=>match c v0 with
  | some fT=>some (.ah fT v1)
  | _=>none
 | .len v0=>match c v0 with
  | some fT=>some (.len fT)
  | _=>none
 | .Bn v0=>match c v0 with
  | some fT=>some (.Bn fT)
  | _=>none
 | .Dc v0=>match c v0 with
  | some fT=>some (.Dc fT)
  | _=>none
 | .cap v0=>match c v0 with
  | some fT=>some (.cap fT)
  | _=>none
 | .u0 v0 v1 v2 v3 v4=>match c v0,lN c v1,lN c v2,lN c v3 with
  | some fT,some ky,some qd,some BG=>some (.u0 fT ky qd BG v4)
  | _,_,_,_=>none
 | .G8 v0 v1 v2 v3 v4=>match c v0,lN c v1,lN c v2 with
  | some fT,some ky,some qd=>some (.G8 fT ky qd v3 v4)
  | _,_,_=>none
 | .nr v0 v1 v2 v3 v4=>match c v0,c v1 with
  | some fT,some ky=>some (.nr fT ky v2 v3 v4)
  | _,_=>none
 | .box v0=>match c v0 with
  | some fT=>some (.box fT)
  | _=>none
 | .eX v0=>some (.eX v0)
 | .jF v0 v1 v2 v3 v4=>match c v3,c v4 with
  | some BG,some SH=>some (.jF v0 v1 v2 BG SH)
  | _,_=>none
 | .gz v0 v1 v2 v3=>match oN c v3 with
  | some BG=>some (.gz v0 v1 v2 BG)
  | _=>none
 | .Bo v0=>match lN c v0 with
  | some fT=>some (.Bo fT)
  | _=>none
 | .a8 v0 v1 v2=>match c v0,c v1 with
  | some fT,some ky=>some (.a8 fT ky v2)
  | _,_=>none
 | .app v0 v1 v2 v3 v4 v5=>match c v3,c v4 with
  | some BG,some SH=>some (.app v0 v1 v2 BG SH v5)
  | _,_=>none
 | .Ku v0 v1=>match c v0 with
  | some fT=>some (.Ku fT v1)
  | _=>none
 | .KM v0 v1 v2=>match c v1,c v2 with
  | some ky,some qd=>some (.KM v0 ky qd)
  | _,_=>none
 | .G9 v0 v1 v2 v3=>match c v0,c v1,c v2 with
  | some fT,some ky,some qd=>some (.G9 fT ky qd v3)
  | _,_,_=>none
 | .Dd v0 v1 v2 v3=>match c v0,c v1 with
  | some fT,some ky=>some (.Dd fT ky v2 v3)
  | _,_=>none
 | .De v0 v1 v2=>match c v0,c v1,c v2 with
  | some fT,some ky,some qd=>some (.De fT ky qd)
  | _,_,_=>none
 | .ins v0 v1 v2 v3 v4=>match c v2,c v3,c v4 with
  | some qd,some BG,some SH=>some (.ins v0 v1 qd BG SH)
  | _,_,_=>none
 | .call v0 v1=>match c v0,gF c v1 with
  | some fT,some ky=>some (.call fT ky)
  | _,_=>none
 | .inv v0 v1 v2=>match c v0,gF c v2 with
  | some fT,some qd=>some (.inv fT v1 qd)
  | _,_=>none
 | .oF v0 v1=>match c v0,gF c v1 with
  | some fT,some ky=>some (.oF fT ky)
  | _,_=>none
 | .nI v0=>match c v0 with
  | some fT=>some (.nI fT)
  | _=>none
 | .vU=>some (.vU )
 | .vV v0=>match c v0 with
  | some fT=>some (.vV fT)
  | _=>none
 | .nxt v0=>match c v0 with
  | some fT=>some (.nxt fT)
  | _=>none
 | .KN v0=>match c v0 with
  | some fT=>some (.KN fT)
  | _=>none
def b8 (P:Program) (t:TypeId):Option Nat:=(P.info? t).map (·.size)
def jO (P:Program) (t:TypeId):Option Nat:=(P.info? t).map (·.bytes)
def oO (P:Program) (t:TypeId):Option (Option Nat):=match P.info? t,P.underlying t with
 | some i,some (.struct _)|some i,some (.array _ _)=>some (some i.size)
 | some _,some _=>some none
 | _,_=>none
def fN (P:Program) (t:TypeId):Option Value:=match P.info? t with
 | some i=>match i.zero with
  | some z=>bif iK z then some z else none
  | none=>none
 | none=>none
def zeroCells (P:Program) (t:TypeId):Option (List Value):=(fN P t).map BF
def k8 (P:Program) (t:TypeId):Bool:=match P.underlying t with
 | some .bool|some (.int _)|some (.float _)|some .string=>true
 | _=>false
def iL (P:Program) (fs:List Field):List (Nat×Operand)→Option (List (Nat×Nat×Operand))
 | []=>some []
 | (i,x)::r=>match fs[i]?,iL P fs r with
  | some f,some rs=>match b8 P f.type with
   | some s=>some ((f.offset,s,x)::rs)
   | none=>none
  | _,_=>none
def eG (z:Nat):List (Nat×Operand)→List (Nat×Nat×Operand)
 | []=>[]
 | (i,x)::r=>(i * z,z,x)::eG z r
def dy:Operand→Bool
 | .const _=>true
 | _=>false
def ji:BinOp→Bool
 | .neq=>true
 | _=>false
def gW (P:Program) (op:BinOp) (t:TypeId) (x y:Operand):Option (bG Operand):=
 match op with
 | .eql | .neq=>match P.underlying t with
  | some (.pointer _)=>some (.dP (ji op) 0 x y)
  | some (.slice _)=>some (.dP (ji op) 1 x y)
  | some (.map _ _)=>some (.dP (ji op) 2 x y)
  | some (.func _ _ _)=>some (.dP (ji op) 3 x y)
  | some (.interface _)=>bif dy x||dy y then some (.dP (ji op) 4 x y) else none
  | some _=>some (.bin op t x y)
  | none=>none
 | _=>some (.bin op t x y)
def cK (P:Program) (b:Builtin) (ts:Array TypeId) (args:Array Operand):Option (bG Operand):=
 match b,ts.toList,args.toList with
 | .append,[t,t2],[s,x]=>match P.underlying t with
  | some (.slice e)=>match b8 P e,jO P e,zeroCells P e,P.underlying t2 with
   | some z,some n,some zero,some (.int _)=>bif Nat.beq zero.length z then some (.app z n zero s x true) else none
   | some z,some n,some zero,some (.slice _)=>bif Nat.beq zero.length z then some (.app z n zero s x false) else none
   | _,_,_,_=>none
  | _=>none
 | .len,t::_,[x]=>match P.underlying t with
  | some (.slice _)=>some (.len x)
  | some .string=>some (.Dc x)
  | some (.map _ _)=>some (.Bn x)
  | _=>none
 | .cap,t::_,[x]=>match P.underlying t with
  | some (.slice _)=>some (.cap x)
  | _=>none
 | .copy,t::_,[d,s]=>match P.underlying t with
  | some (.slice e)=>match b8 P e with
   | some z=>some (.KM z d s)
   | none=>none
  | _=>none
 | .min,_,xs=>some (.nR true xs)
 | .max,_,xs=>some (.nR false xs)
 | .recover,_,[]=>some .vU
 | .clear,t::_,[x]=>match P.underlying t with
  | some (.slice e)=>match zeroCells P e with
   | some zero=>some (.Ku x zero)
   | none=>none
  | _=>none
 | _,_,_=>none
def ai (P:Program) (ins:List Nat) (o:Oper):Option (bG Operand):=
 match o.op with
 | .move x | .assign x=>some (.ae x)
 | .pick a x y=>some (.pick a x y)
 | .alloc t=>(zeroCells P t).map .eX
 | .box _ x=>some (.box x)
 | .build t parts=>match P.underlying t,zeroCells P t with
  | some (.struct fs),some zero=>bif fs.toList.all (fun f=>(b8 P f.type).isSome) then (iL P fs.toList parts.toList).map (.fR zero) else none
  | some (.array _ e),some zero=>match b8 P e with
   | some z=>some (.fR zero (eG z parts.toList))
   | none=>none
  | _,_=>none
 | .buildSlice t len parts=>match P.underlying t with
  | some (.slice e)=>match b8 P e,zeroCells P e with
   | some z,some zero=>bif Nat.ble (len * z) 16777216&&Nat.beq zero.length z then some (.gz z len zero (eG z parts.toList)) else none
   | _,_=>none
  | _=>none
 | .load t a=>(oO P t).map (.ah a)
 | .store t a x=>(b8 P t).map (.a8 a x)
 | .nilCheck x=>some (.aj x)
 | .binOp op t x y _=>gW P op t x y
 | .unOp op _ x=>some (.un op x)
 | .convert s d x=>bif k8 P s&&k8 P d then some (.vT s d x) else none
 | .makeInterface t x=>match P.underlying t with
  | some (.interface _)=>none
  | some _=>some (.uZ t x)
  | none=>none
 | .makeFunc (.func f) a b=>some (.yW f a.toList b.toList)
 | .makeMap t r=>match P.underlying t with
  | some (.map _ _)=>some (.Bo r)
  | _=>none
 | .makeSlice t l k=>match P.underlying t with
  | some (.slice e)=>match b8 P e,jO P e,zeroCells P e with
   | some z,some n,some zero=>bif Nat.beq zero.length z then some (.jF z n zero l k) else none
   | _,_,_=>none
  | _=>none
 | .slice t x lo hi mx=>match P.underlying t with
  | some (.slice e)=>bif mx.isNone||hi.isSome then (b8 P e).map (.u0 x lo hi mx) else none
  | some .string=>match mx with
   | none=>some (.BC t x lo hi)
   | some _=>none
  | _=>none
 | .fieldAddr s x f=>match P.underlying s with
  | some (.struct fs)=>match fs.toList[f]? with
   | some fd=>match b8 P fd.type with
    | some (_ + 1)=>some (.ar x fd.offset)
    | _=>none
   | none=>none
  | _=>none
 | .field s x f=>match P.underlying s with
  | some (.struct fs)=>match fs.toList[f]? with
   | some fd=>(oO P fd.type).map (.uY x fd.offset)
   | none=>none
  | _=>none
 | .indexAddr t x i=>match P.underlying t with
  | some (.array n e)=>(b8 P e).map (.kl x i n)
  | some (.slice e)=>(b8 P e).map (.aB x i)
  | _=>none
 | .index t x i=>match P.underlying t with
  | some (.array n e)=>match oO P e,b8 P e with
   | some a,some z=>some (.ix x i n z a)
   | _,_=>none
  | some .string=>some (.GF t x i)
  | _=>none
 | .lookup t x k ok=>match P.underlying t with
  | some (.map kt e)=>(fN P e).map fun z=>.nr x k kt z ok
  | _=>none
 | .mapUpdate t m k v | .insert t m k v=>match P.underlying t with
  | some (.map kt _)=>some (.G9 m k v kt)
  | _=>none
 | .mapEntry t m k=>match P.underlying t with
  | some (.map kt e)=>(fN P e).map (.Dd m k kt)
  | _=>none
 | .entryStore _ m s v=>some (.De m s v)
 | .typeAssert x _ t ok=>match P.underlying t with
  | some (.interface _)=>none
  | some _=>(fN P t).map fun z=>.BD x t z ok
  | none=>none
 | .extract t i=>some (.ext t i)
 | .call d=>match d.callee with
  | .builtin b=>cK P b d.argTypes d.args
  | .value (.func g)=>bif dB ins g then match d.args.toList,d.argTypes.toList with
    | [s,i,v],t::_=>match P.underlying t with
     | some (.slice e)=>match b8 P e,jO P e with
      | some 1,some 8=>some (.ins 1 8 s i v)
      | _,_=>none
     | _=>none
    | _,_=>none
   else some (.call (.func g) d.args.toList)
  | .value f=>some (.call f d.args.toList)
  | .invoke x name=>some (.inv x name d.args.toList)
 | .defer d=>match d.callee with
  | .value f=>some (.oF f d.args.toList)
  | _=>none
 | .panic x=>some (.nI x)
 | .range t x=>match P.underlying t with
  | some (.map _ _)=>some (.vV x)
  | _=>none
 | .next x false=>some (.nxt x)
 | .entry x=>some (.KN x)
 | _=>none
inductive Kd where
 | pure|load|make|cL
def bU {α:Type}:bG α→Kd
 | .ah _ _ | .Bn _ | .nr _ _ _ _ _=>.load
 | .box _ | .eX _ | .jF _ _ _ _ _ | .gz _ _ _ _ | .Bo _=>.make
 | .a8 _ _ _ | .app _ _ _ _ _ _ | .KM _ _ _ | .Ku _ _ | .G9 _ _ _ _ | .Dd _ _ _ _ | .De _ _ _ | .ins _ _ _ _ _ | .call _ _ | .inv _ _ _ | .oF _ _ | .nI _ | .vU | .vV _ | .nxt _ | .KN _=>.cL
 | _=>.pure
def kdC:Op→Kd
 | .load _ _ | .lookup _ _ _ _=>.load
 | .box _ _ | .alloc _ | .makeSlice _ _ _ | .buildSlice _ _ _ | .makeMap _ _=>.make
 | .store _ _ _ | .mapUpdate _ _ _ _ | .insert _ _ _ _ | .mapEntry _ _ _ | .entryStore _ _ _ _ | .defer _ | .panic _ | .range _ _ | .next _ _ | .entry _=>.cL
 | .call d=>match d.callee with
  | .builtin .append | .builtin .copy | .builtin .clear | .builtin .recover=>.cL
  | .builtin .len=>.load
  | .builtin _=>.pure
  | _=>.cL
 | _=>.pure
def jP (ops:List Oper):List Nat:=
 (ops.foldl (fun acc o=>acc++[o.after.toList.foldl (fun s e=>bif Region.binds .any e then s||| 2 ^ e.on||| acc.getD e.on 0 else s) 0]) [])
def N3 (p:Kd→Bool) (ks:List Kd):Nat:=(ks.zipIdx.filter fun x=>p x.1).foldl (fun s x=>s||| 2 ^ x.2) 0
def b6:Kd→Bool | .cL=>true|_=>false
def gX:Kd→Bool | .make=>true|_=>false
def iC:Kd→Bool | .load=>true|_=>false
def sub (a b:Nat):Bool:=Nat.beq (a&&& b) a
def KY (eA:List Nat) (ks:List Kd):List Nat:=
 let nh:=N3 (fun k=>b6 k||gX k) ks
 let n:=eA.length
 let hs:=(List.range n).filter fun i=>match ks[i]? with|some k=>b6 k|none=>false
 let (done,l):=hs.foldl (fun (done,l) h=>
  let bh:=eA.getD h 0
  let now:=(List.range n).filter fun i=>!(Nat.testBit done i)&&i != h&&(Nat.testBit bh i||(match ks[i]? with
   | some .pure|some .load=>sub (eA.getD i 0&&& nh) bh
   | _=>false))
  let l:=l++now++[h]
  (l.foldl (fun s i=>s||| 2 ^ i) done,l)) (0,[])
 l++(List.range n).filter fun i=>!(Nat.testBit done i)
def tmpsOf (o:Oper):List Nat:=o.op.operands.toList.filterMap fun | .tmp t=>some t|_=>none
def hygienic (ops:List Oper) (eA:List Nat) (j:Nat) (o:Oper):Bool:=
 (tmpsOf o).all fun t=>ops.zipIdx.all fun (q,i)=>match q.dst with
  | some d=>!(Nat.beq d t)||Nat.testBit (eA.getD j 0) i||Nat.testBit (eA.getD i 0) j
  | none=>true
def qe (ops:List Oper):Bool:=ops.zipIdx.all fun (o,i)=>ops.zipIdx.all fun (q,j)=>Nat.beq i j||(match o.dst,q.dst with|some a,some b=>!(Nat.beq a b)|_,_=>true)
def shift:Od→Od
 | .loc d=>.loc (d + 1)
 | x=>x
def cM (env:Env):Env:=env.map fun (t,x)=>(t,shift x)
def eZ (env:Env) (t:Nat):Env:=env.filter fun p=>!(Nat.beq p.1 t)
def jj:List Bool→List Bool→Bool
 | [],[]=>true
 | true::p,true::q=>jj p q
 | false::p,false::q=>jj p q
 | _,_=>false
def isVar (p:List Bool):Od→Bool
 | .var q=>jj p q
 | _=>false
def y3:Od→Option Nat
 | .loc d=>some d
 | _=>none
structure Laid where
 env:Env
 dw:List Nat
 cL:Nat
 make:Nat
 done:Nat
 out:List (AO×List bL)
def nM:Laid:=⟨[],[],0,0,0,[]⟩
def wa (t:Nat) (rest:List Oper):Bool:=rest.any fun o=>(tmpsOf o).any (Nat.beq t)
def gG (p:List Bool) (rest:List Oper):Env→Laid→Laid
 | [],s=>s
 | (t,x)::r,s=>bif isVar p x then
   (bif wa t rest then gG p rest r { s with env:=(t,.loc 0)::eZ (cM s.env) t,out:=(⟨none,none,.ae x⟩,[])::s.out } else gG p rest r { s with env:=eZ s.env t })
  else gG p rest r s
def tf:Op→Bool
 | .move _ | .assign _=>true
 | _=>false
def gY (ops:List Oper) (env:Env):Option (Nat×Bool)→Option (Option (Nat×Bool))
 | none=>some none
 | some (g,w)=>match ops[g]? with
  | some o=>match o.dst with
   | some t=>match find env t with
    | some x=>(y3 x).map fun d=>some (d,w)
    | none=>none
   | none=>none
  | none=>none
def jk (ops:List Oper) (eA:List Nat) (done j:Nat) (o:Oper):Bool:=
 (tmpsOf o).all fun t=>ops.zipIdx.all fun (q,i)=>match q.dst with
  | some d=>!(Nat.beq d t)||Nat.testBit (eA.getD j 0) i||!(Nat.testBit done i)
  | none=>true
def lf (P:Program) (kept:List Nat) (n:Nat) (ops:List Oper) (eA:List Nat) (done:Nat) (env:Env) (bh:Nat):List Nat→Option (List bL)
 | []=>some []
 | j::r=>match lf P kept n ops eA done env bh r with
  | none=>none
  | some as=>bif Nat.testBit bh j then some as else match ops[j]? with
   | some o=>bif !(jk ops eA done j o) then none else match (ai P [] o).bind (bG.fE (cv kept n env)),gY ops env o.guard,(o.dst.bind (find env)).bind y3 with
    | some a,some g,some d=>some (⟨g,a,d⟩::as)
    | _,_,_=>none
   | none=>none
def dh (kept:List Nat):Option Nat→Option (List Bool)
 | some d=>bif dB kept d then some (b7 d) else none
 | none=>none
def oP (env:Env):Option Nat→Env
 | some t=>(t,.loc 0)::eZ (cM env) t
 | none=>cM env
def emit (P:Program) (kept:List Nat) (n:Nat) (ops:List Oper) (eA:List Nat) (b:Nat) (o:Oper) (g:Option (Nat×Bool)) (a:bG Od) (s:Laid):Option Laid:=
 match (bif b6 (bU a) then lf P kept n ops eA s.done (oP s.env o.dst) b s.dw else some []) with
 | none=>none
 | some as=>match dh kept o.dst with
  | none=>some { s with env:=oP s.env o.dst,out:=(⟨none,g,a⟩,as)::s.out }
  | some p=>bif (cM s.env).any (fun e=>isVar p e.2) then none else some { s with env:=oP s.env o.dst,out:=(⟨some p,g,a⟩,as)::s.out }
def Dh (l:List Oper) (s:Laid):Option (List Bool)→Laid
 | some p=>gG p l s.env s
 | none=>s
def Hn (P:Program) (ins kept:List Nat) (n:Nat) (ops rest:List Oper) (eA:List Nat) (b:Nat) (tg:Bool) (o:Oper) (s0:Laid):Option Laid:=
 let s:=Dh (o::rest) s0 (dh kept o.dst)
 match (ai P ins o).bind (bG.fE (cv kept n s.env)),gY ops s.env o.guard with
 | some a,some g=>
  match a,o.dst,g with
  | .ae x,some t,none=>
   bif (dh kept (some t)).isNone&&tf o.op&&!tg then some { s with env:=(t,x)::eZ s.env t }
   else emit P kept n ops eA b o g a s
  | _,_,_=>emit P kept n ops eA b o g a s
 | _,_=>none
def th (ops:List Oper):List Nat:=ops.filterMap fun o=>o.guard.map (·.1)
def nT (P:Program) (ins kept:List Nat) (n:Nat) (draw:Bool) (ops:List Oper) (eA tg:List Nat):List Nat→Laid→Option Laid
 | [],s=>some s
 | i::is,s=>match ops[i]? with
  | none=>none
  | some o=>
   let b:=bif draw then eA.getD i 0 else 2 ^ ops.length - 1
   match Hn P ins kept n ops (is.filterMap fun i=>ops[i]?) eA b (dB tg i) o s with
   | none=>none
   | some s1=>match ai P ins o with
    | none=>none
    | some k=>
     bif (match o.dst with|some d=>Nat.blt d n|none=>true) then
      bif !draw||(sub b s.done&&!(Nat.testBit s.done i)&&hygienic ops eA i o&&(match o.guard with|some (g,_)=>Nat.testBit b g|none=>true)
       &&(match bU k with | .cL=>sub s.cL b&&sub s.make b | .load=>sub s.cL b|_=>true)) then
       nT P ins kept n draw ops eA tg is { s1 with dw:=(bif iC (bU k) then i::s1.dw else s1.dw),cL:=(bif b6 (bU k) then s1.cL||| 2 ^ i else s1.cL),make:=(bif gX (bU k) then s1.make||| 2 ^ i else s1.make),done:=s1.done||| 2 ^ i }
      else none
     else none
def gZ (P:Program) (ins kept:List Nat) (n:Nat) (draw:Bool) (ops:List Oper):Option (List (AO×List bL)):=
 (bif draw then
  let eA:=jP ops
  let W9:=KY eA (ops.map fun o=>kdC o.op)
  bif qe ops then (nT P ins kept n true ops eA (th ops) W9 nM).bind fun s=>bif (List.range ops.length).all fun i=>Nat.testBit s.done i then some s else none else none
 else nT P ins kept n false ops [] (th ops) (List.range ops.length) nM).map fun s=>s.out.reverse
def Di {α:Type}:bG α→Bool
 | .vU=>true
 | _=>false
def Ho (kept:List Nat) (n:Nat) (ops:List Oper):Option (List Bool):=match ops with
 | [o]=>match o.op,o.guard,o.dst with
  | .call d,none,some t=>match d.callee with
   | .builtin .recover=>bif d.args.toList.isEmpty&&Nat.blt t n&&dB kept t then some (b7 t) else none
   | _=>none
  | _,_,_=>none
 | _=>none
def jl (P:Program) (ins kept:List Nat) (n:Nat) (draw:Bool) (ops:List Oper):Option aL:=match Ho kept n ops,draw with
 | some p,false=>some (.aa false [(⟨some p,none,.vU⟩,[])])
 | _,_=>match gZ P ins kept n draw ops with
  | some l=>bif l.any fun x=>Di x.1.op then none else some (.aa draw l)
  | none=>none
def bC (P:Program) (ins kept:List Nat) (n:Nat):Code→Option aL
 | .skip=>some .skip
 | .label _=>some .skip
 | .region _ ops draw=>jl P ins kept n draw ops.toList
 | .seq a b=>match bC P ins kept n a,bC P ins kept n b with
  | some a,some b=>some (.seq a b)
  | _,_=>none
 | .cond c a b=>match cv kept n ([]:Env) c,bC P ins kept n a,bC P ins kept n b with
  | some c,some a,some b=>some (.cond c a b)
  | _,_,_=>none
 | .block id c=>(bC P ins kept n c).map (.block id)
 | .loop c=>(bC P ins kept n c).map .loop
 | .exit id=>some (.exit id)
 | .ret=>some .ret
 | _=>none
def ia (P:Program) (kept:List Nat) (n:Nat):ResultVar→Option (Od×Option (Option Nat))
 | .tmp t=>bif Nat.blt t n&&dB kept t then some (.var (b7 t),none) else none
 | .cell a t=>bif Nat.blt a n&&dB kept a then (oO P t).map fun g=>(.var (b7 a),some g) else none
def cX (P:Program) (kept:List Nat) (n:Nat):List ResultVar→Option (List (Od×Option (Option Nat)))
 | []=>some []
 | r::rs=>match ia P kept n r,cX P kept n rs with
  | some a,some as=>some (a::as)
  | _,_=>none
def ti (t:Nat) (l:List Nat):List Nat:=bif dB l t then l else t::l
def N4 (ops:List Oper):List Nat:=(ops.foldl (fun (seen,l) o=>(o.dst.toList++seen,(tmpsOf o).foldl (fun l t=>bif dB seen t then l else ti t l) l)) (([]:List Nat),([]:List Nat))).2
def qf:Code→List Nat→List Nat
 | .region _ ops _,l=>(N4 ops.toList).foldl (fun l t=>ti t l) l
 | .seq a b,l=>qf b (qf a l)
 | .cond c a b,l=>qf b (qf a (match c with | .tmp t=>ti t l|_=>l))
 | .block _ c,l | .loop c,l=>qf c l
 | _,l=>l
def Xa (f:Func):List Nat:=match f.body with
 | some c=>qf c (f.results.toList.foldl (fun l r=>match r with | .tmp t=>ti t l | .cell t _=>ti t l) [])
 | none=>[]
def jQ (P:Program) (ins kept:List Nat) (f:Func):Option aq:=match f.body with
 | some c=>match bC P ins kept f.ntmps c,cX P kept f.ntmps f.results.toList with
  | some b,some r=>some ⟨r,b⟩
  | _,_=>none
 | none=>none
end Go.Eng

namespace Go.Eng
noncomputable section
@[simp] theorem VL {α β:Type} (f:α→Option β):bd none f=none:=rfl
@[simp] theorem Dj {α β:Type} (a:α) (f:α→Option β):bd (some a) f=f a:=rfl
theorem aO {α β:Type} {o:Option α} {f:α→Option β} {r:β} (h:bd o f=some r):∃a,o=some a∧f a=some r:=by
 cases o with
 | none=>cases h
 | some a=>exact ⟨a,rfl,h⟩
section
variable {α:Type}
@[simp] theorem Xb (p:List Bool):ao (.e:Tr α) p=none:=rfl
@[simp] theorem N5 (l:Tr α) (v:Option α) (r:Tr α):ao (.n l v r) []=v:=rfl
@[simp] theorem MQ (l:Tr α) (v:Option α) (r:Tr α) (b:Bool) (p:List Bool):ao (.n l v r) (b::p)=cond b (ao l p) (ao r p):=rfl
def bB:List Bool→Tr α→Option α→Tr α
 | [],.e,x=>.n .e x .e
 | [],.n l _ r,x=>.n l x r
 | b::p,.e,x=>cond b (.n (bB p .e x) none .e) (.n .e none (bB p .e x))
 | b::p,.n l v r,x=>cond b (.n (bB p l x) v r) (.n l v (bB p r x))
theorem bQ (p:List Bool):∀(t:Tr α) (x:Option α) (k:Tr α→R0),dx p t x k=k (bB p t x):=by
 induction p with
 | nil=>intro t x k;cases t<;>rfl
 | cons b p ih=>
  intro t x k
  have h:dx (b::p) t x k=KP b (dx p) t x k:=rfl
  rw [h]
  cases t with
  | e=>cases b<;>simp [KP,R2,bB,ih]
  | n l v r=>cases b<;>simp [KP,R3,bB,ih]
theorem bp (p:List Bool):∀(t:Tr α) (x:Option α),ao (bB p t x) p=x:=by
 induction p with
 | nil=>intro t x;cases t<;>rfl
 | cons b p ih=>intro t x;cases t<;>cases b<;>simp [bB,ih]
theorem aR (p:List Bool):∀(q:List Bool) (t:Tr α) (x:Option α),q≠p→ao (bB p t x) q=ao t q:=by
 induction p with
 | nil=>
  intro q t x h
  cases q with
  | nil=>exact absurd rfl h
  | cons c q=>cases t<;>cases c<;>rfl
 | cons b p ih=>
  intro q t x h
  cases q with
  | nil=>cases t<;>cases b<;>rfl
  | cons c q=>
   by_cases e:c=b
   ·subst e
    have cG:q≠p:=fun e=>h (by rw [e])
    cases t<;>cases c<;>simp [bB,ih q _ _ cG]
   ·cases t<;>cases b<;>cases c<;>first|exact absurd rfl e|simp [bB]
end
def nU:List Bool→Nat
 | []=>0
 | true::p=>2 * nU p + 1
 | false::p=>2 * nU p + 2
theorem wb (f k:Nat):path (f + 1) k=cond (Nat.beq k 0) [] (cond (Nat.beq (Nat.mod k 2) 1) (true::path f (Nat.div k 2)) (false::path f (Nat.sub (Nat.div k 2) 1))):=rfl
theorem q8 (f:Nat):∀k,k≤f→nU (path f k)=k:=by
 induction f with
 | zero=>
   intro k h;have:k=0:=by omega
   subst this;rfl
 | succ f ih=>
  intro k h
  rw [wb]
  by_cases h0:k=0
  ·subst h0;rfl
  ·have hb:Nat.beq k 0=false:=by
    cases e:Nat.beq k 0 with
    | true=>exact absurd (Nat.eq_of_beq_eq_true e) h0
    | false=>rfl
   rw [hb];simp only [cond_false]
   by_cases h1:k % 2=1
   ·have:Nat.beq (Nat.mod k 2) 1=true:=by
     show Nat.beq (k % 2) 1=true
     rw [h1];rfl
    rw [this];simp only [cond_true,nU]
    have:=ih (k / 2) (by omega)
    show 2 * nU (path f (k / 2)) + 1=k
    rw [this];omega
   ·have hm:Nat.beq (Nat.mod k 2) 1=false:=by
     cases e:Nat.beq (Nat.mod k 2) 1 with
     | true=>exact absurd (Nat.eq_of_beq_eq_true e) h1
     | false=>rfl
    rw [hm];simp only [cond_false,nU]
    have:=ih (k / 2 - 1) (by omega)
    show 2 * nU (path f (k / 2 - 1)) + 2=k
    rw [this];omega
theorem ea {a b:Nat} (h:at_ a=at_ b):a=b:=by
 have ha:=q8 a a (Nat.le_refl _)
 have hb:=q8 b b (Nat.le_refl _)
 unfold at_ at h
 rw [← ha,← hb,h]
theorem Hp (f:Nat):∀k,vZ f k=path f k:=by
 induction f with
 | zero=>intro k;rfl
 | succ f ih=>
  intro k
  rw [wb]
  show (bif Nat.beq k 0 then [] else bif Nat.beq (k % 2) 1 then true::vZ f (k / 2) else false::vZ f (k / 2 - 1))=_
  rw [ih,ih];rfl
theorem ig (t:Nat):b7 t=at_ t:=Hp t t
def g8 (T:Tr Value) (L:List Value):Od→Option Value
 | .loc d=>L[d]?
 | .var p=>ao T p
 | .aF v=>some v
 | .fn f=>some (.func (.func f) #[] #[])
theorem jR (L:List Value):∀(d:Nat) (k:KV),s7 L d k=bd L[d]? k:=by
 induction L with
 | nil=>intro d k;rfl
 | cons v L ih=>
  intro d k
  cases d with
  | zero=>rfl
  | succ d=>exact ih d k
theorem oQ (L:List Value):∀d,BE L d=L[d]?:=by
 induction L with
 | nil=>intro d;rfl
 | cons v L ih=>
  intro d
  cases d with
  | zero=>rfl
  | succ d=>exact ih d
theorem cj (T:Tr Value) (L:List Value) (x:Od) (k:KV):a5 T L x k=bd (g8 T L x) k:=by
 cases x with
 | loc d=>exact jR L d k
 | var p=>rfl
 | aF v=>rfl
 | fn f=>rfl
def nN (T:Tr Value) (L:List Value):List Od→Option (List Value)
 | []=>some []
 | x::xs=>match g8 T L x,nN T L xs with
  | some v,some vs=>some (v::vs)
  | _,_=>none
theorem dR (T:Tr Value) (L:List Value) (xs:List Od):∀k,cS T L xs k=bd (nN T L xs) k:=by
 induction xs with
 | nil=>intro k;rfl
 | cons x xs ih=>
  intro k
  show a5 T L x (fun v=>cS T L xs fun vs=>k (v::vs))=_
  rw [cj]
  cases h:g8 T L x with
  | none=>simp [nN,h]
  | some v=>
   simp only [Dj,ih,nN,h]
   cases nN T L xs<;>rfl
def tj (T:Tr Value) (L:List Value):List (Nat×Nat×Od)→Option (List (Nat×Nat×Value))
 | []=>some []
 | (i,j,x)::xs=>match g8 T L x,tj T L xs with
  | some v,some vs=>some ((i,j,v)::vs)
  | _,_=>none
theorem wc (T:Tr Value) (L:List Value) (xs:List (Nat×Nat×Od)):∀k,dg T L xs k=bd (tj T L xs) k:=by
 induction xs with
 | nil=>intro k;rfl
 | cons x xs ih=>
  intro k
  obtain ⟨i,j,x⟩:=x
  show a5 T L x (fun v=>dg T L xs fun vs=>k ((i,j,v)::vs))=_
  rw [cj]
  cases h:g8 T L x with
  | none=>simp [tj,h]
  | some v=>
   simp only [Dj,ih,tj,h]
   cases tj T L xs<;>rfl
def gH (T:Tr Value) (L:List Value) (x:Od):Od:=.aF ((g8 T L x).getD undef)
theorem Dk (T:Tr Value) (L:List Value) (v:Value) (k:KV):a5 T L (.aF v) k=k v:=rfl
theorem y4 {T:Tr Value} {L:List Value} {x:Od} {k:KV} {r:Ex×St} (T':Tr Value) (L':List Value) (h:a5 T L x k=some r):a5 T' L' (gH T L x) k=some r:=by
 rw [cj] at h
 obtain ⟨v,hv,h⟩:=aO h
 show k ((g8 T L x).getD undef)=_
 rw [hv];exact h
theorem Rc {T:Tr Value} {L:List Value} (T':Tr Value) (L':List Value) {r:Ex×St} (xs:List Od):∀{k:List Value→R0},cS T L xs k=some r→cS T' L' (xs.map (gH T L)) k=some r:=by
 induction xs with
 | nil=>intro k h;exact h
 | cons x xs ih=>
  intro k h
  have h':a5 T L x (fun v=>cS T L xs fun vs=>k (v::vs))=some r:=h
  rw [cj] at h'
  obtain ⟨v,hv,h'⟩:=aO h'
  show a5 T' L' (gH T L x) (fun v=>cS T' L' (xs.map (gH T L)) fun vs=>k (v::vs))=some r
  have:gH T L x=.aF v:=by unfold gH;rw [hv];rfl
  rw [this,Dk]
  exact ih h'
theorem MR {T:Tr Value} {L:List Value} (T':Tr Value) (L':List Value) {r:Ex×St} (xs:List (Nat×Nat×Od)):∀{k:List (Nat×Nat×Value)→R0},dg T L xs k=some r→dg T' L' (xs.map fun x=>(x.1,x.2.1,gH T L x.2.2)) k=some r:=by
 induction xs with
 | nil=>intro k h;exact h
 | cons x xs ih=>
  intro k h
  obtain ⟨i,j,x⟩:=x
  have h':a5 T L x (fun v=>dg T L xs fun vs=>k ((i,j,v)::vs))=some r:=h
  rw [cj] at h'
  obtain ⟨v,hv,h'⟩:=aO h'
  show a5 T' L' (gH T L x) (fun v=>dg T' L' (xs.map fun x=>(x.1,x.2.1,gH T L x.2.2)) fun vs=>k ((i,j,v)::vs))=some r
  have:gH T L x=.aF v:=by unfold gH;rw [hv];rfl
  rw [this,Dk]
  exact ih h'
theorem Re {T:Tr Value} {L:List Value} (T':Tr Value) (L':List Value) {r:Ex×St} (x:Option Od) (d:Nat) {k:Nat→R0} (h:gR T L x d k=some r):gR T' L' (x.map (gH T L)) d k=some r:=by
 cases x with
 | none=>exact h
 | some x=>exact y4 (k:=fun v=>cF v k) T' L' h
theorem Rf {T:Tr Value} {L:List Value} (T':Tr Value) (L':List Value) {r:Ex×St} (x:Option Od) {k:Option Value→R0} (h:vi T L x k=some r):vi T' L' (x.map (gH T L)) k=some r:=by
 cases x with
 | none=>exact h
 | some x=>exact y4 (k:=fun v=>k (some v)) T' L' h
end
end Go.Eng

namespace Go.Eng
variable {T:Tr Value} (T':Tr Value) {L:List Value} (L':List Value) {r:Ex×St}
theorem aX {x:Od} {k k':KV} (h:a5 T L x k=some r) (hk:∀v,k v=some r→k' v=some r):a5 T' L' (gH T L x) k'=some r:=by
 rw [cj] at h
 obtain ⟨v,hv,h⟩:=aO h
 show k' ((g8 T L x).getD undef)=_
 rw [hv];exact hk v h
theorem xl {xs:List Od}:∀{k k':List Value→R0},cS T L xs k=some r→(∀v,k v=some r→k' v=some r)→cS T' L' (xs.map (gH T L)) k'=some r:=by
 induction xs with
 | nil=>intro k k' h hk;exact hk _ h
 | cons x xs ih=>
  intro k k' h hk
  exact aX T' L' (k:=fun v=>cS T L xs fun vs=>k (v::vs)) h fun _ h=>ih h fun vs h=>hk _ h
theorem Hq {x:Nat×Nat×Od} {k k':Nat×Nat×Value→R0} (h:Hc T L x k=some r) (hk:∀v,k v=some r→k' v=some r):Hc T' L' (x.1,x.2.1,gH T L x.2.2) k'=some r:=
 aX T' L' (k:=fun v=>k (x.1,x.2.1,v)) h fun _ h=>hk _ h
theorem we {xs:List (Nat×Nat×Od)}:∀{k k':List (Nat×Nat×Value)→R0},dg T L xs k=some r→(∀v,k v=some r→k' v=some r)→
  dg T' L' (xs.map fun x=>(x.1,x.2.1,gH T L x.2.2)) k'=some r:=by
 induction xs with
 | nil=>intro k k' h hk;exact hk _ h
 | cons x xs ih=>
  intro k k' h hk
  exact Hq T' L' (k:=fun v=>dg T L xs fun vs=>k (v::vs)) h fun v h=>ih h fun vs h=>hk _ h
theorem tk {v:Value} {k k':Nat→R0} (h:cF v k=some r) (hk:∀n,k n=some r→k' n=some r):cF v k'=some r:=by
 unfold cF at h ⊢
 split at h
 ·exact hk _ h
 ·cases h
theorem Hr {v:Value} {k k':Nat→R0} (h:nJ v k=some r) (hk:∀n,k n=some r→k' n=some r):nJ v k'=some r:=by
 unfold nJ at h ⊢
 split at h
 ·exact hk _ h
 ·cases h
theorem iM {x:Option Od} {d:Nat} {k k':Nat→R0} (h:gR T L x d k=some r) (hk:∀v,k v=some r→k' v=some r):gR T' L' (x.map (gH T L)) d k'=some r:=by
 cases x with
 | none=>exact hk _ h
 | some x=>exact aX T' L' (k:=fun v=>cF v k) h fun v h=>tk h hk
theorem Dl {x:Option Od} {k k':Option Value→R0} (h:vi T L x k=some r) (hk:∀v,k v=some r→k' v=some r):vi T' L' (x.map (gH T L)) k'=some r:=by
 cases x with
 | none=>exact hk _ h
 | some x=>exact aX T' L' (k:=fun v=>k (some v)) h fun v h=>hk _ h
theorem wg {v:Value} {a b a' b':R0} (h:fD v a b=some r) (ha:a=some r→a'=some r) (hb:b=some r→b'=some r):fD v a' b'=some r:=by
 unfold fD at h ⊢
 split at h
 ·rename_i t
  cases t
  ·exact hb h
  ·exact ha h
 ·cases h
theorem q9 {α:Type} {o:Option α} {k k':α→R0} (h:bd o k=some r) (hk:∀a,k a=some r→k' a=some r):bd o k'=some r:=by
 cases o with
 | none=>cases h
 | some a=>exact hk a h
theorem VM {v:Value} {k k':Nat→Nat→Nat→Nat→Nat→R0} (h:lZ v k=some r) (hk:∀a b c d e,k a b c d e=some r→k' a b c d e=some r):lZ v k'=some r:=by
 unfold lZ at h ⊢
 split at h
 ·exact hk _ _ _ _ _ h
 ·cases h
theorem Ht {v:Value} {k k':Nat→Nat→R0} (h:dm v k=some r) (hk:∀a b,k a b=some r→k' a b=some r):dm v k'=some r:=by
 unfold dm at h ⊢
 split at h
 ·exact hk _ _ h
 ·cases h
theorem sr {c:Bool} {a b a' b':R0} (h:cond c a b=some r) (ha:a=some r→a'=some r) (hb:b=some r→b'=some r):cond c a' b'=some r:=by
 cases c
 ·exact hb h
 ·exact ha h
variable {P:Program} {H:Heap} {nx:Nat}
theorem KZ {mx:Option Od} {k:KV} {b o z l h c:Nat} (hh:Er T L mx k b o z l h c=some r):Er T' L' (mx.map (gH T L)) k b o z l h c=some r:=by
 cases mx with
 | none=>exact hh
 | some m=>exact aX T' L' (k:=fun m=>cF m _) hh fun v h=>h
theorem K0 {lo hi mx:Option Od} {z:Nat} {k:KV} {v:Value} (h:xj T L lo hi mx z k v=some r):xj T' L' (lo.map (gH T L)) (hi.map (gH T L)) (mx.map (gH T L)) z k v=some r:=by
 unfold xj at h ⊢
 split at h
 ·refine iM T' L' h fun l h=>iM T' L' h fun i h=>?_
  have e:(mx.map (gH T L)).isNone=mx.isNone:=by cases mx<;>rfl
  rw [e];exact h
 ·refine iM T' L' h fun l h=>iM T' L' h fun i h=>?_
  have e:(mx.map (gH T L)).isNone=mx.isNone:=by cases mx<;>rfl
  rw [e];exact h
 ·exact iM T' L' h fun l h=>iM T' L' h fun i h=>sr h (KZ T' L') id
 ·cases h
theorem bD {a:bG Od} {k:KV} (h:dv a P T L H k=some r):dv (a.map (gH T L)) P T' L' H k=some r:=by
 cases a with
 | ae x=>exact aX T' L' h fun v h=>h
 | pick c x y=>exact aX T' L' h fun v h=>wg h (fun h=>aX T' L' h fun _ h=>h) (fun h=>aX T' L' h fun _ h=>h)
 | aj x=>exact aX T' L' h fun v h=>h
 | ext x i=>exact aX T' L' h fun v h=>h
 | uY x off agg=>exact aX T' L' h fun v h=>h
 | ar x off=>exact aX T' L' h fun v h=>h
 | aB x i z=>exact aX T' L' h fun v h=>aX T' L' h fun i h=>h
 | kl x i n z=>exact aX T' L' h fun v h=>aX T' L' h fun i h=>h
 | ix x i n z agg=>exact aX T' L' h fun v h=>aX T' L' h fun i h=>h
 | bin op t x y=>exact aX T' L' h fun v h=>aX T' L' h fun i h=>h
 | un op x=>exact aX T' L' h fun v h=>h
 | vT s d x=>exact aX T' L' h fun v h=>h
 | nR mn xs=>exact xl T' L' h fun v h=>h
 | GF t x i=>exact aX T' L' h fun v h=>aX T' L' h fun i h=>h
 | BC t x lo hi=>exact aX T' L' h fun v h=>Dl T' L' h fun l h=>Dl T' L' h fun i h=>h
 | dP neg kd x y=>exact aX T' L' h fun v h=>aX T' L' h fun i h=>h
 | fR zero parts=>exact we T' L' h fun v h=>h
 | yW fn first cap=>exact xl T' L' h fun v h=>xl T' L' h fun i h=>h
 | uZ t x=>exact aX T' L' h fun v h=>h
 | BD x t zero ok=>exact aX T' L' h fun v h=>h
 | ah x agg=>exact aX T' L' h fun v h=>h
 | len x=>exact aX T' L' h fun v h=>h
 | Bn x=>exact aX T' L' h fun v h=>h
 | Dc x=>exact aX T' L' h fun v h=>h
 | cap x=>exact aX T' L' h fun v h=>h
 | u0 x lo hi mx z=>exact aX T' L' h fun v h=>K0 T' L' h
 | G8 x lo hi n z=>exact aX T' L' h fun v h=>Ht h fun b o h=>iM T' L' h fun l h=>iM T' L' h fun i h=>h
 | nr x key kt zero ok=>exact aX T' L' h fun v h=>aX T' L' h fun i h=>h
 | _=>cases h
theorem Dm {a:bG Od} {k:KA} (h:cm a P T L H nx k=some r):cm (a.map (gH T L)) P T' L' H nx k=some r:=by
 cases a with
 | box x=>exact aX T' L' h fun v h=>h
 | eX zero=>exact h
 | jF z bytes zero l c=>exact aX T' L' h fun v h=>tk h fun n h=>aX T' L' h fun i h=>h
 | gz z len zero parts=>exact we T' L' h fun v h=>h
 | Bo x=>exact iM T' L' (d:=0) (k:=fun _=>dx (at_ nx) H (some (.map [] 0)) fun H=>k (.map (some nx)) H (Nat.succ nx)) h fun v h=>h
 | a8 x v n=>exact aX T' L' h fun v h=>aX T' L' h fun i h=>h
 | app z bytes zero s x eN=>exact aX T' L' h fun v h=>aX T' L' h fun i h=>h
 | KM z d s=>exact aX T' L' h fun v h=>aX T' L' h fun i h=>h
 | Ku x zero=>exact aX T' L' h fun v h=>h
 | G9 m key v kt=>exact aX T' L' h fun v h=>aX T' L' h fun i h=>aX T' L' h fun u h=>h
 | Dd m key kt zero=>exact aX T' L' h fun v h=>aX T' L' h fun i h=>h
 | De m s v=>exact aX T' L' h fun v h=>aX T' L' h fun i h=>tk h fun n h=>aX T' L' h fun u h=>h
 | ins z bytes s i v=>exact aX T' L' h fun v h=>aX T' L' h fun i h=>Hr h fun n h=>aX T' L' h fun u h=>h
 | call f args=>cases h
 | inv x name args=>cases h
 | oF f args=>cases h
 | nI x=>cases h
 | vU=>cases h
 | vV x=>exact aX T' L' h fun v h=>h
 | nxt x=>exact aX T' L' h fun v h=>h
 | KN x=>exact aX T' L' h fun v h=>h
 | ae x=>exact bD T' L' (a:=.ae x) h
 | pick c x y=>exact bD T' L' (a:=.pick c x y) h
 | aj x=>exact bD T' L' (a:=.aj x) h
 | ext x i=>exact bD T' L' (a:=.ext x i) h
 | uY x off agg=>exact bD T' L' (a:=.uY x off agg) h
 | ar x off=>exact bD T' L' (a:=.ar x off) h
 | aB x i z=>exact bD T' L' (a:=.aB x i z) h
 | kl x i n z=>exact bD T' L' (a:=.kl x i n z) h
 | ix x i n z agg=>exact bD T' L' (a:=.ix x i n z agg) h
 | bin op t x y=>exact bD T' L' (a:=.bin op t x y) h
 | un op x=>exact bD T' L' (a:=.un op x) h
 | vT s d x=>exact bD T' L' (a:=.vT s d x) h
 | nR mn xs=>exact bD T' L' (a:=.nR mn xs) h
 | GF t x i=>exact bD T' L' (a:=.GF t x i) h
 | BC t x lo hi=>exact bD T' L' (a:=.BC t x lo hi) h
 | dP neg kd x y=>exact bD T' L' (a:=.dP neg kd x y) h
 | fR zero parts=>exact bD T' L' (a:=.fR zero parts) h
 | yW fn first cap=>exact bD T' L' (a:=.yW fn first cap) h
 | uZ t x=>exact bD T' L' (a:=.uZ t x) h
 | BD x t zero ok=>exact bD T' L' (a:=.BD x t zero ok) h
 | ah x agg=>exact bD T' L' (a:=.ah x agg) h
 | len x=>exact bD T' L' (a:=.len x) h
 | Bn x=>exact bD T' L' (a:=.Bn x) h
 | Dc x=>exact bD T' L' (a:=.Dc x) h
 | cap x=>exact bD T' L' (a:=.cap x) h
 | u0 x lo hi mx z=>exact bD T' L' (a:=.u0 x lo hi mx z) h
 | G8 x lo hi n z=>exact bD T' L' (a:=.G8 x lo hi n z) h
 | nr x key kt zero ok=>exact bD T' L' (a:=.nr x key kt zero ok) h
end Go.Eng

namespace Go.Eng
structure Ref where
 blk:Nat
 sh:Nat
 size:Nat
abbrev bA:=Nat→Option Ref
def ei:Nat:=9223372036854775807
def tl:Value→Bool
 | .agg _ | .tuple _ | .bool _=>false
 | _=>true
mutual
inductive VR (ρ:bA):Value→Value→Prop where
 | sc {v:Value} (h:scalar v=true):VR ρ v v
 | rT:VR ρ .nilIface .nilIface
 | y5:VR ρ (.pointer none) (.pointer none)
 | ptr {b o:Nat} {r:Ref} (h:ρ b=some r):VR ρ (.pointer (some ⟨b,o,none⟩)) (.pointer (some ⟨r.blk,r.sh + o,none⟩))
 | j5:VR ρ (.slice none 0 0) (.slice none 0 0)
 | sl {b o z len c p c':Nat} {r:Ref} (h:ρ b=some r) (hl:len≤c'∧c'≤ei) (hs:aE c≤c') (he:exact c=true→c'=aE c)
   (hp:c'=0∨(p=r.sh + o∧p + c' * z≤r.size)):VR ρ (.slice (some ⟨b,o,some z⟩) len c) (.slice (some ⟨r.blk,p,none⟩) len c')
 | Dn {a:Addr}:VR ρ (.slice (some ⟨0,0,none⟩) 0 1) (.slice (some a) 0 0)
 | rU:VR ρ (.map none) (.map none)
 | map {b:Nat} {r:Ref} (h:ρ b=some r):VR ρ (.map (some b)) (.map (some r.blk))
 | func {f:FuncId} {a a' c c':List Value} (h:cU ρ a a') (h':cU ρ c c'):VR ρ (.func (.func f) ⟨a⟩ ⟨c⟩) (.func (.func f) ⟨a'⟩ ⟨c'⟩)
 | iface {t:TypeId} {v v':Value} (h:VR ρ v v'):VR ρ (.iface t v) (.iface t v')
 | agg {a a':List Value} (h:cU ρ a a'):VR ρ (.agg ⟨a⟩) (.agg ⟨a'⟩)
 | tuple {a a':List Value} (h:cU ρ a a'):VR ρ (.tuple ⟨a⟩) (.tuple ⟨a'⟩)
 | any {u:Value} (h:tl u=true):VR ρ (.chan none) u
 | vV {k:Nat} {x:Int} (h:(yX k:Int)≤x∧x≤(vX k:Int)):VR ρ (.chan (some k)) (.int .i64 x)
inductive cU (ρ:bA):List Value→List Value→Prop where
 | nil:cU ρ [] []
 | cons {v v':Value} {vs MS:List Value} (h:VR ρ v v') (hs:cU ρ vs MS):cU ρ (v::vs) (v'::MS)
end
def Ext (ρ ρ':bA):Prop:=∀b r,ρ b=some r→ρ' b=some r
theorem Ext.refl (ρ:bA):Ext ρ ρ:=fun _ _ h=>h
theorem Ext.trans {a b c:bA} (h:Ext a b) (h':Ext b c):Ext a c:=fun _ _ x=>h' _ _ (h _ _ x)
mutual
theorem VR.mono {ρ ρ':bA} (e:Ext ρ ρ'):∀{v v':Value},VR ρ v v'→VR ρ' v v'
 | _,_,.sc h=>.sc h
 | _,_,.rT=>.rT
 | _,_,.y5=>.y5
 | _,_,.ptr h=>.ptr (e _ _ h)
 | _,_,.j5=>.j5
 | _,_,.sl h hl hs he hp=>.sl (e _ _ h) hl hs he hp
 | _,_,.Dn=>.Dn
 | _,_,.rU=>.rU
 | _,_,.map h=>.map (e _ _ h)
 | _,_,.func h h'=>.func (cU.mono e h) (cU.mono e h')
 | _,_,.iface h=>.iface (VR.mono e h)
 | _,_,.agg h=>.agg (cU.mono e h)
 | _,_,.tuple h=>.tuple (cU.mono e h)
 | _,_,.any h=>.any h
 | _,_,.vV h=>.vV h
theorem cU.mono {ρ ρ':bA} (e:Ext ρ ρ'):∀{v v':List Value},cU ρ v v'→cU ρ' v v'
 | _,_,.nil=>.nil
 | _,_,.cons h hs=>.cons (VR.mono e h) (cU.mono e hs)
end
section lists
variable {ρ:bA}
theorem cU.length {a a':List Value} (h:cU ρ a a'):a'.length=a.length:=by
 induction a generalizing a' with
 | nil=>cases h;rfl
 | cons v a ih=>cases h with|cons h hs=>simp [ih hs]
theorem cU.get {a a':List Value} (h:cU ρ a a'):∀{i:Nat} {v:Value},a[i]?=some v→∃v',a'[i]?=some v'∧VR ρ v v':=by
 induction a generalizing a' with
 | nil=>intro i v hv;simp at hv
 | cons u a ih=>
  intro i v hv
  cases h with
  | cons h hs=>
   cases i with
   | zero=>simp at hv;subst hv;exact ⟨_,rfl,h⟩
   | succ i=>simpa using ih hs (by simpa using hv)
theorem cU.append {a a' b b':List Value} (h:cU ρ a a') (h':cU ρ b b'):cU ρ (a++b) (a'++b'):=by
 induction a generalizing a' with
 | nil=>cases h;exact h'
 | cons v a ih=>cases h with|cons h hs=>exact .cons h (ih hs)
theorem cU.tn {a a':List Value} (hl:a'.length=a.length) (h:∀(i:Nat) (v:Value),a[i]?=some v→∃v',a'[i]?=some v'∧VR ρ v v'):cU ρ a a':=by
 induction a generalizing a' with
 | nil=>cases a' with
  | nil=>exact .nil
  | cons=>simp at hl
 | cons v a ih=>
  cases a' with
  | nil=>simp at hl
  | cons v' a'=>
   obtain ⟨u,hu,hr⟩:=h 0 v rfl
   simp at hu;subst hu
   refine .cons hr (ih (by simpa using hl) fun i w hw=>?_)
   have:=h (i + 1) w (by simpa using hw)
   simpa using this
theorem cU.drop {a a':List Value} (h:cU ρ a a') (n:Nat):cU ρ (a.drop n) (a'.drop n):=by
 induction n generalizing a a' with
 | zero=>exact h
 | succ n ih=>cases h with
  | nil=>exact .nil
  | cons h hs=>exact ih hs
theorem cU.take {a a':List Value} (h:cU ρ a a') (n:Nat):cU ρ (a.take n) (a'.take n):=by
 induction n generalizing a a' with
 | zero=>simp;exact .nil
 | succ n ih=>cases h with
  | nil=>exact .nil
  | cons h hs=>exact .cons h (ih hs)
end lists
theorem VR.dM {ρ:bA} {v v':Value} (h:VR ρ v v') (hs:scalar v=true):v'=v:=by
 cases h with
 | sc _=>rfl
 | _=>simp [scalar] at hs
theorem cU.dM {ρ:bA} {a a':List Value} (h:cU ρ a a') (hs:a.all scalar=true):a'=a:=by
 induction a generalizing a' with
 | nil=>cases h;rfl
 | cons v a ih=>
  cases h with
  | cons h hr=>
   simp at hs
   rw [h.dM hs.1,ih hr (by simpa using hs.2)]
theorem VR.gI {ρ:bA} {v v':Value} (h:VR ρ v v') (hs:flat v=true):v'=v:=by
 cases h with
 | sc _=>rfl
 | agg h=>rw [h.dM (by simpa [flat] using hs)]
 | _=>simp [flat,scalar] at hs
theorem cU.Ev {ρ:bA} {a:List Value} (hs:a.all scalar=true):cU ρ a a:=by
 induction a with
 | nil=>exact .nil
 | cons v a ih=>simp at hs;exact .cons (.sc hs.1) (ih (by simpa using hs.2))
theorem VR.of_flat {ρ:bA} {v:Value} (hs:flat v=true):VR ρ v v:=by
 cases v with
 | agg cs=>exact .agg (.Ev (by simpa [flat] using hs))
 | _=>exact .sc (by simpa [flat] using hs)
inductive kU (ρ:bA):List MapEntry→List MapEntry→Prop where
 | nil:kU ρ [] []
 | cons {e e':MapEntry} {es es':List MapEntry} (hk:VR ρ e.key e'.key) (hv:VR ρ e.val e'.val) (hb:e'.born=e.born) (h:kU ρ es es'):kU ρ (e::es) (e'::es')
theorem kU.mono {ρ ρ':bA} (e:Ext ρ ρ') {a a':List MapEntry} (h:kU ρ a a'):kU ρ' a a':=by
 induction h with
 | nil=>exact .nil
 | cons hk hv hb _ ih=>exact .cons (hk.mono e) (hv.mono e) hb ih
def Kv (ρ:bA) (hp:Array Obj) (r:Ref) (cs:List Value):Prop:=∃a e f,hp[r.blk]?=some (.cells a e f)∧a.size=r.size∧∀i v,cs[i]?=some v→∃v',a[r.sh + i]?=some v'∧VR ρ v v'
def BR (ρ:bA) (hp:Array Obj) (r:Ref):gT→Prop
 | .cells cs=>∃a e,hp[r.blk]?=some (.cells a e (0,0))∧a.size=r.size∧∀i v,cs[i]?=some v→∃v',a[r.sh + i]?=some v'∧VR ρ v v'
 | .map es c=>∃es',hp[r.blk]?=some (.map es' c)∧kU ρ es es'.toList
 | .ro cs=>Kv ρ hp r cs
 | .iter m a s c=>r.sh=0∧∃m',hp[r.blk]?=some (.mapIter m' a s.toArray c)∧VR ρ (.map m) (.map m')
def gT.ij:gT→Bool
 | .ro _=>false
 | _=>true
theorem BR.mono {ρ ρ':bA} (e:Ext ρ ρ') {hp:Array Obj} {r:Ref} {k:gT} (h:BR ρ hp r k):BR ρ' hp r k:=by
 cases k with
 | cells cs=>
  obtain ⟨a,t,h1,h2,h3⟩:=h
  exact ⟨a,t,h1,h2,fun i v hv=>let ⟨v',g,hr⟩:=h3 i v hv;⟨v',g,hr.mono e⟩⟩
 | map es c=>
  obtain ⟨es',h1,h2⟩:=h
  exact ⟨es',h1,h2.mono e⟩
 | ro cs=>
  obtain ⟨a,t,f,h1,h2,h3⟩:=h
  exact ⟨a,t,f,h1,h2,fun i v hv=>let ⟨v',g,hr⟩:=h3 i v hv;⟨v',g,hr.mono e⟩⟩
 | iter m a s c=>
  obtain ⟨h0,m',h1,h2⟩:=h
  exact ⟨h0,m',h1,h2.mono e⟩
theorem BR.lt {ρ:bA} {hp:Array Obj} {r:Ref} {k:gT} (h:BR ρ hp r k):r.blk < hp.size:=by
 cases k with
 | cells cs=>
  obtain ⟨a,t,h1,_⟩:=h
  exact (Array.getElem?_eq_some_iff.1 h1).1
 | map es c=>
  obtain ⟨es',h1,_⟩:=h
  exact (Array.getElem?_eq_some_iff.1 h1).1
 | ro cs=>
  obtain ⟨a,t,f,h1,_⟩:=h
  exact (Array.getElem?_eq_some_iff.1 h1).1
 | iter m a s c=>
  obtain ⟨_,m',h1,_⟩:=h
  exact (Array.getElem?_eq_some_iff.1 h1).1
theorem BR.of_same {ρ:bA} {hp jG:Array Obj} {r:Ref} {k:gT} (h:BR ρ hp r k) (e:jG[r.blk]?=hp[r.blk]?):BR ρ jG r k:=by
 cases k with
 | cells cs=>obtain ⟨a,t,h1,h2⟩:=h;exact ⟨a,t,e.trans h1,h2⟩
 | map es c=>obtain ⟨es',h1,h2⟩:=h;exact ⟨es',e.trans h1,h2⟩
 | ro cs=>obtain ⟨a,t,f,h1,h2⟩:=h;exact ⟨a,t,f,e.trans h1,h2⟩
 | iter m a s c=>obtain ⟨h0,m',h1,h2⟩:=h;exact ⟨h0,m',e.trans h1,h2⟩
structure HR (ρ:bA) (H:Heap) (nx:Nat) (hp:Array Obj):Prop where
 blk:∀b k,ao H (at_ b)=some k→∃r,ρ b=some r∧BR ρ hp r k
 inj:∀b c k l r s,ao H (at_ b)=some k→ao H (at_ c)=some l→k.ij=true→ρ b=some r→ρ c=some s→r.blk=s.blk→b=c
 new:∀b,nx≤b→ρ b=none
def j6 (ρ:bA) (H:Heap) (k:Nat):Prop:=∃b x r,ao H (at_ b)=some x∧x.ij=true∧ρ b=some r∧r.blk=k
def BH (H' H:Heap):Prop:=∀b x,ao H' (at_ b)=some x→x.ij=false→ao H (at_ b)=some x
theorem BH.refl (H:Heap):BH H H:=fun _ _ h _=>h
theorem BH.trans {H2 H1 H:Heap} (h:BH H2 H1) (h':BH H1 H):BH H2 H:=fun b x hb hm=>h' b x (h b x hb hm) hm
theorem BH.forget (H:Heap) (b:Nat):BH (bB (at_ b) H none) H:=by
 intro c x hc _
 by_cases e:at_ c=at_ b
 ·rw [e,bp] at hc;cases hc
 ·rwa [aR _ _ _ _ e] at hc
theorem BH.put (H:Heap) (b:Nat) (k:gT) (hk:k.ij=true:=by rfl):BH (bB (at_ b) H (some k)) H:=by
 intro c x hc hx
 by_cases e:at_ c=at_ b
 ·rw [e,bp] at hc
  have:k=x:=by simpa using hc
  subst this
  rw [hk] at hx;cases hx
 ·rwa [aR _ _ _ _ e] at hc
structure Bp (ρ:bA) (H:Heap) (w:World) (ρ':bA) (H':Heap) (w':World):Prop where
 ext:Ext ρ ρ'
 own:∀k,j6 ρ' H' k→j6 ρ H k∨w.heap.size≤k
 ro:BH H' H
 frame:∀k,k < w.heap.size→¬j6 ρ H k→w'.heap[k]?=w.heap[k]?
 size:w.heap.size≤w'.heap.size
 os:w'.os=w.os
 tape:w'.tape=w.tape
 output:w'.output=w.output
theorem Bp.refl (ρ:bA) (H:Heap) (w:World):Bp ρ H w ρ H w:=⟨.refl ρ,fun _ h=>.inl h,.refl H,fun _ _ _=>rfl,Nat.le_refl _,rfl,rfl,rfl⟩
theorem Bp.trans {ρ ρ1 ρ2:bA} {H H1 H2:Heap} {w w1 w2:World} (h:Bp ρ H w ρ1 H1 w1) (h':Bp ρ1 H1 w1 ρ2 H2 w2):Bp ρ H w ρ2 H2 w2:=by
 refine ⟨h.ext.trans h'.ext,fun k hk=>?_,h'.ro.trans h.ro,fun k hk hn=>?_,Nat.le_trans h.size h'.size,h'.os.trans h.os,h'.tape.trans h.tape,h'.output.trans h.output⟩
 ·rcases h'.own k hk with h1|h1
  ·exact h.own k h1
  ·exact .inr (Nat.le_trans h.size h1)
 ·have h1:¬j6 ρ1 H1 k:=fun ho=>by
   rcases h.own k ho with h2|h2
   ·exact hn h2
   ·omega
  rw [h'.frame k (Nat.lt_of_lt_of_le hk h.size) h1,h.frame k hk hn]
theorem Bp.drew (ρ:bA) (H:Heap) (w:World) (n:Nat):Bp ρ H w ρ H { w with drawn:=n }:=⟨.refl ρ,fun _ h=>.inl h,.refl H,fun _ _ _=>rfl,Nat.le_refl _,rfl,rfl,rfl⟩
section steps
variable {ρ:bA} {H:Heap} {nx:Nat} {hp:Array Obj}
def bA.with (ρ:bA) (b:Nat) (r:Ref):bA:=fun x=>if x=b then some r else ρ x
theorem bA.dN (ρ:bA) (b:Nat) (r:Ref):ρ.with b r b=some r:=by simp [bA.with]
theorem bA.fO (ρ:bA) {b c:Nat} (r:Ref) (h:c≠b):ρ.with b r c=ρ c:=by simp [bA.with,h]
theorem HR.eO (h:HR ρ H nx hp) (r:Ref):Ext ρ (ρ.with nx r):=by
 intro b s hb
 have cG:b≠nx:=by
  intro e;subst e
  rw [h.new b (Nat.le_refl _)] at hb;cases hb
 rw [bA.fO _ _ cG];exact hb
theorem HR.forget (h:HR ρ H nx hp) (b:Nat):HR ρ (bB (at_ b) H none) nx hp:=by
 have key:∀c k,ao (bB (at_ b) H none) (at_ c)=some k→ao H (at_ c)=some k:=by
  intro c k hc
  by_cases e:at_ c=at_ b
  ·rw [e,bp] at hc;cases hc
  ·rwa [aR _ _ _ _ e] at hc
 exact ⟨fun c k hc=>h.blk c k (key c k hc),fun c d k l r s hc hd=>h.inj c d k l r s (key _ _ hc) (key _ _ hd),h.new⟩
theorem j6.mY {b k:Nat} (h:j6 ρ (bB (at_ b) H none) k):j6 ρ H k:=by
 obtain ⟨c,x,r,hc,hm,hr,e⟩:=h
 refine ⟨c,x,r,?_,hm,hr,e⟩
 by_cases e:at_ c=at_ b
 ·rw [e,bp] at hc;cases hc
 ·rwa [aR _ _ _ _ e] at hc
theorem HR.make (h:HR ρ H nx hp) {jG:Array Obj} {k:gT} {r:Ref}
  (hold:∀b x s,ao H (at_ b)=some x→ρ b=some s→jG[s.blk]?=hp[s.blk]?∧s.blk≠r.blk) (hk:BR (ρ.with nx r) jG r k) :
  HR (ρ.with nx r) (bB (at_ nx) H (some k)) (nx + 1) jG:=by
 have ext:=h.eO r
 have j7:∀b x,ao (bB (at_ nx) H (some k)) (at_ b)=some x→(b=nx∧x=k)∨(b≠nx∧ao H (at_ b)=some x):=by
  intro b x hb
  by_cases e:at_ b=at_ nx
  ·rw [e,bp] at hb
   exact .inl ⟨ea e,by simpa using hb.symm⟩
  ·rw [aR _ _ _ _ e] at hb
   exact .inr ⟨fun e'=>e (by rw [e']),hb⟩
 refine ⟨fun b x hb=>?_,fun b c x y s t hb hc hm hs ht e=>?_,fun b hb=>?_⟩
 ·rcases j7 b x hb with ⟨rfl,rfl⟩|⟨cG,hb⟩
  ·exact ⟨r,bA.dN _ _ _,hk⟩
  ·obtain ⟨s,hs,xm⟩:=h.blk b x hb
   exact ⟨s,ext b s hs,(xm.mono ext).of_same (hold b x s hb hs).1⟩
 ·rcases j7 b x hb with ⟨eb,_⟩|⟨vn,eQ⟩
  ·rcases j7 c y hc with ⟨ec,_⟩|⟨K1,rV⟩
   ·rw [eb,ec]
   ·rw [eb,bA.dN] at hs;cases hs
    rw [bA.fO _ _ K1] at ht
    exact absurd e.symm (hold c y t rV ht).2
  ·rcases j7 c y hc with ⟨ec,_⟩|⟨K1,rV⟩
   ·rw [ec,bA.dN] at ht;cases ht
    rw [bA.fO _ _ vn] at hs
    exact absurd e (hold b x s eQ hs).2
   ·rw [bA.fO _ _ vn] at hs
    rw [bA.fO _ _ K1] at ht
    exact h.inj b c x y s t eQ rV hm hs ht e
 ·rw [bA.fO _ _ (by omega)]
  exact h.new b (by omega)
theorem j6.ss {k:gT} {r:Ref} {j:Nat} (h:j6 (ρ.with nx r) (bB (at_ nx) H (some k)) j):j=r.blk∨j6 ρ H j:=by
 obtain ⟨b,x,s,hb,hm,hs,e⟩:=h
 by_cases e':at_ b=at_ nx
 ·have:=ea e';subst this
  rw [bA.dN] at hs;cases hs
  exact .inl e.symm
 ·rw [aR _ _ _ _ e'] at hb
  rw [bA.fO _ _ (fun e=>e' (by rw [e]))] at hs
  exact .inr ⟨b,x,s,hb,hm,hs,e⟩
theorem HR.write (h:HR ρ H nx hp) {jG:Array Obj} {b:Nat} {k0 k:gT} {r:Ref} (hb:ao H (at_ b)=some k0) (hr:ρ b=some r)
  (hold:∀i,i≠r.blk→jG[i]?=hp[i]?) (hk:BR ρ jG r k) (BI:k0.ij=true:=by rfl):HR ρ (bB (at_ b) H (some k)) nx jG:=by
 have j7:∀c x,ao (bB (at_ b) H (some k)) (at_ c)=some x→(c=b∧x=k)∨(c≠b∧ao H (at_ c)=some x):=by
  intro c x hc
  by_cases e:at_ c=at_ b
  ·rw [e,bp] at hc
   exact .inl ⟨ea e,by simpa using hc.symm⟩
  ·rw [aR _ _ _ _ e] at hc
   exact .inr ⟨fun e'=>e (by rw [e']),hc⟩
 have back:∀c x,ao (bB (at_ b) H (some k)) (at_ c)=some x→∃y,ao H (at_ c)=some y∧(x.ij=true→y.ij=true):=by
  intro c x hc
  rcases j7 c x hc with ⟨rfl,rfl⟩|⟨_,hc⟩
  ·exact ⟨k0,hb,fun _=>BI⟩
  ·exact ⟨x,hc,id⟩
 refine ⟨fun c x hc=>?_,fun c d x y s t hc hd hm hs ht e=>?_,h.new⟩
 ·rcases j7 c x hc with ⟨rfl,rfl⟩|⟨cG,hc⟩
  ·exact ⟨r,hr,hk⟩
  ·obtain ⟨s,hs,xm⟩:=h.blk c x hc
   refine ⟨s,hs,xm.of_same (hold _ fun e=>cG (h.inj b c k0 x r s hb hc BI hr hs e.symm).symm)⟩
 ·obtain ⟨x',rV,GG⟩:=back c x hc
  obtain ⟨y',K2,_⟩:=back d y hd
  exact h.inj c d x' y' s t rV K2 (GG hm) hs ht e
theorem j6.mf {b:Nat} {k0 k:gT} {j:Nat} (hb:ao H (at_ b)=some k0) (h:j6 ρ (bB (at_ b) H (some k)) j) (BI:k0.ij=true:=by rfl):j6 ρ H j:=by
 obtain ⟨c,x,s,hc,hm,hs,e⟩:=h
 by_cases e':at_ c=at_ b
 ·exact ⟨c,k0,s,by rw [e'];exact hb,BI,hs,e⟩
 ·rw [aR _ _ _ _ e'] at hc
  exact ⟨c,x,s,hc,hm,hs,e⟩
end steps
end Go.Eng

namespace Go.Eng
theorem fg (l:List Value):∀n,e9 l n=l.drop n:=by
 induction l with
 | nil=>intro n;cases n<;>rfl
 | cons c l ih=>
  intro n
  cases n with
  | zero=>rfl
  | succ n=>exact ih n
theorem take?_eq (n:Nat):∀(l r:List Value),take? n l=some r→r=l.take n∧n≤l.length:=by
 induction n with
 | zero=>intro l r h;cases h;simp
 | succ n ih=>
  intro l r h
  cases l with
  | nil=>cases h
  | cons c l=>
   have h':(Option.rec none (fun r=>some (c::r)) (take? n l):Option (List Value))=some r:=h
   cases e:take? n l with
   | none=>rw [e] at h';cases h'
   | some q=>
    rw [e] at h'
    have N6:some (c::q)=some r:=h'
    obtain ⟨h1,h2⟩:=ih l q e
    cases N6
    exact ⟨by rw [h1];rfl,by simpa using h2⟩
theorem take?_get {n:Nat} {l r:List Value} (h:take? n l=some r):r.length=n∧∀i,i < n→r[i]?=l[i]?:=by
 obtain ⟨h1,h2⟩:=take?_eq n l r h
 subst h1
 exact ⟨by simp;omega,fun i hi=>by rw [List.getElem?_take];simp [hi]⟩
theorem Hu (l:List Value):vW l=l[0]?:=by cases l<;>rfl
theorem ra {cs:List Value} {off:Nat} {v:Value} (h:partOf cs off none=some v):cs[off]?=some v:=by
 have h':vW (e9 cs off)=some v:=h
 rw [Hu,fg,List.getElem?_drop] at h'
 simpa using h'
theorem re {cs:List Value} {off n:Nat} {v:Value} (h:partOf cs off (some n)=some v) :
  ∃l,v=.agg ⟨l⟩∧l.length=n∧∀i,i < n→l[i]?=cs[off + i]?:=by
 have h':Hb (take? n (e9 cs off))=some v:=h
 cases e:take? n (e9 cs off) with
 | none=>rw [e] at h';cases h'
 | some l=>
  rw [e] at h'
  have N6:some (Value.agg l.toArray)=some v:=h'
  cases N6
  obtain ⟨h1,h2⟩:=take?_get e
  refine ⟨l,rfl,h1,fun i hi=>?_⟩
  rw [h2 i hi,fg,List.getElem?_drop]
variable {P:Program} {w:World}
theorem iT {α:Type} {s:Sem α} {a:α} (h:quiet P s=some a):s.run P w=.ok a w:=by
 induction s with
 | pure b=>cases h;rfl
 | program k ih=>exact ih P h
 | _=>cases h
theorem kz {t:TypeId} {i:TypeInfo} (h:P.info? t=some i):(typeInfo t).run P w=.ok i w:=by
 simp [typeInfo,h]
theorem dS {t:TypeId} {n:Nat} (h:b8 P t=some n):(sizeOf t).run P w=.ok n w:=by
 unfold b8 at h
 cases e:P.info? t with
 | none=>rw [e] at h;cases h
 | some i=>
  rw [e] at h
  simp at h
  simp [sizeOf,kz e,h]
theorem Ew {t:TypeId} {n:Nat} (h:jO P t=some n):∃i,(typeInfo t).run P w=.ok i w∧i.bytes=n:=by
 unfold jO at h
 cases e:P.info? t with
 | none=>rw [e] at h;cases h
 | some i=>
  rw [e] at h
  simp at h
  exact ⟨i,kz e,h⟩
theorem wh {t:TypeId} {n:Nat} (h:oO P t=some (some n)):(isAgg t).run P w=.ok true w∧(sizeOf t).run P w=.ok n w:=by
 unfold oO at h
 split at h
 ·rename_i i fs hi hu
  cases h
  exact ⟨by simp [isAgg,run_underlying hu],by simp [sizeOf,kz hi]⟩
 ·rename_i i a b hi hu
  cases h
  exact ⟨by simp [isAgg,run_underlying hu],by simp [sizeOf,kz hi]⟩
 ·cases h
 ·cases h
theorem wi {t:TypeId} (h:oO P t=some none):(isAgg t).run P w=.ok false w:=by
 unfold oO at h
 split at h
 ·cases h
 ·cases h
 ·rename_i i d h1 h2 hi hu
  have hd:(underlying t).run P w=.ok d w:=run_underlying hu w
  simp only [isAgg,Sem.run_bind,hd,Result.andThen_ok]
  cases d with
  | struct fs=>exact (h1 fs rfl).elim
  | array n e=>exact (h2 n e rfl).elim
  | _=>rfl
 ·cases h
theorem gJ {t:TypeId} {z:Value} (h:fN P t=some z):(zeroValue t).run P w=.ok z w∧iK z=true:=by
 unfold fN at h
 split at h
 ·rename_i i hi
  split at h
  ·rename_i z' hz
   cases hc:iK z' with
   | false=>rw [hc] at h;cases h
   | true=>
    rw [hc] at h
    have h':some z'=some z:=h
    cases h'
    exact ⟨by simp [zeroValue,kz hi,hz],hc⟩
  ·cases h
 ·cases h
theorem cell_of {hp:Array Obj} {b o:Nat} {a:Array Value} {e:TypeId} {f:Nat×Nat} {v:Value} (w:World) (hw:w.heap=hp) (h:hp[b]?=some (.cells a e f)) (hv:a[o]?=some v):w.cell? ⟨b,o,none⟩=some v:=by
 unfold World.cell?
 rw [hw]
 simp [h,hv]
theorem vo {a:Addr} {v:Value} (h:w.cell? a=some v):(load a).run P w=.ok v w:=by
 simp [load,Sem.run,h]
theorem run_loadCellsFrom (b o:Nat) (f:Nat→Value):∀(n i:Nat) (acc:Array Value),(∀j,j < n→w.cell? ⟨b,o + (i + j),none⟩=some (f (i + j)))→
  (loadCellsFrom ⟨b,o,none⟩ i n acc).run P w=.ok (acc++((List.range n).map fun j=>f (i + j)).toArray) w:=by
 intro n
 induction n with
 | zero=>intro i acc _;simp [loadCellsFrom,Sem.run_pure]
 | succ n ih=>
  intro i acc h
  have h0:(load (Addr.add ⟨b,o,none⟩ i)).run P w=.ok (f i) w:=by
   rw [Addr.add_lit]
   exact vo (by simpa using h 0 (by omega))
  simp only [loadCellsFrom,Sem.run_bind,h0,Result.andThen_ok]
  rw [ih (i + 1) (acc.push (f i)) (fun j hj=>by have:=h (j + 1) (by omega);rw [show i + 1 + j=i + (j + 1) by omega];exact this)]
  congr 1
  apply Array.ext'
  simp [List.range_succ_eq_map]
  intro a _;congr 1;omega
theorem run_loadCells {b o n:Nat} {l:List Value} (hl:l.length=n) (h:∀i v,l[i]?=some v→w.cell? ⟨b,o + i,none⟩=some v):(loadCells ⟨b,o,none⟩ n).run P w=.ok ⟨l⟩ w:=by
 have:=run_loadCellsFrom (P:=P) (w:=w) b o (fun i=>l.getD i undef) n 0 #[] (fun j hj=>by
  have Hv:j < l.length:=by omega
  have:=h j l[j] (by simp [Hv])
  simpa [List.getD_eq_getElem?_getD,Hv] using this)
 unfold loadCells
 rw [this]
 congr 1
 apply Array.ext'
 simp
 apply List.ext_getElem
 ·simp [hl]
 ·intro i h1 h2
  simp
  simp at h1
  rw [List.getElem?_eq_getElem (by omega)];rfl
end Go.Eng

namespace Go.Eng
variable {P:Program} {w:World} {ρ:bA} {H:Heap} {nx:Nat} {r:Ex×St}
theorem VR.Dp {cs:Array Value} {u:Value} (h:VR ρ (.agg cs) u):∃cs',u=.agg cs'∧cU ρ cs.toList cs'.toList:=by
 cases h with
 | sc h=>simp [scalar] at h
 | agg h=>exact ⟨_,rfl,h⟩
theorem VR.Ey {cs:Array Value} {u:Value} (h:VR ρ (.tuple cs) u):∃cs',u=.tuple cs'∧cU ρ cs.toList cs'.toList:=by
 cases h with
 | sc h=>simp [scalar] at h
 | tuple h=>exact ⟨_,rfl,h⟩
theorem VR.ie {k:IntKind} {n:Int} {u:Value} (h:VR ρ (.int k n) u):u=.int k n:=h.dM rfl
theorem VR.oR {b:Bool} {u:Value} (h:VR ρ (.bool b) u):u=.bool b:=h.dM rfl
theorem VR.oS {b o:Nat} {u:Value} (h:VR ρ (.pointer (some ⟨b,o,none⟩)) u):∃s,ρ b=some s∧u=.pointer (some ⟨s.blk,s.sh + o,none⟩):=by
 cases h with
 | sc h=>simp [scalar] at h
 | ptr h=>exact ⟨_,h,rfl⟩
theorem jm {v:Value} {k:Nat→Nat→R0} (h:dm v k=some r):∃b o,v=.pointer (some ⟨b,o,none⟩)∧k b o=some r:=by
 unfold dm at h
 split at h
 ·exact ⟨_,_,rfl,h⟩
 ·cases h
theorem eH {v:Value} {k:Nat→R0} (h:cF v k=some r):∃(i:IntKind) (n:Nat),v=.int i (.ofNat n)∧k n=some r:=by
 unfold cF at h
 split at h
 ·exact ⟨_,_,rfl,h⟩
 ·cases h
theorem tp {v:Value} {k:List Value→R0} (h:nK v k=some r):∃cs:Array Value,v=.agg cs∧k cs.toList=some r:=by
 unfold nK at h
 split at h
 ·exact ⟨_,rfl,h⟩
 ·cases h
theorem mZ {v:Value} {k:Nat→Nat→Nat→Nat→Nat→R0} (h:lZ v k=some r):∃b o z len c,v=.slice (some ⟨b,o,some z⟩) len c∧k b o z len c=some r:=by
 unfold lZ at h
 split at h
 ·exact ⟨_,_,_,_,_,rfl,h⟩
 ·cases h
theorem mg {v:Value} {a b:R0} (h:fD v a b=some r):(v=.bool true∧a=some r)∨(v=.bool false∧b=some r):=by
 unfold fD at h
 split at h
 ·rename_i t
  cases t
  ·exact .inr ⟨rfl,h⟩
  ·exact .inl ⟨rfl,h⟩
 ·cases h
theorem bO {c:Bool} {a:R0} (h:cond c a none=some r):c=true∧a=some r:=by
 cases c
 ·cases h
 ·exact ⟨rfl,h⟩
theorem fh {b:Nat} {k:List Value→R0} (h:eU H b k=some r):∃cs,ao H (at_ b)=some (.cells cs)∧k cs=some r:=by
 unfold eU sq at h
 cases e:ao H (at_ b) with
 | none=>rw [e] at h;cases h
 | some x=>
  rw [e] at h
  cases x with
  | cells cs=>exact ⟨cs,rfl,h⟩
  | map es c=>cases h
  | ro cs=>cases h
  | iter _ _ _ _=>cases h
theorem mh {b:Nat} {k:List Value→R0} (h:cA H b k=some r):∃cs x,ao H (at_ b)=some x∧(∀(ρ:bA) (hp:Array Obj) (s:Ref),BR ρ hp s x→Kv ρ hp s cs)∧k cs=some r:=by
 unfold cA onRead at h
 cases e:ao H (at_ b) with
 | none=>rw [e] at h;cases h
 | some x=>
  rw [e] at h
  cases x with
  | cells cs=>exact ⟨cs,_,rfl,fun _ _ _ h=>let ⟨a,e,h1,h2⟩:=h;⟨a,e,_,h1,h2⟩,h⟩
  | map es c=>cases h
  | ro cs=>exact ⟨cs,_,rfl,fun _ _ _ h=>h,h⟩
  | iter _ _ _ _=>cases h
theorem gf {b:Nat} {k:List MapEntry→Nat→R0} (h:fe (ao H (at_ b)) k=some r):∃es c,ao H (at_ b)=some (.map es c)∧k es c=some r:=by
 unfold fe at h
 cases e:ao H (at_ b) with
 | none=>rw [e] at h;cases h
 | some x=>
  rw [e] at h
  cases x with
  | cells cs=>cases h
  | map es c=>exact ⟨es,c,rfl,h⟩
  | ro cs=>cases h
  | iter _ _ _ _=>cases h
theorem tq {t:TypeId} {off:Nat} {g:Option Nat} {a a':List Value} {v:Value} (hg:oO P t=some g) (hr:cU ρ a a') (h:partOf a off g=some v) :
  ∃u,(part t ⟨a'⟩ off).run P w=.ok u w∧VR ρ v u:=by
 cases g with
 | none=>
  obtain ⟨u,hu,hv⟩:=hr.get (ra h)
  refine ⟨u,?_,hv⟩
  simp [part,wi hg,hu,Sem.run_pure]
 | some n=>
  obtain ⟨l,rfl,hl,hi⟩:=re h
  obtain ⟨h1,h2⟩:=wh (w:=w) hg
  refine ⟨.agg (Array.extract ⟨a'⟩ off (off + n)),by simp [part,h1,h2,Sem.run_pure],?_⟩
  have pY:=hr.length
  have hlen:n=0∨off + n≤a.length:=by
   by_cases hn:n=0
   ·exact .inl hn
   ·right
    have h0:=hi (n - 1) (by omega)
    rw [List.getElem?_eq_getElem (by omega)] at h0
    have:=(List.getElem?_eq_some_iff.1 h0.symm).1
    omega
  have hx:(Array.extract ⟨a'⟩ off (off + n))=⟨(a'.drop off).take n⟩:=by
   apply Array.ext'
   simp [Array.toList_extract,List.extract_eq_take_drop]
  rw [hx]
  refine .agg (.tn ?_ fun i u hu=>?_)
  ·simp;omega
  ·have dW:i < n:=by rw [← hl];exact (List.getElem?_eq_some_iff.1 hu).1
   rw [hi i dW] at hu
   obtain ⟨u',Xc,hv⟩:=hr.get hu
   exact ⟨u',by rw [List.getElem?_take];simp [dW,Xc],hv⟩
theorem tr {t:TypeId} {o:Nat} {g:Option Nat} {cs:List Value} {s:Ref} {v:Value} (hg:oO P t=some g) (hb:Kv ρ w.heap s cs) (h:partOf cs o g=some v) :
  ∃u,(loadVar t ⟨s.blk,s.sh + o,none⟩).run P w=.ok u w∧VR ρ v u:=by
 obtain ⟨a,e,f,h1,h2,h3⟩:=hb
 cases g with
 | none=>
  obtain ⟨u,hu,hv⟩:=h3 _ _ (ra h)
  refine ⟨u,?_,hv⟩
  simp [loadVar,wi hg,cell_of w rfl h1 hu]
 | some n=>
  obtain ⟨l,rfl,hl,hi⟩:=re h
  obtain ⟨g1,g2⟩:=wh (w:=w) hg
  have key:∀m,m≤n→∃l':List Value,l'.length=m∧∀i,i < m→∃x y,l[i]?=some x∧l'[i]?=some y∧a[s.sh + (o + i)]?=some y∧VR ρ x y:=by
   intro m
   induction m with
   | zero=>intro _;exact ⟨[],rfl,fun i hi=>by omega⟩
   | succ m ih=>
    intro hm
    obtain ⟨l',pZ,hq⟩:=ih (by omega)
    have hx:l[m]?=some l[m]:=List.getElem?_eq_getElem (by omega)
    obtain ⟨y,hy,hv⟩:=h3 (o + m) l[m] (by rw [← hi m (by omega)];exact hx)
    refine ⟨l'++[y],by simp [pZ],fun i dW=>?_⟩
    by_cases e:i=m
    ·subst e
     exact ⟨_,y,hx,by simp [pZ],hy,hv⟩
    ·obtain ⟨x,z,q1,q2,q3,q4⟩:=hq i (by omega)
     exact ⟨x,z,q1,by rw [List.getElem?_append_left (by omega)];exact q2,q3,q4⟩
  obtain ⟨l',pZ,hq⟩:=key n (Nat.le_refl _)
  have fw:(loadCells ⟨s.blk,s.sh + o,none⟩ n).run P w=.ok ⟨l'⟩ w:=run_loadCells pZ fun i v hv=>by
   have dW:i < n:=by rw [← pZ];exact (List.getElem?_eq_some_iff.1 hv).1
   obtain ⟨x,y,q1,q2,q3,q4⟩:=hq i dW
   rw [hv] at q2;cases q2
   exact cell_of w rfl h1 (by rw [Nat.add_assoc];exact q3)
  refine ⟨.agg ⟨l'⟩,by simp [loadVar,g1,g2,fw,Sem.run_pure],.agg (.tn (by omega) fun i x hx=>?_)⟩
  have dW:i < n:=by rw [← hl];exact (List.getElem?_eq_some_iff.1 hx).1
  obtain ⟨x',y,q1,q2,q3,q4⟩:=hq i dW
  rw [hx] at q1;cases q1
  exact ⟨y,q2,q4⟩
theorem qg {t:TypeId} {g:Option Nat} {v u:Value} {k:KV} (hg:oO P t=some g) (hH:HR ρ H nx w.heap) (hv:VR ρ v u)
  (h:(dm v fun b o=>cA H b fun cs=>bd (partOf cs o g) k)=some r):∃x y,k x=some r∧(Instr.loadAt t u).run P w=.ok y w∧VR ρ x y:=by
 obtain ⟨b,o,rfl,h⟩:=jm h
 obtain ⟨cs,xb,hb,MT,h⟩:=mh h
 obtain ⟨x,hx,h⟩:=aO h
 obtain ⟨s,hs,rfl⟩:=hv.oS
 obtain ⟨s',eM,xm⟩:=hH.blk b _ hb
 have xm:=MT _ _ _ xm
 rw [hs] at eM;cases eM
 obtain ⟨y,hy,tu⟩:=tr (w:=w) hg xm hx
 exact ⟨x,y,h,by simpa [Instr.loadAt,Instr.sureAddr,Sem.run_pure] using hy,tu⟩
theorem Ez {t:TypeId} {f:Nat} {fs:Array Field} {fd:Field} {g:Option Nat} {v u:Value} {k:KV} (hu:P.underlying t=some (.struct fs)) (hf:fs.toList[f]?=some fd) (hg:oO P fd.type=some g)
  (hv:VR ρ v u) (h:(nK v fun cs=>bd (partOf cs fd.offset g) k)=some r):∃x y,k x=some r∧(Instr.field t u f).run P w=.ok y w∧VR ρ x y:=by
 obtain ⟨cs,rfl,h⟩:=tp h
 obtain ⟨x,hx,h⟩:=aO h
 obtain ⟨cs',rfl,hr⟩:=hv.Dp
 obtain ⟨y,hy,tu⟩:=tq (w:=w) hg hr hx
 refine ⟨x,y,h,?_,tu⟩
 have SI:fs[f]?=some fd:=by rw [← Array.getElem?_toList];exact hf
 simpa [Instr.field,run_underlying hu,SI,asAgg,Sem.run_pure] using hy
theorem EA {t:TypeId} {f:Nat} {fs:Array Field} {fd:Field} {n:Nat} {v u:Value} {k:KV} (hu:P.underlying t=some (.struct fs)) (hf:fs.toList[f]?=some fd) (hn:b8 P fd.type=some (n + 1))
  (hv:VR ρ v u) (h:(dm v fun b o=>Dg b (Nat.add o fd.offset) k)=some r):∃x y,k x=some r∧(Instr.fieldAt t u f).run P w=.ok y w∧VR ρ x y:=by
 obtain ⟨b,o,rfl,h⟩:=jm h
 obtain ⟨s,hs,rfl⟩:=hv.oS
 have SI:fs[f]?=some fd:=by rw [← Array.getElem?_toList];exact hf
 refine ⟨_,.pointer (some ⟨s.blk,s.sh + (o + fd.offset),none⟩),h,?_,.ptr hs⟩
 simp [Instr.fieldAt,run_underlying hu,SI,Instr.sureAddr,fieldPlace,dS hn,Sem.run_pure,Addr.add_lit,Nat.add_assoc]
theorem EB {t e:TypeId} {z:Nat} {v u i j:Value} {k:KV} (hu:P.underlying t=some (.slice e)) (hz:b8 P e=some z) (hv:VR ρ v u) (hi:VR ρ i j)
  (h:(cF i fun n=>lZ v (NZ z n k))=some r):∃x y,k x=some r∧(Instr.indexAt t u j).run P w=.ok y w∧VR ρ x y:=by
 obtain ⟨ki,n,rfl,h1⟩:=eH h
 obtain ⟨b,o,z',len,c,rfl,h2⟩:=mZ h1
 obtain ⟨hc,h3⟩:=bO h2
 have hj:=hi.ie;subst hj
 simp only [Bool.and_eq_true] at hc
 have hn:n < len:=by simpa [Nat.blt_eq] using hc.1
 have EC:z=z':=Nat.eq_of_beq_eq_true hc.2
 subst EC
 clear h h1 h2
 cases hv with
 | sc h=>simp [scalar] at h
 | @sl _ _ _ _ _ p c' s hs hl lO he hp=>
  have jG:p=s.sh + o:=by rcases hp with h0|h0<;>omega
  refine ⟨_,.pointer (some ⟨s.blk,s.sh + (o + n * z),none⟩),h3,?_,.ptr hs⟩
  subst jG
  simp [Instr.indexAt,asIntOf,run_underlying hu,dS hz,hn,Addr.add_lit,Nat.add_assoc]
theorem ED {t e:TypeId} {z len:Nat} {v u i j:Value} {k:KV} (hu:P.underlying t=some (.array len e)) (hz:b8 P e=some z) (hv:VR ρ v u) (hi:VR ρ i j)
  (h:(cF i fun n=>dm v (N0 n len z k))=some r):∃x y,k x=some r∧(Instr.indexAt t u j).run P w=.ok y w∧VR ρ x y:=by
 obtain ⟨ki,n,rfl,h1⟩:=eH h
 obtain ⟨b,o,rfl,h2⟩:=jm h1
 obtain ⟨hc,h3⟩:=bO h2
 have hj:=hi.ie;subst hj
 have hn:n < len:=by simpa [Nat.blt_eq] using hc
 obtain ⟨s,hs,rfl⟩:=hv.oS
 refine ⟨_,.pointer (some ⟨s.blk,s.sh + (o + n * z),none⟩),h3,?_,.ptr hs⟩
 simp [Instr.indexAt,asIntOf,Instr.sureAddr,run_underlying hu,dS hz,hn,Addr.add_lit,Nat.add_assoc]
theorem Hw {t e:TypeId} {z len:Nat} {g:Option Nat} {v u i j:Value} {k:KV} (hu:P.underlying t=some (.array len e)) (hg:oO P e=some g) (hz:b8 P e=some z) (hv:VR ρ v u) (hi:VR ρ i j)
  (h:(cF i fun n=>nK v fun cs=>cond (Nat.blt n len) (bd (partOf cs (Nat.mul n z) g) k) none)=some r):∃x y,k x=some r∧(Instr.index t u j).run P w=.ok y w∧VR ρ x y:=by
 obtain ⟨ki,n,rfl,h1⟩:=eH h
 obtain ⟨cs,rfl,h2⟩:=tp h1
 obtain ⟨hc,h3⟩:=bO h2
 obtain ⟨x,hx,h4⟩:=aO h3
 have hj:=hi.ie;subst hj
 have hn:n < len:=by simpa [Nat.blt_eq] using hc
 obtain ⟨cs',rfl,hr⟩:=hv.Dp
 obtain ⟨y,hy,tu⟩:=tq (w:=w) hg hr hx
 refine ⟨x,y,h4,?_,tu⟩
 simpa [Instr.index,asIntOf,run_underlying hu,dS hz,hn] using hy
theorem EE {i:Nat} {v u:Value} {k:KV} (hv:VR ρ v u) (h:He v i k=some r):∃x y,k x=some r∧(Instr.extract u i).run P w=.ok y w∧VR ρ x y:=by
 unfold He at h
 split at h
 ·rw [jR] at h
  obtain ⟨x,hx,h1⟩:=aO h
  obtain ⟨MS,rfl,hr⟩:=hv.Ey
  obtain ⟨y,hy,tu⟩:=hr.get hx
  refine ⟨x,y,h1,?_,tu⟩
  have GH:MS[i]?=some y:=by rw [← Array.getElem?_toList];exact hy
  simp [Instr.extract,GH,Sem.run_pure]
 ·cases h
theorem y6 {v u:Value} {k:KV} (hv:VR ρ v u) (h:s8 v k=some r):∃x y,k x=some r∧
  (match u with
   | .pointer none | .nilIface | .nilFunc=>runtimePanic .nilDeref
   | .func (.method name) first captured=>
    match (first[0]? : Option Value) with
    | some .nilIface=>runtimePanic .nilDeref
    | some (.iface t w)=>do
     if (← nilAhead ((← program).types.size + Made.depth) t w name) != some false then
      unsupported (.noEntry "op/nilCheck.the method's receiver behind this interface value is a nil pointer, or cannot be seen to be none, and the arguments act or may panic (ledger 612)")
     pure (.value (.func (.method name) first captured))
    | _=>pure (.value (.func (.method name) first captured))
   | x=>pure (.value x):Sem Next).run P w=.ok (.value y) w∧VR ρ x y:=by
 unfold s8 at h
 split at h
 ·cases hv with
  | sc h=>simp [scalar] at h
  | @ptr b o s hs=>exact ⟨_,_,h,rfl,.ptr hs⟩
 ·cases hv with
  | sc h=>simp [scalar] at h
  | func h1 h2=>exact ⟨_,_,h,rfl,.func h1 h2⟩
 ·cases h
theorem cU.gI {a a':List Value} (h:cU ρ a a') (hs:a.all flat=true):a'=a:=by
 induction a generalizing a' with
 | nil=>cases h;rfl
 | cons v a ih=>
  cases h with
  | cons h hr=>
   simp only [List.all_cons,Bool.and_eq_true] at hs
   rw [h.gI hs.1,ih hr hs.2]
theorem y7 {vs:List Value} {s:Sem Value} {x:Value} (h:gE P vs s=some x):vs.all flat=true∧quiet P s=some x∧flat x=true:=by
 unfold gE at h
 cases hf:vs.all flat with
 | false=>rw [hf] at h;cases h
 | true=>
  rw [hf] at h
  cases hq:quiet P s with
  | none=>rw [hq] at h;cases h
  | some v=>
   rw [hq] at h
   cases hv:flat v with
   | false=>simp [hv] at h
   | true=>
    simp [hv] at h
    subst h
    exact ⟨rfl,rfl,hv⟩
theorem gK {vs us:List Value} {s:Sem Value} {k:KV} (lh:cU ρ vs us) (h:bd (gE P vs s) k=some r):us=vs∧∃x,k x=some r∧s.run P w=.ok x w∧VR ρ x x:=by
 obtain ⟨x,hx,h1⟩:=aO h
 obtain ⟨hf,hq,hv⟩:=y7 hx
 exact ⟨lh.gI hf,x,h1,iT hq,.of_flat hv⟩
theorem Hy {op:UnOp} {v u:Value} {k:KV} (hv:VR ρ v u) (h:bd (gE P [v] (Op.unary op v)) k=some r):∃x y,k x=some r∧(Op.unary op u).run P w=.ok y w∧VR ρ x y:=by
 obtain ⟨e,x,h1,h2,h3⟩:=gK (w:=w) (.cons hv .nil) h
 cases e
 exact ⟨x,x,h1,h2,h3⟩
theorem EF {s d:TypeId} {v u:Value} {k:KV} (hv:VR ρ v u) (h:bd (gE P [v] (convert s d v)) k=some r):∃x y,k x=some r∧(convert s d u).run P w=.ok y w∧VR ρ x y:=by
 obtain ⟨e,x,h1,h2,h3⟩:=gK (w:=w) (.cons hv .nil) h
 cases e
 exact ⟨x,x,h1,h2,h3⟩
theorem EG {t:TypeId} {v u i j:Value} {k:KV} (hv:VR ρ v u) (hi:VR ρ i j) (h:bd (gE P [v,i] (Instr.index t v i)) k=some r):∃x y,k x=some r∧(Instr.index t u j).run P w=.ok y w∧VR ρ x y:=by
 obtain ⟨e,x,h1,h2,h3⟩:=gK (w:=w) (.cons hv (.cons hi .nil)) h
 cases e
 exact ⟨x,x,h1,h2,h3⟩
theorem EH {t:TypeId} {d:TypeDesc} {v u:Value} {k:KV} (hd:P.underlying t=some d) (hn:∀ms,d≠.interface ms) (hv:VR ρ v u) (h:k (.iface t v)=some r) :
  ∃x y,k x=some r∧(Instr.makeInterface t u).run P w=.ok y w∧VR ρ x y:=by
 refine ⟨_,_,h,?_,.iface hv⟩
 simp only [Instr.makeInterface,Sem.run_bind,run_underlying hd,Result.andThen_ok]
 cases d with
 | interface ms=>exact absurd rfl (hn ms)
 | _=>rfl
theorem EI {t e ty:TypeId} {v u:Value} {k:KV} (hu:P.underlying t=some (.slice e)) (hv:VR ρ v u) (h:yY v k=some r):∃x y,k x=some r∧(Builtin.cap_ #[t] ty #[u]).run P w=.ok y w∧VR ρ x y:=by
 unfold yY at h
 split at h
 ·cases hv with
  | sc h=>simp [scalar] at h
  | j5=>exact ⟨_,_,h,by simp [Builtin.cap_,run_underlying hu,goInt,Sem.run_pure],.sc rfl⟩
 ·rename_i c
  cases hv with
  | sc h=>simp [scalar] at h
  | Dn=>
   have h':k (.int .i64 (.ofNat 0))=some r:=h
   exact ⟨_,_,h',by simp [Builtin.cap_,run_underlying hu,goInt,Sem.run_pure],.sc rfl⟩
  | @sl _ _ _ _ _ _ c' _ hs hl lO hx hp=>
   cases he:exact c with
   | true=>
    rw [he] at h
    refine ⟨_,_,h,?_,.sc rfl⟩
    rw [← hx he]
    simp [Builtin.cap_,run_underlying hu,goInt,Sem.run_pure]
   | false=>
    rw [he] at h
    refine ⟨_,.int .i64 (c':Int),h,by simp [Builtin.cap_,run_underlying hu,goInt,Sem.run_pure],.vV ?_⟩
    have hm:=hl.2
    unfold ei at hm
    have h1:yX (Nat.add (Nat.mul (aE c) 18446744073709551616) 9223372036854775807)=aE c:=by
     show (aE c * 18446744073709551616 + 9223372036854775807) / 18446744073709551616=_
     omega
    have h2:vX (Nat.add (Nat.mul (aE c) 18446744073709551616) 9223372036854775807)=9223372036854775807:=by
     show (aE c * 18446744073709551616 + 9223372036854775807) % 18446744073709551616=_
     omega
    rw [h1,h2]
    omega
 ·cases h
theorem EJ {t e ty:TypeId} {v u:Value} {k:KV} (hd:P.underlying t=some (.slice e)) (hv:VR ρ v u) (h:Hg v k=some r) :
  ∃x y,k x=some r∧(Builtin.len_ #[t] ty #[u]).run P w=.ok y w∧VR ρ x y:=by
 unfold Hg at h
 split at h
 ·cases hv with
  | sc h=>simp [scalar] at h
  | j5=>exact ⟨_,_,h,by simp [Builtin.len_,run_underlying hd,goInt,Sem.run_pure],.sc rfl⟩
  | sl hs hl lO hx hp=>exact ⟨_,_,h,by simp [Builtin.len_,run_underlying hd,goInt,Sem.run_pure],.sc rfl⟩
  | Dn=>exact ⟨_,_,h,by simp [Builtin.len_,run_underlying hd,goInt,Sem.run_pure],.sc rfl⟩
 ·cases h
theorem EK {t ty:TypeId} {v u:Value} {k:KV} (hd:P.underlying t=some .string) (hv:VR ρ v u) (h:Hh v k=some r) :
  ∃x y,k x=some r∧(Builtin.len_ #[t] ty #[u]).run P w=.ok y w∧VR ρ x y:=by
 unfold Hh at h
 split at h
 ·have hu:=hv.dM rfl
  subst hu
  exact ⟨_,_,h,by simp [Builtin.len_,run_underlying hd,goInt,Sem.run_pure],.sc rfl⟩
 ·cases h
end Go.Eng

namespace Go.Eng
variable {P:Program} {w:World} {ρ:bA} {H:Heap} {nx:Nat} {r:Ex×St}
theorem VR.cJ {v u:Value} {kd:Nat} {b:Bool} (h:VR ρ v u) (hn:cJ kd v=some b):Go.Eng.cJ kd u=some b:=by
 cases h with
 | sc h=>exact hn
 | rT=>exact hn
 | y5=>exact hn
 | j5=>exact hn
 | rU=>exact hn
 | Dn=>unfold Go.Eng.cJ at hn ⊢;split at hn<;>simp_all
 | any h=>
  unfold Go.Eng.cJ at hn
  split at hn<;>simp_all
 | ptr h=>
  unfold Go.Eng.cJ at hn ⊢
  split at hn<;>simp_all
 | sl h hl hs he hp=>
  unfold Go.Eng.cJ at hn ⊢
  split at hn<;>simp_all
 | map h=>
  unfold Go.Eng.cJ at hn ⊢
  split at hn<;>simp_all
 | func h h'=>
  unfold Go.Eng.cJ at hn ⊢
  split at hn<;>simp_all
 | iface h=>
  unfold Go.Eng.cJ at hn ⊢
  split at hn<;>simp_all
 | agg h=>
  unfold Go.Eng.cJ at hn ⊢
  split at hn<;>simp_all
 | tuple h=>
  unfold Go.Eng.cJ at hn ⊢
  split at hn<;>simp_all
 | vV h=>
  unfold Go.Eng.cJ at hn
  split at hn<;>simp_all
def tw:Nat→TypeDesc→Bool
 | 0,.pointer _|1,.slice _|2,.map _ _|3,.func _ _ _|4,.interface _=>true
 | _,_=>false
theorem y8 (n:Nat) {t:TypeId} {d:TypeDesc} {kd:Nat} {u v:Value} {a b:Bool} (hd:P.underlying t=some d) (hk:tw kd d=true) (ha:cJ kd u=some a) (hb:cJ kd v=some b) (xn:(a||b)=true) :
  (Op.equalIn (n + 1) t u v).run P w=.ok (a&&b) w:=by
 simp only [Op.equalIn,Sem.run_bind,run_underlying hd,Result.andThen_ok]
 unfold tw at hk
 split at hk
 all_goals first
  | cases hk;done
  | (
    unfold cJ at ha hb
    split at ha<;>(try contradiction)<;>(try omega)<;>split at hb<;>(try contradiction)<;>(try omega)<;>simp at ha hb<;>subst ha<;>subst hb<;>first|(simp at xn;done)|rfl)
theorem EL {t:TypeId} {d:TypeDesc} {kd:Nat} {u v:Value} {a b:Bool} (hd:P.underlying t=some d) (hk:tw kd d=true) (ha:cJ kd u=some a) (hb:cJ kd v=some b) (xn:(a||b)=true) :
  (Op.equal t u v).run P w=.ok (a&&b) w:=y8 9999 hd hk ha hb xn
theorem y9 {op:BinOp} {t:TypeId} {d:TypeDesc} {kd:Nat} {x y:Operand} {v u v' u':Value} {k:KV} (ho:op=.eql∨op=.neq) (hd:P.underlying t=some d) (hk:tw kd d=true)
  (hc:kd=4→(dy x||dy y)=true)
  (hv:VR ρ v u) (jS:VR ρ v' u') (h:xh (ji op) kd v v' k=some r) :
  ∃z q,k z=some r∧(do eqGuard op t x y u u';binOp op t u u':Sem Value).run P w=.ok q w∧VR ρ z q:=by
 unfold xh at h
 obtain ⟨a,ha,h1⟩:=aO h
 obtain ⟨b,hb,h2⟩:=aO h1
 obtain ⟨xn,h3⟩:=bO h2
 have yJ:=hv.cJ ha
 have eQ:=jS.cJ hb
 have he:=EL (w:=w) hd hk yJ eQ xn
 refine ⟨_,_,h3,?_,.sc rfl⟩
 have hg:(eqGuard op t x y u u').run P w=.ok () w:=by
  unfold cJ at yJ eQ
  split at yJ<;>split at eQ<;>(try contradiction)<;>rcases ho with rfl|rfl<;>simp [eqGuard,Sem.run_pure]<;>
   (intro hx hy;have:=hc rfl;cases x<;>cases y<;>simp_all [dy])
 have j8:(binOp op t u u').run P w=.ok (.bool (xor (ji op) (a&&b))) w:=by
  rcases ho with rfl|rfl
  ·have:binOp .eql t u u'=(do pure (.bool (← Op.equal t u u'))):=by
    unfold cJ at yJ eQ
    split at yJ<;>split at eQ<;>(try contradiction)<;>rfl
   rw [this]
   simp [he,Sem.run_pure,ji]
  ·have:binOp .neq t u u'=(do pure (.bool (!(← Op.equal t u u')))):=by
    unfold cJ at yJ eQ
    split at yJ<;>split at eQ<;>(try contradiction)<;>rfl
   rw [this]
   simp only [Sem.run_bind,he,Result.andThen_ok,ji]
   cases a<;>cases b<;>rfl
 simp only [Sem.run_bind,hg,Result.andThen_ok,j8]
theorem xo (op:BinOp) (t:TypeId) (x y x' y':Operand) {u v:Value} (hu:flat u=true):eqGuard op t x y u v=eqGuard op t x' y' u v:=by
 unfold eqGuard
 cases u<;>cases v<;>first|rfl|(simp [flat,scalar] at hu)
theorem Hz {a b:Nat} (hb:b < 18446744073709551616):yX (Nat.add (Nat.mul a 18446744073709551616) b)=a:=by
 show (a * 18446744073709551616 + b) / 18446744073709551616=_
 omega
theorem HA {a b:Nat} (hb:b < 18446744073709551616):vX (Nat.add (Nat.mul a 18446744073709551616) b)=b:=by
 show (a * 18446744073709551616 + b) % 18446744073709551616=_
 omega
theorem VR.yI {a b:Nat} {x:Int} (h:(a:Int)≤x) (h':x≤(b:Int)) (hb:b < 18446744073709551616):VR ρ (Go.Eng.yI a b) (.int .i64 x):=by
 refine .vV ?_
 rw [Hz hb,HA hb]
 exact ⟨h,h'⟩
theorem HB (k:Nat):vX k < 18446744073709551616:=Nat.mod_lt _ (by decide)
theorem jT {v u:Value} {a b:Nat} (hv:VR ρ v u) (h:cr v=some (a,b)):∃x:Int,u=.int .i64 x∧(a:Int)≤x∧x≤(b:Int)∧(ey v=true→b < 18446744073709551616):=by
 unfold cr at h
 split at h
 ·have:=hv.dM rfl
  subst this
  cases h
  exact ⟨_,rfl,Int.le_refl _,Int.le_refl _,fun h=>by cases h⟩
 ·cases h
  cases hv with
  | sc h=>simp [scalar] at h
  | vV h=>exact ⟨_,rfl,h.1,h.2,fun _=>HB _⟩
 ·cases h
theorem K3 {n:Int} (h0:0≤n) (h1:n < 9223372036854775808):IntKind.i64.wrap n=n:=by
 unfold IntKind.wrap IntKind.signed IntKind.bits
 simp only [Bool.true_and,ge_iff_le,decide_eq_true_eq]
 split<;>omega
theorem iN {b:Bool} {v q:Value} {z:Option Value} (h:(bif b then some v else z)=some q):(b=true∧q=v)∨(b=false∧z=some q):=by
 cases b
 ·exact .inr ⟨rfl,h⟩
 ·cases h;exact .inl ⟨rfl,rfl⟩
theorem xp {op:BinOp} {t:TypeId} {x y:Operand} {v u v' u' q:Value} (hv:VR ρ v u) (jS:VR ρ v' u') (h:s6 op v v'=some q) :
  ∃q',(do eqGuard op t x y u u';binOp op t u u':Sem Value).run P w=.ok q' w∧VR ρ q q':=by
 unfold s6 at h
 cases hi:ey v||ey v' with
 | false=>rw [hi] at h;cases h
 | true=>
  rw [hi] at h
  cases ha:cr v with
  | none=>simp [ha] at h
  | some p=>
   cases hb:cr v' with
   | none=>simp [ha,hb] at h
   | some p'=>
    obtain ⟨a,b⟩:=p
    obtain ⟨c,d⟩:=p'
    simp only [ha,hb,cond_true] at h
    obtain ⟨m,rfl,h1,h2,_⟩:=jT hv ha
    obtain ⟨n,rfl,h3,h4,_⟩:=jT jS hb
    have hg:eqGuard op t x y (.int .i64 m) (.int .i64 n)=Sem.pure ():=by cases op<;>rfl
    have fin:∀q',binOp op t (.int .i64 m) (.int .i64 n)=Sem.pure q'→(do eqGuard op t x y (.int .i64 m) (.int .i64 n);binOp op t (.int .i64 m) (.int .i64 n):Sem Value).run P w=.ok q' w:=by
     intro q' hq
     rw [hg,hq]
     rfl
    have MU:∀p:Bool,(q=.bool p)→binOp op t (.int .i64 m) (.int .i64 n)=Sem.pure (.bool p)→∃q',(do eqGuard op t x y (.int .i64 m) (.int .i64 n);binOp op t (.int .i64 m) (.int .i64 n):Sem Value).run P w=.ok q' w∧VR ρ q q':=fun p hp h=>⟨_,fin _ h,by rw [hp];exact .sc rfl⟩
    unfold lY at h
    split at h
    ·rcases iN h with ⟨hc,rfl⟩|⟨_,h⟩
     ·have hc:b + d < 9223372036854775808:=by simpa [Nat.blt_eq] using hc
      refine ⟨.int .i64 (m + n),fin _ ?_,?_⟩
      ·have:binOp .add t (.int .i64 m) (.int .i64 n)=Sem.pure (.int .i64 (IntKind.i64.wrap (m + n))):=by simp [binOp,Op.intArith];rfl
       rw [this,K3 (by omega) (by omega)]
      ·refine VR.yI (a:=a + c) (b:=b + d) ?_ ?_ (by omega)<;>push_cast<;>omega
     ·cases h
    ·have e:binOp .leq t (.int .i64 m) (.int .i64 n)=Sem.pure (.bool (decide (m≤n))):=by simp [binOp,Op.intCmp];rfl
     rcases iN h with ⟨hc,hq⟩|⟨_,h⟩
     ·have hc:b≤c:=Nat.le_of_ble_eq_true hc
      exact MU _ hq (by rw [e,decide_eq_true (by omega)])
     ·rcases iN h with ⟨hc,hq⟩|⟨_,h⟩
      ·have hc:d < a:=by simpa [Nat.blt_eq] using hc
       exact MU _ hq (by rw [e,decide_eq_false (by omega)])
      ·cases h
    ·have e:binOp .gtr t (.int .i64 m) (.int .i64 n)=Sem.pure (.bool (decide (n < m))):=by simp [binOp,Op.intCmp];rfl
     rcases iN h with ⟨hc,hq⟩|⟨_,h⟩
     ·have hc:b≤c:=Nat.le_of_ble_eq_true hc
      exact MU _ hq (by rw [e,decide_eq_false (by omega)])
     ·rcases iN h with ⟨hc,hq⟩|⟨_,h⟩
      ·have hc:d < a:=by simpa [Nat.blt_eq] using hc
       exact MU _ hq (by rw [e,decide_eq_true (by omega)])
      ·cases h
    ·have e:binOp .lss t (.int .i64 m) (.int .i64 n)=Sem.pure (.bool (decide (m < n))):=by simp [binOp,Op.intCmp];rfl
     rcases iN h with ⟨hc,hq⟩|⟨_,h⟩
     ·have hc:b < c:=by simpa [Nat.blt_eq] using hc
      exact MU _ hq (by rw [e,decide_eq_true (by omega)])
     ·rcases iN h with ⟨hc,hq⟩|⟨_,h⟩
      ·have hc:d≤a:=Nat.le_of_ble_eq_true hc
       exact MU _ hq (by rw [e,decide_eq_false (by omega)])
      ·cases h
    ·have e:binOp .geq t (.int .i64 m) (.int .i64 n)=Sem.pure (.bool (decide (n≤m))):=by simp [binOp,Op.intCmp];rfl
     rcases iN h with ⟨hc,hq⟩|⟨_,h⟩
     ·have hc:b < c:=by simpa [Nat.blt_eq] using hc
      exact MU _ hq (by rw [e,decide_eq_false (by omega)])
     ·rcases iN h with ⟨hc,hq⟩|⟨_,h⟩
      ·have hc:d≤a:=Nat.le_of_ble_eq_true hc
       exact MU _ hq (by rw [e,decide_eq_true (by omega)])
      ·cases h
    ·cases h
theorem K4 {mn:Bool} {vs us:List Value} {q:Value} (hv:cU ρ vs us) (h:p7 mn vs=some q):mn=true∧∃q',(Builtin.min_ #[] 0 us.toArray).run P w=.ok q' w∧VR ρ q q':=by
 unfold p7 at h
 split at h
 ·rename_i x y
  refine ⟨rfl,?_⟩
  cases hv with
  | cons hx hr=>
   cases hr with
   | cons hy hr=>
    cases hr with
    | nil=>
     cases hi:ey x||ey y with
     | false=>rw [hi] at h;cases h
     | true=>
      rw [hi] at h
      cases ha:cr x with
      | none=>simp [ha] at h
      | some p=>
       cases hb:cr y with
       | none=>simp [ha,hb] at h
       | some p'=>
        obtain ⟨a,b⟩:=p
        obtain ⟨c,d⟩:=p'
        simp only [ha,hb,cond_true,Option.some.injEq] at h
        subst h
        obtain ⟨m,rfl,h1,h2,h5⟩:=jT hx ha
        obtain ⟨n,rfl,h3,h4,h6⟩:=jT hy hb
        refine ⟨.int .i64 (if n < m then n else m),rfl,VR.yI (a:=Nat.min a c) (b:=Nat.min b d) ?_ ?_ ?_⟩
        ·have:=Nat.min_le_left a c
         have:=Nat.min_le_right a c
         show ((min a c:Nat):Int)≤_
         split<;>omega
        ·show _≤((min b d:Nat):Int)
         split<;>omega
        ·have:=Nat.min_le_left b d
         have:=Nat.min_le_right b d
         show min b d < _
         rcases Bool.or_eq_true _ _ ▸ hi with h7|h7
         ·have:=h5 h7;omega
         ·have:=h6 h7;omega
 ·cases h
theorem BJ {op:BinOp} {t:TypeId} {x y:Operand} {v u v' u' q:Value} (hv:VR ρ v u) (jS:VR ρ v' u') (h:kr P op t v v'=some q) :
  ∃q',(do eqGuard op t x y u u';binOp op t u u':Sem Value).run P w=.ok q' w∧VR ρ q q':=by
 unfold kr at h
 cases hf:flat v&&flat v' with
 | false=>rw [hf] at h;exact xp hv jS h
 | true=>
  rw [hf] at h
  simp only [Bool.and_eq_true] at hf
  have e:=hv.gI hf.1
  have e':=jS.gI hf.2
  subst e;subst e'
  cases hq:quiet P (do eqGuard op t (.const u) (.const u') u u';binOp op t u u') with
  | none=>rw [hq] at h;cases h
  | some z=>
   rw [hq] at h
   cases hz:flat z with
   | false=>simp [hz] at h
   | true=>
    simp [hz] at h
    subst h
    rw [xo op t x y (.const u) (.const u') hf.1]
    exact ⟨z,iT hq,.of_flat hz⟩
theorem wrap_small {n:Nat} (h:n < 2147483648):IntKind.i64.wrap (Int.ofNat n)=Int.ofNat n:=by
 unfold IntKind.wrap IntKind.bits IntKind.signed
 simp only [Int.ofNat_eq_natCast]
 have h1:(n:Int) % (2 ^ 64:Int)=n:=by omega
 simp only [h1]
 rw [if_neg]
 simp
 omega
theorem Dq (a b:Nat):(Int.ofNat a == Int.ofNat b)=Nat.beq a b:=by
 rw [Bool.eq_iff_iff]
 simp [Nat.beq_eq]
 omega
theorem K5 (a b:Nat):(Int.ofNat a != Int.ofNat b)=!Nat.beq a b:=by rw [bne,Dq]
theorem Dr (a b:Nat):decide (Int.ofNat a < Int.ofNat b)=Nat.blt a b:=by
 rw [Bool.eq_iff_iff]
 simp [Nat.blt_eq]
theorem Ds (a b:Nat):decide (Int.ofNat a≤Int.ofNat b)=Nat.ble a b:=by
 rw [Bool.eq_iff_iff]
 simp [Nat.ble_eq]
theorem tx {op:BinOp} {t:TypeId} {x y:Operand} {v v' q:Value} (h:vg op v v'=some q) :
  (do eqGuard op t x y v v';binOp op t v v':Sem Value).run P w=.ok q w∧scalar q=true∧scalar v=true∧scalar v'=true:=by
 unfold vg at h
 split at h
 ·rename_i a b
  have hg:eqGuard op t x y (.int .i64 (.ofNat a)) (.int .i64 (.ofNat b))=pure ():=by cases op<;>rfl
  rw [hg]
  unfold Df at h
  split at h
  ·cases hc:Nat.blt (Nat.add a b) 2147483648 with
   | false=>rw [hc] at h;cases h
   | true=>
    rw [hc] at h;simp at h;subst h
    have bR:a + b < 2147483648:=by simpa [Nat.blt_eq] using hc
    have:=wrap_small bR
    refine ⟨?_,rfl,rfl,rfl⟩
    simp [binOp,Op.intArith,Sem.run_pure]
    simpa using this
  ·cases hc:Nat.ble b a with
   | false=>rw [hc] at h;cases h
   | true=>
    rw [hc] at h
    cases hd:Nat.blt a 2147483648 with
    | false=>rw [hd] at h;cases h
    | true=>
     rw [hd] at h;simp at h;subst h
     have hle:b≤a:=by simpa [Nat.ble_eq] using hc
     have bR:a < 2147483648:=by simpa [Nat.blt_eq] using hd
     have:=wrap_small (n:=a - b) (by omega)
     refine ⟨?_,rfl,rfl,rfl⟩
     simp [binOp,Op.intArith,Sem.run_pure]
     rw [← Int.ofNat_sub hle]
     simpa using this
  ·cases hc:Nat.blt (Nat.mul a b) 2147483648 with
   | false=>rw [hc] at h;cases h
   | true=>
    rw [hc] at h;simp at h;subst h
    have bR:a * b < 2147483648:=by simpa [Nat.blt_eq] using hc
    have:=wrap_small bR
    refine ⟨?_,rfl,rfl,rfl⟩
    simp [binOp,Op.intArith,Sem.run_pure]
    simpa using this
  ·cases h;exact ⟨by rw [← Dq];rfl,rfl,rfl,rfl⟩
  ·cases h;exact ⟨by rw [← K5];rfl,rfl,rfl,rfl⟩
  ·cases h;exact ⟨by rw [← Dr];rfl,rfl,rfl,rfl⟩
  ·cases h;exact ⟨by rw [← Ds];rfl,rfl,rfl,rfl⟩
  ·cases h;exact ⟨by rw [← Dr];rfl,rfl,rfl,rfl⟩
  ·cases h;exact ⟨by rw [← Ds];rfl,rfl,rfl,rfl⟩
  ·cases h
 ·rename_i a b
  have hg:eqGuard op t x y (.int .i64 (.ofNat a)) (.int .i64 (.negSucc b))=pure ():=by cases op<;>rfl
  rw [hg]
  unfold so at h
  split at h
  ·cases h;exact ⟨rfl,rfl,rfl,rfl⟩
  ·cases h;exact ⟨rfl,rfl,rfl,rfl⟩
  ·cases h
 ·rename_i a b
  have hg:eqGuard op t x y (.int .i64 (.negSucc a)) (.int .i64 (.ofNat b))=pure ():=by cases op<;>rfl
  rw [hg]
  unfold so at h
  split at h
  ·cases h;exact ⟨rfl,rfl,rfl,rfl⟩
  ·cases h;exact ⟨rfl,rfl,rfl,rfl⟩
  ·cases h
 ·cases h
theorem EM {op:BinOp} {t:TypeId} {x y:Operand} {v u v' u':Value} {k:KV} (hv:VR ρ v u) (jS:VR ρ v' u') (h:eE P op t v v' k=some r) :
  ∃z q,k z=some r∧(do eqGuard op t x y u u';binOp op t u u':Sem Value).run P w=.ok q w∧VR ρ z q:=by
 unfold eE at h
 cases hf:vg op v v' with
 | some q=>
  rw [hf] at h
  obtain ⟨h1,h2,h3,h4⟩:=tx (P:=P) (w:=w) (t:=t) (x:=x) (y:=y) hf
  have e:=hv.dM h3
  have e':=jS.dM h4
  subst e;subst e'
  exact ⟨q,q,h,h1,.sc h2⟩
 | none=>
  rw [hf] at h
  obtain ⟨q,hq,h1⟩:=aO h
  obtain ⟨q',h2,h3⟩:=BJ (w:=w) (x:=x) (y:=y) hv jS hq
  exact ⟨q,q',h1,h2,h3⟩
end Go.Eng

namespace Go.Eng
variable {P:Program} {w:World} {ρ:bA} {H:Heap} {nx:Nat} {r:Ex×St}
theorem VR.lj {v:Value} (h:oM v=true):VR ρ v v:=by
 unfold oM at h
 split at h
 ·exact .sc rfl
 ·exact .sc rfl
 ·exact .sc rfl
 ·exact .sc rfl
 ·exact .sc rfl
 ·exact .sc rfl
 ·exact .rT
 ·exact .y5
 ·exact .j5
 ·exact .rU
 ·cases h
theorem cU.lj {a:List Value} (h:a.all oM=true):cU ρ a a:=by
 induction a with
 | nil=>exact .nil
 | cons v a ih=>
  simp only [List.all_cons,Bool.and_eq_true] at h
  exact .cons (.lj h.1) (ih h.2)
theorem VR.gL {v:Value} (h:iK v=true):VR ρ v v:=by
 unfold iK at h
 split at h
 ·exact .agg (.lj h)
 ·exact .lj h
theorem VR.cells {v u:Value} (h:VR ρ v u):cU ρ (cellsOf v) u.cells.toList:=by
 cases h with
 | agg h=>exact h
 | sc h=>cases v<;>first|exact .cons (.sc h) .nil|(simp [scalar] at h)
 | rT=>exact .cons .rT .nil
 | y5=>exact .cons .y5 .nil
 | ptr h=>exact .cons (.ptr h) .nil
 | j5=>exact .cons .j5 .nil
 | sl h1 h2 h3 h4 h5=>exact .cons (.sl h1 h2 h3 h4 h5) .nil
 | rU=>exact .cons .rU .nil
 | Dn=>exact .cons .Dn .nil
 | map h=>exact .cons (.map h) .nil
 | func h h'=>exact .cons (.func h h') .nil
 | iface h=>exact .cons (.iface h) .nil
 | tuple h=>exact .cons (.tuple h) .nil
 | any h=>cases u<;>first|exact .cons (.any h) .nil|(simp [tl] at h)
 | vV h=>exact .cons (.vV h) .nil
theorem eI {t:TypeId} {z:Value} {l:List Value} (h:zeroCells P t=some l) (hz:fN P t=some z):l=z.cells.toList∧cU ρ l l:=by
 unfold zeroCells at h
 rw [hz] at h
 simp at h
 subst h
 obtain ⟨h1,h2⟩:=gJ (w:=default) hz
 have e:BF z=z.cells.toList:=by cases z<;>rfl
 have e2:BF z=cellsOf z:=by cases z<;>rfl
 refine ⟨e,?_⟩
 have:=(VR.gL (ρ:=ρ) h2).cells
 rw [← e] at this
 rw [← e2] at this
 exact this
theorem cY {t:TypeId} {l:List Value} (h:zeroCells P t=some l):∃z,fN P t=some z∧l=z.cells.toList:=by
 have h0:=h
 unfold zeroCells at h
 cases hz:fN P t with
 | none=>rw [hz] at h;cases h
 | some z=>exact ⟨z,rfl,(eI (ρ:=fun _=>none) h0 hz).1⟩
theorem EN {t xt:TypeId} {d:TypeDesc} {z:Value} {ok:Bool} {v u:Value} {k:KV} (hd:P.underlying t=some d) (hn:∀ms,d≠.interface ms) (hz:fN P t=some z) (hv:VR ρ v u)
  (h:KQ t z ok k v=some r):∃x y,k x=some r∧(Instr.typeAssert u xt t ok).run P w=.ok y w∧VR ρ x y:=by
 obtain ⟨mi,rW⟩:=gJ (w:=w) hz
 have Bq:VR ρ (.tuple #[z,.bool false]) (.tuple #[z,.bool false]):=.tuple (.cons (.gL rW) (.cons (.sc rfl) .nil))
 unfold KQ at h
 split at h
 ·cases ok with
  | false=>cases h
  | true=>
   cases hv with
   | sc h=>simp [scalar] at h
   | rT=>
    refine ⟨_,.tuple #[z,.bool false],h,?_,Bq⟩
    simp only [Instr.typeAssert,Sem.run_bind,run_underlying hd,Result.andThen_ok]
    cases d with
    | interface ms=>exact absurd rfl (hn ms)
    | _=>simp [mi,Sem.run_pure]
 ·rename_i t' v'
  cases hv with
  | sc h=>simp [scalar] at h
  | @iface _ _ u' jS=>
   cases he:Nat.beq t' t with
   | true=>
    rw [he] at h
    have Br:t'=t:=Nat.eq_of_beq_eq_true he
    subst Br
    cases ok with
    | true=>
     refine ⟨_,.tuple #[u',.bool true],h,?_,.tuple (.cons jS (.cons (.sc rfl) .nil))⟩
     simp only [Instr.typeAssert,Sem.run_bind,run_underlying hd,Result.andThen_ok]
     cases d with
     | interface ms=>exact absurd rfl (hn ms)
     | _=>simp [Sem.run_pure]
    | false=>
     refine ⟨_,u',h,?_,jS⟩
     simp only [Instr.typeAssert,Sem.run_bind,run_underlying hd,Result.andThen_ok]
     cases d with
     | interface ms=>exact absurd rfl (hn ms)
     | _=>simp [Sem.run_pure]
   | false=>
    rw [he] at h
    have Br:t'≠t:=Nat.ne_of_beq_eq_false he
    cases ok with
    | false=>cases h
    | true=>
     refine ⟨_,.tuple #[z,.bool false],h,?_,Bq⟩
     simp only [Instr.typeAssert,Sem.run_bind,run_underlying hd,Result.andThen_ok]
     cases d with
     | interface ms=>exact absurd rfl (hn ms)
     | _=>simp [mi,Sem.run_pure,Br]
 ·cases h
theorem za:∀(vs cs r:List Value),eh cs vs=some r→r.length=cs.length∧vs.length≤cs.length∧∀i,r[i]?=if i < vs.length then vs[i]? else cs[i]?:=by
 intro vs
 induction vs with
 | nil=>intro cs r h;cases cs<;>(simp [eh] at h;subst h;simp)
 | cons v vs ih=>
  intro cs r h
  cases cs with
  | nil=>simp [eh] at h
  | cons c cs=>
   unfold eh at h
   cases e:eh cs vs with
   | none=>simp [e] at h
   | some q=>
    simp [e] at h
    subst h
    obtain ⟨h1,h2,h3⟩:=ih cs q e
    refine ⟨by simp [h1],by simp;omega,fun i=>?_⟩
    cases i with
    | zero=>simp
    | succ i=>simp [h3 i]
theorem tz:∀(o:Nat) (cs vs r:List Value),gA cs o vs=some r→r.length=cs.length∧o + vs.length≤cs.length∧∀i,r[i]?=if o≤i∧i < o + vs.length then vs[i - o]? else cs[i]?:=by
 intro o
 induction o with
 | zero=>
  intro cs vs r h
  obtain ⟨h1,h2,h3⟩:=za vs cs r h
  exact ⟨h1,by omega,fun i=>by rw [h3 i];simp⟩
 | succ o ih=>
  intro cs vs r h
  cases cs with
  | nil=>cases h
  | cons c cs=>
   have h':(Option.rec none (fun r=>some (c::r)) (gA cs o vs):Option (List Value))=some r:=h
   cases e:gA cs o vs with
   | none=>rw [e] at h';cases h'
   | some q=>
    rw [e] at h'
    have N6:some (c::q)=some r:=h'
    cases N6
    obtain ⟨h1,h2,h3⟩:=ih cs vs q e
    refine ⟨by simp [h1],by simp;omega,fun i=>?_⟩
    cases i with
    | zero=>simp
    | succ i=>
     simp only [List.getElem?_cons_succ,h3 i]
     have:(o + 1≤i + 1∧i + 1 < o + 1 + vs.length)↔(o≤i∧i < o + vs.length):=by omega
     simp only [this]
     congr 2
     omega
theorem EO (off:Nat):∀(l:List Value) (n:Nat) (a:Array Value),off + n + l.length≤a.size→
  ((l.zipIdx n).foldl (fun cs (x:Value×Nat)=>cs.setIfInBounds (off + x.2) x.1) a).size=a.size∧
  ∀i:Nat,((l.zipIdx n).foldl (fun cs (x:Value×Nat)=>cs.setIfInBounds (off + x.2) x.1) a)[i]?=if off + n≤i∧i < off + n + l.length then l[i - (off + n)]? else a[i]?:=by
 intro l
 induction l with
 | nil=>intro n a _;refine ⟨rfl,fun i=>?_⟩;rw [if_neg (by simp)];rfl
 | cons v l ih=>
  intro n a hl
  simp only [List.zipIdx_cons,List.foldl_cons,List.length_cons] at hl ⊢
  obtain ⟨h1,h2⟩:=ih (n + 1) (a.setIfInBounds (off + n) v) (by simp;omega)
  refine ⟨by rw [h1];simp,fun i=>?_⟩
  rw [h2 i]
  by_cases c1:off + (n + 1)≤i∧i < off + (n + 1) + l.length
  ·rw [if_pos c1,if_pos (by omega)]
   have:i - (off + n)=(i - (off + (n + 1))) + 1:=by omega
   rw [this,List.getElem?_cons_succ]
  ·rw [if_neg c1,Array.getElem?_setIfInBounds]
   by_cases c2:off + n=i
   ·subst c2
    rw [if_pos rfl,if_pos (by omega),if_pos (by omega)]
    simp
   ·rw [if_neg c2,if_neg (by omega)]
theorem nV (place:Nat→Option (Nat×Nat)):∀(ps:List (Nat×Nat×Value)) (qs:List (Nat×Value)) (a r:List Value) (b:Array Value),
  ps.length=qs.length→(∀(i:Nat) (p:Nat×Nat×Value) (q:Nat×Value),ps[i]?=some p→qs[i]?=some q→place q.1=some (p.1,p.2.1)∧VR ρ p.2.2 q.2)→cU ρ a b.toList→eD a ps=some r→
  ∃c,Instr.fill place b qs=some c∧cU ρ r c.toList:=by
 intro ps
 induction ps with
 | nil=>
  intro qs a r b hl _ hr h
  cases qs with
  | nil=>simp [eD] at h;subst h;exact ⟨b,rfl,hr⟩
  | cons=>simp at hl
 | cons p ps ih=>
  intro qs a r b hl hp hr h
  cases qs with
  | nil=>simp at hl
  | cons q qs=>
   obtain ⟨off,size,v⟩:=p
   obtain ⟨i,u⟩:=q
   obtain ⟨h1,h2⟩:=hp 0 _ _ rfl rfl
   simp only at h1 h2
   unfold eD at h
   cases hs:Nat.beq (cellsOf v).length size with
   | false=>rw [hs] at h;cases h
   | true=>
    rw [hs] at h
    have eM:=Nat.eq_of_beq_eq_true hs
    simp only [cond_true] at h
    cases ho:gA a off (cellsOf v) with
    | none=>simp [ho] at h
    | some a1=>
     simp [ho] at h
     obtain ⟨o1,o2,o3⟩:=tz off a (cellsOf v) a1 ho
     have hc:=h2.cells
     have nu:=hc.length
     have pY:=hr.length
     have lk:u.cells.size=size:=by rw [← eM,← nu];simp
     have zb:b.size=a.length:=by simpa using pY
     obtain ⟨f1,f2⟩:=EO off u.cells.toList 0 b (by simp only [Array.length_toList];omega)
     have zc:u.cells.zipIdx.foldl (fun cs (x:Value×Nat)=>cs.setIfInBounds (off + x.2) x.1) b=(u.cells.toList.zipIdx 0).foldl (fun cs (x:Value×Nat)=>cs.setIfInBounds (off + x.2) x.1) b:=by
      rw [← Array.foldl_toList,Array.toList_zipIdx]
     obtain ⟨c,c1,c2⟩:=ih qs a1 r ((u.cells.toList.zipIdx 0).foldl (fun cs (x:Value×Nat)=>cs.setIfInBounds (off + x.2) x.1) b) (by simpa using hl) (fun j x y hx hy=>hp (j + 1) x y (by simpa using hx) (by simpa using hy)) (by
      refine .tn (by simp only [Array.length_toList];omega) fun j x hx=>?_
      rw [o3 j] at hx
      simp only [Array.getElem?_toList]
      rw [f2 j]
      simp only [Nat.add_zero,Array.length_toList] at nu ⊢
      by_cases cc:off≤j∧j < off + (cellsOf v).length
      ·rw [if_pos cc] at hx
       rw [if_pos (by omega)]
       exact hc.get hx
      ·rw [if_neg cc] at hx
       rw [if_neg (by omega)]
       obtain ⟨y,hy,tu⟩:=hr.get hx
       exact ⟨y,by simpa using hy,tu⟩) h
     refine ⟨c,?_,c2⟩
     have Xd:¬(u.cells.size≠size∨off + u.cells.size > b.size):=by omega
     unfold Instr.fill
     simp only [h1]
     rw [if_neg (by simpa using Xd),zc]
     exact c1
theorem qh {t:TypeId} {fs:Array Field} {zero:List Value} {xs:List (Nat×Operand)} {pl:List (Nat×Nat×Operand)} {ps:List (Nat×Nat×Value)} {qs:List (Nat×Value)} {cs:List Value}
  (hu:P.underlying t=some (.struct fs)) (hz:zeroCells P t=some zero) (K6:iL P fs.toList xs=some pl)
  (hl:ps.length=qs.length) (SJ:∀(i:Nat) (p:Nat×Nat×Value) (q:Nat×Value),ps[i]?=some p→qs[i]?=some q→∃f s,fs.toList[q.1]?=some f∧b8 P f.type=some s∧p.1=f.offset∧p.2.1=s∧VR ρ p.2.2 q.2)
  (lk:∀(i:Nat) (f:Field),fs.toList[i]?=some f→∃s,b8 P f.type=some s)
  (h:eD zero ps=some cs):∃y,(Instr.build t qs.toArray).run P w=.ok y w∧VR ρ (.agg cs.toArray) y:=by
 obtain ⟨z,mi,rW⟩:=cY hz
 have Bq:=(eI (ρ:=ρ) hz mi).2
 obtain ⟨BK,_⟩:=gJ (w:=w) mi
 have hpm:∀(l:List Field),(∀(i:Nat) (f:Field),l[i]?=some f→∃s,b8 P f.type=some s)→∃m:List (Nat×Nat),(l.mapM (m:=Sem) fun f=>do pure (f.offset,← sizeOf f.type)).run P w=.ok m w∧m.length=l.length∧
   ∀(i:Nat) (f:Field) (s:Nat),l[i]?=some f→b8 P f.type=some s→m[i]?=some (f.offset,s):=by
  intro l
  induction l with
  | nil=>intro _;exact ⟨[],rfl,rfl,fun i f s hf=>by simp at hf⟩
  | cons f l ih=>
   intro hl
   obtain ⟨s,hs⟩:=hl 0 f rfl
   obtain ⟨m,h1,h2,h3⟩:=ih fun i g hg=>hl (i + 1) g (by simpa using hg)
   refine ⟨(f.offset,s)::m,?_,by simp [h2],fun i g s' hg eM=>?_⟩
   ·rw [List.mapM_cons]
    simp only [Sem.run_bind,dS hs,Result.andThen_ok,Sem.run_pure,h1]
   ·cases i with
    | zero=>simp at hg;subst hg;rw [hs] at eM;cases eM;rfl
    | succ i=>simpa using h3 i g s' (by simpa using hg) eM
 obtain ⟨m,h1,h2,h3⟩:=hpm fs.toList lk
 obtain ⟨c,iU,qi⟩:=nV (ρ:=ρ) (fun i=>(m.toArray)[i]?) ps qs zero cs z.cells hl (fun i p q hp hq=>by
  obtain ⟨f,s,g1,g2,g3,g4,g5⟩:=SJ i p q hp hq
  refine ⟨?_,g5⟩
  rw [g3,g4]
  simpa using h3 _ f s g1 g2) (by rw [← rW];exact Bq) h
 refine ⟨.agg c,?_,.agg qi⟩
 have hm:(fs.mapM (m:=Sem) fun f=>do pure (f.offset,← sizeOf f.type)).run P w=.ok m.toArray w:=by
  rw [Array.mapM_eq_mapM_toList]
  rw [map_eq_pure_bind]
  simp only [Sem.run_bind,h1,Result.andThen_ok,Sem.run_pure]
 simp only [Instr.build,Sem.run_bind,BK,Result.andThen_ok,run_underlying hu,hm,iU]
 rfl
theorem rX {t e:TypeId} {n z:Nat} {zero:List Value} {ps:List (Nat×Nat×Value)} {qs:List (Nat×Value)} {cs:List Value}
  (hu:P.underlying t=some (.array n e)) (hz:zeroCells P t=some zero) (hs:b8 P e=some z)
  (hl:ps.length=qs.length) (SJ:∀(i:Nat) (p:Nat×Nat×Value) (q:Nat×Value),ps[i]?=some p→qs[i]?=some q→p.1=q.1 * z∧p.2.1=z∧VR ρ p.2.2 q.2)
  (h:eD zero ps=some cs):∃y,(Instr.build t qs.toArray).run P w=.ok y w∧VR ρ (.agg cs.toArray) y:=by
 obtain ⟨v,mi,rW⟩:=cY hz
 have Bq:=(eI (ρ:=ρ) hz mi).2
 obtain ⟨BK,_⟩:=gJ (w:=w) mi
 obtain ⟨c,iU,qi⟩:=nV (ρ:=ρ) (fun i=>some (i * z,z)) ps qs zero cs v.cells hl (fun i p q hp hq=>by
  obtain ⟨g1,g2,g3⟩:=SJ i p q hp hq
  exact ⟨by rw [g1,g2],g3⟩) (by rw [← rW];exact Bq) h
 refine ⟨.agg c,?_,.agg qi⟩
 simp only [Instr.build,Sem.run_bind,BK,Result.andThen_ok,run_underlying hu,dS hs,iU]
 rfl
end Go.Eng

namespace Go.Eng
variable {P:Program} {w:World} {ρ:bA} {H:Heap} {nx:Nat} {r:Ex×St}
inductive OR (ρ:bA):Option Value→Option Value→Prop where
 | no:OR ρ none none
 | one {v u:Value} (h:VR ρ v u):OR ρ (some v) (some u)
theorem OR.nat {k:IntKind} {n:Nat} {x:Option Value} (h:OR ρ (some (.int k (.ofNat n))) x):x=some (.int k (.ofNat n)):=by
 cases h with
 | one h=>rw [h.ie]
theorem EP {k:IntKind} {n y:Nat} {c:BoundsCode} (h:n≤y):(Instr.sliceBound (.int k (.ofNat n)) y c).run P w=.ok n w:=by
 have:(n:Int)≤y:=by omega
 simp [Instr.sliceBound,asIntOf,Sem.run_pure,this]
theorem eJ {k:IntKind} {n y:Nat} {c:BoundsCode} (h:n≤y):(Instr.sliceBound (.int k (n:Int)) y c).run P w=.ok n w:=EP h
theorem ll (b:Bool) {len cap l h m:Nat} {lo hi mx:Option Value} (vp:(lo=none∧l=0)∨∃ki:IntKind,lo=some (.int ki (.ofNat l)))
  (HC:(hi=none∧mx=none∧h=len)∨∃ki:IntKind,hi=some (.int ki (.ofNat h))) (Dt:(mx=none∧m=cap)∨∃ki:IntKind,mx=some (.int ki (.ofNat m))∧m≤cap)
  (h1:l≤h) (h2:h≤m):(Instr.sliceBounds b len cap lo hi mx).run P w=.ok (l,h,m) w:=by
 unfold Instr.sliceBounds
 rcases Dt with ⟨rfl,rfl⟩|⟨k3,rfl,hm⟩
 ·rcases HC with ⟨rfl,_,rfl⟩|⟨k2,rfl⟩
  ·rcases vp with ⟨rfl,rfl⟩|⟨k1,rfl⟩
   ·simp [Sem.run_pure]
   ·simp [Sem.run_pure,eJ h1]
  ·rcases vp with ⟨rfl,rfl⟩|⟨k1,rfl⟩
   ·simp [Sem.run_pure,eJ h2]
   ·simp [Sem.run_pure,eJ h1,eJ h2]
 ·rcases HC with ⟨_,hh,_⟩|⟨k2,rfl⟩
  ·cases hh
  ·rcases vp with ⟨rfl,rfl⟩|⟨k1,rfl⟩
   ·simp [Sem.run_pure,eJ h2,eJ hm]
   ·simp [Sem.run_pure,eJ h1,eJ h2,eJ hm]
theorem jn {T:Tr Value} {L:List Value} {x:Option Value} {d:Nat} {k:Nat→R0} (h:gR T L (x.map Od.aF) d k=some r) :
  ∃n,k n=some r∧((x=none∧n=d)∨∃ki:IntKind,x=some (.int ki (.ofNat n))):=by
 cases x with
 | none=>exact ⟨d,h,.inl ⟨rfl,rfl⟩⟩
 | some v=>
  have h':cF v k=some r:=h
  obtain ⟨ki,n,rfl,h1⟩:=eH h'
  exact ⟨n,h1,.inr ⟨ki,rfl⟩⟩
theorem zd {x x':Option Value} {n d:Nat} (hr:OR ρ x x') (h:(x=none∧n=d)∨∃ki:IntKind,x=some (.int ki (.ofNat n))):(x'=none∧n=d)∨∃ki:IntKind,x'=some (.int ki (.ofNat n)):=by
 rcases h with ⟨rfl,rfl⟩|⟨ki,rfl⟩
 ·cases hr;exact .inl ⟨rfl,rfl⟩
 ·exact .inr ⟨ki,hr.nat⟩
theorem rh (c l:Nat):aE (Nat.sub c (Nat.mul 2 l))=aE c - l:=by
 show (c - 2 * l) / 2=c / 2 - l
 omega
theorem qj (c:Nat):exact c=true↔c % 2=1:=by
 unfold exact
 rw [Nat.beq_eq]
 exact Iff.rfl
theorem N7 (c:Nat):aE c=c / 2:=rfl
theorem wj {t e:TypeId} {z len c' l h m p b:Nat} {lo hi mx:Option Value} (hu:P.underlying t=some (.slice e)) (hz:b8 P e=some z)
  (hb:(Instr.sliceBounds true len c' lo hi mx).run P w=.ok (l,h,m) w) :
  (Instr.sliceAt t (.slice (some ⟨b,p,none⟩) len c') lo hi mx).run P w=.ok (.slice (some (if m=l then ⟨b,p,none⟩ else ⟨b,p + l * z,none⟩)) (h - l) (m - l)) w:=by
 simp only [Instr.sliceAt,Instr.slice,Sem.run_bind,run_underlying hu,Result.andThen_ok,hb,dS hz,Sem.run_pure]
 by_cases e:m=l
 ·simp [e]
 ·simp [e,Addr.add_lit]
theorem ER {T:Tr Value} {L:List Value} {t e:TypeId} {z:Nat} {v u:Value} {lo hi mx lo' yK Xe:Option Value} {k:KV} (hu:P.underlying t=some (.slice e)) (hz:b8 P e=some z)
  (hm:(mx.isNone||hi.isSome)=true) (hv:VR ρ v u) (vp:OR ρ lo lo') (HC:OR ρ hi yK) (Dt:OR ρ mx Xe)
  (h:xj T L (lo.map Od.aF) (hi.map Od.aF) (mx.map Od.aF) z k v=some r):∃x y,k x=some r∧(Instr.sliceAt t u lo' yK Xe).run P w=.ok y w∧VR ρ x y:=by
 unfold xj at h
 split at h
 ·
  obtain ⟨l,h1,hl⟩:=jn h
  obtain ⟨g,h2,hg⟩:=jn h1
  obtain ⟨hc,h3⟩:=bO h2
  simp only [Bool.and_eq_true] at hc
  obtain ⟨c1,c2,c3⟩:=hc
  have el:l=0:=Nat.eq_of_beq_eq_true c1
  have eg:g=0:=Nat.eq_of_beq_eq_true c2
  subst el;subst eg
  have ee:mx=none:=by cases mx<;>simp at c3 ⊢
  subst ee
  cases Dt
  cases hv with
  | sc h=>simp [scalar] at h
  | j5=>
   have hb:=ll (P:=P) (w:=w) true (len:=0) (cap:=0) (m:=0) (zd vp hl) (by
    rcases zd HC hg with ⟨e,_⟩|hk
    ·exact .inl ⟨e,rfl,rfl⟩
    ·exact .inr hk) (.inl ⟨rfl,rfl⟩) (Nat.le_refl _) (Nat.le_refl _)
   refine ⟨_,_,h3,?_,.j5⟩
   simp only [Instr.sliceAt,Instr.slice,Sem.run_bind,run_underlying hu,Result.andThen_ok,hb,dS hz,Sem.run_pure]
   rfl
 ·obtain ⟨l,h1,hl⟩:=jn h
  obtain ⟨g,h2,hg⟩:=jn h1
  obtain ⟨hc,h3⟩:=bO h2
  simp only [Bool.and_eq_true] at hc
  obtain ⟨c1,c2,c3⟩:=hc
  have el:l=0:=Nat.eq_of_beq_eq_true c1
  have eg:g=0:=Nat.eq_of_beq_eq_true c2
  subst el;subst eg
  have ee:mx=none:=by cases mx<;>simp at c3 ⊢
  subst ee
  cases Dt
  cases hv with
  | sc h=>simp [scalar] at h
  | @Dn a=>
   have hb:=ll (P:=P) (w:=w) true (len:=0) (cap:=0) (m:=0) (zd vp hl) (by
    rcases zd HC hg with ⟨e,_⟩|hk
    ·exact .inl ⟨e,rfl,rfl⟩
    ·exact .inr hk) (.inl ⟨rfl,rfl⟩) (Nat.le_refl _) (Nat.le_refl _)
   refine ⟨_,_,h3,?_,.Dn (a:=a)⟩
   simp only [Instr.sliceAt,Instr.slice,Sem.run_bind,run_underlying hu,Result.andThen_ok,hb,dS hz,Sem.run_pure]
   rfl
 ·rename_i b o z' len c
  obtain ⟨l,h1,hl⟩:=jn h
  obtain ⟨g,h2,hg⟩:=jn h1
  obtain ⟨hc,h3⟩:=bO h2
  simp only [Bool.and_eq_true] at hc
  obtain ⟨c1,c2,c3⟩:=hc
  have ez:z=z':=Nat.eq_of_beq_eq_true c1
  subst ez
  have SK:l≤g:=Nat.le_of_ble_eq_true c2
  have hgc:g≤aE c:=Nat.le_of_ble_eq_true c3
  clear h h1 h2
  cases hv with
  | sc h=>simp [scalar] at h
  | @sl _ _ _ _ _ p c' s hs hln lO he hp=>
   cases mx with
   | none=>
    cases Dt
    have hb:=ll (P:=P) (w:=w) true (len:=len) (cap:=c') (m:=c') (zd vp hl) (by
     rcases zd HC hg with ⟨e,e2⟩|hk
     ·exact .inl ⟨e,rfl,e2⟩
     ·exact .inr hk) (.inl ⟨rfl,rfl⟩) SK (by omega)
    have h4:k (.slice (some ⟨b,Nat.add o (Nat.mul l z),some z⟩) (Nat.sub g l) (Nat.sub c (Nat.mul 2 l)))=some r:=h3
    refine ⟨_,_,h4,wj hu hz hb,?_⟩
    have hq:∀q:Nat,(c' - l=0∨(q=s.sh + (o + l * z)∧q + (c' - l) * z≤s.size))→VR ρ (.slice (some ⟨b,Nat.add o (Nat.mul l z),some z⟩) (Nat.sub g l) (Nat.sub c (Nat.mul 2 l))) (.slice (some ⟨s.blk,q,none⟩) (g - l) (c' - l)):=by
     intro q hq
     refine .sl hs ⟨(show g - l≤c' - l by omega),by omega⟩ (by rw [rh];omega) (fun hx=>?_) hq
     rw [qj] at hx
     have rY:(c - 2 * l) % 2=1:=hx
     have:=he ((qj c).2 (by omega))
     rw [rh];omega
    by_cases e:c'=l
    ·rw [if_pos e];exact hq p (.inl (by omega))
    ·rw [if_neg e]
     refine hq (p + l * z) (.inr ?_)
     rcases hp with h0|⟨h5,h6⟩
     ·omega
     ·have:c' * z=l * z + (c' - l) * z:=by rw [← Nat.add_mul];congr 1;omega
      omega
   | some m=>
    have h4:cF m (fun m=>cond (and (Nat.ble g m) (Nat.ble m (aE c))) (k (.slice (some ⟨b,Nat.add o (Nat.mul l z),some z⟩) (Nat.sub g l) (Nat.succ (Nat.mul 2 (Nat.sub m l))))) none)=some r:=h3
    obtain ⟨ki,m,rfl,h5⟩:=eH h4
    obtain ⟨hc,h6⟩:=bO h5
    simp only [Bool.and_eq_true] at hc
    have hgm:g≤m:=Nat.le_of_ble_eq_true hc.1
    have hmc:m≤aE c:=Nat.le_of_ble_eq_true hc.2
    have Xf:=Dt.nat
    have hb:=ll (P:=P) (w:=w) true (len:=len) (cap:=c') (m:=m) (mx:=Xe) (zd vp hl) (by
     rcases zd HC hg with ⟨e,e2⟩|hk
     ·cases HC with
      | no=>simp at hm
      | one=>cases e
     ·exact .inr hk) (.inr ⟨ki,Xf,by omega⟩) SK hgm
    refine ⟨_,_,h6,wj hu hz hb,?_⟩
    have hq:∀q:Nat,(m - l=0∨(q=s.sh + (o + l * z)∧q + (m - l) * z≤s.size))→VR ρ (.slice (some ⟨b,Nat.add o (Nat.mul l z),some z⟩) (Nat.sub g l) (Nat.succ (Nat.mul 2 (Nat.sub m l)))) (.slice (some ⟨s.blk,q,none⟩) (g - l) (m - l)):=by
     intro q hq
     have e1:aE (Nat.succ (Nat.mul 2 (Nat.sub m l)))=m - l:=by
      show (2 * (m - l) + 1) / 2=m - l
      omega
     exact .sl hs ⟨(show g - l≤m - l by omega),by omega⟩ (by rw [e1];exact Nat.le_refl _) (fun _=>e1.symm) hq
    by_cases e:m=l
    ·rw [if_pos e];exact hq p (.inl (by omega))
    ·rw [if_neg e]
     refine hq (p + l * z) (.inr ?_)
     rcases hp with h0|⟨h5,h6⟩
     ·omega
     ·have h7:m * z=l * z + (m - l) * z:=by rw [← Nat.add_mul];congr 1;omega
      have h8:m * z≤c' * z:=Nat.mul_le_mul_right _ (by omega)
      omega
 ·cases h
end Go.Eng

namespace Go.Eng
variable {P:Program} {w:World} {ρ:bA} {H:Heap} {nx:Nat} {r:Ex×St}
theorem di {α β:Type} (s:Sem α) (f:α→Sem β):quiet P (s >>= f)=(quiet P s).bind fun a=>quiet P (f a):=by
 induction s with
 | pure a=>rfl
 | program k ih=>exact ih P
 | _=>rfl
theorem fU {α:Type} (a:α):quiet P (pure a)=some a:=rfl
def Fit (es:List MapEntry) (i:Nat) (x y:Option (Nat×Value)):Prop:=
 (x=none∧y=none)∨∃j v e,x=some (j,v)∧i≤j∧es[j - i]?=some e∧y=some (j,e.val)
theorem Fit.tail {e:MapEntry} {es:List MapEntry} {i:Nat} {x y:Option (Nat×Value)} (h:Fit es (i + 1) x y):Fit (e::es) i x y:=by
 rcases h with h|⟨j,v,e',h1,h2,h3,h4⟩
 ·exact .inl h
 ·refine .inr ⟨j,v,e',h1,by omega,?_,h4⟩
  have:j - i=(j - (i + 1)) + 1:=by omega
  rw [this,List.getElem?_cons_succ]
  exact h3
theorem vq (d:TypeDesc) (k:Value):∀(tA oT:List MapEntry) (i:Nat),oT.map (·.key)=tA.map (·.key)→
  (Instr.findNow d k tA i=none→Instr.findNow d k oT i=none)∧∀x,Instr.findNow d k tA i=some x→∃y,Instr.findNow d k oT i=some y∧Fit oT i x y:=by
 intro tA
 induction tA with
 | nil=>
  intro oT i h
  cases oT with
  | nil=>exact ⟨fun h=>h,fun x hx=>by simp [Instr.findNow] at hx;subst hx;exact ⟨none,rfl,.inl ⟨rfl,rfl⟩⟩⟩
  | cons=>simp at h
 | cons e1 tA ih=>
  intro oT i h
  cases oT with
  | nil=>simp at h
  | cons e2 oT=>
   simp only [List.map_cons,List.cons.injEq] at h
   obtain ⟨hk,ht⟩:=h
   obtain ⟨h1,h2⟩:=ih oT (i + 1) ht
   unfold Instr.findNow
   rw [hk]
   cases hs:Instr.sameNow d k e1.key with
   | none=>exact ⟨fun _=>rfl,fun x hx=>by simp at hx⟩
   | some b=>
    cases b with
    | true=>
     refine ⟨fun hx=>by simp at hx,fun x hx=>?_⟩
     simp at hx
     subst hx
     exact ⟨_,rfl,.inr ⟨i,_,e2,rfl,Nat.le_refl _,by simp,rfl⟩⟩
    | false=>
     refine ⟨fun hx=>h1 hx,fun x hx=>?_⟩
     obtain ⟨y,hy,hf⟩:=h2 x hx
     exact ⟨y,hy,hf.tail⟩
theorem qk (kt:TypeId) (k:Value):∀(tA oT:List MapEntry) (i:Nat) (x:Option (Nat×Value)),oT.map (·.key)=tA.map (·.key)→
  quiet P (Instr.findAsking kt k tA i)=some x→∃y,(Instr.findAsking kt k oT i).run P w=.ok y w∧Fit oT i x y:=by
 intro tA
 induction tA with
 | nil=>
  intro oT i x h hq
  cases oT with
  | nil=>
   simp [Instr.findAsking] at hq
   cases hq
   exact ⟨none,rfl,.inl ⟨rfl,rfl⟩⟩
  | cons=>simp at h
 | cons e1 tA ih=>
  intro oT i x h hq
  cases oT with
  | nil=>simp at h
  | cons e2 oT=>
   simp only [List.map_cons,List.cons.injEq] at h
   obtain ⟨hk,ht⟩:=h
   unfold Instr.findAsking at hq ⊢
   rw [di] at hq
   rw [hk]
   cases hs:quiet P (Op.equal kt k e1.key) with
   | none=>rw [hs] at hq;cases hq
   | some b=>
    rw [hs] at hq
    simp only [Sem.run_bind,iT hs,Result.andThen_ok]
    cases b with
    | true=>
     have:x=some (i,e1.val):=by simpa [fU] using hq.symm
     subst this
     exact ⟨_,rfl,.inr ⟨i,_,e2,rfl,Nat.le_refl _,by simp,rfl⟩⟩
    | false=>
     obtain ⟨y,hy,hf⟩:=ih oT (i + 1) x ht (by simpa using hq)
     exact ⟨y,by simpa using hy,hf.tail⟩
theorem vr (kt:TypeId) (k:Value) (tA oT:List MapEntry) (x:Option (Nat×Value)) (h:oT.map (·.key)=tA.map (·.key))
  (hq:quiet P (Instr.findKey kt k tA)=some x):∃y,(Instr.findKey kt k oT).run P w=.ok y w∧Fit oT 0 x y:=by
 unfold Instr.findKey at hq ⊢
 rw [di] at hq
 cases hu:quiet P (underlying kt) with
 | none=>rw [hu] at hq;cases hq
 | some d=>
  rw [hu] at hq
  simp only [Sem.run_bind,iT hu,Result.andThen_ok]
  obtain ⟨h1,h2⟩:=vq d k tA oT 0 h
  cases hf:Instr.findNow d k tA 0 with
  | some z=>
   obtain ⟨y,hy,ze⟩:=h2 z hf
   have:x=z:=by simpa [hf,fU] using hq.symm
   subst this
   exact ⟨y,by simp [hy,Sem.run_pure],ze⟩
  | none=>
   have fP:quiet P (Instr.findAsking kt k tA)=some x:=by simpa [hf] using hq
   obtain ⟨y,hy,ze⟩:=qk (w:=w) kt k tA oT 0 x h fP
   exact ⟨y,by simpa [h1 hf] using hy,ze⟩
theorem zf (es:List MapEntry):∀i,(marked es i).map (·.key)=es.map (·.key):=by
 induction es with
 | nil=>intro i;rfl
 | cons e es ih=>intro i;simp [marked,ih]
theorem kU.keys {es es':List MapEntry} (h:kU ρ es es') (hf:es.all (fun e=>flat e.key)=true):es'.map (·.key)=es.map (·.key):=by
 induction h with
 | nil=>rfl
 | cons hk hv hb _ ih=>
  simp only [List.all_cons,Bool.and_eq_true] at hf
  simp [hk.gI hf.1,ih hf.2]
theorem kU.length {es es':List MapEntry} (h:kU ρ es es'):es'.length=es.length:=by
 induction h with
 | nil=>rfl
 | cons _ _ _ _ ih=>simp [ih]
theorem kU.get {es es':List MapEntry} (h:kU ρ es es'):∀{i:Nat} {e':MapEntry},es'[i]?=some e'→∃e,es[i]?=some e∧VR ρ e.key e'.key∧VR ρ e.val e'.val∧e'.born=e.born:=by
 induction h with
 | nil=>intro i e' he;simp at he
 | cons hk hv hb _ ih=>
  intro i e' he
  cases i with
  | zero=>simp at he;subst he;exact ⟨_,rfl,hk,hv,hb⟩
  | succ i=>simpa using ih (by simpa using he)
theorem tB (es:List MapEntry):∀i,eY es i=es[i]?:=by
 induction es with
 | nil=>intro i;rfl
 | cons e es ih=>
  intro i
  cases i with
  | zero=>rfl
  | succ i=>simpa [eY] using ih i
theorem BL {es:List MapEntry}:∀{i:Nat} {k:Value},s5 es i k=true→∃e,es[i]?=some e∧s4 e.key k=true:=by
 induction es with
 | nil=>intro i k h;simp [s5] at h
 | cons e es ih=>
  intro i k h
  cases i with
  | zero=>exact ⟨e,rfl,h⟩
  | succ i=>simpa using ih h
theorem oU {a b:Value} (n:Nat) (h:sY a b=true):a=b∧Instr.sameBits n a b=true:=by
 unfold sY at h
 split at h
 ·rename_i x y
  cases x<;>cases y<;>first|(cases h;done)|exact ⟨rfl,by unfold Instr.sameBits;rfl⟩
 ·simp only [Bool.and_eq_true,decide_eq_true_eq] at h
  obtain ⟨rfl,rfl⟩:=h
  exact ⟨rfl,by unfold Instr.sameBits;simp⟩
 ·simp only [decide_eq_true_eq] at h
  subst h
  refine ⟨rfl,?_⟩
  unfold Instr.sameBits
  rename_i s
  show (s == s)=true
  first|exact beq_self_eq_true s|(show (s.data == s.data)=true;simp)|exact decide_eq_true rfl
 ·cases h
theorem xq (n:Nat):∀{a b:List Value},sZ a b=true→a=b∧(a.zip b).all (fun x=>Instr.sameBits n x.1 x.2)=true:=by
 intro a
 induction a with
 | nil=>intro b h;cases b with
  | nil=>exact ⟨rfl,rfl⟩
  | cons=>cases h
 | cons x a ih=>
  intro b h
  cases b with
  | nil=>cases h
  | cons y b=>
   simp only [sZ,Bool.and_eq_true] at h
   obtain ⟨h1,h2⟩:=oU n h.1
   obtain ⟨h3,h4⟩:=ih h.2
   exact ⟨by rw [h1,h3],by simp only [List.zip_cons_cons,List.all_cons,h2,h4];rfl⟩
theorem xr {a b:Value} (n:Nat) (h:s4 a b=true):a=b∧Instr.sameBits (n + 1) a b=true:=by
 unfold s4 at h
 split at h
 ·rename_i x y
  obtain ⟨h1,h2⟩:=xq n h
  have e:x=y:=Array.ext' h1
  refine ⟨by rw [e],?_⟩
  unfold Instr.sameBits
  simp only [Bool.and_eq_true]
  exact ⟨by rw [e];simp,h2⟩
 ·exact oU (n + 1) h
theorem zg {a b:Value} (h:s4 a b=true):a=b∧Instr.sameBits 10000 a b=true:=xr 9999 h
theorem ln {emp:Bool} {kt:TypeId} {k:Value} {es es':List MapEntry} {x:Option Nat} (h:findAt P emp kt k es=some x) (hr:kU ρ es es') :
  flat k=true∧(Instr.checkKey emp 10000 kt k).run P w=.ok () w∧((x=none∧(Instr.findKey kt k es').run P w=.ok none w)∨
   ∃i e e',x=some i∧es[i]?=some e∧es'[i]?=some e'∧VR ρ e.val e'.val∧e'.born=e.born∧e'.key=k∧e.key=k∧Instr.sameBits 10000 e'.key k=true∧(Instr.findKey kt k es').run P w=.ok (some (i,e'.val)) w):=by
 unfold findAt at h
 cases hf:(flat k&&es.all (fun e=>flat e.key)) with
 | false=>rw [hf] at h;cases h
 | true=>
  rw [hf] at h
  simp only [Bool.and_eq_true] at hf
  cases hc:quiet P (Instr.checkKey emp 10000 kt k) with
  | none=>simp [hc] at h
  | some u=>
   cases hq:quiet P (Instr.findKey kt k (marked es 0)) with
   | none=>simp [hc,hq] at h
   | some q=>
    have SL:es'.map (·.key)=(marked es 0).map (·.key):=by rw [zf,hr.keys hf.2]
    obtain ⟨y,hy,ze⟩:=vr (w:=w) kt k (marked es 0) es' q SL hq
    refine ⟨hf.1,iT hc,?_⟩
    rcases ze with ⟨rfl,rfl⟩|⟨j,v,e',rfl,h2,h3,rfl⟩
    ·simp [hc,hq] at h
     subst h
     exact .inl ⟨rfl,hy⟩
    ·simp only [hc,hq,cond_true] at h
     cases hk:s5 es j k with
     | false=>simp [hk] at h
     | true=>
      simp [hk] at h
      subst h
      simp only [Nat.sub_zero] at h3
      obtain ⟨e,he,SM⟩:=BL hk
      obtain ⟨g1,g2⟩:=zg SM
      obtain ⟨e2,Xg,oV,wk,VN⟩:=hr.get h3
      rw [he] at Xg;cases Xg
      have SN:e'.key=e.key:=oV.gI (by rw [g1];exact hf.1)
      exact .inr ⟨j,e,e',rfl,he,h3,wk,VN,SN.trans g1,g1,by rw [SN];exact g2,hy⟩
end Go.Eng

namespace Go.Eng
variable {P:Program} {w:World} {ρ:bA} {H:Heap} {nx:Nat} {r:Ex×St}
def bG.all {α:Type} (p:α→Prop):bG α→Prop
 | .ae v0=>p v0
 | .pick v0 v1 v2=>p v0∧p v1∧p v2
 | .aj v0=>p v0
 | .ext v0 _=>p v0
 | .uY v0 _ _=>p v0
 | .ar v0 _=>p v0
 | .aB v0 v1 _=>p v0∧p v1
 | .kl v0 v1 _ _=>p v0∧p v1
 | .ix v0 v1 _ _ _=>p v0∧p v1
 | .bin _ _ v2 v3=>p v2∧p v3
 | .un _ v1=>p v1
 | .vT _ _ v2=>p v2
 | .nR _ v1=>(∀x∈v1,p x)
 | .GF _ v1 v2=>p v1∧p v2
 | .BC _ v1 v2 v3=>p v1∧(∀x∈v2,p x)∧(∀x∈v3,p x)
 | .dP _ _ v2 v3=>p v2∧p v3
 | .fR _ v1=>(∀x∈v1,p x.2.2)
 | .yW _ v1 v2=>(∀x∈v1,p x)∧(∀x∈v2,p x)
 | .uZ _ v1=>p v1
 | .BD v0 _ _ _=>p v0
 | .ah v0 _=>p v0
 | .len v0=>p v0
 | .Bn v0=>p v0
 | .Dc v0=>p v0
 | .cap v0=>p v0
 | .u0 v0 v1 v2 v3 _=>p v0∧(∀x∈v1,p x)∧(∀x∈v2,p x)∧(∀x∈v3,p x)
 | .G8 v0 v1 v2 _ _=>p v0∧(∀x∈v1,p x)∧(∀x∈v2,p x)
 | .nr v0 v1 _ _ _=>p v0∧p v1
 | .box v0=>p v0
 | .eX _=>True
 | .jF _ _ _ v3 v4=>p v3∧p v4
 | .gz _ _ _ v3=>(∀x∈v3,p x.2.2)
 | .Bo v0=>(∀x∈v0,p x)
 | .a8 v0 v1 _=>p v0∧p v1
 | .app _ _ _ v3 v4 _=>p v3∧p v4
 | .KM _ v1 v2=>p v1∧p v2
 | .Ku v0 _=>p v0
 | .G9 v0 v1 v2 _=>p v0∧p v1∧p v2
 | .Dd v0 v1 _ _=>p v0∧p v1
 | .De v0 v1 v2=>p v0∧p v1∧p v2
 | .ins _ _ v2 v3 v4=>p v2∧p v3∧p v4
 | .call v0 v1=>p v0∧(∀x∈v1,p x)
 | .inv v0 _ v2=>p v0∧(∀x∈v2,p x)
 | .oF v0 v1=>p v0∧(∀x∈v1,p x)
 | .nI v0=>p v0
 | .vU=>True
 | .vV v0=>p v0
 | .nxt v0=>p v0
 | .KN v0=>p v0
theorem gg {α β:Type} (d:β) {c:α→Option β}:∀{l:List α} {m:List β},gF c l=some m→m=l.map (fun x=>(c x).getD d)∧∀x∈l,∃y,c x=some y:=by
 intro l
 induction l with
 | nil=>intro m h;cases h;exact ⟨rfl,fun x hx=>by simp at hx⟩
 | cons x l ih=>
  intro m h
  unfold gF at h
  cases hx:c x with
  | none=>simp [hx] at h
  | some a=>
   cases hl:gF c l with
   | none=>simp [hx,hl] at h
   | some as=>
    simp [hx,hl] at h
    subst h
    obtain ⟨h1,h2⟩:=ih hl
    refine ⟨by simp [hx,← h1],fun y hy=>?_⟩
    rcases List.mem_cons.1 hy with rfl|hy
    ·exact ⟨a,hx⟩
    ·exact h2 y hy
theorem cQ {α β:Type} (d:β) {c:α→Option β} {l:Option α} {m:Option β} (h:lN c l=some m):m=l.map (fun x=>(c x).getD d)∧∀x∈l,∃y,c x=some y:=by
 cases l with
 | none=>cases h;exact ⟨rfl,fun x hx=>by simp at hx⟩
 | some x=>
  unfold lN at h
  cases hx:c x with
  | none=>simp [hx] at h
  | some a=>
   simp [hx] at h
   subst h
   exact ⟨by simp [hx],fun y hy=>by simp at hy;subst hy;exact ⟨a,hx⟩⟩
theorem ri {α β:Type} (d:β) {c:α→Option β}:∀{l:List (Nat×Nat×α)} {m:List (Nat×Nat×β)},oN c l=some m→m=l.map (fun x=>(x.1,x.2.1,(c x.2.2).getD d))∧∀x∈l,∃y,c x.2.2=some y:=by
 intro l
 induction l with
 | nil=>intro m h;cases h;exact ⟨rfl,fun x hx=>by simp at hx⟩
 | cons x l ih=>
  intro m h
  obtain ⟨i,j,x⟩:=x
  unfold oN at h
  cases hx:c x with
  | none=>simp [hx] at h
  | some a=>
   cases hl:oN c l with
   | none=>simp [hx,hl] at h
   | some as=>
    simp [hx,hl] at h
    subst h
    obtain ⟨h1,h2⟩:=ih hl
    refine ⟨by simp [hx,← h1],fun y hy=>?_⟩
    rcases List.mem_cons.1 hy with rfl|hy
    ·exact ⟨a,hx⟩
    ·exact h2 y hy
theorem g9 {α β:Type} (d:β) {c:α→Option β} {a:bG α} {b:bG β} (h:a.fE c=some b):b=a.map (fun x=>(c x).getD d)∧a.all (fun x=>∃y,c x=some y):=by
 cases a<;>simp only [bG.fE] at h<;>(try split at h)<;>first
  | (cases h;done)
  | (
    cases h
    simp only [bG.map,bG.all]
    try simp_all only [Option.getD_some,Option.some.injEq,exists_eq',and_self,and_true,true_and]
    first
    | done
    | (rename_i h1 h2 h3;exact ⟨by rw [← (cQ d h1).1,← (cQ d h2).1,← (cQ d h3).1],(cQ d h1).2,(cQ d h2).2,(cQ d h3).2⟩)
    | (rename_i h1 h2;exact ⟨by rw [← (cQ d h1).1,← (cQ d h2).1],(cQ d h1).2,(cQ d h2).2⟩)
    | (rename_i h1 h2;exact ⟨by rw [← (gg d h1).1,← (gg d h2).1],(gg d h1).2,(gg d h2).2⟩)
    | (rename_i h1;exact ⟨by rw [← (gg d h1).1],(gg d h1).2⟩)
    | (rename_i h1;exact ⟨by rw [← (ri d h1).1],(ri d h1).2⟩)
    | (rename_i h1;exact ⟨by rw [← (cQ d h1).1],(cQ d h1).2⟩))
theorem kA {α:Type} {p q:α→Prop} (yL:∀x,p x→q x) {a:bG α} (h:a.all p):a.all q:=by
 cases a<;>simp only [bG.all] at h ⊢<;>first
  | trivial
  | exact yL _ h
  | exact ⟨yL _ h.1,yL _ h.2⟩
  | exact ⟨yL _ h.1,yL _ h.2.1,yL _ h.2.2⟩
  | exact fun x hx=>yL _ (h x hx)
  | exact ⟨yL _ h.1,fun x hx=>yL _ (h.2 x hx)⟩
  | exact ⟨fun x hx=>yL _ (h.1 x hx),fun x hx=>yL _ (h.2 x hx)⟩
  | exact ⟨yL _ h.1,fun x hx=>yL _ (h.2.1 x hx),fun x hx=>yL _ (h.2.2 x hx)⟩
  | exact ⟨yL _ h.1,fun x hx=>yL _ (h.2.1 x hx),fun x hx=>yL _ (h.2.2.1 x hx),fun x hx=>yL _ (h.2.2.2 x hx)⟩
theorem dj {hp:Array Obj} {b:Nat} {es:Array MapEntry} {c:Nat} (w:World) (hw:w.heap=hp) (h:hp[b]?=some (.map es c)):(getObj b).run P w=.ok (.map es c) w:=by
 subst hw
 simp [getObj,Sem.run,h]
theorem wm {t kt e ty:TypeId} {v u:Value} {k:KV} (hd:P.underlying t=some (.map kt e)) (hH:HR ρ H nx w.heap) (hv:VR ρ v u) (h:xi H v k=some r) :
  ∃x y,k x=some r∧(Builtin.len_ #[t] ty #[u]).run P w=.ok y w∧VR ρ x y:=by
 unfold xi at h
 split at h
 ·cases hv with
  | sc h=>simp [scalar] at h
  | rU=>exact ⟨_,_,h,by simp [Builtin.len_,run_underlying hd,goInt,Sem.run_pure],.sc rfl⟩
 ·obtain ⟨es,c,hb,h1⟩:=gf h
  cases hv with
  | sc h=>simp [scalar] at h
  | @map _ s hs=>
   obtain ⟨s',eM,es',he,hr⟩:=hH.blk _ _ hb
   rw [hs] at eM;cases eM
   refine ⟨_,_,h1,?_,.sc rfl⟩
   have hl:es'.size=es.length:=by simpa using hr.length
   simp [Builtin.len_,run_underlying hd,dj w rfl he,hl,goInt,Sem.run_pure]
 ·cases h
theorem tC {ok:Bool} {v u:Value} {b:Bool} (h:VR ρ v u):VR ρ (Rb ok v b) (if ok=true then .tuple #[u,.bool b] else u):=by
 cases ok with
 | true=>exact .tuple (.cons h (.cons (.sc rfl) .nil))
 | false=>exact h
theorem wo {t kt e:TypeId} {z:Value} {ok:Bool} {v u kv ku:Value} {k:KV} (hd:P.underlying t=some (.map kt e)) (hz:fN P e=some z) (hH:HR ρ H nx w.heap) (hv:VR ρ v u) (hk:VR ρ kv ku)
  (h:vj P kt z ok H kv k v=some r):∃x y,k x=some r∧(Instr.lookup t u ku ok).run P w=.ok y w∧VR ρ x y:=by
 obtain ⟨mi,rW⟩:=gJ (w:=w) hz
 unfold vj at h
 split at h
 ·obtain ⟨hf,h1⟩:=bO h
  obtain ⟨_,hq,h2⟩:=aO h1
  have:=hk.gI hf
  subst this
  cases hv with
  | sc h=>simp [scalar] at h
  | rU=>
   refine ⟨_,_,h2,?_,tC (.gL rW)⟩
   have BM:(Instr.checkKey true 10000 kt ku).run P w=.ok () w:=iT hq
   obtain ⟨y,hy,ze⟩:∃y,(Instr.findKey kt ku []).run P w=.ok y w∧y=none:=by
    refine ⟨none,?_,rfl⟩
    unfold Instr.findKey
    cases hu:P.underlying kt with
    | none=>
     exfalso
     have fP:quiet P (Instr.checkKey true (9999 + 1) kt ku)=some ():=hq
     unfold Instr.checkKey at fP
     rw [di] at fP
     have:quiet P (underlying kt)=none:=by
      unfold underlying
      simp [di,quiet,program,hu]
      rfl
     rw [this] at fP
     cases fP
    | some d=>simp [run_underlying hu,Instr.findNow,Sem.run_pure]
   subst ze
   simp only [Instr.lookup,Sem.run_bind,run_underlying hd,Result.andThen_ok,Sem.run_pure,BM,hy,mi,List.isEmpty_toArray,Array.isEmpty_empty]
   have Xh:(Instr.checkKey ([]:List MapEntry).isEmpty 10000 kt ku).run P w=.ok () w:=BM
   simp only [Xh,hy,mi,Result.andThen_ok,Sem.run_bind,Sem.run_pure]
 ·obtain ⟨es,c,hb,h1⟩:=gf h
  obtain ⟨x,hx,h2⟩:=aO h1
  cases hv with
  | sc h=>simp [scalar] at h
  | @map _ s hs=>
   obtain ⟨s',eM,es',he,hr⟩:=hH.blk _ _ hb
   rw [hs] at eM;cases eM
   obtain ⟨hf,BM,oW⟩:=ln (w:=w) hx hr
   have:=hk.gI hf
   subst this
   have SO:es'.isEmpty=es.isEmpty:=by
    have hl:es'.size=es.length:=by simpa using hr.length
    cases es with
    | nil=>simp [Array.isEmpty,hl]
    | cons=>simp [Array.isEmpty,hl]
   rcases oW with ⟨rfl,ES⟩|⟨i,e1,e2,rfl,g1,g2,g3,g4,g5,g6,g7,ES⟩
   ·refine ⟨_,_,h2,?_,tC (.gL rW)⟩
    simp only [Instr.lookup,Sem.run_bind,run_underlying hd,Result.andThen_ok,dj w rfl he,Sem.run_pure,SO,BM,ES,mi]
   ·have h3:bd (eY es i) (fun e=>k (Rb ok e.val true))=some r:=h2
    rw [tB,g1] at h3
    refine ⟨_,_,h3,?_,tC g3⟩
    simp only [Instr.lookup,Sem.run_bind,run_underlying hd,Result.andThen_ok,dj w rfl he,Sem.run_pure,SO,BM,ES]
 ·cases h
end Go.Eng

namespace Go.Eng
variable {P:Program} {w:World} {ρ:bA} {H:Heap} {nx:Nat} {r:Ex×St} {T:Tr Value} {L:List Value}
theorem oX:∀(vs:List Value) (k:List Value→R0),cS T L (vs.map Od.aF) k=k vs:=by
 intro vs
 induction vs with
 | nil=>intro k;rfl
 | cons v vs ih=>
  intro k
  show cS T L (vs.map Od.aF) (fun vs=>k (v::vs))=k (v::vs)
  rw [ih]
theorem nW:∀(vs:List (Nat×Nat×Value)) (k:List (Nat×Nat×Value)→R0),dg T L (vs.map fun x=>(x.1,x.2.1,Od.aF x.2.2)) k=k vs:=by
 intro vs
 induction vs with
 | nil=>intro k;rfl
 | cons v vs ih=>
  intro k
  obtain ⟨a,b,v⟩:=v
  show dg T L (vs.map fun x=>(x.1,x.2.1,Od.aF x.2.2)) (fun vs=>k ((a,b,v)::vs))=k ((a,b,v)::vs)
  rw [ih]
theorem cU.map {α:Type} {f g:α→Value}:∀{l:List α},(∀x∈l,VR ρ (f x) (g x))→cU ρ (l.map f) (l.map g):=by
 intro l
 induction l with
 | nil=>intro _;exact .nil
 | cons x l ih=>intro h;exact .cons (h x (by simp)) (ih fun y hy=>h y (by simp [hy]))
theorem OR.map {α:Type} {f g:α→Value} {o:Option α} (h:∀x∈o,VR ρ (f x) (g x)):OR ρ (o.map f) (o.map g):=by
 cases o with
 | none=>exact .no
 | some x=>exact .one (h x rfl)
def Good (P:Program) (w:World) (ρ:bA) (H:Heap) (nx:Nat) (r:Ex×St) (k:KA) (s:Sem Next):Prop:=
 ∃v H' nx' u w' ρ',k v H' nx'=some r∧(s.run P w=.ok (.value u) w'∨(s.run P w=.ok .skip w'∧u=undef))∧VR ρ' v u∧HR ρ' H' nx' w'.heap∧Bp ρ H w ρ' H' w'∧nx≤nx'∧∀b,b < nx→ρ' b=ρ b
theorem Good.look {k:KA} {s:Sem Value} {s':Sem Next} (hs:s'=(do pure (.value (← s)))) (hH:HR ρ H nx w.heap) (h:∃x y,k x H nx=some r∧s.run P w=.ok y w∧VR ρ x y):Good P w ρ H nx r k s':=by
 obtain ⟨x,y,h1,h2,h3⟩:=h
 subst hs
 exact ⟨x,H,nx,y,w,ρ,h1,.inl (by simp only [Sem.run_bind,h2,Result.andThen_ok,Sem.run_pure]),h3,hH,.refl ρ H w,Nat.le_refl _,fun _ _=>rfl⟩
variable {ρa ρc:Operand→Value} {o:Oper} {k:KA} {ins:List Nat}
abbrev Av (ρa:Operand→Value):Operand→Od:=fun x=>Od.aF (ρa x)
theorem zh {fs:List Field}:∀{xs:List (Nat×Operand)} {pl:List (Nat×Nat×Operand)},iL P fs xs=some pl→pl.length=xs.length∧∀(i:Nat) (p:Nat×Nat×Operand) (x:Nat×Operand),
  pl[i]?=some p→xs[i]?=some x→∃f s,fs[x.1]?=some f∧b8 P f.type=some s∧p=(f.offset,s,x.2):=by
 intro xs
 induction xs with
 | nil=>intro pl h;cases h;exact ⟨rfl,fun i p x hp=>by simp at hp⟩
 | cons x xs ih=>
  intro pl h
  obtain ⟨j,x⟩:=x
  unfold iL at h
  cases hf:fs[j]? with
  | none=>simp [hf] at h
  | some f=>
   cases hr:iL P fs xs with
   | none=>simp [hf,hr] at h
   | some rs=>
    cases hs:b8 P f.type with
    | none=>simp [hf,hr,hs] at h
    | some s=>
     simp [hf,hr,hs] at h
     subst h
     obtain ⟨h1,h2⟩:=ih hr
     refine ⟨by simp [h1],fun i p y hp hy=>?_⟩
     cases i with
     | zero=>simp at hp hy;subst hp;subst hy;exact ⟨f,s,hf,hs,rfl⟩
     | succ i=>exact h2 i p y (by simpa using hp) (by simpa using hy)
theorem rj {z:Nat}:∀(xs:List (Nat×Operand)),(eG z xs).length=xs.length∧∀(i:Nat) (p:Nat×Nat×Operand) (x:Nat×Operand),
  (eG z xs)[i]?=some p→xs[i]?=some x→p=(x.1 * z,z,x.2):=by
 intro xs
 induction xs with
 | nil=>exact ⟨rfl,fun i p x hp=>by simp [eG] at hp⟩
 | cons x xs ih=>
  obtain ⟨j,x⟩:=x
  obtain ⟨h1,h2⟩:=ih
  refine ⟨by simp [eG,h1],fun i p y hp hy=>?_⟩
  cases i with
  | zero=>simp [eG] at hp hy;subst hp;subst hy;rfl
  | succ i=>exact h2 i p y (by simpa [eG] using hp) (by simpa using hy)
theorem zi {t:TypeId} {xs:Array (Nat×Operand)} {a:bG Operand} (ho:o.op=.build t xs) (hc:ai P ins o=some a) (ha:a.all fun x=>VR ρ (ρa x) (ρc x)) (hH:HR ρ H nx w.heap)
  (h:cm (a.map (Av ρa)) P T L H nx k=some r):Good P w ρ H nx r k (execOp ρc o):=by
 have he:execOp ρc o=(do pure (.value (← Instr.build t (xs.map fun (i,x)=>(i,ρc x))))):=by simp only [execOp,ho]
 refine .look he hH ?_
 have hq:(xs.map fun (i,x)=>(i,ρc x))=(xs.toList.map fun x=>(x.1,ρc x.2)).toArray:=by
  apply Array.ext';simp
 rw [hq]
 simp only [ai,ho] at hc
 split at hc
 ·rename_i fs zero hu hz
  cases ik:fs.toList.all (fun f=>(b8 P f.type).isSome) with
  | false=>rw [ik] at hc;cases hc
  | true=>
   rw [ik] at hc
   cases hp:iL P fs.toList xs.toList with
   | none=>simp [hp] at hc
   | some pl=>
    simp [hp] at hc
    subst hc
    obtain ⟨h1,h2⟩:=zh hp
    have h':dg T L ((pl.map fun x=>(x.1,x.2.1,ρa x.2.2)).map fun x=>(x.1,x.2.1,Od.aF x.2.2)) (fun ps=>bd (eD zero ps) fun cs=>k (.agg cs.toArray) H nx)=some r:=by
     rw [List.map_map];exact h
    rw [nW] at h'
    obtain ⟨cs,hf,hk⟩:=aO h'
    obtain ⟨y,hy,hv⟩:=qh (w:=w) (ρ:=ρ) hu hz hp (ps:=pl.map fun x=>(x.1,x.2.1,ρa x.2.2)) (qs:=xs.toList.map fun x=>(x.1,ρc x.2)) (by simp [h1]) (fun i p q MV MW=>by
     simp only [List.getElem?_map,Option.map_eq_some_iff] at MV MW
     obtain ⟨p',jG,rfl⟩:=MV
     obtain ⟨q',fP,rfl⟩:=MW
     obtain ⟨f,s,g1,g2,rfl⟩:=h2 i p' q' jG fP
     exact ⟨f,s,g1,g2,rfl,rfl,ha _ (List.mem_of_getElem? jG)⟩) (fun i f Kw=>by
      have:=List.all_eq_true.1 ik f (List.mem_of_getElem? Kw)
      exact Option.isSome_iff_exists.1 this) hf
    exact ⟨_,y,hk,hy,hv⟩
 ·rename_i n e zero hu hz
  cases hs:b8 P e with
  | none=>simp [hs] at hc
  | some z=>
   simp [hs] at hc
   subst hc
   obtain ⟨h1,h2⟩:=rj (z:=z) xs.toList
   have h':dg T L (((eG z xs.toList).map fun x=>(x.1,x.2.1,ρa x.2.2)).map fun x=>(x.1,x.2.1,Od.aF x.2.2)) (fun ps=>bd (eD zero ps) fun cs=>k (.agg cs.toArray) H nx)=some r:=by
    rw [List.map_map];exact h
   rw [nW] at h'
   obtain ⟨cs,hf,hk⟩:=aO h'
   obtain ⟨y,hy,hv⟩:=rX (w:=w) (ρ:=ρ) hu hz hs (ps:=(eG z xs.toList).map fun x=>(x.1,x.2.1,ρa x.2.2)) (qs:=xs.toList.map fun x=>(x.1,ρc x.2)) (by simp [h1]) (fun i p q MV MW=>by
    simp only [List.getElem?_map,Option.map_eq_some_iff] at MV MW
    obtain ⟨p',jG,rfl⟩:=MV
    obtain ⟨q',fP,rfl⟩:=MW
    have:=h2 i p' q' jG fP
    subst this
    exact ⟨rfl,rfl,ha _ (List.mem_of_getElem? jG)⟩) hf
   exact ⟨_,y,hk,hy,hv⟩
 ·cases hc
end Go.Eng

namespace Go.Eng
variable {P:Program} {w:World} {ρ:bA} {H:Heap} {nx:Nat} {r:Ex×St} {T:Tr Value} {L:List Value} {ρa ρc:Operand→Value} {o:Oper} {k:KA} {ins:List Nat}
theorem Good.same {s:Sem Next} {v u:Value} (hH:HR ρ H nx w.heap) (hv:VR ρ v u) (hk:k v H nx=some r) (hs:s.run P w=.ok (.value u) w):Good P w ρ H nx r k s:=
 ⟨v,H,nx,u,w,ρ,hk,.inl hs,hv,hH,.refl ρ H w,Nat.le_refl _,fun _ _=>rfl⟩
theorem tD {x:Operand} {a:bG Operand} (ho:o.op=.move x∨o.op=.assign x) (hc:ai P ins o=some a) (ha:a.all fun x=>VR ρ (ρa x) (ρc x)) (hH:HR ρ H nx w.heap)
  (h:cm (a.map (Av ρa)) P T L H nx k=some r):Good P w ρ H nx r k (execOp ρc o):=by
 have he:execOp ρc o=pure (.value (ρc x)):=by rcases ho with ho|ho<;>simp only [execOp,ho]
 have rV:a=.ae x:=by rcases ho with ho|ho<;>(simp only [ai,ho] at hc;cases hc;rfl)
 subst rV
 rw [he]
 exact .same hH ha h rfl
theorem BN {c x y:Operand} {a:bG Operand} (ho:o.op=.pick c x y) (hc:ai P ins o=some a) (ha:a.all fun x=>VR ρ (ρa x) (ρc x)) (hH:HR ρ H nx w.heap)
  (h:cm (a.map (Av ρa)) P T L H nx k=some r):Good P w ρ H nx r k (execOp ρc o):=by
 have he:execOp ρc o=(do pure (.value (if ← asBool (ρc c) then ρc x else ρc y))):=by simp only [execOp,ho]
 simp only [ai,ho] at hc
 cases hc
 obtain ⟨h1,h2,h3⟩:=ha
 have h':fD (ρa c) (k (ρa x) H nx) (k (ρa y) H nx)=some r:=h
 rw [he]
 rcases mg h' with ⟨e,hk⟩|⟨e,hk⟩
 ·rw [e] at h1
  refine .same hH h2 hk ?_
  rw [h1.oR]
  rfl
 ·rw [e] at h1
  refine .same hH h3 hk ?_
  rw [h1.oR]
  rfl
theorem zj {t:TypeId} {x:Operand} {a:bG Operand} (ho:o.op=.load t x) (hc:ai P ins o=some a) (ha:a.all fun x=>VR ρ (ρa x) (ρc x)) (hH:HR ρ H nx w.heap)
  (h:cm (a.map (Av ρa)) P T L H nx k=some r):Good P w ρ H nx r k (execOp ρc o):=by
 have he:execOp ρc o=(do pure (.value (← Instr.loadAt t (ρc x)))):=by simp only [execOp,ho]
 simp only [ai,ho,Option.map_eq_some_iff] at hc
 obtain ⟨g,hg,rfl⟩:=hc
 exact .look he hH (qg hg hH ha h)
theorem tE {x:Operand} {a:bG Operand} (ho:o.op=.nilCheck x) (hc:ai P ins o=some a) (ha:a.all fun x=>VR ρ (ρa x) (ρc x)) (hH:HR ρ H nx w.heap)
  (h:cm (a.map (Av ρa)) P T L H nx k=some r):Good P w ρ H nx r k (execOp ρc o):=by
 simp only [ai,ho] at hc
 cases hc
 obtain ⟨v,u,h1,h2,h3⟩:=y6 (P:=P) (w:=w) ha (show s8 (ρa x) (fun v=>k v H nx)=some r from h)
 refine .same hH h3 h1 ?_
 simp only [execOp,ho]
 exact h2
theorem zk {op:BinOp} {t:TypeId} {x y:Operand} {b:Bool} {a:bG Operand} (ho:∃q,o.op=.binOp op t x y q) (hc:ai P ins o=some a) (ha:a.all fun x=>VR ρ (ρa x) (ρc x)) (hH:HR ρ H nx w.heap)
  (h:cm (a.map (Av ρa)) P T L H nx k=some r):Good P w ρ H nx r k (execOp ρc o):=by
 obtain ⟨q,ho⟩:=ho
 have he:execOp ρc o=(do pure (.value (← (do eqGuard op t x y (ρc x) (ρc y);binOp op t (ρc x) (ρc y):Sem Value)))):=by simp only [execOp,ho]
 simp only [ai,ho] at hc
 have bin:a=.bin op t x y→Good P w ρ H nx r k (execOp ρc o):=by
  intro e
  subst e
  exact .look he hH (EM ha.1 ha.2 h)
 have SQ:∀(d:TypeDesc) (kd:Nat),(op=.eql∨op=.neq)→P.underlying t=some d→tw kd d=true→(kd=4→(dy x||dy y)=true)→a=.dP (ji op) kd x y→Good P w ρ H nx r k (execOp ρc o):=by
  intro d kd h1 h2 h3 h4 e
  subst e
  exact .look he hH (y9 h1 h2 h3 h4 ha.1 ha.2 h)
 have eqs:(op=.eql∨op=.neq)→Good P w ρ H nx r k (execOp ρc o):=by
  intro BO
  have rV:(match P.underlying t with
   | some (.pointer _)=>some (.dP (ji op) 0 x y)
   | some (.slice _)=>some (.dP (ji op) 1 x y)
   | some (.map _ _)=>some (.dP (ji op) 2 x y)
   | some (.func _ _ _)=>some (.dP (ji op) 3 x y)
   | some (.interface _)=>bif dy x||dy y then some (.dP (ji op) 4 x y) else none
   | some _=>some (.bin op t x y)
   | none=>none:Option (bG Operand))=some a:=by
   rcases BO with rfl|rfl<;>exact hc
  split at rV
  ·rename_i hu;cases rV;exact SQ _ 0 BO hu rfl (fun h=>by cases h) rfl
  ·rename_i hu;cases rV;exact SQ _ 1 BO hu rfl (fun h=>by cases h) rfl
  ·rename_i hu;cases rV;exact SQ _ 2 BO hu rfl (fun h=>by cases h) rfl
  ·rename_i hu;cases rV;exact SQ _ 3 BO hu rfl (fun h=>by cases h) rfl
  ·rename_i hu
   cases hb:(dy x||dy y) with
   | false=>rw [hb] at rV;cases rV
   | true=>rw [hb] at rV;cases rV;exact SQ _ 4 BO hu rfl (fun _=>hb) rfl
  ·cases rV;exact bin rfl
  ·cases rV
 by_cases BO:op=.eql∨op=.neq
 ·exact eqs BO
 ·refine bin ?_
  unfold gW at hc
  split at hc
  ·exact absurd (.inl rfl) BO
  ·exact absurd (.inr rfl) BO
  ·cases hc;rfl
theorem BP {op:UnOp} {t:TypeId} {x:Operand} {a:bG Operand} (ho:o.op=.unOp op t x) (hc:ai P ins o=some a) (ha:a.all fun x=>VR ρ (ρa x) (ρc x)) (hH:HR ρ H nx w.heap)
  (h:cm (a.map (Av ρa)) P T L H nx k=some r):Good P w ρ H nx r k (execOp ρc o):=by
 have he:execOp ρc o=(do pure (.value (← Op.unary op (ρc x)))):=by simp only [execOp,ho]
 simp only [ai,ho] at hc
 cases hc
 exact .look he hH (Hy ha h)
theorem vt {s d:TypeId} {x:Operand} {a:bG Operand} (ho:o.op=.convert s d x) (hc:ai P ins o=some a) (ha:a.all fun x=>VR ρ (ρa x) (ρc x)) (hH:HR ρ H nx w.heap)
  (h:cm (a.map (Av ρa)) P T L H nx k=some r):Good P w ρ H nx r k (execOp ρc o):=by
 have he:execOp ρc o=(do pure (.value (← convert s d (ρc x)))):=by simp only [execOp,ho]
 simp only [ai,ho] at hc
 cases hb:(k8 P s&&k8 P d) with
 | false=>rw [hb] at hc;cases hc
 | true=>
  rw [hb] at hc
  cases hc
  exact .look he hH (EF ha h)
theorem nw {t:TypeId} {x:Operand} {a:bG Operand} (ho:o.op=.makeInterface t x) (hc:ai P ins o=some a) (ha:a.all fun x=>VR ρ (ρa x) (ρc x)) (hH:HR ρ H nx w.heap)
  (h:cm (a.map (Av ρa)) P T L H nx k=some r):Good P w ρ H nx r k (execOp ρc o):=by
 have he:execOp ρc o=(do pure (.value (← Instr.makeInterface t (ρc x)))):=by simp only [execOp,ho]
 simp only [ai,ho] at hc
 split at hc
 ·cases hc
 ·rename_i d hn hu
  cases hc
  exact .look he hH (EH hu (fun ms e=>hn ms (by rw [e])) ha h)
 ·cases hc
theorem tF {fn:Fn} {xs ys:Array Operand} {a:bG Operand} (ho:o.op=.makeFunc fn xs ys) (hc:ai P ins o=some a) (ha:a.all fun x=>VR ρ (ρa x) (ρc x)) (hH:HR ρ H nx w.heap)
  (h:cm (a.map (Av ρa)) P T L H nx k=some r):Good P w ρ H nx r k (execOp ρc o):=by
 have he:execOp ρc o=(do pure (.value (← Instr.makeFunc fn (xs.map ρc) (ys.map ρc)))):=by simp only [execOp,ho]
 simp only [ai,ho] at hc
 cases fn with
 | func f=>
  cases hc
  have h':cS T L ((xs.toList.map ρa).map Od.aF) (fun a=>cS T L ((ys.toList.map ρa).map Od.aF) fun b=>k (.func (.func f) a.toArray b.toArray) H nx)=some r:=by
   rw [List.map_map,List.map_map];exact h
  rw [oX,oX] at h'
  refine .look he hH ⟨_,.func (.func f) (xs.map ρc) (ys.map ρc),h',rfl,?_⟩
  have e1:xs.map ρc=⟨xs.toList.map ρc⟩:=by apply Array.ext';simp
  have e2:ys.map ρc=⟨ys.toList.map ρc⟩:=by apply Array.ext';simp
  rw [e1,e2]
  exact .func (.map fun x hx=>ha.1 x hx) (.map fun x hx=>ha.2 x hx)
 | _=>cases hc
theorem zl {t:TypeId} {x:Operand} {lo hi mx:Option Operand} {a:bG Operand} (ho:o.op=.slice t x lo hi mx) (hc:ai P ins o=some a) (ha:a.all fun x=>VR ρ (ρa x) (ρc x)) (hH:HR ρ H nx w.heap)
  (h:cm (a.map (Av ρa)) P T L H nx k=some r):Good P w ρ H nx r k (execOp ρc o):=by
 have he:execOp ρc o=(do pure (.value (← Instr.sliceAt t (ρc x) (lo.map ρc) (hi.map ρc) (mx.map ρc)))):=by simp only [execOp,ho]
 simp only [ai,ho] at hc
 split at hc
 ·rename_i e hu
  cases hm:(mx.isNone||hi.isSome) with
  | false=>rw [hm] at hc;cases hc
  | true=>
   rw [hm] at hc
   simp only [cond_true,Option.map_eq_some_iff] at hc
   obtain ⟨z,hz,rfl⟩:=hc
   obtain ⟨h1,h2,h3,h4⟩:=ha
   refine .look he hH (ER (T:=T) (L:=L) (lo:=lo.map ρa) (hi:=hi.map ρa) (mx:=mx.map ρa) hu hz (by simpa using hm) h1 (.map h2) (.map h3) (.map h4) ?_)
   simp only [Option.map_map]
   exact h
 ·rename_i hu
  cases mx with
  | some _=>cases hc
  | none=>
   cases hc
   obtain ⟨h1,h2,h3⟩:=ha
   have hss:∀(q:Option Operand) (g:Option Value→R0),vi T L (q.map (Av ρa)) g=g (q.map ρa):=by
    intro q g;cases q<;>rfl
   have h':vi T L (lo.map (Av ρa)) (fun l=>vi T L (hi.map (Av ρa)) fun hh=>bd (gE P (ρa x::(l.toList++hh.toList)) (Instr.slice t (ρa x) l hh none)) fun v=>k v H nx)=some r:=h
   rw [hss,hss] at h'
   have lh:cU ρ (ρa x::((lo.map ρa).toList++(hi.map ρa).toList)) (ρc x::((lo.map ρc).toList++(hi.map ρc).toList)):=by
    refine .cons h1 (.append ?_ ?_)
    ·cases lo with
     | none=>exact .nil
     | some q=>exact .cons (h2 q rfl) .nil
    ·cases hi with
     | none=>exact .nil
     | some q=>exact .cons (h3 q rfl) .nil
   obtain ⟨e,v,g1,g2,g3⟩:=gK (w:=w) lh h'
   have e1:ρc x=ρa x:=(List.cons.inj e).1
   have e3:=(List.cons.inj e).2
   have e2:lo.map ρc=lo.map ρa∧hi.map ρc=hi.map ρa:=by
    cases lo<;>cases hi<;>simp at e3 ⊢<;>simp_all
   refine .look he hH ⟨v,v,g1,?_,g3⟩
   rw [e1,e2.1,e2.2]
   simp only [Instr.sliceAt,Sem.run_bind,run_underlying hu,Result.andThen_ok]
   exact g2
 ·cases hc
theorem rZ {s:TypeId} {x:Operand} {f:Nat} {a:bG Operand} (ho:o.op=.fieldAddr s x f) (hc:ai P ins o=some a) (ha:a.all fun x=>VR ρ (ρa x) (ρc x)) (hH:HR ρ H nx w.heap)
  (h:cm (a.map (Av ρa)) P T L H nx k=some r):Good P w ρ H nx r k (execOp ρc o):=by
 have he:execOp ρc o=(do pure (.value (← Instr.fieldAt s (ρc x) f))):=by simp only [execOp,ho]
 simp only [ai,ho] at hc
 split at hc
 ·rename_i fs hu
  split at hc
  ·rename_i fd hf
   split at hc
   ·rename_i n hn
    cases hc
    exact .look he hH (EA hu hf hn ha h)
   ·cases hc
  ·cases hc
 ·cases hc
theorem zm {s:TypeId} {x:Operand} {f:Nat} {a:bG Operand} (ho:o.op=.field s x f) (hc:ai P ins o=some a) (ha:a.all fun x=>VR ρ (ρa x) (ρc x)) (hH:HR ρ H nx w.heap)
  (h:cm (a.map (Av ρa)) P T L H nx k=some r):Good P w ρ H nx r k (execOp ρc o):=by
 have he:execOp ρc o=(do pure (.value (← Instr.field s (ρc x) f))):=by simp only [execOp,ho]
 simp only [ai,ho] at hc
 split at hc
 ·rename_i fs hu
  split at hc
  ·rename_i fd hf
   simp only [Option.map_eq_some_iff] at hc
   obtain ⟨g,hg,rfl⟩:=hc
   exact .look he hH (Ez hu hf hg ha h)
  ·cases hc
 ·cases hc
theorem r4 {t:TypeId} {x i:Operand} {a:bG Operand} (ho:o.op=.indexAddr t x i) (hc:ai P ins o=some a) (ha:a.all fun x=>VR ρ (ρa x) (ρc x)) (hH:HR ρ H nx w.heap)
  (h:cm (a.map (Av ρa)) P T L H nx k=some r):Good P w ρ H nx r k (execOp ρc o):=by
 have he:execOp ρc o=(do pure (.value (← Instr.indexAt t (ρc x) (ρc i)))):=by simp only [execOp,ho]
 simp only [ai,ho] at hc
 split at hc
 ·rename_i n e hu
  simp only [Option.map_eq_some_iff] at hc
  obtain ⟨z,hz,rfl⟩:=hc
  exact .look he hH (ED hu hz ha.1 ha.2 h)
 ·rename_i e hu
  simp only [Option.map_eq_some_iff] at hc
  obtain ⟨z,hz,rfl⟩:=hc
  exact .look he hH (EB hu hz ha.1 ha.2 h)
 ·cases hc
theorem zn {t:TypeId} {x i:Operand} {a:bG Operand} (ho:o.op=.index t x i) (hc:ai P ins o=some a) (ha:a.all fun x=>VR ρ (ρa x) (ρc x)) (hH:HR ρ H nx w.heap)
  (h:cm (a.map (Av ρa)) P T L H nx k=some r):Good P w ρ H nx r k (execOp ρc o):=by
 have he:execOp ρc o=(do pure (.value (← Instr.index t (ρc x) (ρc i)))):=by simp only [execOp,ho]
 simp only [ai,ho] at hc
 split at hc
 ·rename_i n e hu
  split at hc
  ·rename_i g z hg hz
   cases hc
   exact .look he hH (Hw hu hg hz ha.1 ha.2 h)
  ·cases hc
 ·cases hc
  exact .look he hH (EG ha.1 ha.2 h)
 ·cases hc
theorem xu {t:TypeId} {x i:Operand} {ok:Bool} {a:bG Operand} (ho:o.op=.lookup t x i ok) (hc:ai P ins o=some a) (ha:a.all fun x=>VR ρ (ρa x) (ρc x)) (hH:HR ρ H nx w.heap)
  (h:cm (a.map (Av ρa)) P T L H nx k=some r):Good P w ρ H nx r k (execOp ρc o):=by
 have he:execOp ρc o=(do pure (.value (← Instr.lookup t (ρc x) (ρc i) ok))):=by simp only [execOp,ho]
 simp only [ai,ho] at hc
 split at hc
 ·rename_i kt e hu
  simp only [Option.map_eq_some_iff] at hc
  obtain ⟨z,hz,rfl⟩:=hc
  exact .look he hH (wo hu hz hH ha.1 ha.2 h)
 ·cases hc
theorem ql {x:Operand} {xt t:TypeId} {ok:Bool} {a:bG Operand} (ho:o.op=.typeAssert x xt t ok) (hc:ai P ins o=some a) (ha:a.all fun x=>VR ρ (ρa x) (ρc x)) (hH:HR ρ H nx w.heap)
  (h:cm (a.map (Av ρa)) P T L H nx k=some r):Good P w ρ H nx r k (execOp ρc o):=by
 have he:execOp ρc o=(do pure (.value (← Instr.typeAssert (ρc x) xt t ok))):=by simp only [execOp,ho]
 simp only [ai,ho] at hc
 split at hc
 ·cases hc
 ·rename_i d hn hu
  simp only [Option.map_eq_some_iff] at hc
  obtain ⟨z,hz,rfl⟩:=hc
  exact .look he hH (EN hu (fun ms e=>hn ms (by rw [e])) hz ha h)
 ·cases hc
theorem vw {x:Operand} {i:Nat} {a:bG Operand} (ho:o.op=.extract x i) (hc:ai P ins o=some a) (ha:a.all fun x=>VR ρ (ρa x) (ρc x)) (hH:HR ρ H nx w.heap)
  (h:cm (a.map (Av ρa)) P T L H nx k=some r):Good P w ρ H nx r k (execOp ρc o):=by
 have he:execOp ρc o=(do pure (.value (← Instr.extract (ρc x) i))):=by simp only [execOp,ho]
 simp only [ai,ho] at hc
 cases hc
 exact .look he hH (EE ha h)
end Go.Eng

namespace Go.Eng
variable {P:Program} {w:World} {ρ:bA} {H:Heap} {nx:Nat} {r:Ex×St} {T:Tr Value} {L:List Value} {ρa ρc:Operand→Value} {o:Oper} {k:KA} {ins:List Nat}
theorem lp (z:List Value) (n:Nat):a7 z (n + 1)=z++a7 z n:=rfl
theorem HD (z:List Value):∀n:Nat,((List.range (n * z.length)).map fun i=>(z.toArray)[i % z.length]!)=a7 z n:=by
 intro n
 induction n with
 | zero=>rw [Nat.zero_mul];rfl
 | succ n ih=>
  rw [lp,← ih]
  have e:(n + 1) * z.length=z.length + n * z.length:=by rw [Nat.add_mul];omega
  rw [e,List.range_add,List.map_append,List.map_map]
  congr 1
  ·apply List.ext_getElem
   ·simp
   ·intro i h1 h2
    simp at h1
    have h3:i % z.length=i:=Nat.mod_eq_of_lt h1
    simp [h3,h1]
  ·apply List.map_congr_left
   intro i _
   simp
theorem cU.rep {z:List Value} (h:cU ρ z z):∀n,cU ρ (a7 z n) (a7 z n):=by
 intro n
 induction n with
 | zero=>exact .nil
 | succ n ih=>exact .append h ih
theorem ej (z:List Value):∀n,(a7 z n).length=n * z.length:=by
 intro n
 induction n with
 | zero=>rw [Nat.zero_mul];rfl
 | succ n ih=>rw [lp];simp [ih,Nat.add_mul];omega
theorem Good.pre {H1:Heap} {s:Sem Next} (h:Good P w ρ H1 nx r k s) (ho:∀j,j6 ρ H1 j→j6 ρ H j) (j9:BH H1 H):Good P w ρ H nx r k s:=by
 obtain ⟨v,H',nx',u,w',ρ',h1,h2,h3,h4,h5,h6,h7⟩:=h
 refine ⟨v,H',nx',u,w',ρ',h1,h2,h3,h4,⟨h5.ext,fun j hj=>?_,h5.ro.trans j9,fun j hj hn=>h5.frame j hj fun hx=>hn (ho j hx),h5.size,h5.os,h5.tape,h5.output⟩,h6,h7⟩
 rcases h5.own j hj with h6|h6
 ·exact .inl (ho j h6)
 ·exact .inr h6
theorem Good.Du {w':World} {b:gT} {ob:Obj} {rf:Ref} {v u:Value} {s:Sem Next} (hH:HR ρ H nx w.heap) (hh:w'.heap=w.heap.push ob) (N8:w'.os=w.os) (ht:w'.tape=w.tape) (lS:w'.output=w.output)
  (jo:rf.blk=w.heap.size) (Rg:b.ij=true) (xm:BR (ρ.with nx rf) (w.heap.push ob) rf b) (hv:VR (ρ.with nx rf) v u) (hk:k v (bB (at_ nx) H (some b)) (nx + 1)=some r) (hs:s.run P w=.ok (.value u) w'):Good P w ρ H nx r k s:=by
 refine ⟨v,_,_,u,w',ρ.with nx rf,hk,.inl hs,hv,?_,⟨hH.eO _,fun j hj=>?_,.put _ _ _ Rg,fun j hj _=>?_,by rw [hh];simp,N8,ht,lS⟩,Nat.le_succ _,fun b hb=>bA.fO _ _ (by omega)⟩
 ·rw [hh]
  refine hH.make (fun c x s' hc eM=>?_) xm
  obtain ⟨q,hq,hbq⟩:=hH.blk c x hc
  rw [eM] at hq;cases hq
  have:=hbq.lt
  refine ⟨?_,by omega⟩
  rw [Array.getElem?_push]
  rw [if_neg (by omega)]
 ·rcases j6.ss hj with h|h
  ·exact .inr (by omega)
  ·exact .inl h
 ·rw [hh,Array.getElem?_push,if_neg (by omega)]
theorem Good.made {w':World} {cs:List Value} {cs':Array Value} {e:TypeId} {v u:Value} {s:Sem Next} (hH:HR ρ H nx w.heap) (hh:w'.heap=w.heap.push (.cells cs' e (0,0))) (N8:w'.os=w.os) (ht:w'.tape=w.tape) (lS:w'.output=w.output)
  (hr:∀(i:Nat) (x:Value),cs[i]?=some x→∃y,cs'[i]?=some y∧VR ρ x y) (hv:VR (ρ.with nx ⟨w.heap.size,0,cs'.size⟩) v u) (hk:k v (bB (at_ nx) H (some (.cells cs))) (nx + 1)=some r) (hs:s.run P w=.ok (.value u) w'):Good P w ρ H nx r k s:=by
 refine .Du (b:=.cells cs) (rf:=⟨w.heap.size,0,cs'.size⟩) hH hh N8 ht lS rfl rfl ⟨cs',e,by simp,rfl,fun i x hx=>?_⟩ hv hk hs
 obtain ⟨y,hy,tu⟩:=hr i x hx
 exact ⟨y,by simpa using hy,tu.mono (hH.eO _)⟩
theorem mj {v:Value} {cs:List Value}:fresh H nx v k cs=k v (bB (at_ nx) H (some (.cells cs))) (nx + 1):=by
 unfold fresh
 rw [bQ]
theorem VR.fresh {n:Nat} {sz:Nat}:VR (ρ.with nx ⟨n,0,sz⟩) (ptrTo nx) (.pointer (some ⟨n,0,none⟩)):=by
 have:=VR.ptr (ρ:=ρ.with nx ⟨n,0,sz⟩) (b:=nx) (o:=0) (bA.dN _ _ _)
 simpa [ptrTo] using this
theorem tG (n:Nat):aE (Nat.succ (Nat.mul 2 n))=n:=by
 show (2 * n + 1) / 2=n
 omega
theorem VR.Dv {n z len c:Nat} (h:len≤c∧c≤ei):VR (ρ.with nx ⟨n,0,c * z⟩) (rS nx z len (Nat.succ (Nat.mul 2 c))) (.slice (some ⟨n,0,none⟩) len c):=by
 refine .sl (r:=⟨n,0,c * z⟩) (bA.dN _ _ _) h (by rw [tG];exact Nat.le_refl _) (fun _=>(tG c).symm) (.inr ⟨rfl,?_⟩)
 simp
theorem cU.K7 {cs:List Value} {a:Array Value} (h:cU ρ cs a.toList):∀(i:Nat) (x:Value),cs[i]?=some x→∃y,a[i]?=some y∧VR ρ x y:=by
 intro i x hx
 obtain ⟨y,hy,hv⟩:=h.get hx
 exact ⟨y,by simpa using hy,hv⟩
theorem ET {t:TypeId} {x:Operand} {a:bG Operand} (ho:o.op=.box t x) (hc:ai P ins o=some a) (ha:a.all fun x=>VR ρ (ρa x) (ρc x)) (hH:HR ρ H nx w.heap)
  (h:cm (a.map (Av ρa)) P T L H nx k=some r):Good P w ρ H nx r k (execOp ρc o):=by
 have he:execOp ρc o=(do pure (.value (← Instr.box t (ρc x)))):=by simp only [execOp,ho]
 simp only [ai,ho] at hc
 cases hc
 have h':fresh H nx (ptrTo nx) k (cellsOf (ρa x))=some r:=h
 rw [mj] at h'
 rw [he]
 exact .made (w':={ w with heap:=w.heap.push (.cells (ρc x).cells t (0,0)) }) hH rfl rfl rfl rfl (cU.K7 (VR.cells ha)) .fresh h' rfl
theorem zo {t:TypeId} {a:bG Operand} (ho:o.op=.alloc t) (hc:ai P ins o=some a) (hH:HR ρ H nx w.heap)
  (h:cm (a.map (Av ρa)) P T L H nx k=some r):Good P w ρ H nx r k (execOp ρc o):=by
 have he:execOp ρc o=(do pure (.value (← Instr.alloc t true (.tuple #[])))):=by simp only [execOp,ho]
 simp only [ai,ho,Option.map_eq_some_iff] at hc
 obtain ⟨zero,hz,rfl⟩:=hc
 have h':fresh H nx (ptrTo nx) k zero=some r:=h
 rw [mj] at h'
 obtain ⟨v,mi,rW⟩:=cY hz
 have Bq:=(eI (ρ:=ρ) hz mi).2
 obtain ⟨BK,_⟩:=gJ (w:=w) mi
 rw [he]
 refine .made (w':={ w with heap:=w.heap.push (.cells v.cells t (0,0)) }) hH rfl rfl rfl rfl (cU.K7 (by rw [← rW];exact Bq)) .fresh h' ?_
 simp only [Instr.alloc,Sem.run_bind,BK,Result.andThen_ok]
 rfl
theorem vz {t:TypeId} {x:Option Operand} {a:bG Operand} (ho:o.op=.makeMap t x) (hc:ai P ins o=some a) (ha:a.all fun x=>VR ρ (ρa x) (ρc x)) (hH:HR ρ H nx w.heap)
  (h:cm (a.map (Av ρa)) P T L H nx k=some r):Good P w ρ H nx r k (execOp ρc o):=by
 have he:execOp ρc o=(do pure (.value (← Instr.makeMap t (x.map ρc)))):=by simp only [execOp,ho]
 simp only [ai,ho] at hc
 split at hc
 ·rename_i kt e hu
  cases hc
  have h':gR T L ((x.map ρa).map Od.aF) 0 (fun _=>dx (at_ nx) H (some (.map [] 0)) fun H=>k (.map (some nx)) H (Nat.succ nx))=some r:=by
   rw [Option.map_map];exact h
  obtain ⟨n,h1,hx⟩:=jn h'
  rw [bQ] at h1
  rw [he]
  refine .Du (b:=.map [] 0) (rf:=⟨w.heap.size,0,0⟩) (w':={ w with heap:=w.heap.push (.map #[] 0) }) hH rfl rfl rfl rfl rfl rfl ⟨#[],by simp,.nil⟩ (.map (r:=⟨w.heap.size,0,0⟩) (bA.dN _ _ _)) h1 ?_
  rcases hx with ⟨hx,_⟩|⟨ki,hx⟩
  ·cases x with
   | none=>rfl
   | some x=>simp at hx
  ·cases x with
   | none=>simp at hx
   | some x=>
    simp only [Option.map_some,Option.some.injEq] at hx
    have hv:VR ρ (ρa x) (ρc x):=ha x rfl
    rw [hx] at hv
    have:=hv.ie
    simp only [Instr.makeMap,Option.map_some,this,Sem.run_bind,run_underlying hu,Result.andThen_ok]
    rfl
 ·cases hc
theorem ml {n:Nat} (h:n≤small):IntKind.i64.wrap (n:Int)=n:=by
 unfold IntKind.wrap IntKind.bits IntKind.signed
 unfold small at h
 have h1:(n:Int) % (2 ^ 64:Int)=n:=by omega
 simp only [h1]
 rw [if_neg]
 simp
 omega
theorem wq {e:TypeId} {z c:Nat} {zero:List Value} (hz:zeroCells P e=some zero) (hl:zero.length=z) :
  ∃zr:Array Value,(∀K:Array Value→Sem Value,(if c * z=0 then (do let zero ← pure #[];K zero) else (do let v ← zeroValue e;let zero ← pure v.cells;K zero):Sem Value).run P w=(K zr).run P w)∧
   (Array.range (c * z)).map (zr[· % zr.size]!)=(a7 zero c).toArray:=by
 obtain ⟨v,mi,rW⟩:=cY hz
 obtain ⟨BK,_⟩:=gJ (w:=w) mi
 subst hl
 by_cases h0:c * zero.length=0
 ·refine ⟨#[],fun K=>by simp only [h0,if_true,Sem.run_pure,Sem.run_bind,Result.andThen_ok],?_⟩
  have:a7 zero c=[]:=by
   apply List.eq_nil_of_length_eq_zero
   rw [ej,h0]
  rw [this,h0]
  simp
 ·refine ⟨v.cells,fun K=>by simp only [if_neg h0,Sem.run_bind,Sem.run_pure,Result.andThen_ok,BK],?_⟩
  have e1:v.cells=zero.toArray:=by rw [rW]
  apply Array.ext'
  rw [e1]
  simp only [Array.toList_map,Array.toList_range,List.size_toArray]
  exact HD zero c
theorem hC {k:IntKind} {n:Int}:(asInt (.int k n)).run P w=.ok n w:=rfl
theorem zp {e:TypeId} {zero:List Value} (hz:zeroCells P e=some zero) (c:Nat):cU ρ (a7 zero c) (a7 zero c):=by
 obtain ⟨v,mi,rW⟩:=cY hz
 exact ((eI (ρ:=ρ) hz mi).2).rep c
theorem r5 {t:TypeId} {x y:Operand} {a:bG Operand} (ho:o.op=.makeSlice t x y) (hc:ai P ins o=some a) (ha:a.all fun x=>VR ρ (ρa x) (ρc x)) (hH:HR ρ H nx w.heap)
  (h:cm (a.map (Av ρa)) P T L H nx k=some r):Good P w ρ H nx r k (execOp ρc o):=by
 have he:execOp ρc o=(do pure (.value (← Instr.makeSlice t (ρc x) (ρc y)))):=by simp only [execOp,ho]
 simp only [ai,ho] at hc
 split at hc
 ·rename_i e hu
  split at hc
  ·rename_i z bytes zero hz hb wu
   cases hl:Nat.beq zero.length z with
   | false=>rw [hl] at hc;cases hc
   | true=>
    rw [hl] at hc
    cases hc
    have pZ:=Nat.eq_of_beq_eq_true hl
    have h':cF (ρa x) (fun l=>cF (ρa y) fun c=>KR z bytes zero H nx l c k)=some r:=h
    obtain ⟨k1,l,e1,h1⟩:=eH h'
    obtain ⟨k2,c,e2,h2⟩:=eH h1
    obtain ⟨K8,h3⟩:=bO h2
    simp only [Bool.and_eq_true] at K8
    obtain ⟨c1,c2,c3,c4⟩:=K8
    have VO:l≤c:=Nat.le_of_ble_eq_true c1
    have zq:c * bytes≤small:=Nat.le_of_ble_eq_true c2
    have sw:c≤small:=Nat.le_of_ble_eq_true c3
    rw [mj] at h3
    obtain ⟨hx,hy⟩:=ha
    have rY:ρc x=.int k1 (.ofNat l):=by rw [e1] at hx;exact hx.ie
    have GH:ρc y=.int k2 (.ofNat c):=by rw [e2] at hy;exact hy.ie
    obtain ⟨i,hi,BQ⟩:=Ew (w:=w) hb
    obtain ⟨zr,mi,rW⟩:=wq (w:=w) (c:=c) wu pZ
    rw [he]
    have lk:(a7 zero c).toArray.size=c * z:=by rw [List.size_toArray,ej,pZ]
    refine .made (w':={ w with heap:=w.heap.push (.cells (a7 zero c).toArray e (0,0)) }) (cs':=(a7 zero c).toArray) hH rfl rfl rfl rfl (cU.K7 (zp wu c)) (by rw [lk];exact .Dv ⟨VO,by unfold small at sw;unfold ei;omega⟩) h3 ?_
    have w1:IntKind.i64.wrap (Int.ofNat l)=(l:Int):=ml (by omega)
    have w2:IntKind.i64.wrap (Int.ofNat c)=(c:Int):=ml sw
    have N9:small=1099511627776:=rfl
    have hbi:((i.bytes:Int) * (c:Int))≤1099511627776:=by
     rw [BQ,Int.mul_comm]
     have:((c * bytes:Nat):Int)≤1099511627776:=by rw [N9] at zq;omega
     simpa using this
    have Dw:((decide ((c:Int) < 0)||decide ((i.bytes:Int) * (c:Int) > 2 ^ 48)||decide ((l:Int) < 0)||decide ((l:Int) > (c:Int)))=true)↔False:=by
     simp only [Bool.or_eq_true,decide_eq_true_eq,iff_false]
     omega
    simp only [Instr.makeSlice,Sem.run_bind,run_underlying hu,Result.andThen_ok,rY,GH,hC,Sem.run_pure,hi,w1,w2]
    rw [if_neg (by rw [Dw];exact fun h=>h)]
    simp only [Sem.run_bind,run_askRoom,Result.andThen_ok,dS hz,Int.toNat_natCast]
    rw [mi]
    simp only [rW,newRow,Sem.run_bind,run_newObj,Sem.run_pure,Result.andThen_ok]
  ·cases hc
 ·cases hc
theorem qn {t:TypeId} {len:Nat} {xs:Array (Nat×Operand)} {a:bG Operand} (ho:o.op=.buildSlice t len xs) (hc:ai P ins o=some a) (ha:a.all fun x=>VR ρ (ρa x) (ρc x)) (hH:HR ρ H nx w.heap)
  (h:cm (a.map (Av ρa)) P T L H nx k=some r):Good P w ρ H nx r k (execOp ρc o):=by
 have he:execOp ρc o=(do pure (.value (← Instr.buildSlice t len (xs.map fun (i,x)=>(i,ρc x))))):=by simp only [execOp,ho]
 have hq:(xs.map fun (i,x)=>(i,ρc x))=(xs.toList.map fun x=>(x.1,ρc x.2)).toArray:=by
  apply Array.ext';simp
 rw [hq] at he
 simp only [ai,ho] at hc
 split at hc
 ·rename_i e hu
  split at hc
  ·rename_i z zero hz wu
   cases hl:(Nat.ble (len * z) 16777216&&Nat.beq zero.length z) with
   | false=>rw [hl] at hc;cases hc
   | true=>
    rw [hl] at hc
    cases hc
    simp only [Bool.and_eq_true] at hl
    have hlz:len * z≤16777216:=Nat.le_of_ble_eq_true hl.1
    have pZ:=Nat.eq_of_beq_eq_true hl.2
    obtain ⟨h1,h2⟩:=rj (z:=z) xs.toList
    have h':dg T L (((eG z xs.toList).map fun x=>(x.1,x.2.1,ρa x.2.2)).map fun x=>(x.1,x.2.1,Od.aF x.2.2)) (fun ps=>bd (eD (a7 zero len) ps) fun cs=>
      cond (Nat.blt 0 z) (fresh H nx (rS nx z len (Nat.succ (Nat.mul 2 len))) k cs) none)=some r:=by
     rw [List.map_map];exact h
    rw [nW] at h'
    obtain ⟨cs,hf,h4⟩:=aO h'
    obtain ⟨sx,hk⟩:=bO h4
    rw [mj] at hk
    have hlm:len≤ei:=by
     have h0:0 < z:=by simpa [Nat.blt_eq] using sx
     have:len * 1≤len * z:=Nat.mul_le_mul_left _ h0
     unfold ei;omega
    obtain ⟨zr,mi,rW⟩:=wq (w:=w) (c:=len) wu pZ
    obtain ⟨c,iU,qi⟩:=nV (ρ:=ρ) (fun i=>some (i * z,z)) ((eG z xs.toList).map fun x=>(x.1,x.2.1,ρa x.2.2)) (xs.toList.map fun x=>(x.1,ρc x.2)) (a7 zero len) cs (a7 zero len).toArray (by simp [h1]) (fun i p q MV MW=>by
     simp only [List.getElem?_map,Option.map_eq_some_iff] at MV MW
     obtain ⟨p',jG,rfl⟩:=MV
     obtain ⟨q',fP,rfl⟩:=MW
     have:=h2 i p' q' jG fP
     subst this
     exact ⟨rfl,ha _ (List.mem_of_getElem? jG)⟩) (zp wu len) hf
    have nu:c.size=len * z:=by
     have g1:=qi.length
     have g2:∀(ps:List (Nat×Nat×Value)) (a b:List Value),eD a ps=some b→b.length=a.length:=by
      intro ps
      induction ps with
      | nil=>intro a b xn;simp [eD] at xn;rw [xn]
      | cons p ps ih=>
       intro a b xn
       obtain ⟨p1,p2,p3⟩:=p
       unfold eD at xn
       cases hb:Nat.beq (cellsOf p3).length p2 with
       | false=>rw [hb] at xn;cases xn
       | true=>
        rw [hb] at xn
        simp only [cond_true] at xn
        cases u3:gA a p1 (cellsOf p3) with
        | none=>simp [u3] at xn
        | some a1=>
         simp [u3] at xn
         rw [ih a1 b xn,(tz _ _ _ _ u3).1]
     have g3:=g2 _ _ _ hf
     rw [ej,pZ] at g3
     simp only [Array.length_toList] at g1
     omega
    rw [he]
    refine .made (w':={ w with heap:=w.heap.push (.cells c e (0,0)) }) (cs':=c) hH rfl rfl rfl rfl (cU.K7 qi) (by rw [nu];exact .Dv ⟨Nat.le_refl _,hlm⟩) hk ?_
    have Xd:¬(len * z > 2 ^ 24):=by omega
    simp only [Instr.buildSlice,Sem.run_bind,run_underlying hu,Result.andThen_ok,dS hz,if_neg Xd]
    rw [mi]
    simp only [rW,iU,newRow,Sem.run_bind,run_newObj,Sem.run_pure,Result.andThen_ok]
  ·cases hc
 ·cases hc
end Go.Eng
