import Derived.Defers
import Derived.Recover
import Derived.KernelRfl
import Derived.Laws.Entries
/- An interpreter of the model's code that follows one order and is proved right for all: part 1. -/

namespace Go.Eng
noncomputable section
inductive Tr (α:Type) where
 | e
 | n (l:Tr α) (v:Option α) (r:Tr α)
def path (f:Nat):Nat→List Bool:=Nat.rec (motive:=fun _=>Nat→List Bool) (fun _=>[])
 (fun _ ih k=>cond (Nat.beq k 0) [] (cond (Nat.beq (Nat.mod k 2) 1) (true::ih (Nat.div k 2)) (false::ih (Nat.sub (Nat.div k 2) 1)))) f
def at_ (k:Nat):List Bool:=path k k
inductive gK where
 | cells (cs:List Value)
 | map (es:List MapEntry) (clock:Nat)
 | ro (cs:List Value)
 | iter (m:Option Nat) (since:Nat) (seen:List Nat) (last:Nat)
abbrev Heap:=Tr gK
inductive Od where
 | loc (d:Nat)
 | var (p:List Bool)
 | aD (v:Value)
 | fn (f:FuncId)
inductive bE (α:Type) where
 | ae (x:α)
 | pick (c a b:α)
 | al (x:α)
 | ext (x:α) (i:Nat)
 | u9 (x:α) (off:Nat) (agg:Option Nat)
 | ar (x:α) (off:Nat)
 | aA (x i:α) (z:Nat)
 | iB (x i:α) (n z:Nat)
 | ix (x i:α) (n z:Nat) (agg:Option Nat)
 | bin (op:BinOp) (t:TypeId) (x y:α)
 | un (op:UnOp) (x:α)
 | wh (s d:TypeId) (x:α)
 | lM (min:Bool) (xs:List α)
 | Hz (t:TypeId) (x i:α)
 | Ca (t:TypeId) (x:α) (lo hi:Option α)
 | dn (neg:Bool) (kd:Nat) (x y:α)
 | eu (zero:List Value) (parts:List (Nat×Nat×α))
 | xF (fn:FuncId) (first cap:List α)
 | zf (t:TypeId) (x:α)
 | Fm (x:α) (t:TypeId) (zero:Value) (ok:Bool)
 | ah (x:α) (agg:Option Nat)
 | len (x:α)
 | zg (x:α)
 | D4 (x:α)
 | cap (x:α)
 | iC (x:α) (lo hi mx:Option α) (z:Nat)
 | Ia (x:α) (lo hi:Option α) (n z:Nat)
 | lN (x k:α) (kt:TypeId) (zero:Value) (ok:Bool)
 | box (x:α)
 | ef (zero:List Value)
 | iF (z bytes:Nat) (zero:List Value) (l c:α)
 | fu (z len:Nat) (zero:List Value) (parts:List (Nat×Nat×α))
 | zz (r:Option α)
 | aY (x v:α) (n:Nat)
 | app (z bytes:Nat) (zero:List Value) (s x:α) (eL:Bool)
 | D5 (z:Nat) (d s:α)
 | LI (x:α) (zero:List Value)
 | HA (m k v:α) (kt:TypeId)
 | Cb (m k:α) (kt:TypeId) (zero:Value)
 | Cc (m s v:α)
 | ins (z bytes:Nat) (s i v:α)
 | call (f:α) (args:List α)
 | inv (x:α) (name:String) (args:List α)
 | oC (f:α) (args:List α)
 | nA (x:α)
 | wi
 | wj (x:α)
 | nxt (x:α)
 | L6 (x:α)
structure AO where
 keep:Option (List Bool)
 guard:Option (Nat×Bool)
 op:bE Od
structure bx where
 guard:Option (Nat×Bool)
 op:bE Od
 d:Nat
inductive a8 where
 | skip
 | aa (dr:Bool) (ops:List (AO×List bx))
 | seq (a b:a8)
 | cond (c:Od) (a b:a8)
 | block (id:Nat) (c:a8)
 | loop (c:a8)
 | exit (id:Nat)
 | ret
structure ao where
 results:List (Od×Option (Option Nat))
 body:a8
inductive cV where
 | ok (v:Value) (H:Heap) (nx:Nat)
 | nA (chain:List PanicEntry) (H:Heap) (nx:Nat)
structure aG where
 P:Program
 funcs:Nat→Option ao
 aF:FuncId→List Value→Heap→Nat→Option cV
inductive Ex where
 | normal
 | exit (id:Nat)
 | ret
 | panic (chain:List PanicEntry)
abbrev eQ:=Value×List Value
structure St where
 T:Tr Value
 D:List eQ
 H:Heap
 nx:Nat
abbrev R0:=Option (Ex×St)
def scalar:Value→Bool
 | .bool _ | .int _ _ | .float _ _ | .complex _ _ _ | .string _ | .nilFunc=>true
 | _=>false
def flat:Value→Bool
 | .agg cs=>cs.toList.all scalar
 | v=>scalar v
def quiet {α:Type} (P:Program):Sem α→Option α
 | .pure a=>some a
 | .program k=>quiet P (k P)
 | _=>none
def take? (n:Nat) (l:List Value):Option (List Value):=
 Nat.rec (motive:=fun _=>List Value→Option (List Value)) (fun _=>some []) (fun _ ih l=>List.rec none (fun c cs _=>Option.rec none (fun r=>some (c::r)) (ih cs)) l) n l
def dH (l:List Value) (n:Nat):List Value:=
 List.rec (motive:=fun _=>Nat→List Value) (fun _=>[]) (fun c l ih k=>Nat.rec (c::l) (fun k _=>ih k) k) l n
def dS:List Value→List Value→Option (List Value)
 | cs,[]=>some cs
 | _::cs,v::vs=>match dS cs vs with
  | some r=>some (v::r)
  | none=>none
 | [],_::_=>none
def gu (cs:List Value) (o:Nat) (vs:List Value):Option (List Value):=
 Nat.rec (motive:=fun _=>List Value→Option (List Value)) (fun cs=>dS cs vs) (fun _ ih cs=>List.rec none (fun c cs _=>Option.rec none (fun r=>some (c::r)) (ih cs)) cs) o cs
def cellsOf:Value→List Value
 | .agg cs=>cs.toList
 | v=>[v]
def wk (l:List Value):Option Value:=List.rec none (fun c _ _=>some c) l
def Ib (o:Option (List Value)):Option Value:=Option.rec none (fun l=>some (.agg l.toArray)) o
def partOf (cs:List Value) (off:Nat) (agg:Option Nat):Option Value:=
 Option.rec (wk (dH cs off)) (fun n=>Ib (take? n (dH cs off))) agg
def ew (cells:List Value):List (Nat×Nat×Value)→Option (List Value)
 | []=>some cells
 | (off,size,v)::rest=>bif Nat.beq (cellsOf v).length size then match gu cells off (cellsOf v) with
   | some Pg=>ew Pg rest
   | none=>none
  else none
def aU (zero:List Value) (n:Nat):List Value:=Nat.rec [] (fun _ ih=>zero++ih) n
def au (c:Nat):Nat:=Nat.div c 2
def exact (c:Nat):Bool:=Nat.beq (Nat.mod c 2) 1
def small:Nat:=1099511627776
def cz:Nat→Value→Option Bool
 | 0,.pointer none=>some true
 | 0,.pointer (some _)=>some false
 | 1,.slice none _ _=>some true
 | 1,.slice (some _) _ _=>some false
 | 2,.map none=>some true
 | 2,.map (some _)=>some false
 | 3,.nilFunc=>some true
 | 3,.func _ _ _=>some false
 | 4,.nilIface=>some true
 | 4,.iface _ _=>some false
 | _,_=>none
def marked:List MapEntry→Nat→List MapEntry
 | [],_=>[]
 | e::es,i=>{ e with val:=.int .i64 i }::marked es (i + 1)
def sS:Value→Value→Bool
 | .bool a,.bool b=>cond a b (not b)
 | .int j a,.int k b=>decide (j=k)&&decide (a=b)
 | .string a,.string b=>decide (a=b)
 | _,_=>false
def sT:List Value→List Value→Bool
 | [],[]=>true
 | a::as,b::bs=>sS a b&&sT as bs
 | _,_=>false
def sU:Value→Value→Bool
 | .agg a,.agg b=>sT a.toList b.toList
 | a,b=>sS a b
def sV:List MapEntry→Nat→Value→Bool
 | [],_,_=>false
 | e::_,0,k=>sU e.key k
 | _::es,i + 1,k=>sV es i k
def findAt (P:Program) (emp:Bool) (kt:TypeId) (k:Value) (es:List MapEntry):Option (Option Nat):=
 bif flat k&&es.all (fun e=>flat e.key) then match quiet P (Instr.checkKey emp 10000 kt k) with
  | some ()=>match quiet P (Instr.findKey kt k (marked es 0)) with
   | some (some (i,_))=>bif sV es i k then some (some i) else none
   | some none=>some none
   | none=>none
  | none=>none
 else none
def eU:List MapEntry→Nat→Option MapEntry
 | [],_=>none
 | e::_,0=>some e
 | _::es,i + 1=>eU es i
def jj:List MapEntry→Nat→Nat→Option Nat
 | [],_,_=>none
 | e::es,b,i=>bif Nat.beq e.born b then some i else jj es b (i + 1)
def gQ:List MapEntry→Nat→Value→List MapEntry
 | [],_,_=>[]
 | e::es,0,v=>{ e with val:=v }::es
 | e::es,i + 1,v=>e::gQ es i v
def ey:Value→Value→Bool
 | .bool a,.bool b=>cond a b (not b)
 | .int j a,.int k b=>decide (j=k)&&decide (a=b)
 | .pointer none,.pointer none=>true
 | .pointer (some a),.pointer (some b)=>decide (a=b)
 | .slice none a b,.slice none c d=>Nat.beq a c&&Nat.beq b d
 | .slice (some p) a b,.slice (some q) c d=>decide (p=q)&&Nat.beq a c&&Nat.beq b d
 | .map none,.map none=>true
 | .map (some a),.map (some b)=>Nat.beq a b
 | _,_=>false
def L7:List Value→List Value→Bool
 | [],[]=>true
 | a::as,b::bs=>ey a b&&L7 as bs
 | _,_=>false
def jK:Value→Value→Bool
 | .agg a,.agg b=>L7 a.toList b.toList
 | a,b=>ey a b
def D6 (op:BinOp) (a b:Nat):Option Value:=match op with
 | .add=>cond (Nat.blt (Nat.add a b) 2147483648) (some (.int .i64 (.ofNat (Nat.add a b)))) none
 | .sub=>cond (Nat.ble b a) (cond (Nat.blt a 2147483648) (some (.int .i64 (.ofNat (Nat.sub a b)))) none) none
 | .mul=>cond (Nat.blt (Nat.mul a b) 2147483648) (some (.int .i64 (.ofNat (Nat.mul a b)))) none
 | .eql=>some (.bool (Nat.beq a b))
 | .neq=>some (.bool (not (Nat.beq a b)))
 | .lss=>some (.bool (Nat.blt a b))
 | .leq=>some (.bool (Nat.ble a b))
 | .gtr=>some (.bool (Nat.blt b a))
 | .geq=>some (.bool (Nat.ble b a))
 | _=>none
def sk (op:BinOp):Option Value:=match op with
 | .eql=>some (.bool false)
 | .neq=>some (.bool true)
 | _=>none
def vn (op:BinOp) (x y:Value):Option Value:=match x,y with
 | .int .i64 (.ofNat a),.int .i64 (.ofNat b)=>D6 op a b
 | .int .i64 (.ofNat _),.int .i64 (.negSucc _)=>sk op
 | .int .i64 (.negSucc _),.int .i64 (.ofNat _)=>sk op
 | _,_=>none
def WY:Value→Bool
 | .nilIface=>false
 | _=>true
def zh (lo hi:Nat):Value:=.chan (some (Nat.add (Nat.mul lo 18446744073709551616) hi))
def zA (k:Nat):Nat:=Nat.div k 18446744073709551616
def wm (k:Nat):Nat:=Nat.mod k 18446744073709551616
def ej:Value→Bool
 | .chan (some _)=>true
 | _=>false
def cd:Value→Option (Nat×Nat)
 | .int .i64 (.ofNat n)=>some (n,n)
 | .chan (some k)=>some (zA k,wm k)
 | _=>none
def lY (op:BinOp) (a b c d:Nat):Option Value:=match op with
 | .add=>bif Nat.blt (Nat.add b d) 9223372036854775808 then some (zh (Nat.add a c) (Nat.add b d)) else none
 | .leq=>bif Nat.ble b c then some (.bool true) else bif Nat.blt d a then some (.bool false) else none
 | .gtr=>bif Nat.ble b c then some (.bool false) else bif Nat.blt d a then some (.bool true) else none
 | .lss=>bif Nat.blt b c then some (.bool true) else bif Nat.ble d a then some (.bool false) else none
 | .geq=>bif Nat.blt b c then some (.bool false) else bif Nat.ble d a then some (.bool true) else none
 | _=>none
def sW (op:BinOp) (x y:Value):Option Value:=bif ej x||ej y then match cd x,cd y with
  | some (a,b),some (c,d)=>lY op a b c d
  | _,_=>none
 else none
def p6 (mn:Bool) (xs:List Value):Option Value:=match mn,xs with
 | true,[x,y]=>bif ej x||ej y then match cd x,cd y with
   | some (a,b),some (c,d)=>some (zh (Nat.min a c) (Nat.min b d))
   | _,_=>none
  else none
 | _,_=>none
def ko (P:Program) (op:BinOp) (t:TypeId) (x y:Value):Option Value:=
 bif flat x&&flat y then match quiet P (do eqGuard op t (.const x) (.const y) x y;binOp op t x y) with
  | some v=>bif flat v then some v else none
  | none=>none
 else sW op x y
def gy (P:Program) (xs:List Value) (s:Sem Value):Option Value:=
 bif xs.all flat then match quiet P s with
  | some v=>bif flat v then some v else none
  | none=>none
 else none
def xG (P:Program) (t:TypeId):Option (Option Nat):=match P.info? t,P.underlying t with
 | some i,some (.struct _)|some i,some (.array _ _)=>some (some i.size)
 | some _,some _=>some none
 | _,_=>none
def methodOf (P:Program) (t:TypeId) (name:String):Option (FuncId×Option (Option Nat)):=match P.info? t with
 | some i=>match i.methods.toList.find? (·.name == name) with
  | some m=>bif m.path.isEmpty then match m.func,P.underlying t with
    | some (f,true),some (.pointer _)=>some (f,none)
    | some (f,false),some (.pointer e)=>match xG P e with
     | some a=>some (f,some a)
     | none=>none
    | some (f,false),some _=>some (f,none)
    | _,_=>none
   else none
  | none=>none
 | none=>none
def oneOf:List Value→Value
 | [v]=>v
 | vs=>.tuple vs.toArray
def XX {α:Type} (v:Option α) (gl gr:List Bool→Option α) (p:List Bool):Option α:=List.rec v (fun b p _=>cond b (gl p) (gr p)) p
def XY {α:Type} (_:List Bool):Option α:=none
def ak {α:Type} (t:Tr α):List Bool→Option α:=Tr.rec XY (fun _ v _ gl gr=>XX v gl gr) t
abbrev SP (α:Type):=Tr α→Option α→(Tr α→R0)→R0
def XZ {α:Type} (t:Tr α) (x:Option α) (k:Tr α→R0):R0:=Tr.rec (k (.n .e x .e)) (fun l _ r _ _=>k (.n l x r)) t
def Ti {α:Type} (b:Bool) (ih:SP α) (x:Option α) (k:Tr α→R0):R0:=cond b (ih .e x fun l=>k (.n l none .e)) (ih .e x fun r=>k (.n .e none r))
def Tj {α:Type} (b:Bool) (ih:SP α) (x:Option α) (k:Tr α→R0) (l:Tr α) (v:Option α) (r:Tr α):R0:=cond b (ih l x fun l=>k (.n l v r)) (ih r x fun r=>k (.n l v r))
def L8 {α:Type} (b:Bool) (ih:SP α) (t:Tr α) (x:Option α) (k:Tr α→R0):R0:=Tr.rec (Ti b ih x k) (fun l v r _ _=>Tj b ih x k l v r) t
def cQ {α:Type} (p:List Bool):SP α:=List.rec XZ (fun b _ ih=>L8 b ih) p
def bd {α β:Type} (o:Option α) (f:α→Option β):Option β:=Option.rec none f o
abbrev KV:=Value→R0
def vo (L:List Value) (d:Nat) (k:KV):R0:=List.rec (motive:=fun _=>Nat→R0) (fun _=>none) (fun v _ ih d=>Nat.rec (k v) (fun d _=>ih d) d) L d
def fnK (f:FuncId) (k:KV):R0:=k (.func (.func f) #[] #[])
def aS (T:Tr Value) (L:List Value) (x:Od) (k:KV):R0:=Od.rec (fun d=>vo L d k) (fun p=>bd (ak T p) k) k (fun f=>fnK f k) x
def cH (T:Tr Value) (L:List Value) (xs:List Od):(List Value→R0)→R0:=
 List.rec (motive:=fun _=>(List Value→R0)→R0) (fun k=>k []) (fun x _ ih k=>aS T L x fun v=>ih fun vs=>k (v::vs)) xs
def Ic (T:Tr Value) (L:List Value) (x:Nat×Nat×Od) (k:Nat×Nat×Value→R0):R0:=Prod.rec (fun a r=>Prod.rec (fun b x=>aS T L x fun v=>k (a,b,v)) r) x
def cW (T:Tr Value) (L:List Value) (xs:List (Nat×Nat×Od)):(List (Nat×Nat×Value)→R0)→R0:=
 List.rec (motive:=fun _=>(List (Nat×Nat×Value)→R0)→R0) (fun k=>k []) (fun x _ ih k=>Ic T L x fun v=>ih fun vs=>k (v::vs)) xs
def dd (v:Value) (k:Nat→Nat→R0):R0:=match v with
 | .pointer (some ⟨b,o,none⟩)=>k b o
 | _=>none
def cx (v:Value) (k:Nat→R0):R0:=match v with
 | .int _ (.ofNat n)=>k n
 | _=>none
def lA (v:Value) (k:Nat→R0):R0:=match v with
 | .int .i64 (.ofNat n)=>k n
 | _=>none
def nB (v:Value) (k:List Value→R0):R0:=match v with
 | .agg cs=>k cs.toList
 | _=>none
def nN (v:Value) (k:Nat→Nat→Nat→Nat→Nat→R0):R0:=match v with
 | .slice (some ⟨b,o,some z⟩) len c=>k b o z len c
 | _=>none
def fx (v:Value) (a b:R0):R0:=match v with
 | .bool t=>cond t a b
 | _=>none
def sm (b:Option gK) (k:List Value→R0):R0:=Option.rec none (fun b=>gK.rec k (fun _ _=>none) (fun _=>none) (fun _ _ _ _=>none) b) b
def onRead (b:Option gK) (k:List Value→R0):R0:=Option.rec none (fun b=>gK.rec k (fun _ _=>none) k (fun _ _ _ _=>none) b) b
def eZ (b:Option gK) (k:List MapEntry→Nat→R0):R0:=Option.rec none (fun b=>gK.rec (fun _=>none) k (fun _=>none) (fun _ _ _ _=>none) b) b
def dy (H:Heap) (b:Nat) (k:List Value→R0):R0:=sm (ak H (at_ b)) k
def cr (H:Heap) (b:Nat) (k:List Value→R0):R0:=onRead (ak H (at_ b)) k
def oI (H:Heap) (v:Value) (k:Nat→List MapEntry→Nat→R0):R0:=match v with
 | .map (some r)=>eZ (ak H (at_ r)) (k r)
 | _=>none
def fI (T:Tr Value) (L:List Value) (x:Option Od) (X0:Nat) (k:Nat→R0):R0:=Option.rec (k X0) (fun x=>aS T L x fun v=>cx v k) x
abbrev LK:=Program→Tr Value→List Value→Heap→KV→R0
def Tk (x:Od):LK:=fun _ T L _ k=>aS T L x k
def NR (c a b:Od):LK:=fun _ T L _ k=>aS T L c fun c=>fx c (aS T L a k) (aS T L b k)
def sX (v:Value) (k:KV):R0:=match v with
 | .pointer (some a)=>k (.pointer (some a))
 | .func (.func f) a b=>k (.func (.func f) a b)
 | _=>none
def Ie (x:Od):LK:=fun _ T L _ k=>aS T L x fun v=>sX v k
def Ig (v:Value) (i:Nat) (k:KV):R0:=match v with
 | .tuple vs=>vo vs.toList i k
 | _=>none
def Tl (x:Od) (i:Nat):LK:=fun _ T L _ k=>aS T L x fun v=>Ig v i k
def Tm (x:Od) (off:Nat) (agg:Option Nat):LK:=fun _ T L _ k=>aS T L x fun v=>nB v fun cs=>bd (partOf cs off agg) k
def D7 (b o:Nat) (k:KV):R0:=k (.pointer (some ⟨b,o,none⟩))
def Tn (x:Od) (off:Nat):LK:=fun _ T L _ k=>aS T L x fun v=>dd v fun b o=>D7 b (Nat.add o off) k
def Ph (z n:Nat) (k:KV) (b o z' len _c:Nat):R0:=cond (and (Nat.blt n len) (Nat.beq z z')) (D7 b (Nat.add o (Nat.mul n z)) k) none
def To (x i:Od) (z:Nat):LK:=fun _ T L _ k=>aS T L x fun v=>aS T L i fun i=>cx i fun n=>nN v (Ph z n k)
def Pj (n len z:Nat) (k:KV) (b o:Nat):R0:=cond (Nat.blt n len) (D7 b (Nat.add o (Nat.mul n z)) k) none
def Tp (x i:Od) (len z:Nat):LK:=fun _ T L _ k=>aS T L x fun v=>aS T L i fun i=>cx i fun n=>dd v (Pj n len z k)
def lIx (x i:Od) (len z:Nat) (agg:Option Nat):LK:=fun _ T L _ k=>aS T L x fun v=>aS T L i fun i=>cx i fun n=>nB v fun cs=>cond (Nat.blt n len) (bd (partOf cs (Nat.mul n z) agg) k) none
def eA (P:Program) (op:BinOp) (t:TypeId) (x y:Value) (k:KV):R0:=Option.rec (bd (ko P op t x y) k) k (vn op x y)
def Tq (op:BinOp) (t:TypeId) (x y:Od):LK:=fun P T L _ k=>aS T L x fun a=>aS T L y fun b=>eA P op t a b k
def lUn (op:UnOp) (x:Od):LK:=fun P T L _ k=>aS T L x fun v=>bd (gy P [v] (Op.unary op v)) k
def Ts (s d:TypeId) (x:Od):LK:=fun P T L _ k=>aS T L x fun v=>bd (gy P [v] (convert s d v)) k
def vp (P:Program) (mn:Bool) (vs:List Value):Option Value:=Option.rec (gy P vs (cond mn (Builtin.min_ #[] 0 vs.toArray) (Builtin.max_ #[] 0 vs.toArray))) some (p6 mn vs)
def Tt (mn:Bool) (xs:List Od):LK:=fun P T L _ k=>cH T L xs fun vs=>bd (vp P mn vs) k
def Tu (t:TypeId) (x i:Od):LK:=fun P T L _ k=>aS T L x fun v=>aS T L i fun i=>bd (gy P [v,i] (Instr.index t v i)) k
def vq (T:Tr Value) (L:List Value) (x:Option Od) (k:Option Value→R0):R0:=Option.rec (k none) (fun x=>aS T L x fun v=>k (some v)) x
def Tv (t:TypeId) (x:Od) (lo hi:Option Od):LK:=fun P T L _ k=>aS T L x fun v=>vq T L lo fun l=>vq T L hi fun h=>bd (gy P (v::(l.toList++h.toList)) (Instr.slice t v l h none)) k
def xH (neg:Bool) (kd:Nat) (x y:Value) (k:KV):R0:=bd (cz kd x) fun a=>bd (cz kd y) fun b=>cond (or a b) (k (.bool (xor neg (and a b)))) none
def Ih (neg:Bool) (kd:Nat) (x y:Od):LK:=fun _ T L _ k=>aS T L x fun a=>aS T L y fun b=>xH neg kd a b k
def Tw (zero:List Value) (parts:List (Nat×Nat×Od)):LK:=fun _ T L _ k=>cW T L parts fun ps=>bd (ew zero ps) fun cs=>k (.agg cs.toArray)
def Tx (f:FuncId) (first cp:List Od):LK:=fun _ T L _ k=>cH T L first fun a=>cH T L cp fun b=>k (.func (.func f) a.toArray b.toArray)
def Ty (t:TypeId) (x:Od):LK:=fun _ T L _ k=>aS T L x fun v=>k (.iface t v)
def L9 (t:TypeId) (zero:Value) (ok:Bool) (k:KV) (v:Value):R0:=match v with
 | .nilIface=>cond ok (k (.tuple #[zero,.bool false])) none
 | .iface t' v=>cond (Nat.beq t' t) (k (cond ok (.tuple #[v,.bool true]) v)) (cond ok (k (.tuple #[zero,.bool false])) none)
 | _=>none
def Tz (x:Od) (t:TypeId) (zero:Value) (ok:Bool):LK:=fun _ T L _ k=>aS T L x (L9 t zero ok k)
def TA (x:Od) (agg:Option Nat):LK:=fun _ T L H k=>aS T L x fun v=>dd v fun b o=>cr H b fun cs=>bd (partOf cs o agg) k
def Ii (v:Value) (k:KV):R0:=match v with
 | .slice _ n _=>k (.int .i64 (.ofNat n))
 | _=>none
def TB (x:Od):LK:=fun _ T L _ k=>aS T L x fun v=>Ii v k
def Ij (v:Value) (k:KV):R0:=match v with
 | .string s=>k (.int .i64 (.ofNat s.size))
 | _=>none
def TC (x:Od):LK:=fun _ T L _ k=>aS T L x fun v=>Ij v k
def xI (H:Heap) (v:Value) (k:KV):R0:=match v with
 | .map none=>k (.int .i64 (.ofNat 0))
 | .map (some r)=>eZ (ak H (at_ r)) fun es _=>k (.int .i64 (.ofNat es.length))
 | _=>none
def TD (x:Od):LK:=fun _ T L H k=>aS T L x fun v=>xI H v k
def zB (v:Value) (k:KV):R0:=match v with
 | .slice none _ _=>k (.int .i64 (.ofNat 0))
 | .slice (some _) _ c=>cond (exact c) (k (.int .i64 (.ofNat (au c)))) (k (zh (au c) 9223372036854775807))
 | _=>none
def TE (x:Od):LK:=fun _ T L _ k=>aS T L x fun v=>zB v k
def Fo (T:Tr Value) (L:List Value) (mx:Option Od) (k:KV) (b o z l h c:Nat):R0:=
 Option.rec (k (.slice (some ⟨b,Nat.add o (Nat.mul l z),some z⟩) (Nat.sub h l) (Nat.sub c (Nat.mul 2 l))))
  (fun m=>aS T L m fun m=>cx m fun m=>cond (and (Nat.ble h m) (Nat.ble m (au c))) (k (.slice (some ⟨b,Nat.add o (Nat.mul l z),some z⟩) (Nat.sub h l) (Nat.succ (Nat.mul 2 (Nat.sub m l))))) none) mx
def vr (T:Tr Value) (L:List Value) (lo hi mx:Option Od) (z:Nat) (k:KV) (v:Value):R0:=match v with
 | .slice none _ _=>fI T L lo 0 fun l=>fI T L hi 0 fun h=>cond (and (Nat.beq l 0) (and (Nat.beq h 0) mx.isNone)) (k (.slice none 0 0)) none
 | .slice (some ⟨_,_,none⟩) 0 _=>fI T L lo 0 fun l=>fI T L hi 0 fun h=>cond (and (Nat.beq l 0) (and (Nat.beq h 0) mx.isNone)) (k (.slice (some ⟨0,0,none⟩) 0 1)) none
 | .slice (some ⟨b,o,some z'⟩) len c=>fI T L lo 0 fun l=>fI T L hi len fun h=>cond (and (Nat.beq z z') (and (Nat.ble l h) (Nat.ble h (au c)))) (Fo T L mx k b o z l h c) none
 | _=>none
def TF (x:Od) (lo hi mx:Option Od) (z:Nat):LK:=fun _ T L _ k=>aS T L x (vr T L lo hi mx z k)
def TG (x:Od) (lo hi:Option Od) (n z:Nat):LK:=fun _ T L _ k=>aS T L x fun v=>dd v fun b o=>fI T L lo 0 fun l=>fI T L hi n fun h=>
 cond (and (Nat.ble l h) (and (Nat.ble h n) (Nat.blt 0 z))) (k (.slice (some ⟨b,Nat.add o (Nat.mul l z),some z⟩) (Nat.sub h l) (Nat.succ (Nat.mul 2 (Nat.sub n l))))) none
def Sp (ok:Bool) (v:Value) (b:Bool):Value:=cond ok (.tuple #[v,.bool b]) v
def TH (es:List MapEntry) (zero:Value) (ok:Bool) (k:KV) (i:Option Nat):R0:=Option.rec (k (Sp ok zero false)) (fun i=>bd (eU es i) fun e=>k (Sp ok e.val true)) i
def vt (P:Program) (kt:TypeId) (zero:Value) (ok:Bool) (H:Heap) (key:Value) (k:KV) (m:Value):R0:=match m with
 | .map none=>cond (flat key) (bd (quiet P (Instr.checkKey true 10000 kt key)) fun _=>k (Sp ok zero false)) none
 | .map (some r)=>eZ (ak H (at_ r)) fun es _=>bd (findAt P es.isEmpty kt key es) (TH es zero ok k)
 | _=>none
def TI (m key:Od) (kt:TypeId) (zero:Value) (ok:Bool):LK:=fun P T L H k=>aS T L m fun m=>aS T L key fun key=>vt P kt zero ok H key k m
def vw:LK:=fun _ _ _ _ _=>none
abbrev KA:=Value→Heap→Nat→R0
abbrev AK:=Program→Tr Value→List Value→Heap→Nat→KA→R0
def dI (f:LK):AK:=fun P T L H nx k=>f P T L H fun v=>k v H nx
def lO (H:Heap) (nx b:Nat) (v:Value) (k:KA) (cs:List Value):R0:=cQ (at_ b) H (some (.cells cs)) fun H=>k v H nx
def fresh (H:Heap) (nx:Nat) (v:Value) (k:KA) (cs:List Value):R0:=cQ (at_ nx) H (some (.cells cs)) fun H=>k v H (Nat.succ nx)
def ptrTo (nx:Nat):Value:=.pointer (some ⟨nx,0,none⟩)
def rO (nx z len c:Nat):Value:=.slice (some ⟨nx,0,some z⟩) len c
def X1 (x:Od):AK:=fun _ T L H nx k=>aS T L x fun v=>fresh H nx (ptrTo nx) k (cellsOf v)
def X2 (zero:List Value):AK:=fun _ _ _ H nx k=>fresh H nx (ptrTo nx) k zero
def Ma (z bytes:Nat) (zero:List Value) (H:Heap) (nx l c:Nat) (k:KA):R0:=
 cond (and (Nat.ble l c) (and (Nat.ble (Nat.mul c bytes) small) (and (Nat.ble c small) (Nat.blt 0 z)))) (fresh H nx (rO nx z l (Nat.succ (Nat.mul 2 c))) k (aU zero c)) none
def X3 (z bytes:Nat) (zero:List Value) (l c:Od):AK:=fun _ T L H nx k=>aS T L l fun l=>cx l fun l=>aS T L c fun c=>cx c fun c=>Ma z bytes zero H nx l c k
def X4 (z len:Nat) (zero:List Value) (parts:List (Nat×Nat×Od)):AK:=fun _ T L H nx k=>cW T L parts fun ps=>bd (ew (aU zero len) ps) fun cs=>
 cond (Nat.blt 0 z) (fresh H nx (rO nx z len (Nat.succ (Nat.mul 2 len))) k cs) none
def X5 (r:Option Od):AK:=fun _ T L H nx k=>fI T L r 0 fun _=>cQ (at_ nx) H (some (.map [] 0)) fun H=>k (.map (some nx)) H (Nat.succ nx)
def sY (l:List Value):Nat→Value→(List Value→R0)→R0:=
 List.rec (motive:=fun _=>Nat→Value→(List Value→R0)→R0) (fun _ _ _=>none) (fun c l ih o v k=>Nat.rec (k (v::l)) (fun o _=>ih o v fun l=>k (c::l)) o) l
def Mb (H:Heap) (nx b o:Nat) (cs old:List Value) (k:KA):R0:=
 List.rec none (fun c r _=>List.rec (sY old o c (lO H nx b undef k)) (fun _ _ _=>bd (gu old o cs) (lO H nx b undef k)) r) cs
def p7:Value→Bool
 | .agg _ | .tuple _=>false
 | _=>true
def br (l:List Value):Bool:=List.rec true (fun v _ ih=>cond (p7 v) ih false) l
def Fp (H:Heap) (nx n:Nat) (cs:List Value) (k:KA) (b o:Nat):R0:=cond (and (Nat.beq cs.length n) (br cs)) (dy H b fun old=>Mb H nx b o cs old k) none
def X6 (x v:Od) (n:Nat):AK:=fun _ T L H nx k=>aS T L x fun x=>aS T L v fun v=>dd x (Fp H nx n (cellsOf v) k)
def iK (H:Heap) (z:Nat) (k:Nat→List Value→R0) (v:Value):R0:=match v with
 | .slice none _ _=>k 0 []
 | .slice (some ⟨_,_,none⟩) 0 _=>k 0 []
 | .slice (some ⟨b,o,some z'⟩) n _=>cond (Nat.beq z z') (cond (Nat.beq n 0) (k 0 []) (cr H b fun cs=>bd (take? (Nat.mul n z) (dH cs o)) fun cs=>k n cs)) none
 | _=>none
def dg (z bytes:Nat) (H:Heap) (nx:Nat) (k:KA) (len n:Nat) (old new:List Value):R0:=
 cond (and (Nat.ble (Nat.mul (Nat.add len n) bytes) small) (Nat.ble (Nat.add len n) small)) (fresh H nx (rO nx z (Nat.add len n) (Nat.mul 2 (Nat.add len n))) k (old++new)) none
def kO (z bytes:Nat) (H:Heap) (nx:Nat) (k:KA) (b o len c n:Nat) (new:List Value):R0:=
 dy H b fun cs=>bd (take? (Nat.mul len z) (dH cs o)) fun old=>
  cond (exact c) (dg z bytes H nx k len n old new) (cQ (at_ b) H none fun H=>dg z bytes H nx k len n old new)
def lB (cs:List Value) (o:Nat) (vs:List Value):Option (List Value):=Option.rec (cond (Nat.beq cs.length o) (some (cs++vs)) none) some (gu cs o vs)
def oJ (z:Nat) (H:Heap) (nx:Nat) (k:KA) (b o len c n:Nat) (new:List Value):R0:=
 dy H b fun cs=>bd (lB cs (Nat.add o (Nat.mul len z)) new) (lO H nx b (.slice (some ⟨b,o,some z⟩) (Nat.add len n) c) k)
def p8 (z bytes:Nat) (H:Heap) (nx:Nat) (k:KA) (s:Value) (n:Nat) (new:List Value):R0:=match s with
 | .slice none _ _=>cond (Nat.beq n 0) (k (.slice none 0 0) H nx) (cond (Nat.blt 0 z) (dg z bytes H nx k 0 n [] new) none)
 | .slice (some ⟨b,o,some z'⟩) len c=>cond (and (Nat.beq z z') (and (Nat.blt 0 z) (br new)))
   (cond (Nat.beq n 0) (k (.slice (some ⟨b,o,some z⟩) len c) H nx) (cond (Nat.ble (Nat.add len n) (au c)) (oJ z H nx k b o len c n new) (kO z bytes H nx k b o len c n new))) none
 | _=>none
def TJ (bytes:Nat) (zero:List Value) (k:Nat→List Value→R0) (n:Nat):R0:=cond (and (Nat.ble n small) (Nat.ble (Nat.mul n bytes) small)) (k n (aU zero n)) none
def xJ (z bytes:Nat) (zero:List Value) (eL:Bool) (H:Heap) (x:Value) (k:Nat→List Value→R0):R0:=cond eL (cx x (TJ bytes zero k)) (iK H z k x)
def X7 (z bytes:Nat) (zero:List Value) (s x:Od) (eL:Bool):AK:=fun _ T L H nx k=>aS T L s fun s=>aS T L x fun x=>xJ z bytes zero eL H x (p8 z bytes H nx k s)
def X8 (z:Nat) (H:Heap) (nx:Nat) (k:KA) (n:Nat) (cs:List Value) (b o z' len _c:Nat):R0:=cond (Nat.beq z z')
 (cond (Nat.beq (Nat.min n len) 0) (k (.int .i64 (.ofNat 0)) H nx) (bd (take? (Nat.mul (Nat.min n len) z) cs) fun cs=>cond (br cs) (dy H b fun old=>bd (gu old o cs) (lO H nx b (.int .i64 (.ofNat (Nat.min n len))) k)) none)) none
def Mc (z:Nat) (H:Heap) (nx:Nat) (k:KA) (d:Value) (n:Nat) (cs:List Value):R0:=match d with
 | .slice none _ _=>k (.int .i64 (.ofNat 0)) H nx
 | d=>nN d (X8 z H nx k n cs)
def X9 (z:Nat) (d s:Od):AK:=fun _ T L H nx k=>aS T L d fun d=>aS T L s fun s=>iK H z (Mc z H nx k d) s
def Md (zero:List Value) (H:Heap) (nx:Nat) (k:KA) (x:Value):R0:=match x with
 | .slice none _ _=>k undef H nx
 | .slice (some ⟨b,o,some z⟩) n _=>cond (Nat.beq n 0) (k undef H nx) (cond (and (Nat.beq z zero.length) (br zero)) (dy H b fun cs=>bd (gu cs o (aU zero n)) (lO H nx b undef k)) none)
 | _=>none
def Ya (x:Od) (zero:List Value):AK:=fun _ T L H nx k=>aS T L x fun x=>Md zero H nx k x
def e6 (es:List MapEntry) (c:Nat) (key v:Value):gK:=.map (es++[{ key,val:=v,born:=c }]) (Nat.succ c)
def Yb (m key v:Od) (kt:TypeId):AK:=fun P T L H nx k=>aS T L m fun m=>aS T L key fun key=>aS T L v fun v=>oI H m fun r es c=>
 bd (findAt P false kt key es) fun i=>Option.rec (cQ (at_ r) H (some (e6 es c key v)) fun H=>k undef H nx) (fun i=>cQ (at_ r) H (some (.map (gQ es i v) c)) fun H=>k undef H nx) i
def Yc (m key:Od) (kt:TypeId) (zero:Value):AK:=fun P T L H nx k=>aS T L m fun m=>aS T L key fun key=>oI H m fun r es c=>
 bd (findAt P false kt key es) fun i=>Option.rec (cQ (at_ r) H (some (e6 es c key zero)) fun H=>k (.tuple #[zero,.int .i64 (.ofNat c)]) H nx)
  (fun i=>bd (eU es i) fun e=>k (.tuple #[e.val,.int .i64 (.ofNat e.born)]) H nx) i
def Yd (m s v:Od):AK:=fun _ T L H nx k=>aS T L m fun m=>aS T L s fun s=>cx s fun b=>aS T L v fun v=>oI H m fun r es c=>
 bd (jj es b 0) fun i=>cQ (at_ r) H (some (.map (gQ es i v) c)) fun H=>k undef H nx
def Pk (z bytes:Nat) (H:Heap) (nx:Nat) (k:KA) (i:Nat) (b o z1 len _c b2 o2 z2 m _c2:Nat):R0:=
 cond (and (Nat.beq z z1) (and (Nat.beq z z2) (and (Nat.blt 0 z) (and (Nat.blt 0 m) (and (Nat.ble i len) (not (Nat.beq b b2)))))))
  (dy H b fun cs=>dy H b2 fun gR=>bd (take? (Nat.mul len z) (dH cs o)) fun old=>bd (take? (Nat.mul m z) (dH gR o2)) fun new=>bd (take? (Nat.mul i z) old) fun front=>
   cond (and (br old) (br new)) (cQ (at_ b) H none fun H=>dg z bytes H nx k len m front (new++dH old (Nat.mul i z))) none) none
def Me (z bytes:Nat) (H:Heap) (nx:Nat) (k:KA) (i:Nat) (b2 o2 z2 m _c2:Nat):R0:=
 cond (and (Nat.beq z z2) (and (Nat.blt 0 z) (and (Nat.blt 0 m) (Nat.beq i 0))))
  (dy H b2 fun gR=>bd (take? (Nat.mul m z) (dH gR o2)) fun new=>cond (br new) (cQ (at_ nx) H none fun H=>dg z bytes H nx k 0 m [] new) none) none
def xK (z bytes:Nat) (H:Heap) (nx:Nat) (k:KA) (i:Nat) (s v:Value):R0:=match s with
 | .slice none _ _=>nN v (Me z bytes H nx k i)
 | s=>nN s fun b o z1 len c=>nN v (Pk z bytes H nx k i b o z1 len c)
def Ye (z bytes:Nat) (s i v:Od):AK:=fun _ T L H nx k=>aS T L s fun s=>aS T L i fun i=>lA i fun i=>aS T L v fun v=>xK z bytes H nx k i s v
def TK:AK:=fun _ _ _ _ _ _=>none
def lZ (o:Option gK) (k:Option Nat→Nat→List Nat→Nat→R0):R0:=match o with
 | some (.iter m a s c)=>k m a s c
 | _=>none
def Mf (H:Heap) (nx:Nat) (k:KA) (m:Value):R0:=match m with
 | .map none=>cQ (at_ nx) H (some (.iter none 0 [] 0)) fun H=>k (ptrTo nx) H (Nat.succ nx)
 | .map (some b)=>eZ (ak H (at_ b)) fun _ c=>cQ (at_ nx) H (some (.iter (some b) c [] c)) fun H=>k (ptrTo nx) H (Nat.succ nx)
 | _=>none
def Yf (x:Od):AK:=fun _ T L H nx k=>aS T L x (Mf H nx k)
def sZ (es:List MapEntry) (seen:List Nat):List MapEntry:=es.filter fun e=>!seen.contains e.born
def Mg (H:Heap) (nx:Nat) (k:KA) (r b since:Nat) (seen:List Nat) (c:Nat) (l:List MapEntry):R0:=match l with
 | []=>k (.tuple #[.bool false]) H nx
 | [e]=>cond (Nat.blt e.born since) (cQ (at_ r) H (some (.iter (some b) since (seen++[e.born]) c)) fun H=>k (.tuple #[.bool true,e.key,e.val]) H nx) none
 | _=>none
def TL (H:Heap) (nx:Nat) (k:KA) (r:Nat) (m:Option Nat) (since:Nat) (seen:List Nat) (last:Nat):R0:=
 Option.rec (k (.tuple #[.bool false]) H nx) (fun b=>eZ (ak H (at_ b)) fun es c=>
  cond (!seen.isEmpty&&!es.isEmpty&&es.all fun e=>decide (e.born≥last)) none (Mg H nx k r b since seen c (sZ es seen))) m
def Yg (x:Od):AK:=fun _ T L H nx k=>aS T L x fun v=>dd v fun r o=>cond (Nat.beq o 0) (lZ (ak H (at_ r)) (TL H nx k r)) none
def TM (H:Heap) (nx:Nat) (k:KA) (m:Option Nat) (Yh:Nat) (seen:List Nat) (last:Nat):R0:=
 Option.rec none (fun b=>bd seen.getLast? fun st=>eZ (ak H (at_ b)) fun es c=>cond (Nat.beq c last) (bd (es.find? fun e=>e.born == st) fun e=>k (.tuple #[e.key,e.val]) H nx) none) m
def Yi (x:Od):AK:=fun _ T L H nx k=>aS T L x fun v=>dd v fun r o=>cond (Nat.beq o 0) (lZ (ak H (at_ r)) (TM H nx k)) none
def dp (o:bE Od):LK:=bE.rec (motive:=fun _=>LK) Tk NR Ie Tl Tm Tn To Tp lIx Tq lUn Ts Tt Tu Tv Ih Tw Tx Ty Tz TA TB TD TC TE TF TG TI
 (fun _=>vw) (fun _=>vw) (fun _ _ _ _ _=>vw) (fun _ _ _ _=>vw) (fun _=>vw) (fun _ _ _=>vw) (fun _ _ _ _ _ _=>vw) (fun _ _ _=>vw) (fun _ _=>vw) (fun _ _ _ _=>vw) (fun _ _ _ _=>vw) (fun _ _ _=>vw) (fun _ _ _ _ _=>vw)
 (fun _ _=>vw) (fun _ _ _=>vw) (fun _ _=>vw) (fun _=>vw) vw (fun _=>vw) (fun _=>vw) (fun _=>vw) o
def b7 (o:bE Od):AK:=bE.rec (motive:=fun _=>AK) (fun x=>dI (Tk x)) (fun x y z=>dI (NR x y z)) (fun x=>dI (Ie x)) (fun x y=>dI (Tl x y)) (fun x y z=>dI (Tm x y z)) (fun x y=>dI (Tn x y))
 (fun x y z=>dI (To x y z)) (fun a b c d=>dI (Tp a b c d)) (fun a b c d e=>dI (lIx a b c d e)) (fun a b c d=>dI (Tq a b c d)) (fun a b=>dI (lUn a b)) (fun a b c=>dI (Ts a b c)) (fun a b=>dI (Tt a b))
 (fun a b c=>dI (Tu a b c)) (fun a b c d=>dI (Tv a b c d)) (fun a b c d=>dI (Ih a b c d)) (fun a b=>dI (Tw a b)) (fun a b c=>dI (Tx a b c)) (fun a b=>dI (Ty a b)) (fun a b c d=>dI (Tz a b c d))
 (fun a b=>dI (TA a b)) (fun a=>dI (TB a)) (fun a=>dI (TD a)) (fun a=>dI (TC a)) (fun a=>dI (TE a)) (fun a b c d e=>dI (TF a b c d e)) (fun a b c d e=>dI (TG a b c d e)) (fun a b c d e=>dI (TI a b c d e))
 X1 X2 X3 X4 X5 X6 X7 X9 Ya Yb Yc Yd Ye (fun _ _=>TK) (fun _ _ _=>TK) (fun _ _=>TK) (fun _=>TK) TK Yf Yg Yi o
abbrev RC:=Tr Value→List eQ→Heap→Nat→R0
structure jk where
 code:a8→RC
 call:FuncId→List Value→Heap→Nat→Option cV
abbrev RL:=Tr Value→List Value→List eQ→Heap→Nat→R0
def nC (want:Bool) (v:Value):Bool:=match v with
 | .bool b=>cond b want (not want)
 | _=>false
def Cd (L:List Value) (d:Nat):Option Value:=List.rec (motive:=fun _=>Nat→Option Value) (fun _=>none) (fun v _ ih d=>Nat.rec (some v) (fun d _=>ih d) d) L d
def wo (want:Bool) (v:Option Value):Bool:=Option.rec false (nC want) v
def wanted (L:List Value) (g:Option (Nat×Bool)):Bool:=Option.rec true (fun p=>Prod.rec (fun d want=>wo want (Cd L d)) p) g
def Ik (P:Program) (T:Tr Value) (L:List Value) (H:Heap) (a:bx) (k:R0):R0:=cond (wanted L a.guard) (dp a.op P T L H fun v=>vo L a.d fun u=>cond (jK u v) k none) k
def fT (P:Program) (T:Tr Value) (L:List Value) (H:Heap) (l:List bx) (k:R0):R0:=List.rec k (fun a _ ih=>Ik P T L H a ih) l
def Il (T:Tr Value) (p:Option (List Bool)) (v:Value) (k:Tr Value→R0):R0:=Option.rec (k T) (fun p=>cQ p T (some v) k) p
def bn (P:Program) (p:Option (List Bool)) (ag:List bx) (k:RL) (T:Tr Value) (L:List Value) (D:List eQ) (v:Value) (H:Heap) (nx:Nat):R0:=
 Il T p v fun T=>fT P T (v::L) H ag (k T (v::L) D H nx)
abbrev OK:=aG→jk→Option (List Bool)→List bx→RL→bE Od→RL
def dz:OK:=fun A _ p ag k o T L D H nx=>b7 o A.P T L H nx (bn A.P p ag k T L D)
def dq (P:Program) (p:Option (List Bool)) (ag:List bx) (k:RL) (T:Tr Value) (L:List Value) (D:List eQ) (c:cV):R0:=
 cV.rec (fun v H nx=>bn P p ag k T L D v H nx) (fun ch H nx=>some (.panic ch,⟨T,D,H,nx⟩)) c
def fh (args:List Value) (k:FuncId→List Value→R0) (f:Value):R0:=match f with
 | .func (.func f) first captured=>k f (first.toList++args++captured.toList)
 | _=>none
def TN (f:Od) (args:List Od):OK:=fun A r p ag k _ T L D H nx=>aS T L f fun f=>cH T L args fun vs=>fh vs (fun g vs=>bd (r.call g vs H nx) (dq A.P p ag k T L D)) f
def zC (H:Heap) (v:Value) (a:Option (Option Nat)) (k:KV):R0:=Option.rec (k v) (fun agg=>dd v fun b o=>cr H b fun cs=>bd (partOf cs o agg) k) a
def ng (P:Program) (name:String) (H:Heap) (k:FuncId→Value→R0) (v:Value):R0:=match v with
 | .iface t v=>bd (methodOf P t name) fun m=>zC H v m.2 (k m.1)
 | _=>none
def Yj (x:Od) (name:String) (args:List Od):OK:=fun A r p ag k _ T L D H nx=>aS T L x fun x=>cH T L args fun vs=>ng A.P name H (fun g v=>bd (r.call g (v::vs) H nx) (dq A.P p ag k T L D)) x
def p9 (f:Value) (k:R0):R0:=match f with
 | .func (.func _) _ _=>k
 | _=>none
def Yk (f:Od) (args:List Od):OK:=fun A _ p ag k _ T L D H nx=>aS T L f fun f=>cH T L args fun vs=>p9 f (bn A.P p ag k T L ((f,vs)::D) undef H nx)
def zD (T:Tr Value) (D:List eQ) (H:Heap) (nx:Nat) (v:Value):R0:=match v with
 | .iface t v=>some (.panic [{ v:=.iface t v,recovered:=false }],⟨T,D,H,nx⟩)
 | _=>none
def Yl (x:Od):OK:=fun _ _ _ _ _ _ T L D H nx=>aS T L x (zD T D H nx)
def oNo:OK:=fun _ _ _ _ _ _ _ _ _ _ _=>none
def pV (o:bE Od):OK:=bE.rec (motive:=fun _=>OK) (fun _=>dz) (fun _ _ _=>dz) (fun _=>dz) (fun _ _=>dz) (fun _ _ _=>dz) (fun _ _=>dz) (fun _ _ _=>dz) (fun _ _ _ _=>dz) (fun _ _ _ _ _=>dz) (fun _ _ _ _=>dz) (fun _ _=>dz) (fun _ _ _=>dz) (fun _ _=>dz) (fun _ _ _=>dz) (fun _ _ _ _=>dz) (fun _ _ _ _=>dz) (fun _ _=>dz) (fun _ _ _=>dz) (fun _ _=>dz) (fun _ _ _ _=>dz) (fun _ _=>dz) (fun _=>dz) (fun _=>dz) (fun _=>dz) (fun _=>dz) (fun _ _ _ _ _=>dz) (fun _ _ _ _ _=>dz) (fun _ _ _ _ _=>dz) (fun _=>dz) (fun _=>dz) (fun _ _ _ _ _=>dz) (fun _ _ _ _=>dz) (fun _=>dz) (fun _ _ _=>dz) (fun _ _ _ _ _ _=>dz) (fun _ _ _=>dz) (fun _ _=>dz) (fun _ _ _ _=>dz) (fun _ _ _ _=>dz) (fun _ _ _=>dz) (fun _ _ _ _ _=>dz) TN Yj Yk Yl oNo (fun _=>dz) (fun _=>dz) (fun _=>dz) o
def opG (A:aG) (r:jk) (o:AO) (ag:List bx) (k:RL):RL:=fun T L D H nx=>
 cond (wanted L o.guard) (pV o.op A r o.keep ag k o.op T L D H nx) (bn A.P o.keep ag k T L D undef H nx)
def Ym:RL:=fun T _ D H nx=>some (.normal,⟨T,D,H,nx⟩)
def opP (A:aG) (r:jk) (x:AO×List bx) (k:RL):RL:=Prod.rec (fun o ag=>opG A r o ag k) x
def bt (A:aG) (r:jk) (l:List (AO×List bx)):RL:=List.rec (motive:=fun _=>RL) Ym (fun o _ ih=>opP A r o ih) l
def Yn (k:RC) (st:St):R0:=St.rec (fun T D H nx=>k T D H nx) st
def stay (e:Ex) (st:St):R0:=some (e,st)
def Yo (k:RC) (e:Ex):St→R0:=Ex.rec (Yn k) (fun i=>stay (.exit i)) (stay .ret) (fun c=>stay (.panic c)) e
def ma (k:RC) (o:Ex×St):R0:=Prod.rec (fun e st=>Yo k e st) o
def Im:RC:=fun T D H nx=>some (.normal,⟨T,D,H,nx⟩)
def TO (A:aG) (r:jk) (ops:List (AO×List bx)):RC:=fun T D H nx=>bt A r ops T [] D H nx
def TP (e:Ex):St→R0:=Ex.rec (stay .normal) (fun _ _=>none) (fun _=>none) (fun _ _=>none) e
def s4 (o:Ex×St):R0:=Prod.rec (fun e st=>TP e st) o
def NS (A:aG) (r:jk) (ops:List (AO×List bx)):RC:=fun T D H nx=>bd (bt A r ops T [] D H nx) s4
def TQ (a b:RC):RC:=fun T D H nx=>bd (a T D H nx) (ma b)
def NT (c:Od) (a b:RC):RC:=fun T D H nx=>aS T [] c fun v=>fx v (a T D H nx) (b T D H nx)
def Pm (id:Nat) (e:Ex):St→R0:=Ex.rec (stay .normal) (fun i=>cond (Nat.beq i id) (stay .normal) (stay (.exit i))) (stay .ret) (fun c=>stay (.panic c)) e
def nO (id:Nat) (o:Ex×St):R0:=Prod.rec (fun e st=>Pm id e st) o
def Io (id:Nat) (a:RC):RC:=fun T D H nx=>bd (a T D H nx) (nO id)
def NU (r:jk) (c:a8) (a:RC):RC:=fun T D H nx=>bd (a T D H nx) (ma (r.code (.loop c)))
def NV (id:Nat):RC:=fun T D H nx=>some (.exit id,⟨T,D,H,nx⟩)
def TR:RC:=fun T D H nx=>some (.ret,⟨T,D,H,nx⟩)
abbrev CK:=aG→jk→RC
def TT:CK:=fun _ _=>Im
def Yp (dr:Bool) (ops:List (AO×List bx)):CK:=fun A r=>cond dr (NS A r ops) (TO A r ops)
def Yq (a b:CK):CK:=fun A r=>TQ (a A r) (b A r)
def TU (c:Od) (a b:CK):CK:=fun A r=>NT c (a A r) (b A r)
def Pn (id:Nat) (a:CK):CK:=fun A r=>Io id (a A r)
def TV (c:a8) (a:CK):CK:=fun A r=>NU r c (a A r)
def TW (id:Nat):CK:=fun _ _=>NV id
def Yr:CK:=fun _ _=>TR
def bU (c:a8):CK:=a8.rec (motive:=fun _=>CK) TT Yp (fun _ _ a b=>Yq a b) (fun c _ _ a b=>TU c a b) (fun id _ a=>Pn id a) TV TW Yr c
def kr:a8→Option (List Bool×a8)
 | .seq a b=>match kr a with
  | some (p,a')=>some (p,.seq a' b)
  | none=>none
 | .aa false [(⟨some p,none,.wi⟩,[])]=>some (p,.skip)
 | _=>none
def recovered (u:FrameMode):Value×FrameMode:=match u with
 | .panicking ({ v,recovered:=false,goexit:=false }::TX)=>(v,.panicking ({ v,recovered:=true }::TX))
 | u=>(.nilIface,u)
def Fq (T:Tr Value) (H:Heap) (x:Od×Option (Option Nat)) (k:Value→Option cV):Option cV:=match x with
 | (.var p,none)=>bd (ak T p) k
 | (.var p,some agg)=>match ak T p with
  | some (.pointer (some ⟨b,o,none⟩))=>match ak H (at_ b) with
   | some (.cells cs)=>bd (partOf cs o agg) k
   | _=>none
  | _=>none
 | _=>none
def fJ (T:Tr Value) (H:Heap):List (Od×Option (Option Nat))→(List Value→Option cV)→Option cV
 | [],k=>k []
 | x::xs,k=>Fq T H x fun v=>fJ T H xs fun vs=>k (v::vs)
def Fs (o:Ex×St) (u:FrameMode):Option (FrameMode×Heap×Nat):=match o with
 | (.normal,⟨_,[],H,nx⟩)|(.ret,⟨_,[],H,nx⟩)=>some (settle u,H,nx)
 | (.panic ch,⟨_,[],H,nx⟩)=>some (raised u ch,H,nx)
 | _=>none
def kP (l:List Value):Tr Value→(Tr Value→R0)→R0:=List.rec (motive:=fun _=>Nat→Tr Value→(Tr Value→R0)→R0) (fun _ T k=>k T) (fun v _ ih i T k=>cQ (at_ i) T (some v) fun T=>ih (Nat.succ i) T k) l 0
def ga (A:aG) (r:jk) (f:Value) (args:List Value) (u:FrameMode) (H:Heap) (nx:Nat):Option (FrameMode×Heap×Nat):=match f with
 | .func (.func g) first captured=>match A.funcs g with
  | some ⟨[],c⟩=>match kr c with
   | some (p,c')=>bd (kP (first.toList++args++captured.toList) .e fun T=>cQ p T (some (recovered u).1) fun T=>bU c' A r T [] H nx) fun o=>Fs o (recovered u).2
   | none=>bd (kP (first.toList++args++captured.toList) .e fun T=>bU c A r T [] H nx) fun o=>Fs o u
  | _=>none
 | _=>none
def fi (A:aG) (r:jk):List eQ→FrameMode→Heap→Nat→Option (FrameMode×Heap×Nat)
 | [],u,H,nx=>some (u,H,nx)
 | (f,args)::ds,u,H,nx=>match ga A r f args u H nx with
  | some (u,H,nx)=>fi A r ds u H nx
  | none=>none
def kQ (af:ao) (T:Tr Value) (x:FrameMode×Heap×Nat):Option cV:=match x with
 | (.returning,H,nx)=>fJ T H af.results fun vs=>some (.ok (oneOf vs) H nx)
 | (.panicking ch,H,nx)=>some (.nA ch H nx)
 | _=>none
def mb (A:aG) (r:jk) (af:ao) (u:FrameMode) (st:St):Option cV:=St.rec (fun T D H nx=>bd (fi A r D u H nx) (kQ af T)) st
def Ys (A:aG) (r:jk) (af:ao) (e:Ex):St→Option cV:=Ex.rec (mb A r af .returning) (fun _ _=>none) (mb A r af .returning) (fun ch=>mb A r af (.panicking ch)) e
def vz (A:aG) (r:jk) (af:ao) (o:Ex×St):Option cV:=Prod.rec (fun e st=>Ys A r af e st) o
def jl (A:aG) (r:jk) (vs:List Value) (H:Heap) (nx:Nat) (af:ao):Option cV:=bd (kP vs .e fun T=>bU af.body A r T [] H nx) (vz A r af)
def NW (A:aG) (r:jk) (g:FuncId) (vs:List Value) (H:Heap) (nx:Nat):Option cV:=Option.rec (bd (A.funcs g) (jl A r vs H nx)) some (A.aF g vs H nx)
def Yt:jk:=⟨fun _ _ _ _ _=>none,fun _ _ _ _=>none⟩
def run (A:aG) (n:Nat):jk:=Nat.rec Yt (fun _ r=>⟨fun c=>bU c A r,NW A r⟩) n
end
end Go.Eng

namespace Go.Eng
def wq:Nat→Nat→List Bool
 | 0,_=>[]
 | f + 1,k=>bif Nat.beq k 0 then [] else bif Nat.beq (k % 2) 1 then true::wq f (k / 2) else false::wq f (k / 2 - 1)
def bY (t:Nat):List Bool:=wq t t
def oK:Value→Bool
 | .bool _ | .int _ _ | .float _ _ | .complex _ _ _ | .string _ | .nilFunc | .nilIface | .pointer none | .slice none 0 0 | .map none=>true
 | _=>false
def iL:Value→Bool
 | .agg cs=>cs.toList.all oK
 | v=>oK v
def Ce:Value→List Value
 | .agg cs=>cs.toList
 | v=>[v]
def dt (l:List Nat) (n:Nat):Bool:=l.any (Nat.beq n)
abbrev Env:=List (Nat×Od)
def find (env:Env) (t:Nat):Option Od:=match env with
 | []=>none
 | (u,x)::r=>bif Nat.beq u t then some x else find r t
def cv (kept:List Nat) (n:Nat) (env:Env):Operand→Option Od
 | .tmp t=>bif Nat.blt t n then match find env t with
  | some x=>some x
  | none=>bif dt kept t then some (.var (bY t)) else none
  else none
 | .const v=>bif iL v then some (.aD v) else none
 | .func f=>some (.fn f)
 | .global _=>none
def bE.map {α β:Type} (f:α→β):bE α→bE β
 | .ae v0=>.ae (f v0)
 | .pick v0 v1 v2=>.pick (f v0) (f v1) (f v2)
 | .al v0=>.al (f v0)
 | .ext v0 v1=>.ext (f v0) v1
 | .u9 v0 v1 v2=>.u9 (f v0) v1 v2
 | .ar v0 v1=>.ar (f v0) v1
 | .aA v0 v1 v2=>.aA (f v0) (f v1) v2
 | .iB v0 v1 v2 v3=>.iB (f v0) (f v1) v2 v3
 | .ix v0 v1 v2 v3 v4=>.ix (f v0) (f v1) v2 v3 v4
 | .bin v0 v1 v2 v3=>.bin v0 v1 (f v2) (f v3)
 | .un v0 v1=>.un v0 (f v1)
 | .wh v0 v1 v2=>.wh v0 v1 (f v2)
 | .lM v0 v1=>.lM v0 (v1.map f)
 | .Hz v0 v1 v2=>.Hz v0 (f v1) (f v2)
 | .Ca v0 v1 v2 v3=>.Ca v0 (f v1) (v2.map f) (v3.map f)
 | .dn v0 v1 v2 v3=>.dn v0 v1 (f v2) (f v3)
 | .eu v0 v1=>.eu v0 (v1.map fun x=>(x.1,x.2.1,f x.2.2))
 | .xF v0 v1 v2=>.xF v0 (v1.map f) (v2.map f)
 | .zf v0 v1=>.zf v0 (f v1)
 | .Fm v0 v1 v2 v3=>.Fm (f v0) v1 v2 v3
 | .ah v0 v1=>.ah (f v0) v1
 | .len v0=>.len (f v0)
 | .zg v0=>.zg (f v0)
 | .D4 v0=>.D4 (f v0)
 | .cap v0=>.cap (f v0)
 | .iC v0 v1 v2 v3 v4=>.iC (f v0) (v1.map f) (v2.map f) (v3.map f) v4
 | .Ia v0 v1 v2 v3 v4=>.Ia (f v0) (v1.map f) (v2.map f) v3 v4
 | .lN v0 v1 v2 v3 v4=>.lN (f v0) (f v1) v2 v3 v4
 | .box v0=>.box (f v0)
 | .ef v0=>.ef v0
 | .iF v0 v1 v2 v3 v4=>.iF v0 v1 v2 (f v3) (f v4)
 | .fu v0 v1 v2 v3=>.fu v0 v1 v2 (v3.map fun x=>(x.1,x.2.1,f x.2.2))
 | .zz v0=>.zz (v0.map f)
 | .aY v0 v1 v2=>.aY (f v0) (f v1) v2
 | .app v0 v1 v2 v3 v4 v5=>.app v0 v1 v2 (f v3) (f v4) v5
 | .D5 v0 v1 v2=>.D5 v0 (f v1) (f v2)
 | .LI v0 v1=>.LI (f v0) v1
 | .HA v0 v1 v2 v3=>.HA (f v0) (f v1) (f v2) v3
 | .Cb v0 v1 v2 v3=>.Cb (f v0) (f v1) v2 v3
 | .Cc v0 v1 v2=>.Cc (f v0) (f v1) (f v2)
 | .ins v0 v1 v2 v3 v4=>.ins v0 v1 (f v2) (f v3) (f v4)
 | .call v0 v1=>.call (f v0) (v1.map f)
 | .inv v0 v1 v2=>.inv (f v0) v1 (v2.map f)
 | .oC v0 v1=>.oC (f v0) (v1.map f)
 | .nA v0=>.nA (f v0)
 | .wi=>.wi 
 | .wj v0=>.wj (f v0)
 | .nxt v0=>.nxt (f v0)
 | .L6 v0=>.L6 (f v0)
def gz {α β:Type} (c:α→Option β):List α→Option (List β)
 | []=>some []
 | x::xs=>match c x,gz c xs with
  | some a,some as=>some (a::as)
  | _,_=>none
def lC {α β:Type} (c:α→Option β):Option α→Option (Option β)
 | none=>some none
 | some x=>(c x).map some
def oL {α β:Type} (c:α→Option β):List (Nat×Nat×α)→Option (List (Nat×Nat×β))
 | []=>some []
 | (i,j,x)::xs=>match c x,oL c xs with
  | some a,some as=>some ((i,j,a)::as)
  | _,_=>none
def bE.fy {α β:Type} (c:α→Option β):bE α→Option (bE β)
 | .ae v0=>match c v0 with
  | some fU=>some (.ae fU)
  | _=>none
 | .pick v0 v1 v2=>match c v0,c v1,c v2 with
  | some fU,some kx,some qa=>some (.pick fU kx qa)
  | _,_,_=>none
 | .al v0=>match c v0 with
  | some fU=>some (.al fU)
  | _=>none
 | .ext v0 v1=>match c v0 with
  | some fU=>some (.ext fU v1)
  | _=>none
 | .u9 v0 v1 v2=>match c v0 with
  | some fU=>some (.u9 fU v1 v2)
  | _=>none
 | .ar v0 v1=>match c v0 with
  | some fU=>some (.ar fU v1)
  | _=>none
 | .aA v0 v1 v2=>match c v0,c v1 with
  | some fU,some kx=>some (.aA fU kx v2)
  | _,_=>none
 | .iB v0 v1 v2 v3=>match c v0,c v1 with
  | some fU,some kx=>some (.iB fU kx v2 v3)
  | _,_=>none
 | .ix v0 v1 v2 v3 v4=>match c v0,c v1 with
  | some fU,some kx=>some (.ix fU kx v2 v3 v4)
  | _,_=>none
 | .bin v0 v1 v2 v3=>match c v2,c v3 with
  | some qa,some Cf=>some (.bin v0 v1 qa Cf)
  | _,_=>none
 | .un v0 v1=>match c v1 with
  | some kx=>some (.un v0 kx)
  | _=>none
 | .wh v0 v1 v2=>match c v2 with
  | some qa=>some (.wh v0 v1 qa)
  | _=>none
 | .lM v0 v1=>match gz c v1 with
  | some kx=>some (.lM v0 kx)
  | _=>none
 | .Hz v0 v1 v2=>match c v1,c v2 with
  | some kx,some qa=>some (.Hz v0 kx qa)
  | _,_=>none
 | .Ca v0 v1 v2 v3=>match c v1,lC c v2,lC c v3 with
  | some kx,some qa,some Cf=>some (.Ca v0 kx qa Cf)
  | _,_,_=>none
 | .dn v0 v1 v2 v3=>match c v2,c v3 with
  | some qa,some Cf=>some (.dn v0 v1 qa Cf)
  | _,_=>none
 | .eu v0 v1=>match oL c v1 with
  | some kx=>some (.eu v0 kx)
  | _=>none
 | .xF v0 v1 v2=>match gz c v1,gz c v2 with
  | some kx,some qa=>some (.xF v0 kx qa)
  | _,_=>none
 | .zf v0 v1=>match c v1 with
  | some kx=>some (.zf v0 kx)
  | _=>none
 | .Fm v0 v1 v2 v3=>match c v0 with
  | some fU=>some (.Fm fU v1 v2 v3)
  | _=>none
 | .ah v0 v1=>match c v0 with
  | some fU=>some (.ah fU v1)
  | _=>none
 | .len v0=>match c v0 with
  | some fU=>some (.len fU)
  | _=>none
 | .zg v0=>match c v0 with
  | some fU=>some (.zg fU)
  | _=>none
 | .D4 v0=>match c v0 with
  | some fU=>some (.D4 fU)
  | _=>none
 | .cap v0=>match c v0 with
  | some fU=>some (.cap fU)
  | _=>none
 | .iC v0 v1 v2 v3 v4=>match c v0,lC c v1,lC c v2,lC c v3 with
  | some fU,some kx,some qa,some Cf=>some (.iC fU kx qa Cf v4)
  | _,_,_,_=>none
 | .Ia v0 v1 v2 v3 v4=>match c v0,lC c v1,lC c v2 with
  | some fU,some kx,some qa=>some (.Ia fU kx qa v3 v4)
  | _,_,_=>none
 | .lN v0 v1 v2 v3 v4=>match c v0,c v1 with
  | some fU,some kx=>some (.lN fU kx v2 v3 v4)
  | _,_=>none
 | .box v0=>match c v0 with
  | some fU=>some (.box fU)
  | _=>none
 | .ef v0=>some (.ef v0)
 | .iF v0 v1 v2 v3 v4=>match c v3,c v4 with
  | some Cf,some TY=>some (.iF v0 v1 v2 Cf TY)
  | _,_=>none
 | .fu v0 v1 v2 v3=>match oL c v3 with
  | some Cf=>some (.fu v0 v1 v2 Cf)
  | _=>none
 | .zz v0=>match lC c v0 with
  | some fU=>some (.zz fU)
  | _=>none
 | .aY v0 v1 v2=>match c v0,c v1 with
  | some fU,some kx=>some (.aY fU kx v2)
  | _,_=>none
 | .app v0 v1 v2 v3 v4 v5=>match c v3,c v4 with
  | some Cf,some TY=>some (.app v0 v1 v2 Cf TY v5)
  | _,_=>none
 | .LI v0 v1=>match c v0 with
  | some fU=>some (.LI fU v1)
  | _=>none
 | .D5 v0 v1 v2=>match c v1,c v2 with
  | some kx,some qa=>some (.D5 v0 kx qa)
  | _,_=>none
 | .HA v0 v1 v2 v3=>match c v0,c v1,c v2 with
  | some fU,some kx,some qa=>some (.HA fU kx qa v3)
  | _,_,_=>none
 | .Cb v0 v1 v2 v3=>match c v0,c v1 with
  | some fU,some kx=>some (.Cb fU kx v2 v3)
  | _,_=>none
 | .Cc v0 v1 v2=>match c v0,c v1,c v2 with
  | some fU,some kx,some qa=>some (.Cc fU kx qa)
  | _,_,_=>none
 | .ins v0 v1 v2 v3 v4=>match c v2,c v3,c v4 with
  | some qa,some Cf,some TY=>some (.ins v0 v1 qa Cf TY)
  | _,_,_=>none
 | .call v0 v1=>match c v0,gz c v1 with
  | some fU,some kx=>some (.call fU kx)
  | _,_=>none
 | .inv v0 v1 v2=>match c v0,gz c v2 with
  | some fU,some qa=>some (.inv fU v1 qa)
  | _,_=>none
 | .oC v0 v1=>match c v0,gz c v1 with
  | some fU,some kx=>some (.oC fU kx)
  | _,_=>none
 | .nA v0=>match c v0 with
  | some fU=>some (.nA fU)
  | _=>none
 | .wi=>some (.wi )
 | .wj v0=>match c v0 with
  | some fU=>some (.wj fU)
  | _=>none
 | .nxt v0=>match c v0 with
  | some fU=>some (.nxt fU)
  | _=>none
 | .L6 v0=>match c v0 with
  | some fU=>some (.L6 fU)
  | _=>none
def bZ (P:Program) (t:TypeId):Option Nat:=(P.info? t).map (·.size)
def jO (P:Program) (t:TypeId):Option Nat:=(P.info? t).map (·.bytes)
def oM (P:Program) (t:TypeId):Option (Option Nat):=match P.info? t,P.underlying t with
 | some i,some (.struct _)|some i,some (.array _ _)=>some (some i.size)
 | some _,some _=>some none
 | _,_=>none
def fO (P:Program) (t:TypeId):Option Value:=match P.info? t with
 | some i=>match i.zero with
  | some z=>bif iL z then some z else none
  | none=>none
 | none=>none
def zeroCells (P:Program) (t:TypeId):Option (List Value):=(fO P t).map Ce
def kR (P:Program) (t:TypeId):Bool:=match P.underlying t with
 | some .bool|some (.int _)|some (.float _)|some .string=>true
 | _=>false
def iM (P:Program) (fs:List Field):List (Nat×Operand)→Option (List (Nat×Nat×Operand))
 | []=>some []
 | (i,x)::r=>match fs[i]?,iM P fs r with
  | some f,some rs=>match bZ P f.type with
   | some s=>some ((f.offset,s,x)::rs)
   | none=>none
  | _,_=>none
def eB (z:Nat):List (Nat×Operand)→List (Nat×Nat×Operand)
 | []=>[]
 | (i,x)::r=>(i * z,z,x)::eB z r
def dk:Operand→Bool
 | .const _=>true
 | _=>false
def jm:BinOp→Bool
 | .neq=>true
 | _=>false
def gS (P:Program) (op:BinOp) (t:TypeId) (x y:Operand):Option (bE Operand):=
 match op with
 | .eql | .neq=>match P.underlying t with
  | some (.pointer _)=>some (.dn (jm op) 0 x y)
  | some (.slice _)=>some (.dn (jm op) 1 x y)
  | some (.map _ _)=>some (.dn (jm op) 2 x y)
  | some (.func _ _ _)=>some (.dn (jm op) 3 x y)
  | some (.interface _)=>bif dk x||dk y then some (.dn (jm op) 4 x y) else none
  | some _=>some (.bin op t x y)
  | none=>none
 | _=>some (.bin op t x y)
def cA (P:Program) (b:Builtin) (ts:Array TypeId) (args:Array Operand):Option (bE Operand):=
 match b,ts.toList,args.toList with
 | .append,[t,t2],[s,x]=>match P.underlying t with
  | some (.slice e)=>match bZ P e,jO P e,zeroCells P e,P.underlying t2 with
   | some z,some n,some zero,some (.int _)=>bif Nat.beq zero.length z then some (.app z n zero s x true) else none
   | some z,some n,some zero,some (.slice _)=>bif Nat.beq zero.length z then some (.app z n zero s x false) else none
   | _,_,_,_=>none
  | _=>none
 | .len,t::_,[x]=>match P.underlying t with
  | some (.slice _)=>some (.len x)
  | some .string=>some (.D4 x)
  | some (.map _ _)=>some (.zg x)
  | _=>none
 | .cap,t::_,[x]=>match P.underlying t with
  | some (.slice _)=>some (.cap x)
  | _=>none
 | .copy,t::_,[d,s]=>match P.underlying t with
  | some (.slice e)=>match bZ P e with
   | some z=>some (.D5 z d s)
   | none=>none
  | _=>none
 | .min,_,xs=>some (.lM true xs)
 | .max,_,xs=>some (.lM false xs)
 | .recover,_,[]=>some .wi
 | .clear,t::_,[x]=>match P.underlying t with
  | some (.slice e)=>match zeroCells P e with
   | some zero=>some (.LI x zero)
   | none=>none
  | _=>none
 | _,_,_=>none
def aj (P:Program) (ins:List Nat) (o:Oper):Option (bE Operand):=
 match o.op with
 | .move x | .assign x=>some (.ae x)
 | .pick a x y=>some (.pick a x y)
 | .alloc t=>(zeroCells P t).map .ef
 | .box _ x=>some (.box x)
 | .build t parts=>match P.underlying t,zeroCells P t with
  | some (.struct fs),some zero=>bif fs.toList.all (fun f=>(bZ P f.type).isSome) then (iM P fs.toList parts.toList).map (.eu zero) else none
  | some (.array _ e),some zero=>match bZ P e with
   | some z=>some (.eu zero (eB z parts.toList))
   | none=>none
  | _,_=>none
 | .buildSlice t len parts=>match P.underlying t with
  | some (.slice e)=>match bZ P e,zeroCells P e with
   | some z,some zero=>bif Nat.ble (len * z) 16777216&&Nat.beq zero.length z then some (.fu z len zero (eB z parts.toList)) else none
   | _,_=>none
  | _=>none
 | .load t a=>(oM P t).map (.ah a)
 | .store t a x=>(bZ P t).map (.aY a x)
 | .nilCheck x=>some (.al x)
 | .binOp op t x y _=>gS P op t x y
 | .unOp op _ x=>some (.un op x)
 | .convert s d x=>bif kR P s&&kR P d then some (.wh s d x) else none
 | .makeInterface t x=>match P.underlying t with
  | some (.interface _)=>none
  | some _=>some (.zf t x)
  | none=>none
 | .makeFunc (.func f) a b=>some (.xF f a.toList b.toList)
 | .makeMap t r=>match P.underlying t with
  | some (.map _ _)=>some (.zz r)
  | _=>none
 | .makeSlice t l k=>match P.underlying t with
  | some (.slice e)=>match bZ P e,jO P e,zeroCells P e with
   | some z,some n,some zero=>bif Nat.beq zero.length z then some (.iF z n zero l k) else none
   | _,_,_=>none
  | _=>none
 | .slice t x lo hi mx=>match P.underlying t with
  | some (.slice e)=>bif mx.isNone||hi.isSome then (bZ P e).map (.iC x lo hi mx) else none
  | some .string=>match mx with
   | none=>some (.Ca t x lo hi)
   | some _=>none
  | _=>none
 | .fieldAddr s x f=>match P.underlying s with
  | some (.struct fs)=>match fs.toList[f]? with
   | some fd=>match bZ P fd.type with
    | some (_ + 1)=>some (.ar x fd.offset)
    | _=>none
   | none=>none
  | _=>none
 | .field s x f=>match P.underlying s with
  | some (.struct fs)=>match fs.toList[f]? with
   | some fd=>(oM P fd.type).map (.u9 x fd.offset)
   | none=>none
  | _=>none
 | .indexAddr t x i=>match P.underlying t with
  | some (.array n e)=>(bZ P e).map (.iB x i n)
  | some (.slice e)=>(bZ P e).map (.aA x i)
  | _=>none
 | .index t x i=>match P.underlying t with
  | some (.array n e)=>match oM P e,bZ P e with
   | some a,some z=>some (.ix x i n z a)
   | _,_=>none
  | some .string=>some (.Hz t x i)
  | _=>none
 | .lookup t x k ok=>match P.underlying t with
  | some (.map kt e)=>(fO P e).map fun z=>.lN x k kt z ok
  | _=>none
 | .mapUpdate t m k v | .insert t m k v=>match P.underlying t with
  | some (.map kt _)=>some (.HA m k v kt)
  | _=>none
 | .mapEntry t m k=>match P.underlying t with
  | some (.map kt e)=>(fO P e).map (.Cb m k kt)
  | _=>none
 | .entryStore _ m s v=>some (.Cc m s v)
 | .typeAssert x _ t ok=>match P.underlying t with
  | some (.interface _)=>none
  | some _=>(fO P t).map fun z=>.Fm x t z ok
  | none=>none
 | .extract t i=>some (.ext t i)
 | .call d=>match d.callee with
  | .builtin b=>cA P b d.argTypes d.args
  | .value (.func g)=>bif dt ins g then match d.args.toList,d.argTypes.toList with
    | [s,i,v],t::_=>match P.underlying t with
     | some (.slice e)=>match bZ P e,jO P e with
      | some 1,some 8=>some (.ins 1 8 s i v)
      | _,_=>none
     | _=>none
    | _,_=>none
   else some (.call (.func g) d.args.toList)
  | .value f=>some (.call f d.args.toList)
  | .invoke x name=>some (.inv x name d.args.toList)
 | .defer d=>match d.callee with
  | .value f=>some (.oC f d.args.toList)
  | _=>none
 | .panic x=>some (.nA x)
 | .range t x=>match P.underlying t with
  | some (.map _ _)=>some (.wj x)
  | _=>none
 | .next x false=>some (.nxt x)
 | .entry x=>some (.L6 x)
 | _=>none
inductive Kd where
 | pure|load|make|cB
def bR {α:Type}:bE α→Kd
 | .ah _ _ | .zg _ | .lN _ _ _ _ _=>.load
 | .box _ | .ef _ | .iF _ _ _ _ _ | .fu _ _ _ _ | .zz _=>.make
 | .aY _ _ _ | .app _ _ _ _ _ _ | .D5 _ _ _ | .LI _ _ | .HA _ _ _ _ | .Cb _ _ _ _ | .Cc _ _ _ | .ins _ _ _ _ _ | .call _ _ | .inv _ _ _ | .oC _ _ | .nA _ | .wi | .wj _ | .nxt _ | .L6 _=>.cB
 | _=>.pure
def kdC:Op→Kd
 | .load _ _ | .lookup _ _ _ _=>.load
 | .box _ _ | .alloc _ | .makeSlice _ _ _ | .buildSlice _ _ _ | .makeMap _ _=>.make
 | .store _ _ _ | .mapUpdate _ _ _ _ | .insert _ _ _ _ | .mapEntry _ _ _ | .entryStore _ _ _ _ | .defer _ | .panic _ | .range _ _ | .next _ _ | .entry _=>.cB
 | .call d=>match d.callee with
  | .builtin .append | .builtin .copy | .builtin .clear | .builtin .recover=>.cB
  | .builtin .len=>.load
  | .builtin _=>.pure
  | _=>.cB
 | _=>.pure
def jP (ops:List Oper):List Nat:=
 (ops.foldl (fun acc o=>acc++[o.after.toList.foldl (fun s e=>bif Region.binds .any e then s||| 2 ^ e.on||| acc.getD e.on 0 else s) 0]) [])
def Po (p:Kd→Bool) (ks:List Kd):Nat:=(ks.zipIdx.filter fun x=>p x.1).foldl (fun s x=>s||| 2 ^ x.2) 0
def bX:Kd→Bool | .cB=>true|_=>false
def gT:Kd→Bool | .make=>true|_=>false
def iD:Kd→Bool | .load=>true|_=>false
def sub (a b:Nat):Bool:=Nat.beq (a&&& b) a
def Mh (ek:List Nat) (ks:List Kd):List Nat:=
 let nh:=Po (fun k=>bX k||gT k) ks
 let n:=ek.length
 let hs:=(List.range n).filter fun i=>match ks[i]? with|some k=>bX k|none=>false
 let (done,l):=hs.foldl (fun (done,l) h=>
  let bh:=ek.getD h 0
  let now:=(List.range n).filter fun i=>!(Nat.testBit done i)&&i != h&&(Nat.testBit bh i||(match ks[i]? with
   | some .pure|some .load=>sub (ek.getD i 0&&& nh) bh
   | _=>false))
  let l:=l++now++[h]
  (l.foldl (fun s i=>s||| 2 ^ i) done,l)) (0,[])
 l++(List.range n).filter fun i=>!(Nat.testBit done i)
def tmpsOf (o:Oper):List Nat:=o.op.operands.toList.filterMap fun | .tmp t=>some t|_=>none
def hygienic (ops:List Oper) (ek:List Nat) (j:Nat) (o:Oper):Bool:=
 (tmpsOf o).all fun t=>ops.zipIdx.all fun (q,i)=>match q.dst with
  | some d=>!(Nat.beq d t)||Nat.testBit (ek.getD j 0) i||Nat.testBit (ek.getD i 0) j
  | none=>true
def qd (ops:List Oper):Bool:=ops.zipIdx.all fun (o,i)=>ops.zipIdx.all fun (q,j)=>Nat.beq i j||(match o.dst,q.dst with|some a,some b=>!(Nat.beq a b)|_,_=>true)
def shift:Od→Od
 | .loc d=>.loc (d + 1)
 | x=>x
def cC (env:Env):Env:=env.map fun (t,x)=>(t,shift x)
def eV (env:Env) (t:Nat):Env:=env.filter fun p=>!(Nat.beq p.1 t)
def jn:List Bool→List Bool→Bool
 | [],[]=>true
 | true::p,true::q=>jn p q
 | false::p,false::q=>jn p q
 | _,_=>false
def isVar (p:List Bool):Od→Bool
 | .var q=>jn p q
 | _=>false
def zE:Od→Option Nat
 | .loc d=>some d
 | _=>none
structure Laid where
 env:Env
 dj:List Nat
 cB:Nat
 make:Nat
 done:Nat
 out:List (AO×List bx)
def nD:Laid:=⟨[],[],0,0,0,[]⟩
def wu (t:Nat) (rest:List Oper):Bool:=rest.any fun o=>(tmpsOf o).any (Nat.beq t)
def gA (p:List Bool) (rest:List Oper):Env→Laid→Laid
 | [],s=>s
 | (t,x)::r,s=>bif isVar p x then
   (bif wu t rest then gA p rest r { s with env:=(t,.loc 0)::eV (cC s.env) t,out:=(⟨none,none,.ae x⟩,[])::s.out } else gA p rest r { s with env:=eV s.env t })
  else gA p rest r s
def s5:Op→Bool
 | .move _ | .assign _=>true
 | _=>false
def gU (ops:List Oper) (env:Env):Option (Nat×Bool)→Option (Option (Nat×Bool))
 | none=>some none
 | some (g,w)=>match ops[g]? with
  | some o=>match o.dst with
   | some t=>match find env t with
    | some x=>(zE x).map fun d=>some (d,w)
    | none=>none
   | none=>none
  | none=>none
def jo (ops:List Oper) (ek:List Nat) (done j:Nat) (o:Oper):Bool:=
 (tmpsOf o).all fun t=>ops.zipIdx.all fun (q,i)=>match q.dst with
  | some d=>!(Nat.beq d t)||Nat.testBit (ek.getD j 0) i||!(Nat.testBit done i)
  | none=>true
def kS (P:Program) (kept:List Nat) (n:Nat) (ops:List Oper) (ek:List Nat) (done:Nat) (env:Env) (bh:Nat):List Nat→Option (List bx)
 | []=>some []
 | j::r=>match kS P kept n ops ek done env bh r with
  | none=>none
  | some as=>bif Nat.testBit bh j then some as else match ops[j]? with
   | some o=>bif !(jo ops ek done j o) then none else match (aj P [] o).bind (bE.fy (cv kept n env)),gU ops env o.guard,(o.dst.bind (find env)).bind zE with
    | some a,some g,some d=>some (⟨g,a,d⟩::as)
    | _,_,_=>none
   | none=>none
def cX (kept:List Nat):Option Nat→Option (List Bool)
 | some d=>bif dt kept d then some (bY d) else none
 | none=>none
def oN (env:Env):Option Nat→Env
 | some t=>(t,.loc 0)::eV (cC env) t
 | none=>cC env
def emit (P:Program) (kept:List Nat) (n:Nat) (ops:List Oper) (ek:List Nat) (b:Nat) (o:Oper) (g:Option (Nat×Bool)) (a:bE Od) (s:Laid):Option Laid:=
 match (bif bX (bR a) then kS P kept n ops ek s.done (oN s.env o.dst) b s.dj else some []) with
 | none=>none
 | some as=>match cX kept o.dst with
  | none=>some { s with env:=oN s.env o.dst,out:=(⟨none,g,a⟩,as)::s.out }
  | some p=>bif (cC s.env).any (fun e=>isVar p e.2) then none else some { s with env:=oN s.env o.dst,out:=(⟨some p,g,a⟩,as)::s.out }
def D8 (l:List Oper) (s:Laid):Option (List Bool)→Laid
 | some p=>gA p l s.env s
 | none=>s
def Ip (P:Program) (ins kept:List Nat) (n:Nat) (ops rest:List Oper) (ek:List Nat) (b:Nat) (s6:Bool) (o:Oper) (s0:Laid):Option Laid:=
 let s:=D8 (o::rest) s0 (cX kept o.dst)
 match (aj P ins o).bind (bE.fy (cv kept n s.env)),gU ops s.env o.guard with
 | some a,some g=>
  match a,o.dst,g with
  | .ae x,some t,none=>
   bif (cX kept (some t)).isNone&&s5 o.op&&!s6 then some { s with env:=(t,x)::eV s.env t }
   else emit P kept n ops ek b o g a s
  | _,_,_=>emit P kept n ops ek b o g a s
 | _,_=>none
def s7 (ops:List Oper):List Nat:=ops.filterMap fun o=>o.guard.map (·.1)
def nP (P:Program) (ins kept:List Nat) (n:Nat) (draw:Bool) (ops:List Oper) (ek s6:List Nat):List Nat→Laid→Option Laid
 | [],s=>some s
 | i::is,s=>match ops[i]? with
  | none=>none
  | some o=>
   let b:=bif draw then ek.getD i 0 else 2 ^ ops.length - 1
   match Ip P ins kept n ops (is.filterMap fun i=>ops[i]?) ek b (dt s6 i) o s with
   | none=>none
   | some s1=>match aj P ins o with
    | none=>none
    | some k=>
     bif (match o.dst with|some d=>Nat.blt d n|none=>true) then
      bif !draw||(sub b s.done&&!(Nat.testBit s.done i)&&hygienic ops ek i o&&(match o.guard with|some (g,_)=>Nat.testBit b g|none=>true)
       &&(match bR k with | .cB=>sub s.cB b&&sub s.make b | .load=>sub s.cB b|_=>true)) then
       nP P ins kept n draw ops ek s6 is { s1 with dj:=(bif iD (bR k) then i::s1.dj else s1.dj),cB:=(bif bX (bR k) then s1.cB||| 2 ^ i else s1.cB),make:=(bif gT (bR k) then s1.make||| 2 ^ i else s1.make),done:=s1.done||| 2 ^ i }
      else none
     else none
def gV (P:Program) (ins kept:List Nat) (n:Nat) (draw:Bool) (ops:List Oper):Option (List (AO×List bx)):=
 (bif draw then
  let ek:=jP ops
  let Yu:=Mh ek (ops.map fun o=>kdC o.op)
  bif qd ops then (nP P ins kept n true ops ek (s7 ops) Yu nD).bind fun s=>bif (List.range ops.length).all fun i=>Nat.testBit s.done i then some s else none else none
 else nP P ins kept n false ops [] (s7 ops) (List.range ops.length) nD).map fun s=>s.out.reverse
def D9 {α:Type}:bE α→Bool
 | .wi=>true
 | _=>false
def Iq (kept:List Nat) (n:Nat) (ops:List Oper):Option (List Bool):=match ops with
 | [o]=>match o.op,o.guard,o.dst with
  | .call d,none,some t=>match d.callee with
   | .builtin .recover=>bif d.args.toList.isEmpty&&Nat.blt t n&&dt kept t then some (bY t) else none
   | _=>none
  | _,_,_=>none
 | _=>none
def jq (P:Program) (ins kept:List Nat) (n:Nat) (draw:Bool) (ops:List Oper):Option a8:=match Iq kept n ops,draw with
 | some p,false=>some (.aa false [(⟨some p,none,.wi⟩,[])])
 | _,_=>match gV P ins kept n draw ops with
  | some l=>bif l.any fun x=>D9 x.1.op then none else some (.aa draw l)
  | none=>none
def bF (P:Program) (ins kept:List Nat) (n:Nat):Code→Option a8
 | .skip=>some .skip
 | .label _=>some .skip
 | .region _ ops draw=>jq P ins kept n draw ops.toList
 | .seq a b=>match bF P ins kept n a,bF P ins kept n b with
  | some a,some b=>some (.seq a b)
  | _,_=>none
 | .cond c a b=>match cv kept n ([]:Env) c,bF P ins kept n a,bF P ins kept n b with
  | some c,some a,some b=>some (.cond c a b)
  | _,_,_=>none
 | .block id c=>(bF P ins kept n c).map (.block id)
 | .loop c=>(bF P ins kept n c).map .loop
 | .exit id=>some (.exit id)
 | .ret=>some .ret
 | _=>none
def hZ (P:Program) (kept:List Nat) (n:Nat):ResultVar→Option (Od×Option (Option Nat))
 | .tmp t=>bif Nat.blt t n&&dt kept t then some (.var (bY t),none) else none
 | .cell a t=>bif Nat.blt a n&&dt kept a then (oM P t).map fun g=>(.var (bY a),some g) else none
def cR (P:Program) (kept:List Nat) (n:Nat):List ResultVar→Option (List (Od×Option (Option Nat)))
 | []=>some []
 | r::rs=>match hZ P kept n r,cR P kept n rs with
  | some a,some as=>some (a::as)
  | _,_=>none
def s8 (t:Nat) (l:List Nat):List Nat:=bif dt l t then l else t::l
def Pp (ops:List Oper):List Nat:=(ops.foldl (fun (seen,l) o=>(o.dst.toList++seen,(tmpsOf o).foldl (fun l t=>bif dt seen t then l else s8 t l) l)) (([]:List Nat),([]:List Nat))).2
def qe:Code→List Nat→List Nat
 | .region _ ops _,l=>(Pp ops.toList).foldl (fun l t=>s8 t l) l
 | .seq a b,l=>qe b (qe a l)
 | .cond c a b,l=>qe b (qe a (match c with | .tmp t=>s8 t l|_=>l))
 | .block _ c,l | .loop c,l=>qe c l
 | _,l=>l
def Yv (f:Func):List Nat:=match f.body with
 | some c=>qe c (f.results.toList.foldl (fun l r=>match r with | .tmp t=>s8 t l | .cell t _=>s8 t l) [])
 | none=>[]
def jQ (P:Program) (ins kept:List Nat) (f:Func):Option ao:=match f.body with
 | some c=>match bF P ins kept f.ntmps c,cR P kept f.ntmps f.results.toList with
  | some b,some r=>some ⟨r,b⟩
  | _,_=>none
 | none=>none
end Go.Eng

namespace Go.Eng
noncomputable section
@[simp] theorem WZ {α β:Type} (f:α→Option β):bd none f=none:=rfl
@[simp] theorem Ea {α β:Type} (a:α) (f:α→Option β):bd (some a) f=f a:=rfl
theorem aL {α β:Type} {o:Option α} {f:α→Option β} {r:β} (h:bd o f=some r):∃a,o=some a∧f a=some r:=by
 cases o with
 | none=>cases h
 | some a=>exact ⟨a,rfl,h⟩
section
variable {α:Type}
@[simp] theorem Yw (p:List Bool):ak (.e:Tr α) p=none:=rfl
@[simp] theorem Pq (l:Tr α) (v:Option α) (r:Tr α):ak (.n l v r) []=v:=rfl
@[simp] theorem NX (l:Tr α) (v:Option α) (r:Tr α) (b:Bool) (p:List Bool):ak (.n l v r) (b::p)=cond b (ak l p) (ak r p):=rfl
def bD:List Bool→Tr α→Option α→Tr α
 | [],.e,x=>.n .e x .e
 | [],.n l _ r,x=>.n l x r
 | b::p,.e,x=>cond b (.n (bD p .e x) none .e) (.n .e none (bD p .e x))
 | b::p,.n l v r,x=>cond b (.n (bD p l x) v r) (.n l v (bD p r x))
theorem bN (p:List Bool):∀(t:Tr α) (x:Option α) (k:Tr α→R0),cQ p t x k=k (bD p t x):=by
 induction p with
 | nil=>intro t x k;cases t<;>rfl
 | cons b p ih=>
  intro t x k
  have h:cQ (b::p) t x k=L8 b (cQ p) t x k:=rfl
  rw [h]
  cases t with
  | e=>cases b<;>simp [L8,Ti,bD,ih]
  | n l v r=>cases b<;>simp [L8,Tj,bD,ih]
theorem bk (p:List Bool):∀(t:Tr α) (x:Option α),ak (bD p t x) p=x:=by
 induction p with
 | nil=>intro t x;cases t<;>rfl
 | cons b p ih=>intro t x;cases t<;>cases b<;>simp [bD,ih]
theorem aO (p:List Bool):∀(q:List Bool) (t:Tr α) (x:Option α),q≠p→ak (bD p t x) q=ak t q:=by
 induction p with
 | nil=>
  intro q t x h
  cases q with
  | nil=>exact absurd rfl h
  | cons c q=>cases t<;>cases c<;>rfl
 | cons b p ih=>
  intro q t x h
  cases q with
  | nil=>cases t<;>cases b<;>rfl
  | cons c q=>
   by_cases e:c=b
   ·subst e
    have cy:q≠p:=fun e=>h (by rw [e])
    cases t<;>cases c<;>simp [bD,ih q _ _ cy]
   ·cases t<;>cases b<;>cases c<;>first|exact absurd rfl e|simp [bD]
end
def nQ:List Bool→Nat
 | []=>0
 | true::p=>2 * nQ p + 1
 | false::p=>2 * nQ p + 2
theorem wv (f k:Nat):path (f + 1) k=cond (Nat.beq k 0) [] (cond (Nat.beq (Nat.mod k 2) 1) (true::path f (Nat.div k 2)) (false::path f (Nat.sub (Nat.div k 2) 1))):=rfl
theorem qY (f:Nat):∀k,k≤f→nQ (path f k)=k:=by
 induction f with
 | zero=>
   intro k h;have:k=0:=by omega
   subst this;rfl
 | succ f ih=>
  intro k h
  rw [wv]
  by_cases h0:k=0
  ·subst h0;rfl
  ·have hb:Nat.beq k 0=false:=by
    cases e:Nat.beq k 0 with
    | true=>exact absurd (Nat.eq_of_beq_eq_true e) h0
    | false=>rfl
   rw [hb];simp only [cond_false]
   by_cases h1:k % 2=1
   ·have:Nat.beq (Nat.mod k 2) 1=true:=by
     show Nat.beq (k % 2) 1=true
     rw [h1];rfl
    rw [this];simp only [cond_true,nQ]
    have:=ih (k / 2) (by omega)
    show 2 * nQ (path f (k / 2)) + 1=k
    rw [this];omega
   ·have hm:Nat.beq (Nat.mod k 2) 1=false:=by
     cases e:Nat.beq (Nat.mod k 2) 1 with
     | true=>exact absurd (Nat.eq_of_beq_eq_true e) h1
     | false=>rfl
    rw [hm];simp only [cond_false,nQ]
    have:=ih (k / 2 - 1) (by omega)
    show 2 * nQ (path f (k / 2 - 1)) + 2=k
    rw [this];omega
theorem dO {a b:Nat} (h:at_ a=at_ b):a=b:=by
 have ha:=qY a a (Nat.le_refl _)
 have hb:=qY b b (Nat.le_refl _)
 unfold at_ at h
 rw [← ha,← hb,h]
theorem Ir (f:Nat):∀k,wq f k=path f k:=by
 induction f with
 | zero=>intro k;rfl
 | succ f ih=>
  intro k
  rw [wv]
  show (bif Nat.beq k 0 then [] else bif Nat.beq (k % 2) 1 then true::wq f (k / 2) else false::wq f (k / 2 - 1))=_
  rw [ih,ih];rfl
theorem ie (t:Nat):bY t=at_ t:=Ir t t
def gW (T:Tr Value) (L:List Value):Od→Option Value
 | .loc d=>L[d]?
 | .var p=>ak T p
 | .aD v=>some v
 | .fn f=>some (.func (.func f) #[] #[])
theorem jR (L:List Value):∀(d:Nat) (k:KV),vo L d k=bd L[d]? k:=by
 induction L with
 | nil=>intro d k;rfl
 | cons v L ih=>
  intro d k
  cases d with
  | zero=>rfl
  | succ d=>exact ih d k
theorem oO (L:List Value):∀d,Cd L d=L[d]?:=by
 induction L with
 | nil=>intro d;rfl
 | cons v L ih=>
  intro d
  cases d with
  | zero=>rfl
  | succ d=>exact ih d
theorem b6 (T:Tr Value) (L:List Value) (x:Od) (k:KV):aS T L x k=bd (gW T L x) k:=by
 cases x with
 | loc d=>exact jR L d k
 | var p=>rfl
 | aD v=>rfl
 | fn f=>rfl
def nE (T:Tr Value) (L:List Value):List Od→Option (List Value)
 | []=>some []
 | x::xs=>match gW T L x,nE T L xs with
  | some v,some vs=>some (v::vs)
  | _,_=>none
theorem dJ (T:Tr Value) (L:List Value) (xs:List Od):∀k,cH T L xs k=bd (nE T L xs) k:=by
 induction xs with
 | nil=>intro k;rfl
 | cons x xs ih=>
  intro k
  show aS T L x (fun v=>cH T L xs fun vs=>k (v::vs))=_
  rw [b6]
  cases h:gW T L x with
  | none=>simp [nE,h]
  | some v=>
   simp only [Ea,ih,nE,h]
   cases nE T L xs<;>rfl
def s9 (T:Tr Value) (L:List Value):List (Nat×Nat×Od)→Option (List (Nat×Nat×Value))
 | []=>some []
 | (i,j,x)::xs=>match gW T L x,s9 T L xs with
  | some v,some vs=>some ((i,j,v)::vs)
  | _,_=>none
theorem wx (T:Tr Value) (L:List Value) (xs:List (Nat×Nat×Od)):∀k,cW T L xs k=bd (s9 T L xs) k:=by
 induction xs with
 | nil=>intro k;rfl
 | cons x xs ih=>
  intro k
  obtain ⟨i,j,x⟩:=x
  show aS T L x (fun v=>cW T L xs fun vs=>k ((i,j,v)::vs))=_
  rw [b6]
  cases h:gW T L x with
  | none=>simp [s9,h]
  | some v=>
   simp only [Ea,ih,s9,h]
   cases s9 T L xs<;>rfl
def gB (T:Tr Value) (L:List Value) (x:Od):Od:=.aD ((gW T L x).getD undef)
theorem Eb (T:Tr Value) (L:List Value) (v:Value) (k:KV):aS T L (.aD v) k=k v:=rfl
theorem zF {T:Tr Value} {L:List Value} {x:Od} {k:KV} {r:Ex×St} (T':Tr Value) (L':List Value) (h:aS T L x k=some r):aS T' L' (gB T L x) k=some r:=by
 rw [b6] at h
 obtain ⟨v,hv,h⟩:=aL h
 show k ((gW T L x).getD undef)=_
 rw [hv];exact h
theorem Sq {T:Tr Value} {L:List Value} (T':Tr Value) (L':List Value) {r:Ex×St} (xs:List Od):∀{k:List Value→R0},cH T L xs k=some r→cH T' L' (xs.map (gB T L)) k=some r:=by
 induction xs with
 | nil=>intro k h;exact h
 | cons x xs ih=>
  intro k h
  have h':aS T L x (fun v=>cH T L xs fun vs=>k (v::vs))=some r:=h
  rw [b6] at h'
  obtain ⟨v,hv,h'⟩:=aL h'
  show aS T' L' (gB T L x) (fun v=>cH T' L' (xs.map (gB T L)) fun vs=>k (v::vs))=some r
  have:gB T L x=.aD v:=by unfold gB;rw [hv];rfl
  rw [this,Eb]
  exact ih h'
theorem NY {T:Tr Value} {L:List Value} (T':Tr Value) (L':List Value) {r:Ex×St} (xs:List (Nat×Nat×Od)):∀{k:List (Nat×Nat×Value)→R0},cW T L xs k=some r→cW T' L' (xs.map fun x=>(x.1,x.2.1,gB T L x.2.2)) k=some r:=by
 induction xs with
 | nil=>intro k h;exact h
 | cons x xs ih=>
  intro k h
  obtain ⟨i,j,x⟩:=x
  have h':aS T L x (fun v=>cW T L xs fun vs=>k ((i,j,v)::vs))=some r:=h
  rw [b6] at h'
  obtain ⟨v,hv,h'⟩:=aL h'
  show aS T' L' (gB T L x) (fun v=>cW T' L' (xs.map fun x=>(x.1,x.2.1,gB T L x.2.2)) fun vs=>k ((i,j,v)::vs))=some r
  have:gB T L x=.aD v:=by unfold gB;rw [hv];rfl
  rw [this,Eb]
  exact ih h'
theorem Sr {T:Tr Value} {L:List Value} (T':Tr Value) (L':List Value) {r:Ex×St} (x:Option Od) (d:Nat) {k:Nat→R0} (h:fI T L x d k=some r):fI T' L' (x.map (gB T L)) d k=some r:=by
 cases x with
 | none=>exact h
 | some x=>exact zF (k:=fun v=>cx v k) T' L' h
theorem Ss {T:Tr Value} {L:List Value} (T':Tr Value) (L':List Value) {r:Ex×St} (x:Option Od) {k:Option Value→R0} (h:vq T L x k=some r):vq T' L' (x.map (gB T L)) k=some r:=by
 cases x with
 | none=>exact h
 | some x=>exact zF (k:=fun v=>k (some v)) T' L' h
end
end Go.Eng

namespace Go.Eng
variable {T:Tr Value} (T':Tr Value) {L:List Value} (L':List Value) {r:Ex×St}
theorem aR {x:Od} {k k':KV} (h:aS T L x k=some r) (hk:∀v,k v=some r→k' v=some r):aS T' L' (gB T L x) k'=some r:=by
 rw [b6] at h
 obtain ⟨v,hv,h⟩:=aL h
 show k' ((gW T L x).getD undef)=_
 rw [hv];exact hk v h
theorem xL {xs:List Od}:∀{k k':List Value→R0},cH T L xs k=some r→(∀v,k v=some r→k' v=some r)→cH T' L' (xs.map (gB T L)) k'=some r:=by
 induction xs with
 | nil=>intro k k' h hk;exact hk _ h
 | cons x xs ih=>
  intro k k' h hk
  exact aR T' L' (k:=fun v=>cH T L xs fun vs=>k (v::vs)) h fun _ h=>ih h fun vs h=>hk _ h
theorem Is {x:Nat×Nat×Od} {k k':Nat×Nat×Value→R0} (h:Ic T L x k=some r) (hk:∀v,k v=some r→k' v=some r):Ic T' L' (x.1,x.2.1,gB T L x.2.2) k'=some r:=
 aR T' L' (k:=fun v=>k (x.1,x.2.1,v)) h fun _ h=>hk _ h
theorem wy {xs:List (Nat×Nat×Od)}:∀{k k':List (Nat×Nat×Value)→R0},cW T L xs k=some r→(∀v,k v=some r→k' v=some r)→
  cW T' L' (xs.map fun x=>(x.1,x.2.1,gB T L x.2.2)) k'=some r:=by
 induction xs with
 | nil=>intro k k' h hk;exact hk _ h
 | cons x xs ih=>
  intro k k' h hk
  exact Is T' L' (k:=fun v=>cW T L xs fun vs=>k (v::vs)) h fun v h=>ih h fun vs h=>hk _ h
theorem td {v:Value} {k k':Nat→R0} (h:cx v k=some r) (hk:∀n,k n=some r→k' n=some r):cx v k'=some r:=by
 unfold cx at h ⊢
 split at h
 ·exact hk _ h
 ·cases h
theorem It {v:Value} {k k':Nat→R0} (h:lA v k=some r) (hk:∀n,k n=some r→k' n=some r):lA v k'=some r:=by
 unfold lA at h ⊢
 split at h
 ·exact hk _ h
 ·cases h
theorem iN {x:Option Od} {d:Nat} {k k':Nat→R0} (h:fI T L x d k=some r) (hk:∀v,k v=some r→k' v=some r):fI T' L' (x.map (gB T L)) d k'=some r:=by
 cases x with
 | none=>exact hk _ h
 | some x=>exact aR T' L' (k:=fun v=>cx v k) h fun v h=>td h hk
theorem Ec {x:Option Od} {k k':Option Value→R0} (h:vq T L x k=some r) (hk:∀v,k v=some r→k' v=some r):vq T' L' (x.map (gB T L)) k'=some r:=by
 cases x with
 | none=>exact hk _ h
 | some x=>exact aR T' L' (k:=fun v=>k (some v)) h fun v h=>hk _ h
theorem wz {v:Value} {a b a' b':R0} (h:fx v a b=some r) (ha:a=some r→a'=some r) (hb:b=some r→b'=some r):fx v a' b'=some r:=by
 unfold fx at h ⊢
 split at h
 ·rename_i t
  cases t
  ·exact hb h
  ·exact ha h
 ·cases h
theorem qZ {α:Type} {o:Option α} {k k':α→R0} (h:bd o k=some r) (hk:∀a,k a=some r→k' a=some r):bd o k'=some r:=by
 cases o with
 | none=>cases h
 | some a=>exact hk a h
theorem W0 {v:Value} {k k':Nat→Nat→Nat→Nat→Nat→R0} (h:nN v k=some r) (hk:∀a b c d e,k a b c d e=some r→k' a b c d e=some r):nN v k'=some r:=by
 unfold nN at h ⊢
 split at h
 ·exact hk _ _ _ _ _ h
 ·cases h
theorem Iu {v:Value} {k k':Nat→Nat→R0} (h:dd v k=some r) (hk:∀a b,k a b=some r→k' a b=some r):dd v k'=some r:=by
 unfold dd at h ⊢
 split at h
 ·exact hk _ _ h
 ·cases h
theorem sn {c:Bool} {a b a' b':R0} (h:cond c a b=some r) (ha:a=some r→a'=some r) (hb:b=some r→b'=some r):cond c a' b'=some r:=by
 cases c
 ·exact hb h
 ·exact ha h
variable {P:Program} {H:Heap} {nx:Nat}
theorem Mi {mx:Option Od} {k:KV} {b o z l h c:Nat} (hh:Fo T L mx k b o z l h c=some r):Fo T' L' (mx.map (gB T L)) k b o z l h c=some r:=by
 cases mx with
 | none=>exact hh
 | some m=>exact aR T' L' (k:=fun m=>cx m _) hh fun v h=>h
theorem Mj {lo hi mx:Option Od} {z:Nat} {k:KV} {v:Value} (h:vr T L lo hi mx z k v=some r):vr T' L' (lo.map (gB T L)) (hi.map (gB T L)) (mx.map (gB T L)) z k v=some r:=by
 unfold vr at h ⊢
 split at h
 ·refine iN T' L' h fun l h=>iN T' L' h fun i h=>?_
  have e:(mx.map (gB T L)).isNone=mx.isNone:=by cases mx<;>rfl
  rw [e];exact h
 ·refine iN T' L' h fun l h=>iN T' L' h fun i h=>?_
  have e:(mx.map (gB T L)).isNone=mx.isNone:=by cases mx<;>rfl
  rw [e];exact h
 ·exact iN T' L' h fun l h=>iN T' L' h fun i h=>sn h (Mi T' L') id
 ·cases h
theorem bG {a:bE Od} {k:KV} (h:dp a P T L H k=some r):dp (a.map (gB T L)) P T' L' H k=some r:=by
 cases a with
 | ae x=>exact aR T' L' h fun v h=>h
 | pick c x y=>exact aR T' L' h fun v h=>wz h (fun h=>aR T' L' h fun _ h=>h) (fun h=>aR T' L' h fun _ h=>h)
 | al x=>exact aR T' L' h fun v h=>h
 | ext x i=>exact aR T' L' h fun v h=>h
 | u9 x off agg=>exact aR T' L' h fun v h=>h
 | ar x off=>exact aR T' L' h fun v h=>h
 | aA x i z=>exact aR T' L' h fun v h=>aR T' L' h fun i h=>h
 | iB x i n z=>exact aR T' L' h fun v h=>aR T' L' h fun i h=>h
 | ix x i n z agg=>exact aR T' L' h fun v h=>aR T' L' h fun i h=>h
 | bin op t x y=>exact aR T' L' h fun v h=>aR T' L' h fun i h=>h
 | un op x=>exact aR T' L' h fun v h=>h
 | wh s d x=>exact aR T' L' h fun v h=>h
 | lM mn xs=>exact xL T' L' h fun v h=>h
 | Hz t x i=>exact aR T' L' h fun v h=>aR T' L' h fun i h=>h
 | Ca t x lo hi=>exact aR T' L' h fun v h=>Ec T' L' h fun l h=>Ec T' L' h fun i h=>h
 | dn neg kd x y=>exact aR T' L' h fun v h=>aR T' L' h fun i h=>h
 | eu zero parts=>exact wy T' L' h fun v h=>h
 | xF fn first cap=>exact xL T' L' h fun v h=>xL T' L' h fun i h=>h
 | zf t x=>exact aR T' L' h fun v h=>h
 | Fm x t zero ok=>exact aR T' L' h fun v h=>h
 | ah x agg=>exact aR T' L' h fun v h=>h
 | len x=>exact aR T' L' h fun v h=>h
 | zg x=>exact aR T' L' h fun v h=>h
 | D4 x=>exact aR T' L' h fun v h=>h
 | cap x=>exact aR T' L' h fun v h=>h
 | iC x lo hi mx z=>exact aR T' L' h fun v h=>Mj T' L' h
 | Ia x lo hi n z=>exact aR T' L' h fun v h=>Iu h fun b o h=>iN T' L' h fun l h=>iN T' L' h fun i h=>h
 | lN x key kt zero ok=>exact aR T' L' h fun v h=>aR T' L' h fun i h=>h
 | _=>cases h
theorem Ee {a:bE Od} {k:KA} (h:b7 a P T L H nx k=some r):b7 (a.map (gB T L)) P T' L' H nx k=some r:=by
 cases a with
 | box x=>exact aR T' L' h fun v h=>h
 | ef zero=>exact h
 | iF z bytes zero l c=>exact aR T' L' h fun v h=>td h fun n h=>aR T' L' h fun i h=>h
 | fu z len zero parts=>exact wy T' L' h fun v h=>h
 | zz x=>exact iN T' L' (d:=0) (k:=fun _=>cQ (at_ nx) H (some (.map [] 0)) fun H=>k (.map (some nx)) H (Nat.succ nx)) h fun v h=>h
 | aY x v n=>exact aR T' L' h fun v h=>aR T' L' h fun i h=>h
 | app z bytes zero s x eL=>exact aR T' L' h fun v h=>aR T' L' h fun i h=>h
 | D5 z d s=>exact aR T' L' h fun v h=>aR T' L' h fun i h=>h
 | LI x zero=>exact aR T' L' h fun v h=>h
 | HA m key v kt=>exact aR T' L' h fun v h=>aR T' L' h fun i h=>aR T' L' h fun u h=>h
 | Cb m key kt zero=>exact aR T' L' h fun v h=>aR T' L' h fun i h=>h
 | Cc m s v=>exact aR T' L' h fun v h=>aR T' L' h fun i h=>td h fun n h=>aR T' L' h fun u h=>h
 | ins z bytes s i v=>exact aR T' L' h fun v h=>aR T' L' h fun i h=>It h fun n h=>aR T' L' h fun u h=>h
 | call f args=>cases h
 | inv x name args=>cases h
 | oC f args=>cases h
 | nA x=>cases h
 | wi=>cases h
 | wj x=>exact aR T' L' h fun v h=>h
 | nxt x=>exact aR T' L' h fun v h=>h
 | L6 x=>exact aR T' L' h fun v h=>h
 | ae x=>exact bG T' L' (a:=.ae x) h
 | pick c x y=>exact bG T' L' (a:=.pick c x y) h
 | al x=>exact bG T' L' (a:=.al x) h
 | ext x i=>exact bG T' L' (a:=.ext x i) h
 | u9 x off agg=>exact bG T' L' (a:=.u9 x off agg) h
 | ar x off=>exact bG T' L' (a:=.ar x off) h
 | aA x i z=>exact bG T' L' (a:=.aA x i z) h
 | iB x i n z=>exact bG T' L' (a:=.iB x i n z) h
 | ix x i n z agg=>exact bG T' L' (a:=.ix x i n z agg) h
 | bin op t x y=>exact bG T' L' (a:=.bin op t x y) h
 | un op x=>exact bG T' L' (a:=.un op x) h
 | wh s d x=>exact bG T' L' (a:=.wh s d x) h
 | lM mn xs=>exact bG T' L' (a:=.lM mn xs) h
 | Hz t x i=>exact bG T' L' (a:=.Hz t x i) h
 | Ca t x lo hi=>exact bG T' L' (a:=.Ca t x lo hi) h
 | dn neg kd x y=>exact bG T' L' (a:=.dn neg kd x y) h
 | eu zero parts=>exact bG T' L' (a:=.eu zero parts) h
 | xF fn first cap=>exact bG T' L' (a:=.xF fn first cap) h
 | zf t x=>exact bG T' L' (a:=.zf t x) h
 | Fm x t zero ok=>exact bG T' L' (a:=.Fm x t zero ok) h
 | ah x agg=>exact bG T' L' (a:=.ah x agg) h
 | len x=>exact bG T' L' (a:=.len x) h
 | zg x=>exact bG T' L' (a:=.zg x) h
 | D4 x=>exact bG T' L' (a:=.D4 x) h
 | cap x=>exact bG T' L' (a:=.cap x) h
 | iC x lo hi mx z=>exact bG T' L' (a:=.iC x lo hi mx z) h
 | Ia x lo hi n z=>exact bG T' L' (a:=.Ia x lo hi n z) h
 | lN x key kt zero ok=>exact bG T' L' (a:=.lN x key kt zero ok) h
end Go.Eng

namespace Go.Eng
structure Ref where
 blk:Nat
 sh:Nat
 size:Nat
abbrev bB:=Nat→Option Ref
def dA:Nat:=9223372036854775807
def tf:Value→Bool
 | .agg _ | .tuple _ | .bool _=>false
 | _=>true
mutual
inductive VR (ρ:bB):Value→Value→Prop where
 | sc {v:Value} (h:scalar v=true):VR ρ v v
 | rP:VR ρ .nilIface .nilIface
 | zG:VR ρ (.pointer none) (.pointer none)
 | ptr {b o:Nat} {r:Ref} (h:ρ b=some r):VR ρ (.pointer (some ⟨b,o,none⟩)) (.pointer (some ⟨r.blk,r.sh + o,none⟩))
 | jL:VR ρ (.slice none 0 0) (.slice none 0 0)
 | sl {b o z len c p c':Nat} {r:Ref} (h:ρ b=some r) (hl:len≤c'∧c'≤dA) (hs:au c≤c') (he:exact c=true→c'=au c)
   (hp:c'=0∨(p=r.sh + o∧p + c' * z≤r.size)):VR ρ (.slice (some ⟨b,o,some z⟩) len c) (.slice (some ⟨r.blk,p,none⟩) len c')
 | Ef {a:Addr}:VR ρ (.slice (some ⟨0,0,none⟩) 0 1) (.slice (some a) 0 0)
 | rQ:VR ρ (.map none) (.map none)
 | map {b:Nat} {r:Ref} (h:ρ b=some r):VR ρ (.map (some b)) (.map (some r.blk))
 | func {f:FuncId} {a a' c c':List Value} (h:cL ρ a a') (h':cL ρ c c'):VR ρ (.func (.func f) ⟨a⟩ ⟨c⟩) (.func (.func f) ⟨a'⟩ ⟨c'⟩)
 | iface {t:TypeId} {v v':Value} (h:VR ρ v v'):VR ρ (.iface t v) (.iface t v')
 | agg {a a':List Value} (h:cL ρ a a'):VR ρ (.agg ⟨a⟩) (.agg ⟨a'⟩)
 | tuple {a a':List Value} (h:cL ρ a a'):VR ρ (.tuple ⟨a⟩) (.tuple ⟨a'⟩)
 | any {u:Value} (h:tf u=true):VR ρ (.chan none) u
 | wj {k:Nat} {x:Int} (h:(zA k:Int)≤x∧x≤(wm k:Int)):VR ρ (.chan (some k)) (.int .i64 x)
inductive cL (ρ:bB):List Value→List Value→Prop where
 | nil:cL ρ [] []
 | cons {v v':Value} {vs NZ:List Value} (h:VR ρ v v') (hs:cL ρ vs NZ):cL ρ (v::vs) (v'::NZ)
end
def Ext (ρ ρ':bB):Prop:=∀b r,ρ b=some r→ρ' b=some r
theorem Ext.refl (ρ:bB):Ext ρ ρ:=fun _ _ h=>h
theorem Ext.trans {a b c:bB} (h:Ext a b) (h':Ext b c):Ext a c:=fun _ _ x=>h' _ _ (h _ _ x)
mutual
theorem VR.mono {ρ ρ':bB} (e:Ext ρ ρ'):∀{v v':Value},VR ρ v v'→VR ρ' v v'
 | _,_,.sc h=>.sc h
 | _,_,.rP=>.rP
 | _,_,.zG=>.zG
 | _,_,.ptr h=>.ptr (e _ _ h)
 | _,_,.jL=>.jL
 | _,_,.sl h hl hs he hp=>.sl (e _ _ h) hl hs he hp
 | _,_,.Ef=>.Ef
 | _,_,.rQ=>.rQ
 | _,_,.map h=>.map (e _ _ h)
 | _,_,.func h h'=>.func (cL.mono e h) (cL.mono e h')
 | _,_,.iface h=>.iface (VR.mono e h)
 | _,_,.agg h=>.agg (cL.mono e h)
 | _,_,.tuple h=>.tuple (cL.mono e h)
 | _,_,.any h=>.any h
 | _,_,.wj h=>.wj h
theorem cL.mono {ρ ρ':bB} (e:Ext ρ ρ'):∀{v v':List Value},cL ρ v v'→cL ρ' v v'
 | _,_,.nil=>.nil
 | _,_,.cons h hs=>.cons (VR.mono e h) (cL.mono e hs)
end
section lists
variable {ρ:bB}
theorem cL.length {a a':List Value} (h:cL ρ a a'):a'.length=a.length:=by
 induction a generalizing a' with
 | nil=>cases h;rfl
 | cons v a ih=>cases h with|cons h hs=>simp [ih hs]
theorem cL.get {a a':List Value} (h:cL ρ a a'):∀{i:Nat} {v:Value},a[i]?=some v→∃v',a'[i]?=some v'∧VR ρ v v':=by
 induction a generalizing a' with
 | nil=>intro i v hv;simp at hv
 | cons u a ih=>
  intro i v hv
  cases h with
  | cons h hs=>
   cases i with
   | zero=>simp at hv;subst hv;exact ⟨_,rfl,h⟩
   | succ i=>simpa using ih hs (by simpa using hv)
theorem cL.append {a a' b b':List Value} (h:cL ρ a a') (h':cL ρ b b'):cL ρ (a++b) (a'++b'):=by
 induction a generalizing a' with
 | nil=>cases h;exact h'
 | cons v a ih=>cases h with|cons h hs=>exact .cons h (ih hs)
theorem cL.tg {a a':List Value} (hl:a'.length=a.length) (h:∀(i:Nat) (v:Value),a[i]?=some v→∃v',a'[i]?=some v'∧VR ρ v v'):cL ρ a a':=by
 induction a generalizing a' with
 | nil=>cases a' with
  | nil=>exact .nil
  | cons=>simp at hl
 | cons v a ih=>
  cases a' with
  | nil=>simp at hl
  | cons v' a'=>
   obtain ⟨u,hu,hr⟩:=h 0 v rfl
   simp at hu;subst hu
   refine .cons hr (ih (by simpa using hl) fun i w hw=>?_)
   have:=h (i + 1) w (by simpa using hw)
   simpa using this
theorem cL.drop {a a':List Value} (h:cL ρ a a') (n:Nat):cL ρ (a.drop n) (a'.drop n):=by
 induction n generalizing a a' with
 | zero=>exact h
 | succ n ih=>cases h with
  | nil=>exact .nil
  | cons h hs=>exact ih hs
theorem cL.take {a a':List Value} (h:cL ρ a a') (n:Nat):cL ρ (a.take n) (a'.take n):=by
 induction n generalizing a a' with
 | zero=>simp;exact .nil
 | succ n ih=>cases h with
  | nil=>exact .nil
  | cons h hs=>exact .cons h (ih hs)
end lists
theorem VR.dE {ρ:bB} {v v':Value} (h:VR ρ v v') (hs:scalar v=true):v'=v:=by
 cases h with
 | sc _=>rfl
 | _=>simp [scalar] at hs
theorem cL.dE {ρ:bB} {a a':List Value} (h:cL ρ a a') (hs:a.all scalar=true):a'=a:=by
 induction a generalizing a' with
 | nil=>cases h;rfl
 | cons v a ih=>
  cases h with
  | cons h hr=>
   simp at hs
   rw [h.dE hs.1,ih hr (by simpa using hs.2)]
theorem VR.gC {ρ:bB} {v v':Value} (h:VR ρ v v') (hs:flat v=true):v'=v:=by
 cases h with
 | sc _=>rfl
 | agg h=>rw [h.dE (by simpa [flat] using hs)]
 | _=>simp [flat,scalar] at hs
theorem cL.Ft {ρ:bB} {a:List Value} (hs:a.all scalar=true):cL ρ a a:=by
 induction a with
 | nil=>exact .nil
 | cons v a ih=>simp at hs;exact .cons (.sc hs.1) (ih (by simpa using hs.2))
theorem VR.of_flat {ρ:bB} {v:Value} (hs:flat v=true):VR ρ v v:=by
 cases v with
 | agg cs=>exact .agg (.Ft (by simpa [flat] using hs))
 | _=>exact .sc (by simpa [flat] using hs)
inductive kM (ρ:bB):List MapEntry→List MapEntry→Prop where
 | nil:kM ρ [] []
 | cons {e e':MapEntry} {es es':List MapEntry} (hk:VR ρ e.key e'.key) (hv:VR ρ e.val e'.val) (hb:e'.born=e.born) (h:kM ρ es es'):kM ρ (e::es) (e'::es')
theorem kM.mono {ρ ρ':bB} (e:Ext ρ ρ') {a a':List MapEntry} (h:kM ρ a a'):kM ρ' a a':=by
 induction h with
 | nil=>exact .nil
 | cons hk hv hb _ ih=>exact .cons (hk.mono e) (hv.mono e) hb ih
def LJ (ρ:bB) (hp:Array Obj) (r:Ref) (cs:List Value):Prop:=∃a e f,hp[r.blk]?=some (.cells a e f)∧a.size=r.size∧∀i v,cs[i]?=some v→∃v',a[r.sh + i]?=some v'∧VR ρ v v'
def BR (ρ:bB) (hp:Array Obj) (r:Ref):gK→Prop
 | .cells cs=>∃a e,hp[r.blk]?=some (.cells a e (0,0))∧a.size=r.size∧∀i v,cs[i]?=some v→∃v',a[r.sh + i]?=some v'∧VR ρ v v'
 | .map es c=>∃es',hp[r.blk]?=some (.map es' c)∧kM ρ es es'.toList
 | .ro cs=>LJ ρ hp r cs
 | .iter m a s c=>r.sh=0∧∃m',hp[r.blk]?=some (.mapIter m' a s.toArray c)∧VR ρ (.map m) (.map m')
def gK.ig:gK→Bool
 | .ro _=>false
 | _=>true
theorem BR.mono {ρ ρ':bB} (e:Ext ρ ρ') {hp:Array Obj} {r:Ref} {k:gK} (h:BR ρ hp r k):BR ρ' hp r k:=by
 cases k with
 | cells cs=>
  obtain ⟨a,t,h1,h2,h3⟩:=h
  exact ⟨a,t,h1,h2,fun i v hv=>let ⟨v',g,hr⟩:=h3 i v hv;⟨v',g,hr.mono e⟩⟩
 | map es c=>
  obtain ⟨es',h1,h2⟩:=h
  exact ⟨es',h1,h2.mono e⟩
 | ro cs=>
  obtain ⟨a,t,f,h1,h2,h3⟩:=h
  exact ⟨a,t,f,h1,h2,fun i v hv=>let ⟨v',g,hr⟩:=h3 i v hv;⟨v',g,hr.mono e⟩⟩
 | iter m a s c=>
  obtain ⟨h0,m',h1,h2⟩:=h
  exact ⟨h0,m',h1,h2.mono e⟩
theorem BR.lt {ρ:bB} {hp:Array Obj} {r:Ref} {k:gK} (h:BR ρ hp r k):r.blk < hp.size:=by
 cases k with
 | cells cs=>
  obtain ⟨a,t,h1,_⟩:=h
  exact (Array.getElem?_eq_some_iff.1 h1).1
 | map es c=>
  obtain ⟨es',h1,_⟩:=h
  exact (Array.getElem?_eq_some_iff.1 h1).1
 | ro cs=>
  obtain ⟨a,t,f,h1,_⟩:=h
  exact (Array.getElem?_eq_some_iff.1 h1).1
 | iter m a s c=>
  obtain ⟨_,m',h1,_⟩:=h
  exact (Array.getElem?_eq_some_iff.1 h1).1
theorem BR.of_same {ρ:bB} {hp kk:Array Obj} {r:Ref} {k:gK} (h:BR ρ hp r k) (e:kk[r.blk]?=hp[r.blk]?):BR ρ kk r k:=by
 cases k with
 | cells cs=>obtain ⟨a,t,h1,h2⟩:=h;exact ⟨a,t,e.trans h1,h2⟩
 | map es c=>obtain ⟨es',h1,h2⟩:=h;exact ⟨es',e.trans h1,h2⟩
 | ro cs=>obtain ⟨a,t,f,h1,h2⟩:=h;exact ⟨a,t,f,e.trans h1,h2⟩
 | iter m a s c=>obtain ⟨h0,m',h1,h2⟩:=h;exact ⟨h0,m',e.trans h1,h2⟩
structure HR (ρ:bB) (H:Heap) (nx:Nat) (hp:Array Obj):Prop where
 blk:∀b k,ak H (at_ b)=some k→∃r,ρ b=some r∧BR ρ hp r k
 inj:∀b c k l r s,ak H (at_ b)=some k→ak H (at_ c)=some l→k.ig=true→ρ b=some r→ρ c=some s→r.blk=s.blk→b=c
 new:∀b,nx≤b→ρ b=none
def jM (ρ:bB) (H:Heap) (k:Nat):Prop:=∃b x r,ak H (at_ b)=some x∧x.ig=true∧ρ b=some r∧r.blk=k
def Cg (H' H:Heap):Prop:=∀b x,ak H' (at_ b)=some x→x.ig=false→ak H (at_ b)=some x
theorem Cg.refl (H:Heap):Cg H H:=fun _ _ h _=>h
theorem Cg.trans {H2 H1 H:Heap} (h:Cg H2 H1) (h':Cg H1 H):Cg H2 H:=fun b x hb hm=>h' b x (h b x hb hm) hm
theorem Cg.forget (H:Heap) (b:Nat):Cg (bD (at_ b) H none) H:=by
 intro c x hc _
 by_cases e:at_ c=at_ b
 ·rw [e,bk] at hc;cases hc
 ·rwa [aO _ _ _ _ e] at hc
theorem Cg.put (H:Heap) (b:Nat) (k:gK) (hk:k.ig=true:=by rfl):Cg (bD (at_ b) H (some k)) H:=by
 intro c x hc hx
 by_cases e:at_ c=at_ b
 ·rw [e,bk] at hc
  have:k=x:=by simpa using hc
  subst this
  rw [hk] at hx;cases hx
 ·rwa [aO _ _ _ _ e] at hc
structure BX (ρ:bB) (H:Heap) (w:World) (ρ':bB) (H':Heap) (w':World):Prop where
 ext:Ext ρ ρ'
 own:∀k,jM ρ' H' k→jM ρ H k∨w.heap.size≤k
 ro:Cg H' H
 frame:∀k,k < w.heap.size→¬jM ρ H k→w'.heap[k]?=w.heap[k]?
 size:w.heap.size≤w'.heap.size
 os:w'.os=w.os
 tape:w'.tape=w.tape
 output:w'.output=w.output
theorem BX.refl (ρ:bB) (H:Heap) (w:World):BX ρ H w ρ H w:=⟨.refl ρ,fun _ h=>.inl h,.refl H,fun _ _ _=>rfl,Nat.le_refl _,rfl,rfl,rfl⟩
theorem BX.trans {ρ ρ1 ρ2:bB} {H H1 H2:Heap} {w w1 w2:World} (h:BX ρ H w ρ1 H1 w1) (h':BX ρ1 H1 w1 ρ2 H2 w2):BX ρ H w ρ2 H2 w2:=by
 refine ⟨h.ext.trans h'.ext,fun k hk=>?_,h'.ro.trans h.ro,fun k hk hn=>?_,Nat.le_trans h.size h'.size,h'.os.trans h.os,h'.tape.trans h.tape,h'.output.trans h.output⟩
 ·rcases h'.own k hk with h1|h1
  ·exact h.own k h1
  ·exact .inr (Nat.le_trans h.size h1)
 ·have h1:¬jM ρ1 H1 k:=fun ho=>by
   rcases h.own k ho with h2|h2
   ·exact hn h2
   ·omega
  rw [h'.frame k (Nat.lt_of_lt_of_le hk h.size) h1,h.frame k hk hn]
theorem BX.drew (ρ:bB) (H:Heap) (w:World) (n:Nat):BX ρ H w ρ H { w with drawn:=n }:=⟨.refl ρ,fun _ h=>.inl h,.refl H,fun _ _ _=>rfl,Nat.le_refl _,rfl,rfl,rfl⟩
section steps
variable {ρ:bB} {H:Heap} {nx:Nat} {hp:Array Obj}
def bB.with (ρ:bB) (b:Nat) (r:Ref):bB:=fun x=>if x=b then some r else ρ x
theorem bB.dF (ρ:bB) (b:Nat) (r:Ref):ρ.with b r b=some r:=by simp [bB.with]
theorem bB.fP (ρ:bB) {b c:Nat} (r:Ref) (h:c≠b):ρ.with b r c=ρ c:=by simp [bB.with,h]
theorem HR.eM (h:HR ρ H nx hp) (r:Ref):Ext ρ (ρ.with nx r):=by
 intro b s hb
 have cy:b≠nx:=by
  intro e;subst e
  rw [h.new b (Nat.le_refl _)] at hb;cases hb
 rw [bB.fP _ _ cy];exact hb
theorem HR.forget (h:HR ρ H nx hp) (b:Nat):HR ρ (bD (at_ b) H none) nx hp:=by
 have key:∀c k,ak (bD (at_ b) H none) (at_ c)=some k→ak H (at_ c)=some k:=by
  intro c k hc
  by_cases e:at_ c=at_ b
  ·rw [e,bk] at hc;cases hc
  ·rwa [aO _ _ _ _ e] at hc
 exact ⟨fun c k hc=>h.blk c k (key c k hc),fun c d k l r s hc hd=>h.inj c d k l r s (key _ _ hc) (key _ _ hd),h.new⟩
theorem jM.mS {b k:Nat} (h:jM ρ (bD (at_ b) H none) k):jM ρ H k:=by
 obtain ⟨c,x,r,hc,hm,hr,e⟩:=h
 refine ⟨c,x,r,?_,hm,hr,e⟩
 by_cases e:at_ c=at_ b
 ·rw [e,bk] at hc;cases hc
 ·rwa [aO _ _ _ _ e] at hc
theorem HR.make (h:HR ρ H nx hp) {kk:Array Obj} {k:gK} {r:Ref}
  (hold:∀b x s,ak H (at_ b)=some x→ρ b=some s→kk[s.blk]?=hp[s.blk]?∧s.blk≠r.blk) (hk:BR (ρ.with nx r) kk r k) :
  HR (ρ.with nx r) (bD (at_ nx) H (some k)) (nx + 1) kk:=by
 have ext:=h.eM r
 have j5:∀b x,ak (bD (at_ nx) H (some k)) (at_ b)=some x→(b=nx∧x=k)∨(b≠nx∧ak H (at_ b)=some x):=by
  intro b x hb
  by_cases e:at_ b=at_ nx
  ·rw [e,bk] at hb
   exact .inl ⟨dO e,by simpa using hb.symm⟩
  ·rw [aO _ _ _ _ e] at hb
   exact .inr ⟨fun e'=>e (by rw [e']),hb⟩
 refine ⟨fun b x hb=>?_,fun b c x y s t hb hc hm hs ht e=>?_,fun b hb=>?_⟩
 ·rcases j5 b x hb with ⟨rfl,rfl⟩|⟨cy,hb⟩
  ·exact ⟨r,bB.dF _ _ _,hk⟩
  ·obtain ⟨s,hs,vA⟩:=h.blk b x hb
   exact ⟨s,ext b s hs,(vA.mono ext).of_same (hold b x s hb hs).1⟩
 ·rcases j5 b x hb with ⟨eb,_⟩|⟨th,fp⟩
  ·rcases j5 c y hc with ⟨ec,_⟩|⟨Iv,hc'⟩
   ·rw [eb,ec]
   ·rw [eb,bB.dF] at hs;cases hs
    rw [bB.fP _ _ Iv] at ht
    exact absurd e.symm (hold c y t hc' ht).2
  ·rcases j5 c y hc with ⟨ec,_⟩|⟨Iv,hc'⟩
   ·rw [ec,bB.dF] at ht;cases ht
    rw [bB.fP _ _ th] at hs
    exact absurd e (hold b x s fp hs).2
   ·rw [bB.fP _ _ th] at hs
    rw [bB.fP _ _ Iv] at ht
    exact h.inj b c x y s t fp hc' hm hs ht e
 ·rw [bB.fP _ _ (by omega)]
  exact h.new b (by omega)
theorem jM.so {k:gK} {r:Ref} {j:Nat} (h:jM (ρ.with nx r) (bD (at_ nx) H (some k)) j):j=r.blk∨jM ρ H j:=by
 obtain ⟨b,x,s,hb,hm,hs,e⟩:=h
 by_cases e':at_ b=at_ nx
 ·have:=dO e';subst this
  rw [bB.dF] at hs;cases hs
  exact .inl e.symm
 ·rw [aO _ _ _ _ e'] at hb
  rw [bB.fP _ _ (fun e=>e' (by rw [e]))] at hs
  exact .inr ⟨b,x,s,hb,hm,hs,e⟩
theorem HR.write (h:HR ρ H nx hp) {kk:Array Obj} {b:Nat} {k0 k:gK} {r:Ref} (hb:ak H (at_ b)=some k0) (hr:ρ b=some r)
  (hold:∀i,i≠r.blk→kk[i]?=hp[i]?) (hk:BR ρ kk r k) (zH:k0.ig=true:=by rfl):HR ρ (bD (at_ b) H (some k)) nx kk:=by
 have j5:∀c x,ak (bD (at_ b) H (some k)) (at_ c)=some x→(c=b∧x=k)∨(c≠b∧ak H (at_ c)=some x):=by
  intro c x hc
  by_cases e:at_ c=at_ b
  ·rw [e,bk] at hc
   exact .inl ⟨dO e,by simpa using hc.symm⟩
  ·rw [aO _ _ _ _ e] at hc
   exact .inr ⟨fun e'=>e (by rw [e']),hc⟩
 have back:∀c x,ak (bD (at_ b) H (some k)) (at_ c)=some x→∃y,ak H (at_ c)=some y∧(x.ig=true→y.ig=true):=by
  intro c x hc
  rcases j5 c x hc with ⟨rfl,rfl⟩|⟨_,hc⟩
  ·exact ⟨k0,hb,fun _=>zH⟩
  ·exact ⟨x,hc,id⟩
 refine ⟨fun c x hc=>?_,fun c d x y s t hc hd hm hs ht e=>?_,h.new⟩
 ·rcases j5 c x hc with ⟨rfl,rfl⟩|⟨cy,hc⟩
  ·exact ⟨r,hr,hk⟩
  ·obtain ⟨s,hs,vA⟩:=h.blk c x hc
   refine ⟨s,hs,vA.of_same (hold _ fun e=>cy (h.inj b c k0 x r s hb hc zH hr hs e.symm).symm)⟩
 ·obtain ⟨x',hc',HB⟩:=back c x hc
  obtain ⟨y',Fu,_⟩:=back d y hd
  exact h.inj c d x' y' s t hc' Fu (HB hm) hs ht e
theorem jM.mc {b:Nat} {k0 k:gK} {j:Nat} (hb:ak H (at_ b)=some k0) (h:jM ρ (bD (at_ b) H (some k)) j) (zH:k0.ig=true:=by rfl):jM ρ H j:=by
 obtain ⟨c,x,s,hc,hm,hs,e⟩:=h
 by_cases e':at_ c=at_ b
 ·exact ⟨c,k0,s,by rw [e'];exact hb,zH,hs,e⟩
 ·rw [aO _ _ _ _ e'] at hc
  exact ⟨c,x,s,hc,hm,hs,e⟩
end steps
end Go.Eng

namespace Go.Eng
theorem du (l:List Value):∀n,dH l n=l.drop n:=by
 induction l with
 | nil=>intro n;cases n<;>rfl
 | cons c l ih=>
  intro n
  cases n with
  | zero=>rfl
  | succ n=>exact ih n
theorem take?_eq (n:Nat):∀(l r:List Value),take? n l=some r→r=l.take n∧n≤l.length:=by
 induction n with
 | zero=>intro l r h;cases h;simp
 | succ n ih=>
  intro l r h
  cases l with
  | nil=>cases h
  | cons c l=>
   have h':(Option.rec none (fun r=>some (c::r)) (take? n l):Option (List Value))=some r:=h
   cases e:take? n l with
   | none=>rw [e] at h';cases h'
   | some q=>
    rw [e] at h'
    have Pr:some (c::q)=some r:=h'
    obtain ⟨h1,h2⟩:=ih l q e
    cases Pr
    exact ⟨by rw [h1];rfl,by simpa using h2⟩
theorem take?_get {n:Nat} {l r:List Value} (h:take? n l=some r):r.length=n∧∀i,i < n→r[i]?=l[i]?:=by
 obtain ⟨h1,h2⟩:=take?_eq n l r h
 subst h1
 exact ⟨by simp;omega,fun i hi=>by rw [List.getElem?_take];simp [hi]⟩
theorem Iw (l:List Value):wk l=l[0]?:=by cases l<;>rfl
theorem q8 {cs:List Value} {off:Nat} {v:Value} (h:partOf cs off none=some v):cs[off]?=some v:=by
 have h':wk (dH cs off)=some v:=h
 rw [Iw,du,List.getElem?_drop] at h'
 simpa using h'
theorem q9 {cs:List Value} {off n:Nat} {v:Value} (h:partOf cs off (some n)=some v) :
  ∃l,v=.agg ⟨l⟩∧l.length=n∧∀i,i < n→l[i]?=cs[off + i]?:=by
 have h':Ib (take? n (dH cs off))=some v:=h
 cases e:take? n (dH cs off) with
 | none=>rw [e] at h';cases h'
 | some l=>
  rw [e] at h'
  have Pr:some (Value.agg l.toArray)=some v:=h'
  cases Pr
  obtain ⟨h1,h2⟩:=take?_get e
  refine ⟨l,rfl,h1,fun i hi=>?_⟩
  rw [h2 i hi,du,List.getElem?_drop]
variable {P:Program} {w:World}
theorem iY {α:Type} {s:Sem α} {a:α} (h:quiet P s=some a):s.run P w=.ok a w:=by
 induction s with
 | pure b=>cases h;rfl
 | program k ih=>exact ih P h
 | _=>cases h
theorem ky {t:TypeId} {i:TypeInfo} (h:P.info? t=some i):(typeInfo t).run P w=.ok i w:=by
 simp [typeInfo,h]
theorem dK {t:TypeId} {n:Nat} (h:bZ P t=some n):(sizeOf t).run P w=.ok n w:=by
 unfold bZ at h
 cases e:P.info? t with
 | none=>rw [e] at h;cases h
 | some i=>
  rw [e] at h
  simp at h
  simp [sizeOf,ky e,h]
theorem Fv {t:TypeId} {n:Nat} (h:jO P t=some n):∃i,(typeInfo t).run P w=.ok i w∧i.bytes=n:=by
 unfold jO at h
 cases e:P.info? t with
 | none=>rw [e] at h;cases h
 | some i=>
  rw [e] at h
  simp at h
  exact ⟨i,ky e,h⟩
theorem wA {t:TypeId} {n:Nat} (h:oM P t=some (some n)):(isAgg t).run P w=.ok true w∧(sizeOf t).run P w=.ok n w:=by
 unfold oM at h
 split at h
 ·rename_i i fs hi hu
  cases h
  exact ⟨by simp [isAgg,run_underlying hu],by simp [sizeOf,ky hi]⟩
 ·rename_i i a b hi hu
  cases h
  exact ⟨by simp [isAgg,run_underlying hu],by simp [sizeOf,ky hi]⟩
 ·cases h
 ·cases h
theorem wB {t:TypeId} (h:oM P t=some none):(isAgg t).run P w=.ok false w:=by
 unfold oM at h
 split at h
 ·cases h
 ·cases h
 ·rename_i i d h1 h2 hi hu
  have hd:(underlying t).run P w=.ok d w:=run_underlying hu w
  simp only [isAgg,Sem.run_bind,hd,Result.andThen_ok]
  cases d with
  | struct fs=>exact (h1 fs rfl).elim
  | array n e=>exact (h2 n e rfl).elim
  | _=>rfl
 ·cases h
theorem gD {t:TypeId} {z:Value} (h:fO P t=some z):(zeroValue t).run P w=.ok z w∧iL z=true:=by
 unfold fO at h
 split at h
 ·rename_i i hi
  split at h
  ·rename_i z' hz
   cases hc:iL z' with
   | false=>rw [hc] at h;cases h
   | true=>
    rw [hc] at h
    have h':some z'=some z:=h
    cases h'
    exact ⟨by simp [zeroValue,ky hi,hz],hc⟩
  ·cases h
 ·cases h
theorem cell_of {hp:Array Obj} {b o:Nat} {a:Array Value} {e:TypeId} {f:Nat×Nat} {v:Value} (w:World) (hw:w.heap=hp) (h:hp[b]?=some (.cells a e f)) (hv:a[o]?=some v):w.cell? ⟨b,o,none⟩=some v:=by
 unfold World.cell?
 rw [hw]
 simp [h,hv]
theorem vB {a:Addr} {v:Value} (h:w.cell? a=some v):(load a).run P w=.ok v w:=by
 simp [load,Sem.run,h]
theorem run_loadCellsFrom (b o:Nat) (f:Nat→Value):∀(n i:Nat) (acc:Array Value),(∀j,j < n→w.cell? ⟨b,o + (i + j),none⟩=some (f (i + j)))→
  (loadCellsFrom ⟨b,o,none⟩ i n acc).run P w=.ok (acc++((List.range n).map fun j=>f (i + j)).toArray) w:=by
 intro n
 induction n with
 | zero=>intro i acc _;simp [loadCellsFrom,Sem.run_pure]
 | succ n ih=>
  intro i acc h
  have h0:(load (Addr.add ⟨b,o,none⟩ i)).run P w=.ok (f i) w:=by
   rw [Addr.add_lit]
   exact vB (by simpa using h 0 (by omega))
  simp only [loadCellsFrom,Sem.run_bind,h0,Result.andThen_ok]
  rw [ih (i + 1) (acc.push (f i)) (fun j hj=>by have:=h (j + 1) (by omega);rw [show i + 1 + j=i + (j + 1) by omega];exact this)]
  congr 1
  apply Array.ext'
  simp [List.range_succ_eq_map]
  intro a _;congr 1;omega
theorem run_loadCells {b o n:Nat} {l:List Value} (hl:l.length=n) (h:∀i v,l[i]?=some v→w.cell? ⟨b,o + i,none⟩=some v):(loadCells ⟨b,o,none⟩ n).run P w=.ok ⟨l⟩ w:=by
 have:=run_loadCellsFrom (P:=P) (w:=w) b o (fun i=>l.getD i undef) n 0 #[] (fun j hj=>by
  have Fw:j < l.length:=by omega
  have:=h j l[j] (by simp [Fw])
  simpa [List.getD_eq_getElem?_getD,Fw] using this)
 unfold loadCells
 rw [this]
 congr 1
 apply Array.ext'
 simp
 apply List.ext_getElem
 ·simp [hl]
 ·intro i h1 h2
  simp
  simp at h1
  rw [List.getElem?_eq_getElem (by omega)];rfl
end Go.Eng

namespace Go.Eng
variable {P:Program} {w:World} {ρ:bB} {H:Heap} {nx:Nat} {r:Ex×St}
theorem VR.Eg {cs:Array Value} {u:Value} (h:VR ρ (.agg cs) u):∃cs',u=.agg cs'∧cL ρ cs.toList cs'.toList:=by
 cases h with
 | sc h=>simp [scalar] at h
 | agg h=>exact ⟨_,rfl,h⟩
theorem VR.Fx {cs:Array Value} {u:Value} (h:VR ρ (.tuple cs) u):∃cs',u=.tuple cs'∧cL ρ cs.toList cs'.toList:=by
 cases h with
 | sc h=>simp [scalar] at h
 | tuple h=>exact ⟨_,rfl,h⟩
theorem VR.gE {k:IntKind} {n:Int} {u:Value} (h:VR ρ (.int k n) u):u=.int k n:=h.dE rfl
theorem VR.oP {b:Bool} {u:Value} (h:VR ρ (.bool b) u):u=.bool b:=h.dE rfl
theorem VR.oQ {b o:Nat} {u:Value} (h:VR ρ (.pointer (some ⟨b,o,none⟩)) u):∃s,ρ b=some s∧u=.pointer (some ⟨s.blk,s.sh + o,none⟩):=by
 cases h with
 | sc h=>simp [scalar] at h
 | ptr h=>exact ⟨_,h,rfl⟩
theorem jr {v:Value} {k:Nat→Nat→R0} (h:dd v k=some r):∃b o,v=.pointer (some ⟨b,o,none⟩)∧k b o=some r:=by
 unfold dd at h
 split at h
 ·exact ⟨_,_,rfl,h⟩
 ·cases h
theorem eC {v:Value} {k:Nat→R0} (h:cx v k=some r):∃(i:IntKind) (n:Nat),v=.int i (.ofNat n)∧k n=some r:=by
 unfold cx at h
 split at h
 ·exact ⟨_,_,rfl,h⟩
 ·cases h
theorem ti {v:Value} {k:List Value→R0} (h:nB v k=some r):∃cs:Array Value,v=.agg cs∧k cs.toList=some r:=by
 unfold nB at h
 split at h
 ·exact ⟨_,rfl,h⟩
 ·cases h
theorem kz {v:Value} {k:Nat→Nat→Nat→Nat→Nat→R0} (h:nN v k=some r):∃b o z len c,v=.slice (some ⟨b,o,some z⟩) len c∧k b o z len c=some r:=by
 unfold nN at h
 split at h
 ·exact ⟨_,_,_,_,_,rfl,h⟩
 ·cases h
theorem mf {v:Value} {a b:R0} (h:fx v a b=some r):(v=.bool true∧a=some r)∨(v=.bool false∧b=some r):=by
 unfold fx at h
 split at h
 ·rename_i t
  cases t
  ·exact .inr ⟨rfl,h⟩
  ·exact .inl ⟨rfl,h⟩
 ·cases h
theorem bI {c:Bool} {a:R0} (h:cond c a none=some r):c=true∧a=some r:=by
 cases c
 ·cases h
 ·exact ⟨rfl,h⟩
theorem en {b:Nat} {k:List Value→R0} (h:dy H b k=some r):∃cs,ak H (at_ b)=some (.cells cs)∧k cs=some r:=by
 unfold dy sm at h
 cases e:ak H (at_ b) with
 | none=>rw [e] at h;cases h
 | some x=>
  rw [e] at h
  cases x with
  | cells cs=>exact ⟨cs,rfl,h⟩
  | map es c=>cases h
  | ro cs=>cases h
  | iter _ _ _ _=>cases h
theorem mg {b:Nat} {k:List Value→R0} (h:cr H b k=some r):∃cs x,ak H (at_ b)=some x∧(∀(ρ:bB) (hp:Array Obj) (s:Ref),BR ρ hp s x→LJ ρ hp s cs)∧k cs=some r:=by
 unfold cr onRead at h
 cases e:ak H (at_ b) with
 | none=>rw [e] at h;cases h
 | some x=>
  rw [e] at h
  cases x with
  | cells cs=>exact ⟨cs,_,rfl,fun _ _ _ h=>let ⟨a,e,h1,h2⟩:=h;⟨a,e,_,h1,h2⟩,h⟩
  | map es c=>cases h
  | ro cs=>exact ⟨cs,_,rfl,fun _ _ _ h=>h,h⟩
  | iter _ _ _ _=>cases h
theorem gd {b:Nat} {k:List MapEntry→Nat→R0} (h:eZ (ak H (at_ b)) k=some r):∃es c,ak H (at_ b)=some (.map es c)∧k es c=some r:=by
 unfold eZ at h
 cases e:ak H (at_ b) with
 | none=>rw [e] at h;cases h
 | some x=>
  rw [e] at h
  cases x with
  | cells cs=>cases h
  | map es c=>exact ⟨es,c,rfl,h⟩
  | ro cs=>cases h
  | iter _ _ _ _=>cases h
theorem tj {t:TypeId} {off:Nat} {g:Option Nat} {a a':List Value} {v:Value} (hg:oM P t=some g) (hr:cL ρ a a') (h:partOf a off g=some v) :
  ∃u,(part t ⟨a'⟩ off).run P w=.ok u w∧VR ρ v u:=by
 cases g with
 | none=>
  obtain ⟨u,hu,hv⟩:=hr.get (q8 h)
  refine ⟨u,?_,hv⟩
  simp [part,wB hg,hu,Sem.run_pure]
 | some n=>
  obtain ⟨l,rfl,hl,hi⟩:=q9 h
  obtain ⟨h1,h2⟩:=wA (w:=w) hg
  refine ⟨.agg (Array.extract ⟨a'⟩ off (off + n)),by simp [part,h1,h2,Sem.run_pure],?_⟩
  have Ml:=hr.length
  have hlen:n=0∨off + n≤a.length:=by
   by_cases hn:n=0
   ·exact .inl hn
   ·right
    have h0:=hi (n - 1) (by omega)
    rw [List.getElem?_eq_getElem (by omega)] at h0
    have:=(List.getElem?_eq_some_iff.1 h0.symm).1
    omega
  have hx:(Array.extract ⟨a'⟩ off (off + n))=⟨(a'.drop off).take n⟩:=by
   apply Array.ext'
   simp [Array.toList_extract,List.extract_eq_take_drop]
  rw [hx]
  refine .agg (.tg ?_ fun i u hu=>?_)
  ·simp;omega
  ·have fA:i < n:=by rw [← hl];exact (List.getElem?_eq_some_iff.1 hu).1
   rw [hi i fA] at hu
   obtain ⟨u',TZ,hv⟩:=hr.get hu
   exact ⟨u',by rw [List.getElem?_take];simp [fA,TZ],hv⟩
theorem tk {t:TypeId} {o:Nat} {g:Option Nat} {cs:List Value} {s:Ref} {v:Value} (hg:oM P t=some g) (hb:LJ ρ w.heap s cs) (h:partOf cs o g=some v) :
  ∃u,(loadVar t ⟨s.blk,s.sh + o,none⟩).run P w=.ok u w∧VR ρ v u:=by
 obtain ⟨a,e,f,h1,h2,h3⟩:=hb
 cases g with
 | none=>
  obtain ⟨u,hu,hv⟩:=h3 _ _ (q8 h)
  refine ⟨u,?_,hv⟩
  simp [loadVar,wB hg,cell_of w rfl h1 hu]
 | some n=>
  obtain ⟨l,rfl,hl,hi⟩:=q9 h
  obtain ⟨g1,g2⟩:=wA (w:=w) hg
  have key:∀m,m≤n→∃l':List Value,l'.length=m∧∀i,i < m→∃x y,l[i]?=some x∧l'[i]?=some y∧a[s.sh + (o + i)]?=some y∧VR ρ x y:=by
   intro m
   induction m with
   | zero=>intro _;exact ⟨[],rfl,fun i hi=>by omega⟩
   | succ m ih=>
    intro hm
    obtain ⟨l',lD,hq⟩:=ih (by omega)
    have hx:l[m]?=some l[m]:=List.getElem?_eq_getElem (by omega)
    obtain ⟨y,hy,hv⟩:=h3 (o + m) l[m] (by rw [← hi m (by omega)];exact hx)
    refine ⟨l'++[y],by simp [lD],fun i fA=>?_⟩
    by_cases e:i=m
    ·subst e
     exact ⟨_,y,hx,by simp [lD],hy,hv⟩
    ·obtain ⟨x,z,q1,q2,q3,q4⟩:=hq i (by omega)
     exact ⟨x,z,q1,by rw [List.getElem?_append_left (by omega)];exact q2,q3,q4⟩
  obtain ⟨l',lD,hq⟩:=key n (Nat.le_refl _)
  have eN:(loadCells ⟨s.blk,s.sh + o,none⟩ n).run P w=.ok ⟨l'⟩ w:=run_loadCells lD fun i v hv=>by
   have fA:i < n:=by rw [← lD];exact (List.getElem?_eq_some_iff.1 hv).1
   obtain ⟨x,y,q1,q2,q3,q4⟩:=hq i fA
   rw [hv] at q2;cases q2
   exact cell_of w rfl h1 (by rw [Nat.add_assoc];exact q3)
  refine ⟨.agg ⟨l'⟩,by simp [loadVar,g1,g2,eN,Sem.run_pure],.agg (.tg (by omega) fun i x hx=>?_)⟩
  have fA:i < n:=by rw [← hl];exact (List.getElem?_eq_some_iff.1 hx).1
  obtain ⟨x',y,q1,q2,q3,q4⟩:=hq i fA
  rw [hx] at q1;cases q1
  exact ⟨y,q2,q4⟩
theorem qf {t:TypeId} {g:Option Nat} {v u:Value} {k:KV} (hg:oM P t=some g) (hH:HR ρ H nx w.heap) (hv:VR ρ v u)
  (h:(dd v fun b o=>cr H b fun cs=>bd (partOf cs o g) k)=some r):∃x y,k x=some r∧(Instr.loadAt t u).run P w=.ok y w∧VR ρ x y:=by
 obtain ⟨b,o,rfl,h⟩:=jr h
 obtain ⟨cs,xb,hb,T0,h⟩:=mg h
 obtain ⟨x,hx,h⟩:=aL h
 obtain ⟨s,hs,rfl⟩:=hv.oQ
 obtain ⟨s',eK,vA⟩:=hH.blk b _ hb
 have vA:=T0 _ _ _ vA
 rw [hs] at eK;cases eK
 obtain ⟨y,hy,oR⟩:=tk (w:=w) hg vA hx
 exact ⟨x,y,h,by simpa [Instr.loadAt,Instr.sureAddr,Sem.run_pure] using hy,oR⟩
theorem Fy {t:TypeId} {f:Nat} {fs:Array Field} {fd:Field} {g:Option Nat} {v u:Value} {k:KV} (hu:P.underlying t=some (.struct fs)) (hf:fs.toList[f]?=some fd) (hg:oM P fd.type=some g)
  (hv:VR ρ v u) (h:(nB v fun cs=>bd (partOf cs fd.offset g) k)=some r):∃x y,k x=some r∧(Instr.field t u f).run P w=.ok y w∧VR ρ x y:=by
 obtain ⟨cs,rfl,h⟩:=ti h
 obtain ⟨x,hx,h⟩:=aL h
 obtain ⟨cs',rfl,hr⟩:=hv.Eg
 obtain ⟨y,hy,oR⟩:=tj (w:=w) hg hr hx
 refine ⟨x,y,h,?_,oR⟩
 have T1:fs[f]?=some fd:=by rw [← Array.getElem?_toList];exact hf
 simpa [Instr.field,run_underlying hu,T1,asAgg,Sem.run_pure] using hy
theorem Fz {t:TypeId} {f:Nat} {fs:Array Field} {fd:Field} {n:Nat} {v u:Value} {k:KV} (hu:P.underlying t=some (.struct fs)) (hf:fs.toList[f]?=some fd) (hn:bZ P fd.type=some (n + 1))
  (hv:VR ρ v u) (h:(dd v fun b o=>D7 b (Nat.add o fd.offset) k)=some r):∃x y,k x=some r∧(Instr.fieldAt t u f).run P w=.ok y w∧VR ρ x y:=by
 obtain ⟨b,o,rfl,h⟩:=jr h
 obtain ⟨s,hs,rfl⟩:=hv.oQ
 have T1:fs[f]?=some fd:=by rw [← Array.getElem?_toList];exact hf
 refine ⟨_,.pointer (some ⟨s.blk,s.sh + (o + fd.offset),none⟩),h,?_,.ptr hs⟩
 simp [Instr.fieldAt,run_underlying hu,T1,Instr.sureAddr,fieldPlace,dK hn,Sem.run_pure,Addr.add_lit,Nat.add_assoc]
theorem FA {t e:TypeId} {z:Nat} {v u i j:Value} {k:KV} (hu:P.underlying t=some (.slice e)) (hz:bZ P e=some z) (hv:VR ρ v u) (hi:VR ρ i j)
  (h:(cx i fun n=>nN v (Ph z n k))=some r):∃x y,k x=some r∧(Instr.indexAt t u j).run P w=.ok y w∧VR ρ x y:=by
 obtain ⟨ki,n,rfl,h1⟩:=eC h
 obtain ⟨b,o,z',len,c,rfl,h2⟩:=kz h1
 obtain ⟨hc,h3⟩:=bI h2
 have hj:=hi.gE;subst hj
 simp only [Bool.and_eq_true] at hc
 have hn:n < len:=by simpa [Nat.blt_eq] using hc.1
 have FB:z=z':=Nat.eq_of_beq_eq_true hc.2
 subst FB
 clear h h1 h2
 cases hv with
 | sc h=>simp [scalar] at h
 | @sl _ _ _ _ _ p c' s hs hl lE he hp=>
  have kk:p=s.sh + o:=by rcases hp with h0|h0<;>omega
  refine ⟨_,.pointer (some ⟨s.blk,s.sh + (o + n * z),none⟩),h3,?_,.ptr hs⟩
  subst kk
  simp [Instr.indexAt,asIntOf,run_underlying hu,dK hz,hn,Addr.add_lit,Nat.add_assoc]
theorem FC {t e:TypeId} {z len:Nat} {v u i j:Value} {k:KV} (hu:P.underlying t=some (.array len e)) (hz:bZ P e=some z) (hv:VR ρ v u) (hi:VR ρ i j)
  (h:(cx i fun n=>dd v (Pj n len z k))=some r):∃x y,k x=some r∧(Instr.indexAt t u j).run P w=.ok y w∧VR ρ x y:=by
 obtain ⟨ki,n,rfl,h1⟩:=eC h
 obtain ⟨b,o,rfl,h2⟩:=jr h1
 obtain ⟨hc,h3⟩:=bI h2
 have hj:=hi.gE;subst hj
 have hn:n < len:=by simpa [Nat.blt_eq] using hc
 obtain ⟨s,hs,rfl⟩:=hv.oQ
 refine ⟨_,.pointer (some ⟨s.blk,s.sh + (o + n * z),none⟩),h3,?_,.ptr hs⟩
 simp [Instr.indexAt,asIntOf,Instr.sureAddr,run_underlying hu,dK hz,hn,Addr.add_lit,Nat.add_assoc]
theorem Ix {t e:TypeId} {z len:Nat} {g:Option Nat} {v u i j:Value} {k:KV} (hu:P.underlying t=some (.array len e)) (hg:oM P e=some g) (hz:bZ P e=some z) (hv:VR ρ v u) (hi:VR ρ i j)
  (h:(cx i fun n=>nB v fun cs=>cond (Nat.blt n len) (bd (partOf cs (Nat.mul n z) g) k) none)=some r):∃x y,k x=some r∧(Instr.index t u j).run P w=.ok y w∧VR ρ x y:=by
 obtain ⟨ki,n,rfl,h1⟩:=eC h
 obtain ⟨cs,rfl,h2⟩:=ti h1
 obtain ⟨hc,h3⟩:=bI h2
 obtain ⟨x,hx,h4⟩:=aL h3
 have hj:=hi.gE;subst hj
 have hn:n < len:=by simpa [Nat.blt_eq] using hc
 obtain ⟨cs',rfl,hr⟩:=hv.Eg
 obtain ⟨y,hy,oR⟩:=tj (w:=w) hg hr hx
 refine ⟨x,y,h4,?_,oR⟩
 simpa [Instr.index,asIntOf,run_underlying hu,dK hz,hn] using hy
theorem FD {i:Nat} {v u:Value} {k:KV} (hv:VR ρ v u) (h:Ig v i k=some r):∃x y,k x=some r∧(Instr.extract u i).run P w=.ok y w∧VR ρ x y:=by
 unfold Ig at h
 split at h
 ·rw [jR] at h
  obtain ⟨x,hx,h1⟩:=aL h
  obtain ⟨NZ,rfl,hr⟩:=hv.Fx
  obtain ⟨y,hy,oR⟩:=hr.get hx
  refine ⟨x,y,h1,?_,oR⟩
  have HC:NZ[i]?=some y:=by rw [← Array.getElem?_toList];exact hy
  simp [Instr.extract,HC,Sem.run_pure]
 ·cases h
theorem zI {v u:Value} {k:KV} (hv:VR ρ v u) (h:sX v k=some r):∃x y,k x=some r∧
  (match u with
   | .pointer none | .nilIface | .nilFunc=>runtimePanic .nilDeref
   | .func (.method name) first captured=>
    match (first[0]? : Option Value) with
    | some .nilIface=>runtimePanic .nilDeref
    | some (.iface t w)=>do
     if (← nilAhead ((← program).types.size + Made.depth) t w name) != some false then
      unsupported (.noEntry "op/nilCheck.the method's receiver behind this interface value is a nil pointer, or cannot be seen to be none, and the arguments act or may panic (ledger 612)")
     pure (.value (.func (.method name) first captured))
    | _=>pure (.value (.func (.method name) first captured))
   | x=>pure (.value x):Sem Next).run P w=.ok (.value y) w∧VR ρ x y:=by
 unfold sX at h
 split at h
 ·cases hv with
  | sc h=>simp [scalar] at h
  | @ptr b o s hs=>exact ⟨_,_,h,rfl,.ptr hs⟩
 ·cases hv with
  | sc h=>simp [scalar] at h
  | func h1 h2=>exact ⟨_,_,h,rfl,.func h1 h2⟩
 ·cases h
theorem cL.gC {a a':List Value} (h:cL ρ a a') (hs:a.all flat=true):a'=a:=by
 induction a generalizing a' with
 | nil=>cases h;rfl
 | cons v a ih=>
  cases h with
  | cons h hr=>
   simp only [List.all_cons,Bool.and_eq_true] at hs
   rw [h.gC hs.1,ih hr hs.2]
theorem zJ {vs:List Value} {s:Sem Value} {x:Value} (h:gy P vs s=some x):vs.all flat=true∧quiet P s=some x∧flat x=true:=by
 unfold gy at h
 cases hf:vs.all flat with
 | false=>rw [hf] at h;cases h
 | true=>
  rw [hf] at h
  cases hq:quiet P s with
  | none=>rw [hq] at h;cases h
  | some v=>
   rw [hq] at h
   cases hv:flat v with
   | false=>simp [hv] at h
   | true=>
    simp [hv] at h
    subst h
    exact ⟨rfl,rfl,hv⟩
theorem gF {vs us:List Value} {s:Sem Value} {k:KV} (j6:cL ρ vs us) (h:bd (gy P vs s) k=some r):us=vs∧∃x,k x=some r∧s.run P w=.ok x w∧VR ρ x x:=by
 obtain ⟨x,hx,h1⟩:=aL h
 obtain ⟨hf,hq,hv⟩:=zJ hx
 exact ⟨j6.gC hf,x,h1,iY hq,.of_flat hv⟩
theorem Iy {op:UnOp} {v u:Value} {k:KV} (hv:VR ρ v u) (h:bd (gy P [v] (Op.unary op v)) k=some r):∃x y,k x=some r∧(Op.unary op u).run P w=.ok y w∧VR ρ x y:=by
 obtain ⟨e,x,h1,h2,h3⟩:=gF (w:=w) (.cons hv .nil) h
 cases e
 exact ⟨x,x,h1,h2,h3⟩
theorem FE {s d:TypeId} {v u:Value} {k:KV} (hv:VR ρ v u) (h:bd (gy P [v] (convert s d v)) k=some r):∃x y,k x=some r∧(convert s d u).run P w=.ok y w∧VR ρ x y:=by
 obtain ⟨e,x,h1,h2,h3⟩:=gF (w:=w) (.cons hv .nil) h
 cases e
 exact ⟨x,x,h1,h2,h3⟩
theorem FF {t:TypeId} {v u i j:Value} {k:KV} (hv:VR ρ v u) (hi:VR ρ i j) (h:bd (gy P [v,i] (Instr.index t v i)) k=some r):∃x y,k x=some r∧(Instr.index t u j).run P w=.ok y w∧VR ρ x y:=by
 obtain ⟨e,x,h1,h2,h3⟩:=gF (w:=w) (.cons hv (.cons hi .nil)) h
 cases e
 exact ⟨x,x,h1,h2,h3⟩
theorem FG {t:TypeId} {d:TypeDesc} {v u:Value} {k:KV} (hd:P.underlying t=some d) (hn:∀ms,d≠.interface ms) (hv:VR ρ v u) (h:k (.iface t v)=some r) :
  ∃x y,k x=some r∧(Instr.makeInterface t u).run P w=.ok y w∧VR ρ x y:=by
 refine ⟨_,_,h,?_,.iface hv⟩
 simp only [Instr.makeInterface,Sem.run_bind,run_underlying hd,Result.andThen_ok]
 cases d with
 | interface ms=>exact absurd rfl (hn ms)
 | _=>rfl
theorem FH {t e ty:TypeId} {v u:Value} {k:KV} (hu:P.underlying t=some (.slice e)) (hv:VR ρ v u) (h:zB v k=some r):∃x y,k x=some r∧(Builtin.cap_ #[t] ty #[u]).run P w=.ok y w∧VR ρ x y:=by
 unfold zB at h
 split at h
 ·cases hv with
  | sc h=>simp [scalar] at h
  | jL=>exact ⟨_,_,h,by simp [Builtin.cap_,run_underlying hu,goInt,Sem.run_pure],.sc rfl⟩
 ·rename_i c
  cases hv with
  | sc h=>simp [scalar] at h
  | Ef=>
   have h':k (.int .i64 (.ofNat 0))=some r:=h
   exact ⟨_,_,h',by simp [Builtin.cap_,run_underlying hu,goInt,Sem.run_pure],.sc rfl⟩
  | @sl _ _ _ _ _ _ c' _ hs hl lE hx hp=>
   cases he:exact c with
   | true=>
    rw [he] at h
    refine ⟨_,_,h,?_,.sc rfl⟩
    rw [← hx he]
    simp [Builtin.cap_,run_underlying hu,goInt,Sem.run_pure]
   | false=>
    rw [he] at h
    refine ⟨_,.int .i64 (c':Int),h,by simp [Builtin.cap_,run_underlying hu,goInt,Sem.run_pure],.wj ?_⟩
    have hm:=hl.2
    unfold dA at hm
    have h1:zA (Nat.add (Nat.mul (au c) 18446744073709551616) 9223372036854775807)=au c:=by
     show (au c * 18446744073709551616 + 9223372036854775807) / 18446744073709551616=_
     omega
    have h2:wm (Nat.add (Nat.mul (au c) 18446744073709551616) 9223372036854775807)=9223372036854775807:=by
     show (au c * 18446744073709551616 + 9223372036854775807) % 18446744073709551616=_
     omega
    rw [h1,h2]
    omega
 ·cases h
theorem FI {t e ty:TypeId} {v u:Value} {k:KV} (hd:P.underlying t=some (.slice e)) (hv:VR ρ v u) (h:Ii v k=some r) :
  ∃x y,k x=some r∧(Builtin.len_ #[t] ty #[u]).run P w=.ok y w∧VR ρ x y:=by
 unfold Ii at h
 split at h
 ·cases hv with
  | sc h=>simp [scalar] at h
  | jL=>exact ⟨_,_,h,by simp [Builtin.len_,run_underlying hd,goInt,Sem.run_pure],.sc rfl⟩
  | sl hs hl lE hx hp=>exact ⟨_,_,h,by simp [Builtin.len_,run_underlying hd,goInt,Sem.run_pure],.sc rfl⟩
  | Ef=>exact ⟨_,_,h,by simp [Builtin.len_,run_underlying hd,goInt,Sem.run_pure],.sc rfl⟩
 ·cases h
theorem FJ {t ty:TypeId} {v u:Value} {k:KV} (hd:P.underlying t=some .string) (hv:VR ρ v u) (h:Ij v k=some r) :
  ∃x y,k x=some r∧(Builtin.len_ #[t] ty #[u]).run P w=.ok y w∧VR ρ x y:=by
 unfold Ij at h
 split at h
 ·have hu:=hv.dE rfl
  subst hu
  exact ⟨_,_,h,by simp [Builtin.len_,run_underlying hd,goInt,Sem.run_pure],.sc rfl⟩
 ·cases h
end Go.Eng

namespace Go.Eng
variable {P:Program} {w:World} {ρ:bB} {H:Heap} {nx:Nat} {r:Ex×St}
theorem VR.cz {v u:Value} {kd:Nat} {b:Bool} (h:VR ρ v u) (hn:cz kd v=some b):Go.Eng.cz kd u=some b:=by
 cases h with
 | sc h=>exact hn
 | rP=>exact hn
 | zG=>exact hn
 | jL=>exact hn
 | rQ=>exact hn
 | Ef=>unfold Go.Eng.cz at hn ⊢;split at hn<;>simp_all
 | any h=>
  unfold Go.Eng.cz at hn
  split at hn<;>simp_all
 | ptr h=>
  unfold Go.Eng.cz at hn ⊢
  split at hn<;>simp_all
 | sl h hl hs he hp=>
  unfold Go.Eng.cz at hn ⊢
  split at hn<;>simp_all
 | map h=>
  unfold Go.Eng.cz at hn ⊢
  split at hn<;>simp_all
 | func h h'=>
  unfold Go.Eng.cz at hn ⊢
  split at hn<;>simp_all
 | iface h=>
  unfold Go.Eng.cz at hn ⊢
  split at hn<;>simp_all
 | agg h=>
  unfold Go.Eng.cz at hn ⊢
  split at hn<;>simp_all
 | tuple h=>
  unfold Go.Eng.cz at hn ⊢
  split at hn<;>simp_all
 | wj h=>
  unfold Go.Eng.cz at hn
  split at hn<;>simp_all
def tl:Nat→TypeDesc→Bool
 | 0,.pointer _|1,.slice _|2,.map _ _|3,.func _ _ _|4,.interface _=>true
 | _,_=>false
theorem zK (n:Nat) {t:TypeId} {d:TypeDesc} {kd:Nat} {u v:Value} {a b:Bool} (hd:P.underlying t=some d) (hk:tl kd d=true) (ha:cz kd u=some a) (hb:cz kd v=some b) (qg:(a||b)=true) :
  (Op.equalIn (n + 1) t u v).run P w=.ok (a&&b) w:=by
 simp only [Op.equalIn,Sem.run_bind,run_underlying hd,Result.andThen_ok]
 unfold tl at hk
 split at hk
 all_goals first
  | cases hk;done
  | (
    unfold cz at ha hb
    split at ha<;>(try contradiction)<;>(try omega)<;>split at hb<;>(try contradiction)<;>(try omega)<;>simp at ha hb<;>subst ha<;>subst hb<;>first|(simp at qg;done)|rfl)
theorem FK {t:TypeId} {d:TypeDesc} {kd:Nat} {u v:Value} {a b:Bool} (hd:P.underlying t=some d) (hk:tl kd d=true) (ha:cz kd u=some a) (hb:cz kd v=some b) (qg:(a||b)=true) :
  (Op.equal t u v).run P w=.ok (a&&b) w:=zK 9999 hd hk ha hb qg
theorem zL {op:BinOp} {t:TypeId} {d:TypeDesc} {kd:Nat} {x y:Operand} {v u v' u':Value} {k:KV} (ho:op=.eql∨op=.neq) (hd:P.underlying t=some d) (hk:tl kd d=true)
  (hc:kd=4→(dk x||dk y)=true)
  (hv:VR ρ v u) (lF:VR ρ v' u') (h:xH (jm op) kd v v' k=some r) :
  ∃z q,k z=some r∧(do eqGuard op t x y u u';binOp op t u u':Sem Value).run P w=.ok q w∧VR ρ z q:=by
 unfold xH at h
 obtain ⟨a,ha,h1⟩:=aL h
 obtain ⟨b,hb,h2⟩:=aL h1
 obtain ⟨qg,h3⟩:=bI h2
 have HD:=hv.cz ha
 have fp:=lF.cz hb
 have he:=FK (w:=w) hd hk HD fp qg
 refine ⟨_,_,h3,?_,.sc rfl⟩
 have hg:(eqGuard op t x y u u').run P w=.ok () w:=by
  unfold cz at HD fp
  split at HD<;>split at fp<;>(try contradiction)<;>rcases ho with rfl|rfl<;>simp [eqGuard,Sem.run_pure]<;>
   (intro hx hy;have:=hc rfl;cases x<;>cases y<;>simp_all [dk])
 have kl:(binOp op t u u').run P w=.ok (.bool (xor (jm op) (a&&b))) w:=by
  rcases ho with rfl|rfl
  ·have:binOp .eql t u u'=(do pure (.bool (← Op.equal t u u'))):=by
    unfold cz at HD fp
    split at HD<;>split at fp<;>(try contradiction)<;>rfl
   rw [this]
   simp [he,Sem.run_pure,jm]
  ·have:binOp .neq t u u'=(do pure (.bool (!(← Op.equal t u u')))):=by
    unfold cz at HD fp
    split at HD<;>split at fp<;>(try contradiction)<;>rfl
   rw [this]
   simp only [Sem.run_bind,he,Result.andThen_ok,jm]
   cases a<;>cases b<;>rfl
 simp only [Sem.run_bind,hg,Result.andThen_ok,kl]
theorem xM (op:BinOp) (t:TypeId) (x y x' y':Operand) {u v:Value} (hu:flat u=true):eqGuard op t x y u v=eqGuard op t x' y' u v:=by
 unfold eqGuard
 cases u<;>cases v<;>first|rfl|(simp [flat,scalar] at hu)
theorem Iz {a b:Nat} (hb:b < 18446744073709551616):zA (Nat.add (Nat.mul a 18446744073709551616) b)=a:=by
 show (a * 18446744073709551616 + b) / 18446744073709551616=_
 omega
theorem IA {a b:Nat} (hb:b < 18446744073709551616):wm (Nat.add (Nat.mul a 18446744073709551616) b)=b:=by
 show (a * 18446744073709551616 + b) % 18446744073709551616=_
 omega
theorem VR.zh {a b:Nat} {x:Int} (h:(a:Int)≤x) (h':x≤(b:Int)) (hb:b < 18446744073709551616):VR ρ (Go.Eng.zh a b) (.int .i64 x):=by
 refine .wj ?_
 rw [Iz hb,IA hb]
 exact ⟨h,h'⟩
theorem IB (k:Nat):wm k < 18446744073709551616:=Nat.mod_lt _ (by decide)
theorem jS {v u:Value} {a b:Nat} (hv:VR ρ v u) (h:cd v=some (a,b)):∃x:Int,u=.int .i64 x∧(a:Int)≤x∧x≤(b:Int)∧(ej v=true→b < 18446744073709551616):=by
 unfold cd at h
 split at h
 ·have:=hv.dE rfl
  subst this
  cases h
  exact ⟨_,rfl,Int.le_refl _,Int.le_refl _,fun h=>by cases h⟩
 ·cases h
  cases hv with
  | sc h=>simp [scalar] at h
  | wj h=>exact ⟨_,rfl,h.1,h.2,fun _=>IB _⟩
 ·cases h
theorem Mm {n:Int} (h0:0≤n) (h1:n < 9223372036854775808):IntKind.i64.wrap n=n:=by
 unfold IntKind.wrap IntKind.signed IntKind.bits
 simp only [Bool.true_and,ge_iff_le,decide_eq_true_eq]
 split<;>omega
theorem iO {b:Bool} {v q:Value} {z:Option Value} (h:(bif b then some v else z)=some q):(b=true∧q=v)∨(b=false∧z=some q):=by
 cases b
 ·exact .inr ⟨rfl,h⟩
 ·cases h;exact .inl ⟨rfl,rfl⟩
theorem xN {op:BinOp} {t:TypeId} {x y:Operand} {v u v' u' q:Value} (hv:VR ρ v u) (lF:VR ρ v' u') (h:sW op v v'=some q) :
  ∃q',(do eqGuard op t x y u u';binOp op t u u':Sem Value).run P w=.ok q' w∧VR ρ q q':=by
 unfold sW at h
 cases hi:ej v||ej v' with
 | false=>rw [hi] at h;cases h
 | true=>
  rw [hi] at h
  cases ha:cd v with
  | none=>simp [ha] at h
  | some p=>
   cases hb:cd v' with
   | none=>simp [ha,hb] at h
   | some p'=>
    obtain ⟨a,b⟩:=p
    obtain ⟨c,d⟩:=p'
    simp only [ha,hb,cond_true] at h
    obtain ⟨m,rfl,h1,h2,_⟩:=jS hv ha
    obtain ⟨n,rfl,h3,h4,_⟩:=jS lF hb
    have hg:eqGuard op t x y (.int .i64 m) (.int .i64 n)=Sem.pure ():=by cases op<;>rfl
    have fin:∀q',binOp op t (.int .i64 m) (.int .i64 n)=Sem.pure q'→(do eqGuard op t x y (.int .i64 m) (.int .i64 n);binOp op t (.int .i64 m) (.int .i64 n):Sem Value).run P w=.ok q' w:=by
     intro q' hq
     rw [hg,hq]
     rfl
    have N0:∀p:Bool,(q=.bool p)→binOp op t (.int .i64 m) (.int .i64 n)=Sem.pure (.bool p)→∃q',(do eqGuard op t x y (.int .i64 m) (.int .i64 n);binOp op t (.int .i64 m) (.int .i64 n):Sem Value).run P w=.ok q' w∧VR ρ q q':=fun p hp h=>⟨_,fin _ h,by rw [hp];exact .sc rfl⟩
    unfold lY at h
    split at h
    ·rcases iO h with ⟨hc,rfl⟩|⟨_,h⟩
     ·have hc:b + d < 9223372036854775808:=by simpa [Nat.blt_eq] using hc
      refine ⟨.int .i64 (m + n),fin _ ?_,?_⟩
      ·have:binOp .add t (.int .i64 m) (.int .i64 n)=Sem.pure (.int .i64 (IntKind.i64.wrap (m + n))):=by simp [binOp,Op.intArith];rfl
       rw [this,Mm (by omega) (by omega)]
      ·refine VR.zh (a:=a + c) (b:=b + d) ?_ ?_ (by omega)<;>push_cast<;>omega
     ·cases h
    ·have e:binOp .leq t (.int .i64 m) (.int .i64 n)=Sem.pure (.bool (decide (m≤n))):=by simp [binOp,Op.intCmp];rfl
     rcases iO h with ⟨hc,hq⟩|⟨_,h⟩
     ·have hc:b≤c:=Nat.le_of_ble_eq_true hc
      exact N0 _ hq (by rw [e,decide_eq_true (by omega)])
     ·rcases iO h with ⟨hc,hq⟩|⟨_,h⟩
      ·have hc:d < a:=by simpa [Nat.blt_eq] using hc
       exact N0 _ hq (by rw [e,decide_eq_false (by omega)])
      ·cases h
    ·have e:binOp .gtr t (.int .i64 m) (.int .i64 n)=Sem.pure (.bool (decide (n < m))):=by simp [binOp,Op.intCmp];rfl
     rcases iO h with ⟨hc,hq⟩|⟨_,h⟩
     ·have hc:b≤c:=Nat.le_of_ble_eq_true hc
      exact N0 _ hq (by rw [e,decide_eq_false (by omega)])
     ·rcases iO h with ⟨hc,hq⟩|⟨_,h⟩
      ·have hc:d < a:=by simpa [Nat.blt_eq] using hc
       exact N0 _ hq (by rw [e,decide_eq_true (by omega)])
      ·cases h
    ·have e:binOp .lss t (.int .i64 m) (.int .i64 n)=Sem.pure (.bool (decide (m < n))):=by simp [binOp,Op.intCmp];rfl
     rcases iO h with ⟨hc,hq⟩|⟨_,h⟩
     ·have hc:b < c:=by simpa [Nat.blt_eq] using hc
      exact N0 _ hq (by rw [e,decide_eq_true (by omega)])
     ·rcases iO h with ⟨hc,hq⟩|⟨_,h⟩
      ·have hc:d≤a:=Nat.le_of_ble_eq_true hc
       exact N0 _ hq (by rw [e,decide_eq_false (by omega)])
      ·cases h
    ·have e:binOp .geq t (.int .i64 m) (.int .i64 n)=Sem.pure (.bool (decide (n≤m))):=by simp [binOp,Op.intCmp];rfl
     rcases iO h with ⟨hc,hq⟩|⟨_,h⟩
     ·have hc:b < c:=by simpa [Nat.blt_eq] using hc
      exact N0 _ hq (by rw [e,decide_eq_false (by omega)])
     ·rcases iO h with ⟨hc,hq⟩|⟨_,h⟩
      ·have hc:d≤a:=Nat.le_of_ble_eq_true hc
       exact N0 _ hq (by rw [e,decide_eq_true (by omega)])
      ·cases h
    ·cases h
theorem Mn {mn:Bool} {vs us:List Value} {q:Value} (hv:cL ρ vs us) (h:p6 mn vs=some q):mn=true∧∃q',(Builtin.min_ #[] 0 us.toArray).run P w=.ok q' w∧VR ρ q q':=by
 unfold p6 at h
 split at h
 ·rename_i x y
  refine ⟨rfl,?_⟩
  cases hv with
  | cons hx hr=>
   cases hr with
   | cons hy hr=>
    cases hr with
    | nil=>
     cases hi:ej x||ej y with
     | false=>rw [hi] at h;cases h
     | true=>
      rw [hi] at h
      cases ha:cd x with
      | none=>simp [ha] at h
      | some p=>
       cases hb:cd y with
       | none=>simp [ha,hb] at h
       | some p'=>
        obtain ⟨a,b⟩:=p
        obtain ⟨c,d⟩:=p'
        simp only [ha,hb,cond_true,Option.some.injEq] at h
        subst h
        obtain ⟨m,rfl,h1,h2,h5⟩:=jS hx ha
        obtain ⟨n,rfl,h3,h4,h6⟩:=jS hy hb
        refine ⟨.int .i64 (if n < m then n else m),rfl,VR.zh (a:=Nat.min a c) (b:=Nat.min b d) ?_ ?_ ?_⟩
        ·have:=Nat.min_le_left a c
         have:=Nat.min_le_right a c
         show ((min a c:Nat):Int)≤_
         split<;>omega
        ·show _≤((min b d:Nat):Int)
         split<;>omega
        ·have:=Nat.min_le_left b d
         have:=Nat.min_le_right b d
         show min b d < _
         rcases Bool.or_eq_true _ _ ▸ hi with h7|h7
         ·have:=h5 h7;omega
         ·have:=h6 h7;omega
 ·cases h
theorem Ci {op:BinOp} {t:TypeId} {x y:Operand} {v u v' u' q:Value} (hv:VR ρ v u) (lF:VR ρ v' u') (h:ko P op t v v'=some q) :
  ∃q',(do eqGuard op t x y u u';binOp op t u u':Sem Value).run P w=.ok q' w∧VR ρ q q':=by
 unfold ko at h
 cases hf:flat v&&flat v' with
 | false=>rw [hf] at h;exact xN hv lF h
 | true=>
  rw [hf] at h
  simp only [Bool.and_eq_true] at hf
  have e:=hv.gC hf.1
  have e':=lF.gC hf.2
  subst e;subst e'
  cases hq:quiet P (do eqGuard op t (.const u) (.const u') u u';binOp op t u u') with
  | none=>rw [hq] at h;cases h
  | some z=>
   rw [hq] at h
   cases hz:flat z with
   | false=>simp [hz] at h
   | true=>
    simp [hz] at h
    subst h
    rw [xM op t x y (.const u) (.const u') hf.1]
    exact ⟨z,iY hq,.of_flat hz⟩
theorem wrap_small {n:Nat} (h:n < 2147483648):IntKind.i64.wrap (Int.ofNat n)=Int.ofNat n:=by
 unfold IntKind.wrap IntKind.bits IntKind.signed
 simp only [Int.ofNat_eq_natCast]
 have h1:(n:Int) % (2 ^ 64:Int)=n:=by omega
 simp only [h1]
 rw [if_neg]
 simp
 omega
theorem Eh (a b:Nat):(Int.ofNat a == Int.ofNat b)=Nat.beq a b:=by
 rw [Bool.eq_iff_iff]
 simp [Nat.beq_eq]
 omega
theorem Mo (a b:Nat):(Int.ofNat a != Int.ofNat b)=!Nat.beq a b:=by rw [bne,Eh]
theorem Ei (a b:Nat):decide (Int.ofNat a < Int.ofNat b)=Nat.blt a b:=by
 rw [Bool.eq_iff_iff]
 simp [Nat.blt_eq]
theorem Ej (a b:Nat):decide (Int.ofNat a≤Int.ofNat b)=Nat.ble a b:=by
 rw [Bool.eq_iff_iff]
 simp [Nat.ble_eq]
theorem tn {op:BinOp} {t:TypeId} {x y:Operand} {v v' q:Value} (h:vn op v v'=some q) :
  (do eqGuard op t x y v v';binOp op t v v':Sem Value).run P w=.ok q w∧scalar q=true∧scalar v=true∧scalar v'=true:=by
 unfold vn at h
 split at h
 ·rename_i a b
  have hg:eqGuard op t x y (.int .i64 (.ofNat a)) (.int .i64 (.ofNat b))=pure ():=by cases op<;>rfl
  rw [hg]
  unfold D6 at h
  split at h
  ·cases hc:Nat.blt (Nat.add a b) 2147483648 with
   | false=>rw [hc] at h;cases h
   | true=>
    rw [hc] at h;simp at h;subst h
    have cf:a + b < 2147483648:=by simpa [Nat.blt_eq] using hc
    have:=wrap_small cf
    refine ⟨?_,rfl,rfl,rfl⟩
    simp [binOp,Op.intArith,Sem.run_pure]
    simpa using this
  ·cases hc:Nat.ble b a with
   | false=>rw [hc] at h;cases h
   | true=>
    rw [hc] at h
    cases hd:Nat.blt a 2147483648 with
    | false=>rw [hd] at h;cases h
    | true=>
     rw [hd] at h;simp at h;subst h
     have hle:b≤a:=by simpa [Nat.ble_eq] using hc
     have cf:a < 2147483648:=by simpa [Nat.blt_eq] using hd
     have:=wrap_small (n:=a - b) (by omega)
     refine ⟨?_,rfl,rfl,rfl⟩
     simp [binOp,Op.intArith,Sem.run_pure]
     rw [← Int.ofNat_sub hle]
     simpa using this
  ·cases hc:Nat.blt (Nat.mul a b) 2147483648 with
   | false=>rw [hc] at h;cases h
   | true=>
    rw [hc] at h;simp at h;subst h
    have cf:a * b < 2147483648:=by simpa [Nat.blt_eq] using hc
    have:=wrap_small cf
    refine ⟨?_,rfl,rfl,rfl⟩
    simp [binOp,Op.intArith,Sem.run_pure]
    simpa using this
  ·cases h;exact ⟨by rw [← Eh];rfl,rfl,rfl,rfl⟩
  ·cases h;exact ⟨by rw [← Mo];rfl,rfl,rfl,rfl⟩
  ·cases h;exact ⟨by rw [← Ei];rfl,rfl,rfl,rfl⟩
  ·cases h;exact ⟨by rw [← Ej];rfl,rfl,rfl,rfl⟩
  ·cases h;exact ⟨by rw [← Ei];rfl,rfl,rfl,rfl⟩
  ·cases h;exact ⟨by rw [← Ej];rfl,rfl,rfl,rfl⟩
  ·cases h
 ·rename_i a b
  have hg:eqGuard op t x y (.int .i64 (.ofNat a)) (.int .i64 (.negSucc b))=pure ():=by cases op<;>rfl
  rw [hg]
  unfold sk at h
  split at h
  ·cases h;exact ⟨rfl,rfl,rfl,rfl⟩
  ·cases h;exact ⟨rfl,rfl,rfl,rfl⟩
  ·cases h
 ·rename_i a b
  have hg:eqGuard op t x y (.int .i64 (.negSucc a)) (.int .i64 (.ofNat b))=pure ():=by cases op<;>rfl
  rw [hg]
  unfold sk at h
  split at h
  ·cases h;exact ⟨rfl,rfl,rfl,rfl⟩
  ·cases h;exact ⟨rfl,rfl,rfl,rfl⟩
  ·cases h
 ·cases h
theorem FL {op:BinOp} {t:TypeId} {x y:Operand} {v u v' u':Value} {k:KV} (hv:VR ρ v u) (lF:VR ρ v' u') (h:eA P op t v v' k=some r) :
  ∃z q,k z=some r∧(do eqGuard op t x y u u';binOp op t u u':Sem Value).run P w=.ok q w∧VR ρ z q:=by
 unfold eA at h
 cases hf:vn op v v' with
 | some q=>
  rw [hf] at h
  obtain ⟨h1,h2,h3,h4⟩:=tn (P:=P) (w:=w) (t:=t) (x:=x) (y:=y) hf
  have e:=hv.dE h3
  have e':=lF.dE h4
  subst e;subst e'
  exact ⟨q,q,h,h1,.sc h2⟩
 | none=>
  rw [hf] at h
  obtain ⟨q,hq,h1⟩:=aL h
  obtain ⟨q',h2,h3⟩:=Ci (w:=w) (x:=x) (y:=y) hv lF hq
  exact ⟨q,q',h1,h2,h3⟩
end Go.Eng

namespace Go.Eng
variable {P:Program} {w:World} {ρ:bB} {H:Heap} {nx:Nat} {r:Ex×St}
theorem VR.kT {v:Value} (h:oK v=true):VR ρ v v:=by
 unfold oK at h
 split at h
 ·exact .sc rfl
 ·exact .sc rfl
 ·exact .sc rfl
 ·exact .sc rfl
 ·exact .sc rfl
 ·exact .sc rfl
 ·exact .rP
 ·exact .zG
 ·exact .jL
 ·exact .rQ
 ·cases h
theorem cL.kT {a:List Value} (h:a.all oK=true):cL ρ a a:=by
 induction a with
 | nil=>exact .nil
 | cons v a ih=>
  simp only [List.all_cons,Bool.and_eq_true] at h
  exact .cons (.kT h.1) (ih h.2)
theorem VR.gG {v:Value} (h:iL v=true):VR ρ v v:=by
 unfold iL at h
 split at h
 ·exact .agg (.kT h)
 ·exact .kT h
theorem VR.cells {v u:Value} (h:VR ρ v u):cL ρ (cellsOf v) u.cells.toList:=by
 cases h with
 | agg h=>exact h
 | sc h=>cases v<;>first|exact .cons (.sc h) .nil|(simp [scalar] at h)
 | rP=>exact .cons .rP .nil
 | zG=>exact .cons .zG .nil
 | ptr h=>exact .cons (.ptr h) .nil
 | jL=>exact .cons .jL .nil
 | sl h1 h2 h3 h4 h5=>exact .cons (.sl h1 h2 h3 h4 h5) .nil
 | rQ=>exact .cons .rQ .nil
 | Ef=>exact .cons .Ef .nil
 | map h=>exact .cons (.map h) .nil
 | func h h'=>exact .cons (.func h h') .nil
 | iface h=>exact .cons (.iface h) .nil
 | tuple h=>exact .cons (.tuple h) .nil
 | any h=>cases u<;>first|exact .cons (.any h) .nil|(simp [tf] at h)
 | wj h=>exact .cons (.wj h) .nil
theorem eD {t:TypeId} {z:Value} {l:List Value} (h:zeroCells P t=some l) (hz:fO P t=some z):l=z.cells.toList∧cL ρ l l:=by
 unfold zeroCells at h
 rw [hz] at h
 simp at h
 subst h
 obtain ⟨h1,h2⟩:=gD (w:=default) hz
 have e:Ce z=z.cells.toList:=by cases z<;>rfl
 have e2:Ce z=cellsOf z:=by cases z<;>rfl
 refine ⟨e,?_⟩
 have:=(VR.gG (ρ:=ρ) h2).cells
 rw [← e] at this
 rw [← e2] at this
 exact this
theorem cS {t:TypeId} {l:List Value} (h:zeroCells P t=some l):∃z,fO P t=some z∧l=z.cells.toList:=by
 have h0:=h
 unfold zeroCells at h
 cases hz:fO P t with
 | none=>rw [hz] at h;cases h
 | some z=>exact ⟨z,rfl,(eD (ρ:=fun _=>none) h0 hz).1⟩
theorem FM {t xt:TypeId} {d:TypeDesc} {z:Value} {ok:Bool} {v u:Value} {k:KV} (hd:P.underlying t=some d) (hn:∀ms,d≠.interface ms) (hz:fO P t=some z) (hv:VR ρ v u)
  (h:L9 t z ok k v=some r):∃x y,k x=some r∧(Instr.typeAssert u xt t ok).run P w=.ok y w∧VR ρ x y:=by
 obtain ⟨oS,rR⟩:=gD (w:=w) hz
 have BY:VR ρ (.tuple #[z,.bool false]) (.tuple #[z,.bool false]):=.tuple (.cons (.gG rR) (.cons (.sc rfl) .nil))
 unfold L9 at h
 split at h
 ·cases ok with
  | false=>cases h
  | true=>
   cases hv with
   | sc h=>simp [scalar] at h
   | rP=>
    refine ⟨_,.tuple #[z,.bool false],h,?_,BY⟩
    simp only [Instr.typeAssert,Sem.run_bind,run_underlying hd,Result.andThen_ok]
    cases d with
    | interface ms=>exact absurd rfl (hn ms)
    | _=>simp [oS,Sem.run_pure]
 ·rename_i t' v'
  cases hv with
  | sc h=>simp [scalar] at h
  | @iface _ _ u' lF=>
   cases he:Nat.beq t' t with
   | true=>
    rw [he] at h
    have vd:t'=t:=Nat.eq_of_beq_eq_true he
    subst vd
    cases ok with
    | true=>
     refine ⟨_,.tuple #[u',.bool true],h,?_,.tuple (.cons lF (.cons (.sc rfl) .nil))⟩
     simp only [Instr.typeAssert,Sem.run_bind,run_underlying hd,Result.andThen_ok]
     cases d with
     | interface ms=>exact absurd rfl (hn ms)
     | _=>simp [Sem.run_pure]
    | false=>
     refine ⟨_,u',h,?_,lF⟩
     simp only [Instr.typeAssert,Sem.run_bind,run_underlying hd,Result.andThen_ok]
     cases d with
     | interface ms=>exact absurd rfl (hn ms)
     | _=>simp [Sem.run_pure]
   | false=>
    rw [he] at h
    have vd:t'≠t:=Nat.ne_of_beq_eq_false he
    cases ok with
    | false=>cases h
    | true=>
     refine ⟨_,.tuple #[z,.bool false],h,?_,BY⟩
     simp only [Instr.typeAssert,Sem.run_bind,run_underlying hd,Result.andThen_ok]
     cases d with
     | interface ms=>exact absurd rfl (hn ms)
     | _=>simp [oS,Sem.run_pure,vd]
 ·cases h
theorem zM:∀(vs cs r:List Value),dS cs vs=some r→r.length=cs.length∧vs.length≤cs.length∧∀i,r[i]?=if i < vs.length then vs[i]? else cs[i]?:=by
 intro vs
 induction vs with
 | nil=>intro cs r h;cases cs<;>(simp [dS] at h;subst h;simp)
 | cons v vs ih=>
  intro cs r h
  cases cs with
  | nil=>simp [dS] at h
  | cons c cs=>
   unfold dS at h
   cases e:dS cs vs with
   | none=>simp [e] at h
   | some q=>
    simp [e] at h
    subst h
    obtain ⟨h1,h2,h3⟩:=ih cs q e
    refine ⟨by simp [h1],by simp;omega,fun i=>?_⟩
    cases i with
    | zero=>simp
    | succ i=>simp [h3 i]
theorem tp:∀(o:Nat) (cs vs r:List Value),gu cs o vs=some r→r.length=cs.length∧o + vs.length≤cs.length∧∀i,r[i]?=if o≤i∧i < o + vs.length then vs[i - o]? else cs[i]?:=by
 intro o
 induction o with
 | zero=>
  intro cs vs r h
  obtain ⟨h1,h2,h3⟩:=zM vs cs r h
  exact ⟨h1,by omega,fun i=>by rw [h3 i];simp⟩
 | succ o ih=>
  intro cs vs r h
  cases cs with
  | nil=>cases h
  | cons c cs=>
   have h':(Option.rec none (fun r=>some (c::r)) (gu cs o vs):Option (List Value))=some r:=h
   cases e:gu cs o vs with
   | none=>rw [e] at h';cases h'
   | some q=>
    rw [e] at h'
    have Pr:some (c::q)=some r:=h'
    cases Pr
    obtain ⟨h1,h2,h3⟩:=ih cs vs q e
    refine ⟨by simp [h1],by simp;omega,fun i=>?_⟩
    cases i with
    | zero=>simp
    | succ i=>
     simp only [List.getElem?_cons_succ,h3 i]
     have:(o + 1≤i + 1∧i + 1 < o + 1 + vs.length)↔(o≤i∧i < o + vs.length):=by omega
     simp only [this]
     congr 2
     omega
theorem FN (off:Nat):∀(l:List Value) (n:Nat) (a:Array Value),off + n + l.length≤a.size→
  ((l.zipIdx n).foldl (fun cs (x:Value×Nat)=>cs.setIfInBounds (off + x.2) x.1) a).size=a.size∧
  ∀i:Nat,((l.zipIdx n).foldl (fun cs (x:Value×Nat)=>cs.setIfInBounds (off + x.2) x.1) a)[i]?=if off + n≤i∧i < off + n + l.length then l[i - (off + n)]? else a[i]?:=by
 intro l
 induction l with
 | nil=>intro n a _;refine ⟨rfl,fun i=>?_⟩;rw [if_neg (by simp)];rfl
 | cons v l ih=>
  intro n a hl
  simp only [List.zipIdx_cons,List.foldl_cons,List.length_cons] at hl ⊢
  obtain ⟨h1,h2⟩:=ih (n + 1) (a.setIfInBounds (off + n) v) (by simp;omega)
  refine ⟨by rw [h1];simp,fun i=>?_⟩
  rw [h2 i]
  by_cases c1:off + (n + 1)≤i∧i < off + (n + 1) + l.length
  ·rw [if_pos c1,if_pos (by omega)]
   have:i - (off + n)=(i - (off + (n + 1))) + 1:=by omega
   rw [this,List.getElem?_cons_succ]
  ·rw [if_neg c1,Array.getElem?_setIfInBounds]
   by_cases c2:off + n=i
   ·subst c2
    rw [if_pos rfl,if_pos (by omega),if_pos (by omega)]
    simp
   ·rw [if_neg c2,if_neg (by omega)]
theorem nR (place:Nat→Option (Nat×Nat)):∀(ps:List (Nat×Nat×Value)) (qs:List (Nat×Value)) (a r:List Value) (b:Array Value),
  ps.length=qs.length→(∀(i:Nat) (p:Nat×Nat×Value) (q:Nat×Value),ps[i]?=some p→qs[i]?=some q→place q.1=some (p.1,p.2.1)∧VR ρ p.2.2 q.2)→cL ρ a b.toList→ew a ps=some r→
  ∃c,Instr.fill place b qs=some c∧cL ρ r c.toList:=by
 intro ps
 induction ps with
 | nil=>
  intro qs a r b hl _ hr h
  cases qs with
  | nil=>simp [ew] at h;subst h;exact ⟨b,rfl,hr⟩
  | cons=>simp at hl
 | cons p ps ih=>
  intro qs a r b hl hp hr h
  cases qs with
  | nil=>simp at hl
  | cons q qs=>
   obtain ⟨off,size,v⟩:=p
   obtain ⟨i,u⟩:=q
   obtain ⟨h1,h2⟩:=hp 0 _ _ rfl rfl
   simp only at h1 h2
   unfold ew at h
   cases hs:Nat.beq (cellsOf v).length size with
   | false=>rw [hs] at h;cases h
   | true=>
    rw [hs] at h
    have eK:=Nat.eq_of_beq_eq_true hs
    simp only [cond_true] at h
    cases ho:gu a off (cellsOf v) with
    | none=>simp [ho] at h
    | some a1=>
     simp [ho] at h
     obtain ⟨o1,o2,o3⟩:=tp off a (cellsOf v) a1 ho
     have hc:=h2.cells
     have iP:=hc.length
     have Ml:=hr.length
     have lG:u.cells.size=size:=by rw [← eK,← iP];simp
     have HE:b.size=a.length:=by simpa using Ml
     obtain ⟨f1,f2⟩:=FN off u.cells.toList 0 b (by simp only [Array.length_toList];omega)
     have zN:u.cells.zipIdx.foldl (fun cs (x:Value×Nat)=>cs.setIfInBounds (off + x.2) x.1) b=(u.cells.toList.zipIdx 0).foldl (fun cs (x:Value×Nat)=>cs.setIfInBounds (off + x.2) x.1) b:=by
      rw [← Array.foldl_toList,Array.toList_zipIdx]
     obtain ⟨c,c1,c2⟩:=ih qs a1 r ((u.cells.toList.zipIdx 0).foldl (fun cs (x:Value×Nat)=>cs.setIfInBounds (off + x.2) x.1) b) (by simpa using hl) (fun j x y hx hy=>hp (j + 1) x y (by simpa using hx) (by simpa using hy)) (by
      refine .tg (by simp only [Array.length_toList];omega) fun j x hx=>?_
      rw [o3 j] at hx
      simp only [Array.getElem?_toList]
      rw [f2 j]
      simp only [Nat.add_zero,Array.length_toList] at iP ⊢
      by_cases cc:off≤j∧j < off + (cellsOf v).length
      ·rw [if_pos cc] at hx
       rw [if_pos (by omega)]
       exact hc.get hx
      ·rw [if_neg cc] at hx
       rw [if_neg (by omega)]
       obtain ⟨y,hy,oR⟩:=hr.get hx
       exact ⟨y,by simpa using hy,oR⟩) h
     refine ⟨c,?_,c2⟩
     have Yx:¬(u.cells.size≠size∨off + u.cells.size > b.size):=by omega
     unfold Instr.fill
     simp only [h1]
     rw [if_neg (by simpa using Yx),zN]
     exact c1
theorem qh {t:TypeId} {fs:Array Field} {zero:List Value} {xs:List (Nat×Operand)} {pl:List (Nat×Nat×Operand)} {ps:List (Nat×Nat×Value)} {qs:List (Nat×Value)} {cs:List Value}
  (hu:P.underlying t=some (.struct fs)) (hz:zeroCells P t=some zero) (sq:iM P fs.toList xs=some pl)
  (hl:ps.length=qs.length) (qi:∀(i:Nat) (p:Nat×Nat×Value) (q:Nat×Value),ps[i]?=some p→qs[i]?=some q→∃f s,fs.toList[q.1]?=some f∧bZ P f.type=some s∧p.1=f.offset∧p.2.1=s∧VR ρ p.2.2 q.2)
  (lG:∀(i:Nat) (f:Field),fs.toList[i]?=some f→∃s,bZ P f.type=some s)
  (h:ew zero ps=some cs):∃y,(Instr.build t qs.toArray).run P w=.ok y w∧VR ρ (.agg cs.toArray) y:=by
 obtain ⟨z,oS,rR⟩:=cS hz
 have BY:=(eD (ρ:=ρ) hz oS).2
 obtain ⟨Cj,_⟩:=gD (w:=w) oS
 have hpm:∀(l:List Field),(∀(i:Nat) (f:Field),l[i]?=some f→∃s,bZ P f.type=some s)→∃m:List (Nat×Nat),(l.mapM (m:=Sem) fun f=>do pure (f.offset,← sizeOf f.type)).run P w=.ok m w∧m.length=l.length∧
   ∀(i:Nat) (f:Field) (s:Nat),l[i]?=some f→bZ P f.type=some s→m[i]?=some (f.offset,s):=by
  intro l
  induction l with
  | nil=>intro _;exact ⟨[],rfl,rfl,fun i f s hf=>by simp at hf⟩
  | cons f l ih=>
   intro hl
   obtain ⟨s,hs⟩:=hl 0 f rfl
   obtain ⟨m,h1,h2,h3⟩:=ih fun i g hg=>hl (i + 1) g (by simpa using hg)
   refine ⟨(f.offset,s)::m,?_,by simp [h2],fun i g s' hg eK=>?_⟩
   ·rw [List.mapM_cons]
    simp only [Sem.run_bind,dK hs,Result.andThen_ok,Sem.run_pure,h1]
   ·cases i with
    | zero=>simp at hg;subst hg;rw [hs] at eK;cases eK;rfl
    | succ i=>simpa using h3 i g s' (by simpa using hg) eK
 obtain ⟨m,h1,h2,h3⟩:=hpm fs.toList lG
 obtain ⟨c,jT,sr⟩:=nR (ρ:=ρ) (fun i=>(m.toArray)[i]?) ps qs zero cs z.cells hl (fun i p q hp hq=>by
  obtain ⟨f,s,g1,g2,g3,g4,g5⟩:=qi i p q hp hq
  refine ⟨?_,g5⟩
  rw [g3,g4]
  simpa using h3 _ f s g1 g2) (by rw [← rR];exact BY) h
 refine ⟨.agg c,?_,.agg sr⟩
 have hm:(fs.mapM (m:=Sem) fun f=>do pure (f.offset,← sizeOf f.type)).run P w=.ok m.toArray w:=by
  rw [Array.mapM_eq_mapM_toList]
  rw [map_eq_pure_bind]
  simp only [Sem.run_bind,h1,Result.andThen_ok,Sem.run_pure]
 simp only [Instr.build,Sem.run_bind,Cj,Result.andThen_ok,run_underlying hu,hm,jT]
 rfl
theorem rS {t e:TypeId} {n z:Nat} {zero:List Value} {ps:List (Nat×Nat×Value)} {qs:List (Nat×Value)} {cs:List Value}
  (hu:P.underlying t=some (.array n e)) (hz:zeroCells P t=some zero) (hs:bZ P e=some z)
  (hl:ps.length=qs.length) (qi:∀(i:Nat) (p:Nat×Nat×Value) (q:Nat×Value),ps[i]?=some p→qs[i]?=some q→p.1=q.1 * z∧p.2.1=z∧VR ρ p.2.2 q.2)
  (h:ew zero ps=some cs):∃y,(Instr.build t qs.toArray).run P w=.ok y w∧VR ρ (.agg cs.toArray) y:=by
 obtain ⟨v,oS,rR⟩:=cS hz
 have BY:=(eD (ρ:=ρ) hz oS).2
 obtain ⟨Cj,_⟩:=gD (w:=w) oS
 obtain ⟨c,jT,sr⟩:=nR (ρ:=ρ) (fun i=>some (i * z,z)) ps qs zero cs v.cells hl (fun i p q hp hq=>by
  obtain ⟨g1,g2,g3⟩:=qi i p q hp hq
  exact ⟨by rw [g1,g2],g3⟩) (by rw [← rR];exact BY) h
 refine ⟨.agg c,?_,.agg sr⟩
 simp only [Instr.build,Sem.run_bind,Cj,Result.andThen_ok,run_underlying hu,dK hs,jT]
 rfl
end Go.Eng

namespace Go.Eng
variable {P:Program} {w:World} {ρ:bB} {H:Heap} {nx:Nat} {r:Ex×St}
inductive OR (ρ:bB):Option Value→Option Value→Prop where
 | no:OR ρ none none
 | one {v u:Value} (h:VR ρ v u):OR ρ (some v) (some u)
theorem OR.nat {k:IntKind} {n:Nat} {x:Option Value} (h:OR ρ (some (.int k (.ofNat n))) x):x=some (.int k (.ofNat n)):=by
 cases h with
 | one h=>rw [h.gE]
theorem FO {k:IntKind} {n y:Nat} {c:BoundsCode} (h:n≤y):(Instr.sliceBound (.int k (.ofNat n)) y c).run P w=.ok n w:=by
 have:(n:Int)≤y:=by omega
 simp [Instr.sliceBound,asIntOf,Sem.run_pure,this]
theorem eE {k:IntKind} {n y:Nat} {c:BoundsCode} (h:n≤y):(Instr.sliceBound (.int k (n:Int)) y c).run P w=.ok n w:=FO h
theorem kU (b:Bool) {len cap l h m:Nat} {lo hi mx:Option Value} (pW:(lo=none∧l=0)∨∃ki:IntKind,lo=some (.int ki (.ofNat l)))
  (zO:(hi=none∧mx=none∧h=len)∨∃ki:IntKind,hi=some (.int ki (.ofNat h))) (Ek:(mx=none∧m=cap)∨∃ki:IntKind,mx=some (.int ki (.ofNat m))∧m≤cap)
  (h1:l≤h) (h2:h≤m):(Instr.sliceBounds b len cap lo hi mx).run P w=.ok (l,h,m) w:=by
 unfold Instr.sliceBounds
 rcases Ek with ⟨rfl,rfl⟩|⟨k3,rfl,hm⟩
 ·rcases zO with ⟨rfl,_,rfl⟩|⟨k2,rfl⟩
  ·rcases pW with ⟨rfl,rfl⟩|⟨k1,rfl⟩
   ·simp [Sem.run_pure]
   ·simp [Sem.run_pure,eE h1]
  ·rcases pW with ⟨rfl,rfl⟩|⟨k1,rfl⟩
   ·simp [Sem.run_pure,eE h2]
   ·simp [Sem.run_pure,eE h1,eE h2]
 ·rcases zO with ⟨_,hh,_⟩|⟨k2,rfl⟩
  ·cases hh
  ·rcases pW with ⟨rfl,rfl⟩|⟨k1,rfl⟩
   ·simp [Sem.run_pure,eE h2,eE hm]
   ·simp [Sem.run_pure,eE h1,eE h2,eE hm]
theorem js {T:Tr Value} {L:List Value} {x:Option Value} {d:Nat} {k:Nat→R0} (h:fI T L (x.map Od.aD) d k=some r) :
  ∃n,k n=some r∧((x=none∧n=d)∨∃ki:IntKind,x=some (.int ki (.ofNat n))):=by
 cases x with
 | none=>exact ⟨d,h,.inl ⟨rfl,rfl⟩⟩
 | some v=>
  have h':cx v k=some r:=h
  obtain ⟨ki,n,rfl,h1⟩:=eC h'
  exact ⟨n,h1,.inr ⟨ki,rfl⟩⟩
theorem zP {x x':Option Value} {n d:Nat} (hr:OR ρ x x') (h:(x=none∧n=d)∨∃ki:IntKind,x=some (.int ki (.ofNat n))):(x'=none∧n=d)∨∃ki:IntKind,x'=some (.int ki (.ofNat n)):=by
 rcases h with ⟨rfl,rfl⟩|⟨ki,rfl⟩
 ·cases hr;exact .inl ⟨rfl,rfl⟩
 ·exact .inr ⟨ki,hr.nat⟩
theorem ra (c l:Nat):au (Nat.sub c (Nat.mul 2 l))=au c - l:=by
 show (c - 2 * l) / 2=c / 2 - l
 omega
theorem qj (c:Nat):exact c=true↔c % 2=1:=by
 unfold exact
 rw [Nat.beq_eq]
 exact Iff.rfl
theorem Ps (c:Nat):au c=c / 2:=rfl
theorem wC {t e:TypeId} {z len c' l h m p b:Nat} {lo hi mx:Option Value} (hu:P.underlying t=some (.slice e)) (hz:bZ P e=some z)
  (hb:(Instr.sliceBounds true len c' lo hi mx).run P w=.ok (l,h,m) w) :
  (Instr.sliceAt t (.slice (some ⟨b,p,none⟩) len c') lo hi mx).run P w=.ok (.slice (some (if m=l then ⟨b,p,none⟩ else ⟨b,p + l * z,none⟩)) (h - l) (m - l)) w:=by
 simp only [Instr.sliceAt,Instr.slice,Sem.run_bind,run_underlying hu,Result.andThen_ok,hb,dK hz,Sem.run_pure]
 by_cases e:m=l
 ·simp [e]
 ·simp [e,Addr.add_lit]
theorem FP {T:Tr Value} {L:List Value} {t e:TypeId} {z:Nat} {v u:Value} {lo hi mx lo' xO Yy:Option Value} {k:KV} (hu:P.underlying t=some (.slice e)) (hz:bZ P e=some z)
  (hm:(mx.isNone||hi.isSome)=true) (hv:VR ρ v u) (pW:OR ρ lo lo') (zO:OR ρ hi xO) (Ek:OR ρ mx Yy)
  (h:vr T L (lo.map Od.aD) (hi.map Od.aD) (mx.map Od.aD) z k v=some r):∃x y,k x=some r∧(Instr.sliceAt t u lo' xO Yy).run P w=.ok y w∧VR ρ x y:=by
 unfold vr at h
 split at h
 ·
  obtain ⟨l,h1,hl⟩:=js h
  obtain ⟨g,h2,hg⟩:=js h1
  obtain ⟨hc,h3⟩:=bI h2
  simp only [Bool.and_eq_true] at hc
  obtain ⟨c1,c2,c3⟩:=hc
  have el:l=0:=Nat.eq_of_beq_eq_true c1
  have eg:g=0:=Nat.eq_of_beq_eq_true c2
  subst el;subst eg
  have fB:mx=none:=by cases mx<;>simp at c3 ⊢
  subst fB
  cases Ek
  cases hv with
  | sc h=>simp [scalar] at h
  | jL=>
   have hb:=kU (P:=P) (w:=w) true (len:=0) (cap:=0) (m:=0) (zP pW hl) (by
    rcases zP zO hg with ⟨e,_⟩|hk
    ·exact .inl ⟨e,rfl,rfl⟩
    ·exact .inr hk) (.inl ⟨rfl,rfl⟩) (Nat.le_refl _) (Nat.le_refl _)
   refine ⟨_,_,h3,?_,.jL⟩
   simp only [Instr.sliceAt,Instr.slice,Sem.run_bind,run_underlying hu,Result.andThen_ok,hb,dK hz,Sem.run_pure]
   rfl
 ·obtain ⟨l,h1,hl⟩:=js h
  obtain ⟨g,h2,hg⟩:=js h1
  obtain ⟨hc,h3⟩:=bI h2
  simp only [Bool.and_eq_true] at hc
  obtain ⟨c1,c2,c3⟩:=hc
  have el:l=0:=Nat.eq_of_beq_eq_true c1
  have eg:g=0:=Nat.eq_of_beq_eq_true c2
  subst el;subst eg
  have fB:mx=none:=by cases mx<;>simp at c3 ⊢
  subst fB
  cases Ek
  cases hv with
  | sc h=>simp [scalar] at h
  | @Ef a=>
   have hb:=kU (P:=P) (w:=w) true (len:=0) (cap:=0) (m:=0) (zP pW hl) (by
    rcases zP zO hg with ⟨e,_⟩|hk
    ·exact .inl ⟨e,rfl,rfl⟩
    ·exact .inr hk) (.inl ⟨rfl,rfl⟩) (Nat.le_refl _) (Nat.le_refl _)
   refine ⟨_,_,h3,?_,.Ef (a:=a)⟩
   simp only [Instr.sliceAt,Instr.slice,Sem.run_bind,run_underlying hu,Result.andThen_ok,hb,dK hz,Sem.run_pure]
   rfl
 ·rename_i b o z' len c
  obtain ⟨l,h1,hl⟩:=js h
  obtain ⟨g,h2,hg⟩:=js h1
  obtain ⟨hc,h3⟩:=bI h2
  simp only [Bool.and_eq_true] at hc
  obtain ⟨c1,c2,c3⟩:=hc
  have ez:z=z':=Nat.eq_of_beq_eq_true c1
  subst ez
  have hlg:l≤g:=Nat.le_of_ble_eq_true c2
  have hgc:g≤au c:=Nat.le_of_ble_eq_true c3
  clear h h1 h2
  cases hv with
  | sc h=>simp [scalar] at h
  | @sl _ _ _ _ _ p c' s hs T3 lE he hp=>
   cases mx with
   | none=>
    cases Ek
    have hb:=kU (P:=P) (w:=w) true (len:=len) (cap:=c') (m:=c') (zP pW hl) (by
     rcases zP zO hg with ⟨e,e2⟩|hk
     ·exact .inl ⟨e,rfl,e2⟩
     ·exact .inr hk) (.inl ⟨rfl,rfl⟩) hlg (by omega)
    have h4:k (.slice (some ⟨b,Nat.add o (Nat.mul l z),some z⟩) (Nat.sub g l) (Nat.sub c (Nat.mul 2 l)))=some r:=h3
    refine ⟨_,_,h4,wC hu hz hb,?_⟩
    have hq:∀q:Nat,(c' - l=0∨(q=s.sh + (o + l * z)∧q + (c' - l) * z≤s.size))→VR ρ (.slice (some ⟨b,Nat.add o (Nat.mul l z),some z⟩) (Nat.sub g l) (Nat.sub c (Nat.mul 2 l))) (.slice (some ⟨s.blk,q,none⟩) (g - l) (c' - l)):=by
     intro q hq
     refine .sl hs ⟨(show g - l≤c' - l by omega),by omega⟩ (by rw [ra];omega) (fun hx=>?_) hq
     rw [qj] at hx
     have oT:(c - 2 * l) % 2=1:=hx
     have:=he ((qj c).2 (by omega))
     rw [ra];omega
    by_cases e:c'=l
    ·rw [if_pos e];exact hq p (.inl (by omega))
    ·rw [if_neg e]
     refine hq (p + l * z) (.inr ?_)
     rcases hp with h0|⟨h5,h6⟩
     ·omega
     ·have:c' * z=l * z + (c' - l) * z:=by rw [← Nat.add_mul];congr 1;omega
      omega
   | some m=>
    have h4:cx m (fun m=>cond (and (Nat.ble g m) (Nat.ble m (au c))) (k (.slice (some ⟨b,Nat.add o (Nat.mul l z),some z⟩) (Nat.sub g l) (Nat.succ (Nat.mul 2 (Nat.sub m l))))) none)=some r:=h3
    obtain ⟨ki,m,rfl,h5⟩:=eC h4
    obtain ⟨hc,h6⟩:=bI h5
    simp only [Bool.and_eq_true] at hc
    have hgm:g≤m:=Nat.le_of_ble_eq_true hc.1
    have hmc:m≤au c:=Nat.le_of_ble_eq_true hc.2
    have Yz:=Ek.nat
    have hb:=kU (P:=P) (w:=w) true (len:=len) (cap:=c') (m:=m) (mx:=Yy) (zP pW hl) (by
     rcases zP zO hg with ⟨e,e2⟩|hk
     ·cases zO with
      | no=>simp at hm
      | one=>cases e
     ·exact .inr hk) (.inr ⟨ki,Yz,by omega⟩) hlg hgm
    refine ⟨_,_,h6,wC hu hz hb,?_⟩
    have hq:∀q:Nat,(m - l=0∨(q=s.sh + (o + l * z)∧q + (m - l) * z≤s.size))→VR ρ (.slice (some ⟨b,Nat.add o (Nat.mul l z),some z⟩) (Nat.sub g l) (Nat.succ (Nat.mul 2 (Nat.sub m l)))) (.slice (some ⟨s.blk,q,none⟩) (g - l) (m - l)):=by
     intro q hq
     have e1:au (Nat.succ (Nat.mul 2 (Nat.sub m l)))=m - l:=by
      show (2 * (m - l) + 1) / 2=m - l
      omega
     exact .sl hs ⟨(show g - l≤m - l by omega),by omega⟩ (by rw [e1];exact Nat.le_refl _) (fun _=>e1.symm) hq
    by_cases e:m=l
    ·rw [if_pos e];exact hq p (.inl (by omega))
    ·rw [if_neg e]
     refine hq (p + l * z) (.inr ?_)
     rcases hp with h0|⟨h5,h6⟩
     ·omega
     ·have h7:m * z=l * z + (m - l) * z:=by rw [← Nat.add_mul];congr 1;omega
      have h8:m * z≤c' * z:=Nat.mul_le_mul_right _ (by omega)
      omega
 ·cases h
end Go.Eng

namespace Go.Eng
variable {P:Program} {w:World} {ρ:bB} {H:Heap} {nx:Nat} {r:Ex×St}
theorem cN {α β:Type} (s:Sem α) (f:α→Sem β):quiet P (s >>= f)=(quiet P s).bind fun a=>quiet P (f a):=by
 induction s with
 | pure a=>rfl
 | program k ih=>exact ih P
 | _=>rfl
theorem fV {α:Type} (a:α):quiet P (pure a)=some a:=rfl
def Fit (es:List MapEntry) (i:Nat) (x y:Option (Nat×Value)):Prop:=
 (x=none∧y=none)∨∃j v e,x=some (j,v)∧i≤j∧es[j - i]?=some e∧y=some (j,e.val)
theorem Fit.tail {e:MapEntry} {es:List MapEntry} {i:Nat} {x y:Option (Nat×Value)} (h:Fit es (i + 1) x y):Fit (e::es) i x y:=by
 rcases h with h|⟨j,v,e',h1,h2,h3,h4⟩
 ·exact .inl h
 ·refine .inr ⟨j,v,e',h1,by omega,?_,h4⟩
  have:j - i=(j - (i + 1)) + 1:=by omega
  rw [this,List.getElem?_cons_succ]
  exact h3
theorem vC (d:TypeDesc) (k:Value):∀(tq oU:List MapEntry) (i:Nat),oU.map (·.key)=tq.map (·.key)→
  (Instr.findNow d k tq i=none→Instr.findNow d k oU i=none)∧∀x,Instr.findNow d k tq i=some x→∃y,Instr.findNow d k oU i=some y∧Fit oU i x y:=by
 intro tq
 induction tq with
 | nil=>
  intro oU i h
  cases oU with
  | nil=>exact ⟨fun h=>h,fun x hx=>by simp [Instr.findNow] at hx;subst hx;exact ⟨none,rfl,.inl ⟨rfl,rfl⟩⟩⟩
  | cons=>simp at h
 | cons e1 tq ih=>
  intro oU i h
  cases oU with
  | nil=>simp at h
  | cons e2 oU=>
   simp only [List.map_cons,List.cons.injEq] at h
   obtain ⟨hk,ht⟩:=h
   obtain ⟨h1,h2⟩:=ih oU (i + 1) ht
   unfold Instr.findNow
   rw [hk]
   cases hs:Instr.sameNow d k e1.key with
   | none=>exact ⟨fun _=>rfl,fun x hx=>by simp at hx⟩
   | some b=>
    cases b with
    | true=>
     refine ⟨fun hx=>by simp at hx,fun x hx=>?_⟩
     simp at hx
     subst hx
     exact ⟨_,rfl,.inr ⟨i,_,e2,rfl,Nat.le_refl _,by simp,rfl⟩⟩
    | false=>
     refine ⟨fun hx=>h1 hx,fun x hx=>?_⟩
     obtain ⟨y,hy,hf⟩:=h2 x hx
     exact ⟨y,hy,hf.tail⟩
theorem qk (kt:TypeId) (k:Value):∀(tq oU:List MapEntry) (i:Nat) (x:Option (Nat×Value)),oU.map (·.key)=tq.map (·.key)→
  quiet P (Instr.findAsking kt k tq i)=some x→∃y,(Instr.findAsking kt k oU i).run P w=.ok y w∧Fit oU i x y:=by
 intro tq
 induction tq with
 | nil=>
  intro oU i x h hq
  cases oU with
  | nil=>
   simp [Instr.findAsking] at hq
   cases hq
   exact ⟨none,rfl,.inl ⟨rfl,rfl⟩⟩
  | cons=>simp at h
 | cons e1 tq ih=>
  intro oU i x h hq
  cases oU with
  | nil=>simp at h
  | cons e2 oU=>
   simp only [List.map_cons,List.cons.injEq] at h
   obtain ⟨hk,ht⟩:=h
   unfold Instr.findAsking at hq ⊢
   rw [cN] at hq
   rw [hk]
   cases hs:quiet P (Op.equal kt k e1.key) with
   | none=>rw [hs] at hq;cases hq
   | some b=>
    rw [hs] at hq
    simp only [Sem.run_bind,iY hs,Result.andThen_ok]
    cases b with
    | true=>
     have:x=some (i,e1.val):=by simpa [fV] using hq.symm
     subst this
     exact ⟨_,rfl,.inr ⟨i,_,e2,rfl,Nat.le_refl _,by simp,rfl⟩⟩
    | false=>
     obtain ⟨y,hy,hf⟩:=ih oU (i + 1) x ht (by simpa using hq)
     exact ⟨y,by simpa using hy,hf.tail⟩
theorem vD (kt:TypeId) (k:Value) (tq oU:List MapEntry) (x:Option (Nat×Value)) (h:oU.map (·.key)=tq.map (·.key))
  (hq:quiet P (Instr.findKey kt k tq)=some x):∃y,(Instr.findKey kt k oU).run P w=.ok y w∧Fit oU 0 x y:=by
 unfold Instr.findKey at hq ⊢
 rw [cN] at hq
 cases hu:quiet P (underlying kt) with
 | none=>rw [hu] at hq;cases hq
 | some d=>
  rw [hu] at hq
  simp only [Sem.run_bind,iY hu,Result.andThen_ok]
  obtain ⟨h1,h2⟩:=vC d k tq oU 0 h
  cases hf:Instr.findNow d k tq 0 with
  | some z=>
   obtain ⟨y,hy,zQ⟩:=h2 z hf
   have:x=z:=by simpa [hf,fV] using hq.symm
   subst this
   exact ⟨y,by simp [hy,Sem.run_pure],zQ⟩
  | none=>
   have fQ:quiet P (Instr.findAsking kt k tq)=some x:=by simpa [hf] using hq
   obtain ⟨y,hy,zQ⟩:=qk (w:=w) kt k tq oU 0 x h fQ
   exact ⟨y,by simpa [h1 hf] using hy,zQ⟩
theorem zR (es:List MapEntry):∀i,(marked es i).map (·.key)=es.map (·.key):=by
 induction es with
 | nil=>intro i;rfl
 | cons e es ih=>intro i;simp [marked,ih]
theorem kM.keys {es es':List MapEntry} (h:kM ρ es es') (hf:es.all (fun e=>flat e.key)=true):es'.map (·.key)=es.map (·.key):=by
 induction h with
 | nil=>rfl
 | cons hk hv hb _ ih=>
  simp only [List.all_cons,Bool.and_eq_true] at hf
  simp [hk.gC hf.1,ih hf.2]
theorem kM.length {es es':List MapEntry} (h:kM ρ es es'):es'.length=es.length:=by
 induction h with
 | nil=>rfl
 | cons _ _ _ _ ih=>simp [ih]
theorem kM.get {es es':List MapEntry} (h:kM ρ es es'):∀{i:Nat} {e':MapEntry},es'[i]?=some e'→∃e,es[i]?=some e∧VR ρ e.key e'.key∧VR ρ e.val e'.val∧e'.born=e.born:=by
 induction h with
 | nil=>intro i e' he;simp at he
 | cons hk hv hb _ ih=>
  intro i e' he
  cases i with
  | zero=>simp at he;subst he;exact ⟨_,rfl,hk,hv,hb⟩
  | succ i=>simpa using ih (by simpa using he)
theorem tr (es:List MapEntry):∀i,eU es i=es[i]?:=by
 induction es with
 | nil=>intro i;rfl
 | cons e es ih=>
  intro i
  cases i with
  | zero=>rfl
  | succ i=>simpa [eU] using ih i
theorem Ck {es:List MapEntry}:∀{i:Nat} {k:Value},sV es i k=true→∃e,es[i]?=some e∧sU e.key k=true:=by
 induction es with
 | nil=>intro i k h;simp [sV] at h
 | cons e es ih=>
  intro i k h
  cases i with
  | zero=>exact ⟨e,rfl,h⟩
  | succ i=>simpa using ih h
theorem oV {a b:Value} (n:Nat) (h:sS a b=true):a=b∧Instr.sameBits n a b=true:=by
 unfold sS at h
 split at h
 ·rename_i x y
  cases x<;>cases y<;>first|(cases h;done)|exact ⟨rfl,by unfold Instr.sameBits;rfl⟩
 ·simp only [Bool.and_eq_true,decide_eq_true_eq] at h
  obtain ⟨rfl,rfl⟩:=h
  exact ⟨rfl,by unfold Instr.sameBits;simp⟩
 ·simp only [decide_eq_true_eq] at h
  subst h
  refine ⟨rfl,?_⟩
  unfold Instr.sameBits
  rename_i s
  show (s == s)=true
  first|exact beq_self_eq_true s|(show (s.data == s.data)=true;simp)|exact decide_eq_true rfl
 ·cases h
theorem xP (n:Nat):∀{a b:List Value},sT a b=true→a=b∧(a.zip b).all (fun x=>Instr.sameBits n x.1 x.2)=true:=by
 intro a
 induction a with
 | nil=>intro b h;cases b with
  | nil=>exact ⟨rfl,rfl⟩
  | cons=>cases h
 | cons x a ih=>
  intro b h
  cases b with
  | nil=>cases h
  | cons y b=>
   simp only [sT,Bool.and_eq_true] at h
   obtain ⟨h1,h2⟩:=oV n h.1
   obtain ⟨h3,h4⟩:=ih h.2
   exact ⟨by rw [h1,h3],by simp only [List.zip_cons_cons,List.all_cons,h2,h4];rfl⟩
theorem xQ {a b:Value} (n:Nat) (h:sU a b=true):a=b∧Instr.sameBits (n + 1) a b=true:=by
 unfold sU at h
 split at h
 ·rename_i x y
  obtain ⟨h1,h2⟩:=xP n h
  have e:x=y:=Array.ext' h1
  refine ⟨by rw [e],?_⟩
  unfold Instr.sameBits
  simp only [Bool.and_eq_true]
  exact ⟨by rw [e];simp,h2⟩
 ·exact oV (n + 1) h
theorem zS {a b:Value} (h:sU a b=true):a=b∧Instr.sameBits 10000 a b=true:=xQ 9999 h
theorem kV {emp:Bool} {kt:TypeId} {k:Value} {es es':List MapEntry} {x:Option Nat} (h:findAt P emp kt k es=some x) (hr:kM ρ es es') :
  flat k=true∧(Instr.checkKey emp 10000 kt k).run P w=.ok () w∧((x=none∧(Instr.findKey kt k es').run P w=.ok none w)∨
   ∃i e e',x=some i∧es[i]?=some e∧es'[i]?=some e'∧VR ρ e.val e'.val∧e'.born=e.born∧e'.key=k∧e.key=k∧Instr.sameBits 10000 e'.key k=true∧(Instr.findKey kt k es').run P w=.ok (some (i,e'.val)) w):=by
 unfold findAt at h
 cases hf:(flat k&&es.all (fun e=>flat e.key)) with
 | false=>rw [hf] at h;cases h
 | true=>
  rw [hf] at h
  simp only [Bool.and_eq_true] at hf
  cases hc:quiet P (Instr.checkKey emp 10000 kt k) with
  | none=>simp [hc] at h
  | some u=>
   cases hq:quiet P (Instr.findKey kt k (marked es 0)) with
   | none=>simp [hc,hq] at h
   | some q=>
    have T4:es'.map (·.key)=(marked es 0).map (·.key):=by rw [zR,hr.keys hf.2]
    obtain ⟨y,hy,zQ⟩:=vD (w:=w) kt k (marked es 0) es' q T4 hq
    refine ⟨hf.1,iY hc,?_⟩
    rcases zQ with ⟨rfl,rfl⟩|⟨j,v,e',rfl,h2,h3,rfl⟩
    ·simp [hc,hq] at h
     subst h
     exact .inl ⟨rfl,hy⟩
    ·simp only [hc,hq,cond_true] at h
     cases hk:sV es j k with
     | false=>simp [hk] at h
     | true=>
      simp [hk] at h
      subst h
      simp only [Nat.sub_zero] at h3
      obtain ⟨e,he,hke⟩:=Ck hk
      obtain ⟨g1,g2⟩:=zS hke
      obtain ⟨e2,T5,nS,zT,YA⟩:=hr.get h3
      rw [he] at T5;cases T5
      have T6:e'.key=e.key:=nS.gC (by rw [g1];exact hf.1)
      exact .inr ⟨j,e,e',rfl,he,h3,zT,YA,T6.trans g1,g1,by rw [T6];exact g2,hy⟩
end Go.Eng

namespace Go.Eng
variable {P:Program} {w:World} {ρ:bB} {H:Heap} {nx:Nat} {r:Ex×St}
def bE.all {α:Type} (p:α→Prop):bE α→Prop
 | .ae v0=>p v0
 | .pick v0 v1 v2=>p v0∧p v1∧p v2
 | .al v0=>p v0
 | .ext v0 _=>p v0
 | .u9 v0 _ _=>p v0
 | .ar v0 _=>p v0
 | .aA v0 v1 _=>p v0∧p v1
 | .iB v0 v1 _ _=>p v0∧p v1
 | .ix v0 v1 _ _ _=>p v0∧p v1
 | .bin _ _ v2 v3=>p v2∧p v3
 | .un _ v1=>p v1
 | .wh _ _ v2=>p v2
 | .lM _ v1=>(∀x∈v1,p x)
 | .Hz _ v1 v2=>p v1∧p v2
 | .Ca _ v1 v2 v3=>p v1∧(∀x∈v2,p x)∧(∀x∈v3,p x)
 | .dn _ _ v2 v3=>p v2∧p v3
 | .eu _ v1=>(∀x∈v1,p x.2.2)
 | .xF _ v1 v2=>(∀x∈v1,p x)∧(∀x∈v2,p x)
 | .zf _ v1=>p v1
 | .Fm v0 _ _ _=>p v0
 | .ah v0 _=>p v0
 | .len v0=>p v0
 | .zg v0=>p v0
 | .D4 v0=>p v0
 | .cap v0=>p v0
 | .iC v0 v1 v2 v3 _=>p v0∧(∀x∈v1,p x)∧(∀x∈v2,p x)∧(∀x∈v3,p x)
 | .Ia v0 v1 v2 _ _=>p v0∧(∀x∈v1,p x)∧(∀x∈v2,p x)
 | .lN v0 v1 _ _ _=>p v0∧p v1
 | .box v0=>p v0
 | .ef _=>True
 | .iF _ _ _ v3 v4=>p v3∧p v4
 | .fu _ _ _ v3=>(∀x∈v3,p x.2.2)
 | .zz v0=>(∀x∈v0,p x)
 | .aY v0 v1 _=>p v0∧p v1
 | .app _ _ _ v3 v4 _=>p v3∧p v4
 | .D5 _ v1 v2=>p v1∧p v2
 | .LI v0 _=>p v0
 | .HA v0 v1 v2 _=>p v0∧p v1∧p v2
 | .Cb v0 v1 _ _=>p v0∧p v1
 | .Cc v0 v1 v2=>p v0∧p v1∧p v2
 | .ins _ _ v2 v3 v4=>p v2∧p v3∧p v4
 | .call v0 v1=>p v0∧(∀x∈v1,p x)
 | .inv v0 _ v2=>p v0∧(∀x∈v2,p x)
 | .oC v0 v1=>p v0∧(∀x∈v1,p x)
 | .nA v0=>p v0
 | .wi=>True
 | .wj v0=>p v0
 | .nxt v0=>p v0
 | .L6 v0=>p v0
theorem gf {α β:Type} (d:β) {c:α→Option β}:∀{l:List α} {m:List β},gz c l=some m→m=l.map (fun x=>(c x).getD d)∧∀x∈l,∃y,c x=some y:=by
 intro l
 induction l with
 | nil=>intro m h;cases h;exact ⟨rfl,fun x hx=>by simp at hx⟩
 | cons x l ih=>
  intro m h
  unfold gz at h
  cases hx:c x with
  | none=>simp [hx] at h
  | some a=>
   cases hl:gz c l with
   | none=>simp [hx,hl] at h
   | some as=>
    simp [hx,hl] at h
    subst h
    obtain ⟨h1,h2⟩:=ih hl
    refine ⟨by simp [hx,← h1],fun y hy=>?_⟩
    rcases List.mem_cons.1 hy with rfl|hy
    ·exact ⟨a,hx⟩
    ·exact h2 y hy
theorem cE {α β:Type} (d:β) {c:α→Option β} {l:Option α} {m:Option β} (h:lC c l=some m):m=l.map (fun x=>(c x).getD d)∧∀x∈l,∃y,c x=some y:=by
 cases l with
 | none=>cases h;exact ⟨rfl,fun x hx=>by simp at hx⟩
 | some x=>
  unfold lC at h
  cases hx:c x with
  | none=>simp [hx] at h
  | some a=>
   simp [hx] at h
   subst h
   exact ⟨by simp [hx],fun y hy=>by simp at hy;subst hy;exact ⟨a,hx⟩⟩
theorem re {α β:Type} (d:β) {c:α→Option β}:∀{l:List (Nat×Nat×α)} {m:List (Nat×Nat×β)},oL c l=some m→m=l.map (fun x=>(x.1,x.2.1,(c x.2.2).getD d))∧∀x∈l,∃y,c x.2.2=some y:=by
 intro l
 induction l with
 | nil=>intro m h;cases h;exact ⟨rfl,fun x hx=>by simp at hx⟩
 | cons x l ih=>
  intro m h
  obtain ⟨i,j,x⟩:=x
  unfold oL at h
  cases hx:c x with
  | none=>simp [hx] at h
  | some a=>
   cases hl:oL c l with
   | none=>simp [hx,hl] at h
   | some as=>
    simp [hx,hl] at h
    subst h
    obtain ⟨h1,h2⟩:=ih hl
    refine ⟨by simp [hx,← h1],fun y hy=>?_⟩
    rcases List.mem_cons.1 hy with rfl|hy
    ·exact ⟨a,hx⟩
    ·exact h2 y hy
theorem gX {α β:Type} (d:β) {c:α→Option β} {a:bE α} {b:bE β} (h:a.fy c=some b):b=a.map (fun x=>(c x).getD d)∧a.all (fun x=>∃y,c x=some y):=by
 cases a<;>simp only [bE.fy] at h<;>(try split at h)<;>first
  | (cases h;done)
  | (
    cases h
    simp only [bE.map,bE.all]
    try simp_all only [Option.getD_some,Option.some.injEq,exists_eq',and_self,and_true,true_and]
    first
    | done
    | (rename_i h1 h2 h3;exact ⟨by rw [← (cE d h1).1,← (cE d h2).1,← (cE d h3).1],(cE d h1).2,(cE d h2).2,(cE d h3).2⟩)
    | (rename_i h1 h2;exact ⟨by rw [← (cE d h1).1,← (cE d h2).1],(cE d h1).2,(cE d h2).2⟩)
    | (rename_i h1 h2;exact ⟨by rw [← (gf d h1).1,← (gf d h2).1],(gf d h1).2,(gf d h2).2⟩)
    | (rename_i h1;exact ⟨by rw [← (gf d h1).1],(gf d h1).2⟩)
    | (rename_i h1;exact ⟨by rw [← (re d h1).1],(re d h1).2⟩)
    | (rename_i h1;exact ⟨by rw [← (cE d h1).1],(cE d h1).2⟩))
theorem kA {α:Type} {p q:α→Prop} (zi:∀x,p x→q x) {a:bE α} (h:a.all p):a.all q:=by
 cases a<;>simp only [bE.all] at h ⊢<;>first
  | trivial
  | exact zi _ h
  | exact ⟨zi _ h.1,zi _ h.2⟩
  | exact ⟨zi _ h.1,zi _ h.2.1,zi _ h.2.2⟩
  | exact fun x hx=>zi _ (h x hx)
  | exact ⟨zi _ h.1,fun x hx=>zi _ (h.2 x hx)⟩
  | exact ⟨fun x hx=>zi _ (h.1 x hx),fun x hx=>zi _ (h.2 x hx)⟩
  | exact ⟨zi _ h.1,fun x hx=>zi _ (h.2.1 x hx),fun x hx=>zi _ (h.2.2 x hx)⟩
  | exact ⟨zi _ h.1,fun x hx=>zi _ (h.2.1 x hx),fun x hx=>zi _ (h.2.2.1 x hx),fun x hx=>zi _ (h.2.2.2 x hx)⟩
theorem cY {hp:Array Obj} {b:Nat} {es:Array MapEntry} {c:Nat} (w:World) (hw:w.heap=hp) (h:hp[b]?=some (.map es c)):(getObj b).run P w=.ok (.map es c) w:=by
 subst hw
 simp [getObj,Sem.run,h]
theorem wD {t kt e ty:TypeId} {v u:Value} {k:KV} (hd:P.underlying t=some (.map kt e)) (hH:HR ρ H nx w.heap) (hv:VR ρ v u) (h:xI H v k=some r) :
  ∃x y,k x=some r∧(Builtin.len_ #[t] ty #[u]).run P w=.ok y w∧VR ρ x y:=by
 unfold xI at h
 split at h
 ·cases hv with
  | sc h=>simp [scalar] at h
  | rQ=>exact ⟨_,_,h,by simp [Builtin.len_,run_underlying hd,goInt,Sem.run_pure],.sc rfl⟩
 ·obtain ⟨es,c,hb,h1⟩:=gd h
  cases hv with
  | sc h=>simp [scalar] at h
  | @map _ s hs=>
   obtain ⟨s',eK,es',he,hr⟩:=hH.blk _ _ hb
   rw [hs] at eK;cases eK
   refine ⟨_,_,h1,?_,.sc rfl⟩
   have hl:es'.size=es.length:=by simpa using hr.length
   simp [Builtin.len_,run_underlying hd,cY w rfl he,hl,goInt,Sem.run_pure]
 ·cases h
theorem tt {ok:Bool} {v u:Value} {b:Bool} (h:VR ρ v u):VR ρ (Sp ok v b) (if ok=true then .tuple #[u,.bool b] else u):=by
 cases ok with
 | true=>exact .tuple (.cons h (.cons (.sc rfl) .nil))
 | false=>exact h
theorem wE {t kt e:TypeId} {z:Value} {ok:Bool} {v u kv ku:Value} {k:KV} (hd:P.underlying t=some (.map kt e)) (hz:fO P e=some z) (hH:HR ρ H nx w.heap) (hv:VR ρ v u) (hk:VR ρ kv ku)
  (h:vt P kt z ok H kv k v=some r):∃x y,k x=some r∧(Instr.lookup t u ku ok).run P w=.ok y w∧VR ρ x y:=by
 obtain ⟨oS,rR⟩:=gD (w:=w) hz
 unfold vt at h
 split at h
 ·obtain ⟨hf,h1⟩:=bI h
  obtain ⟨_,hq,h2⟩:=aL h1
  have:=hk.gC hf
  subst this
  cases hv with
  | sc h=>simp [scalar] at h
  | rQ=>
   refine ⟨_,_,h2,?_,tt (.gG rR)⟩
   have BZ:(Instr.checkKey true 10000 kt ku).run P w=.ok () w:=iY hq
   obtain ⟨y,hy,zQ⟩:∃y,(Instr.findKey kt ku []).run P w=.ok y w∧y=none:=by
    refine ⟨none,?_,rfl⟩
    unfold Instr.findKey
    cases hu:P.underlying kt with
    | none=>
     exfalso
     have fQ:quiet P (Instr.checkKey true (9999 + 1) kt ku)=some ():=hq
     unfold Instr.checkKey at fQ
     rw [cN] at fQ
     have:quiet P (underlying kt)=none:=by
      unfold underlying
      simp [cN,quiet,program,hu]
      rfl
     rw [this] at fQ
     cases fQ
    | some d=>simp [run_underlying hu,Instr.findNow,Sem.run_pure]
   subst zQ
   simp only [Instr.lookup,Sem.run_bind,run_underlying hd,Result.andThen_ok,Sem.run_pure,BZ,hy,oS,List.isEmpty_toArray,Array.isEmpty_empty]
   have YB:(Instr.checkKey ([]:List MapEntry).isEmpty 10000 kt ku).run P w=.ok () w:=BZ
   simp only [YB,hy,oS,Result.andThen_ok,Sem.run_bind,Sem.run_pure]
 ·obtain ⟨es,c,hb,h1⟩:=gd h
  obtain ⟨x,hx,h2⟩:=aL h1
  cases hv with
  | sc h=>simp [scalar] at h
  | @map _ s hs=>
   obtain ⟨s',eK,es',he,hr⟩:=hH.blk _ _ hb
   rw [hs] at eK;cases eK
   obtain ⟨hf,BZ,oW⟩:=kV (w:=w) hx hr
   have:=hk.gC hf
   subst this
   have T7:es'.isEmpty=es.isEmpty:=by
    have hl:es'.size=es.length:=by simpa using hr.length
    cases es with
    | nil=>simp [Array.isEmpty,hl]
    | cons=>simp [Array.isEmpty,hl]
   rcases oW with ⟨rfl,FQ⟩|⟨i,e1,e2,rfl,g1,g2,g3,g4,g5,g6,g7,FQ⟩
   ·refine ⟨_,_,h2,?_,tt (.gG rR)⟩
    simp only [Instr.lookup,Sem.run_bind,run_underlying hd,Result.andThen_ok,cY w rfl he,Sem.run_pure,T7,BZ,FQ,oS]
   ·have h3:bd (eU es i) (fun e=>k (Sp ok e.val true))=some r:=h2
    rw [tr,g1] at h3
    refine ⟨_,_,h3,?_,tt g3⟩
    simp only [Instr.lookup,Sem.run_bind,run_underlying hd,Result.andThen_ok,cY w rfl he,Sem.run_pure,T7,BZ,FQ]
 ·cases h
end Go.Eng

namespace Go.Eng
variable {P:Program} {w:World} {ρ:bB} {H:Heap} {nx:Nat} {r:Ex×St} {T:Tr Value} {L:List Value}
theorem oX:∀(vs:List Value) (k:List Value→R0),cH T L (vs.map Od.aD) k=k vs:=by
 intro vs
 induction vs with
 | nil=>intro k;rfl
 | cons v vs ih=>
  intro k
  show cH T L (vs.map Od.aD) (fun vs=>k (v::vs))=k (v::vs)
  rw [ih]
theorem nT:∀(vs:List (Nat×Nat×Value)) (k:List (Nat×Nat×Value)→R0),cW T L (vs.map fun x=>(x.1,x.2.1,Od.aD x.2.2)) k=k vs:=by
 intro vs
 induction vs with
 | nil=>intro k;rfl
 | cons v vs ih=>
  intro k
  obtain ⟨a,b,v⟩:=v
  show cW T L (vs.map fun x=>(x.1,x.2.1,Od.aD x.2.2)) (fun vs=>k ((a,b,v)::vs))=k ((a,b,v)::vs)
  rw [ih]
theorem cL.map {α:Type} {f g:α→Value}:∀{l:List α},(∀x∈l,VR ρ (f x) (g x))→cL ρ (l.map f) (l.map g):=by
 intro l
 induction l with
 | nil=>intro _;exact .nil
 | cons x l ih=>intro h;exact .cons (h x (by simp)) (ih fun y hy=>h y (by simp [hy]))
theorem OR.map {α:Type} {f g:α→Value} {o:Option α} (h:∀x∈o,VR ρ (f x) (g x)):OR ρ (o.map f) (o.map g):=by
 cases o with
 | none=>exact .no
 | some x=>exact .one (h x rfl)
def Good (P:Program) (w:World) (ρ:bB) (H:Heap) (nx:Nat) (r:Ex×St) (k:KA) (s:Sem Next):Prop:=
 ∃v H' nx' u w' ρ',k v H' nx'=some r∧(s.run P w=.ok (.value u) w'∨(s.run P w=.ok .skip w'∧u=undef))∧VR ρ' v u∧HR ρ' H' nx' w'.heap∧BX ρ H w ρ' H' w'∧nx≤nx'∧∀b,b < nx→ρ' b=ρ b
theorem Good.look {k:KA} {s:Sem Value} {s':Sem Next} (hs:s'=(do pure (.value (← s)))) (hH:HR ρ H nx w.heap) (h:∃x y,k x H nx=some r∧s.run P w=.ok y w∧VR ρ x y):Good P w ρ H nx r k s':=by
 obtain ⟨x,y,h1,h2,h3⟩:=h
 subst hs
 exact ⟨x,H,nx,y,w,ρ,h1,.inl (by simp only [Sem.run_bind,h2,Result.andThen_ok,Sem.run_pure]),h3,hH,.refl ρ H w,Nat.le_refl _,fun _ _=>rfl⟩
variable {ρa ρc:Operand→Value} {o:Oper} {k:KA} {ins:List Nat}
abbrev Av (ρa:Operand→Value):Operand→Od:=fun x=>Od.aD (ρa x)
theorem zU {fs:List Field}:∀{xs:List (Nat×Operand)} {pl:List (Nat×Nat×Operand)},iM P fs xs=some pl→pl.length=xs.length∧∀(i:Nat) (p:Nat×Nat×Operand) (x:Nat×Operand),
  pl[i]?=some p→xs[i]?=some x→∃f s,fs[x.1]?=some f∧bZ P f.type=some s∧p=(f.offset,s,x.2):=by
 intro xs
 induction xs with
 | nil=>intro pl h;cases h;exact ⟨rfl,fun i p x hp=>by simp at hp⟩
 | cons x xs ih=>
  intro pl h
  obtain ⟨j,x⟩:=x
  unfold iM at h
  cases hf:fs[j]? with
  | none=>simp [hf] at h
  | some f=>
   cases hr:iM P fs xs with
   | none=>simp [hf,hr] at h
   | some rs=>
    cases hs:bZ P f.type with
    | none=>simp [hf,hr,hs] at h
    | some s=>
     simp [hf,hr,hs] at h
     subst h
     obtain ⟨h1,h2⟩:=ih hr
     refine ⟨by simp [h1],fun i p y hp hy=>?_⟩
     cases i with
     | zero=>simp at hp hy;subst hp;subst hy;exact ⟨f,s,hf,hs,rfl⟩
     | succ i=>exact h2 i p y (by simpa using hp) (by simpa using hy)
theorem rh {z:Nat}:∀(xs:List (Nat×Operand)),(eB z xs).length=xs.length∧∀(i:Nat) (p:Nat×Nat×Operand) (x:Nat×Operand),
  (eB z xs)[i]?=some p→xs[i]?=some x→p=(x.1 * z,z,x.2):=by
 intro xs
 induction xs with
 | nil=>exact ⟨rfl,fun i p x hp=>by simp [eB] at hp⟩
 | cons x xs ih=>
  obtain ⟨j,x⟩:=x
  obtain ⟨h1,h2⟩:=ih
  refine ⟨by simp [eB,h1],fun i p y hp hy=>?_⟩
  cases i with
  | zero=>simp [eB] at hp hy;subst hp;subst hy;rfl
  | succ i=>exact h2 i p y (by simpa [eB] using hp) (by simpa using hy)
theorem zV {t:TypeId} {xs:Array (Nat×Operand)} {a:bE Operand} (ho:o.op=.build t xs) (hc:aj P ins o=some a) (ha:a.all fun x=>VR ρ (ρa x) (ρc x)) (hH:HR ρ H nx w.heap)
  (h:b7 (a.map (Av ρa)) P T L H nx k=some r):Good P w ρ H nx r k (execOp ρc o):=by
 have he:execOp ρc o=(do pure (.value (← Instr.build t (xs.map fun (i,x)=>(i,ρc x))))):=by simp only [execOp,ho]
 refine .look he hH ?_
 have hq:(xs.map fun (i,x)=>(i,ρc x))=(xs.toList.map fun x=>(x.1,ρc x.2)).toArray:=by
  apply Array.ext';simp
 rw [hq]
 simp only [aj,ho] at hc
 split at hc
 ·rename_i fs zero hu hz
  cases ij:fs.toList.all (fun f=>(bZ P f.type).isSome) with
  | false=>rw [ij] at hc;cases hc
  | true=>
   rw [ij] at hc
   cases hp:iM P fs.toList xs.toList with
   | none=>simp [hp] at hc
   | some pl=>
    simp [hp] at hc
    subst hc
    obtain ⟨h1,h2⟩:=zU hp
    have h':cW T L ((pl.map fun x=>(x.1,x.2.1,ρa x.2.2)).map fun x=>(x.1,x.2.1,Od.aD x.2.2)) (fun ps=>bd (ew zero ps) fun cs=>k (.agg cs.toArray) H nx)=some r:=by
     rw [List.map_map];exact h
    rw [nT] at h'
    obtain ⟨cs,hf,hk⟩:=aL h'
    obtain ⟨y,hy,hv⟩:=qh (w:=w) (ρ:=ρ) hu hz hp (ps:=pl.map fun x=>(x.1,x.2.1,ρa x.2.2)) (qs:=xs.toList.map fun x=>(x.1,ρc x.2)) (by simp [h1]) (fun i p q N1 N2=>by
     simp only [List.getElem?_map,Option.map_eq_some_iff] at N1 N2
     obtain ⟨p',kk,rfl⟩:=N1
     obtain ⟨q',fQ,rfl⟩:=N2
     obtain ⟨f,s,g1,g2,rfl⟩:=h2 i p' q' kk fQ
     exact ⟨f,s,g1,g2,rfl,rfl,ha _ (List.mem_of_getElem? kk)⟩) (fun i f Su=>by
      have:=List.all_eq_true.1 ij f (List.mem_of_getElem? Su)
      exact Option.isSome_iff_exists.1 this) hf
    exact ⟨_,y,hk,hy,hv⟩
 ·rename_i n e zero hu hz
  cases hs:bZ P e with
  | none=>simp [hs] at hc
  | some z=>
   simp [hs] at hc
   subst hc
   obtain ⟨h1,h2⟩:=rh (z:=z) xs.toList
   have h':cW T L (((eB z xs.toList).map fun x=>(x.1,x.2.1,ρa x.2.2)).map fun x=>(x.1,x.2.1,Od.aD x.2.2)) (fun ps=>bd (ew zero ps) fun cs=>k (.agg cs.toArray) H nx)=some r:=by
    rw [List.map_map];exact h
   rw [nT] at h'
   obtain ⟨cs,hf,hk⟩:=aL h'
   obtain ⟨y,hy,hv⟩:=rS (w:=w) (ρ:=ρ) hu hz hs (ps:=(eB z xs.toList).map fun x=>(x.1,x.2.1,ρa x.2.2)) (qs:=xs.toList.map fun x=>(x.1,ρc x.2)) (by simp [h1]) (fun i p q N1 N2=>by
    simp only [List.getElem?_map,Option.map_eq_some_iff] at N1 N2
    obtain ⟨p',kk,rfl⟩:=N1
    obtain ⟨q',fQ,rfl⟩:=N2
    have:=h2 i p' q' kk fQ
    subst this
    exact ⟨rfl,rfl,ha _ (List.mem_of_getElem? kk)⟩) hf
   exact ⟨_,y,hk,hy,hv⟩
 ·cases hc
end Go.Eng

namespace Go.Eng
variable {P:Program} {w:World} {ρ:bB} {H:Heap} {nx:Nat} {r:Ex×St} {T:Tr Value} {L:List Value} {ρa ρc:Operand→Value} {o:Oper} {k:KA} {ins:List Nat}
theorem Good.same {s:Sem Next} {v u:Value} (hH:HR ρ H nx w.heap) (hv:VR ρ v u) (hk:k v H nx=some r) (hs:s.run P w=.ok (.value u) w):Good P w ρ H nx r k s:=
 ⟨v,H,nx,u,w,ρ,hk,.inl hs,hv,hH,.refl ρ H w,Nat.le_refl _,fun _ _=>rfl⟩
theorem tu {x:Operand} {a:bE Operand} (ho:o.op=.move x∨o.op=.assign x) (hc:aj P ins o=some a) (ha:a.all fun x=>VR ρ (ρa x) (ρc x)) (hH:HR ρ H nx w.heap)
  (h:b7 (a.map (Av ρa)) P T L H nx k=some r):Good P w ρ H nx r k (execOp ρc o):=by
 have he:execOp ρc o=pure (.value (ρc x)):=by rcases ho with ho|ho<;>simp only [execOp,ho]
 have hc':a=.ae x:=by rcases ho with ho|ho<;>(simp only [aj,ho] at hc;cases hc;rfl)
 subst hc'
 rw [he]
 exact .same hH ha h rfl
theorem Cl {c x y:Operand} {a:bE Operand} (ho:o.op=.pick c x y) (hc:aj P ins o=some a) (ha:a.all fun x=>VR ρ (ρa x) (ρc x)) (hH:HR ρ H nx w.heap)
  (h:b7 (a.map (Av ρa)) P T L H nx k=some r):Good P w ρ H nx r k (execOp ρc o):=by
 have he:execOp ρc o=(do pure (.value (if ← asBool (ρc c) then ρc x else ρc y))):=by simp only [execOp,ho]
 simp only [aj,ho] at hc
 cases hc
 obtain ⟨h1,h2,h3⟩:=ha
 have h':fx (ρa c) (k (ρa x) H nx) (k (ρa y) H nx)=some r:=h
 rw [he]
 rcases mf h' with ⟨e,hk⟩|⟨e,hk⟩
 ·rw [e] at h1
  refine .same hH h2 hk ?_
  rw [h1.oP]
  rfl
 ·rw [e] at h1
  refine .same hH h3 hk ?_
  rw [h1.oP]
  rfl
theorem zW {t:TypeId} {x:Operand} {a:bE Operand} (ho:o.op=.load t x) (hc:aj P ins o=some a) (ha:a.all fun x=>VR ρ (ρa x) (ρc x)) (hH:HR ρ H nx w.heap)
  (h:b7 (a.map (Av ρa)) P T L H nx k=some r):Good P w ρ H nx r k (execOp ρc o):=by
 have he:execOp ρc o=(do pure (.value (← Instr.loadAt t (ρc x)))):=by simp only [execOp,ho]
 simp only [aj,ho,Option.map_eq_some_iff] at hc
 obtain ⟨g,hg,rfl⟩:=hc
 exact .look he hH (qf hg hH ha h)
theorem tw {x:Operand} {a:bE Operand} (ho:o.op=.nilCheck x) (hc:aj P ins o=some a) (ha:a.all fun x=>VR ρ (ρa x) (ρc x)) (hH:HR ρ H nx w.heap)
  (h:b7 (a.map (Av ρa)) P T L H nx k=some r):Good P w ρ H nx r k (execOp ρc o):=by
 simp only [aj,ho] at hc
 cases hc
 obtain ⟨v,u,h1,h2,h3⟩:=zI (P:=P) (w:=w) ha (show sX (ρa x) (fun v=>k v H nx)=some r from h)
 refine .same hH h3 h1 ?_
 simp only [execOp,ho]
 exact h2
theorem zX {op:BinOp} {t:TypeId} {x y:Operand} {b:Bool} {a:bE Operand} (ho:∃q,o.op=.binOp op t x y q) (hc:aj P ins o=some a) (ha:a.all fun x=>VR ρ (ρa x) (ρc x)) (hH:HR ρ H nx w.heap)
  (h:b7 (a.map (Av ρa)) P T L H nx k=some r):Good P w ρ H nx r k (execOp ρc o):=by
 obtain ⟨q,ho⟩:=ho
 have he:execOp ρc o=(do pure (.value (← (do eqGuard op t x y (ρc x) (ρc y);binOp op t (ρc x) (ρc y):Sem Value)))):=by simp only [execOp,ho]
 simp only [aj,ho] at hc
 have bin:a=.bin op t x y→Good P w ρ H nx r k (execOp ρc o):=by
  intro e
  subst e
  exact .look he hH (FL ha.1 ha.2 h)
 have T8:∀(d:TypeDesc) (kd:Nat),(op=.eql∨op=.neq)→P.underlying t=some d→tl kd d=true→(kd=4→(dk x||dk y)=true)→a=.dn (jm op) kd x y→Good P w ρ H nx r k (execOp ρc o):=by
  intro d kd h1 h2 h3 h4 e
  subst e
  exact .look he hH (zL h1 h2 h3 h4 ha.1 ha.2 h)
 have eqs:(op=.eql∨op=.neq)→Good P w ρ H nx r k (execOp ρc o):=by
  intro Cm
  have hc':(match P.underlying t with
   | some (.pointer _)=>some (.dn (jm op) 0 x y)
   | some (.slice _)=>some (.dn (jm op) 1 x y)
   | some (.map _ _)=>some (.dn (jm op) 2 x y)
   | some (.func _ _ _)=>some (.dn (jm op) 3 x y)
   | some (.interface _)=>bif dk x||dk y then some (.dn (jm op) 4 x y) else none
   | some _=>some (.bin op t x y)
   | none=>none:Option (bE Operand))=some a:=by
   rcases Cm with rfl|rfl<;>exact hc
  split at hc'
  ·rename_i hu;cases hc';exact T8 _ 0 Cm hu rfl (fun h=>by cases h) rfl
  ·rename_i hu;cases hc';exact T8 _ 1 Cm hu rfl (fun h=>by cases h) rfl
  ·rename_i hu;cases hc';exact T8 _ 2 Cm hu rfl (fun h=>by cases h) rfl
  ·rename_i hu;cases hc';exact T8 _ 3 Cm hu rfl (fun h=>by cases h) rfl
  ·rename_i hu
   cases hb:(dk x||dk y) with
   | false=>rw [hb] at hc';cases hc'
   | true=>rw [hb] at hc';cases hc';exact T8 _ 4 Cm hu rfl (fun _=>hb) rfl
  ·cases hc';exact bin rfl
  ·cases hc'
 by_cases Cm:op=.eql∨op=.neq
 ·exact eqs Cm
 ·refine bin ?_
  unfold gS at hc
  split at hc
  ·exact absurd (.inl rfl) Cm
  ·exact absurd (.inr rfl) Cm
  ·cases hc;rfl
theorem Cn {op:UnOp} {t:TypeId} {x:Operand} {a:bE Operand} (ho:o.op=.unOp op t x) (hc:aj P ins o=some a) (ha:a.all fun x=>VR ρ (ρa x) (ρc x)) (hH:HR ρ H nx w.heap)
  (h:b7 (a.map (Av ρa)) P T L H nx k=some r):Good P w ρ H nx r k (execOp ρc o):=by
 have he:execOp ρc o=(do pure (.value (← Op.unary op (ρc x)))):=by simp only [execOp,ho]
 simp only [aj,ho] at hc
 cases hc
 exact .look he hH (Iy ha h)
theorem vE {s d:TypeId} {x:Operand} {a:bE Operand} (ho:o.op=.convert s d x) (hc:aj P ins o=some a) (ha:a.all fun x=>VR ρ (ρa x) (ρc x)) (hH:HR ρ H nx w.heap)
  (h:b7 (a.map (Av ρa)) P T L H nx k=some r):Good P w ρ H nx r k (execOp ρc o):=by
 have he:execOp ρc o=(do pure (.value (← convert s d (ρc x)))):=by simp only [execOp,ho]
 simp only [aj,ho] at hc
 cases hb:(kR P s&&kR P d) with
 | false=>rw [hb] at hc;cases hc
 | true=>
  rw [hb] at hc
  cases hc
  exact .look he hH (FE ha h)
theorem ni {t:TypeId} {x:Operand} {a:bE Operand} (ho:o.op=.makeInterface t x) (hc:aj P ins o=some a) (ha:a.all fun x=>VR ρ (ρa x) (ρc x)) (hH:HR ρ H nx w.heap)
  (h:b7 (a.map (Av ρa)) P T L H nx k=some r):Good P w ρ H nx r k (execOp ρc o):=by
 have he:execOp ρc o=(do pure (.value (← Instr.makeInterface t (ρc x)))):=by simp only [execOp,ho]
 simp only [aj,ho] at hc
 split at hc
 ·cases hc
 ·rename_i d hn hu
  cases hc
  exact .look he hH (FG hu (fun ms e=>hn ms (by rw [e])) ha h)
 ·cases hc
theorem tx {fn:Fn} {xs ys:Array Operand} {a:bE Operand} (ho:o.op=.makeFunc fn xs ys) (hc:aj P ins o=some a) (ha:a.all fun x=>VR ρ (ρa x) (ρc x)) (hH:HR ρ H nx w.heap)
  (h:b7 (a.map (Av ρa)) P T L H nx k=some r):Good P w ρ H nx r k (execOp ρc o):=by
 have he:execOp ρc o=(do pure (.value (← Instr.makeFunc fn (xs.map ρc) (ys.map ρc)))):=by simp only [execOp,ho]
 simp only [aj,ho] at hc
 cases fn with
 | func f=>
  cases hc
  have h':cH T L ((xs.toList.map ρa).map Od.aD) (fun a=>cH T L ((ys.toList.map ρa).map Od.aD) fun b=>k (.func (.func f) a.toArray b.toArray) H nx)=some r:=by
   rw [List.map_map,List.map_map];exact h
  rw [oX,oX] at h'
  refine .look he hH ⟨_,.func (.func f) (xs.map ρc) (ys.map ρc),h',rfl,?_⟩
  have e1:xs.map ρc=⟨xs.toList.map ρc⟩:=by apply Array.ext';simp
  have e2:ys.map ρc=⟨ys.toList.map ρc⟩:=by apply Array.ext';simp
  rw [e1,e2]
  exact .func (.map fun x hx=>ha.1 x hx) (.map fun x hx=>ha.2 x hx)
 | _=>cases hc
theorem zY {t:TypeId} {x:Operand} {lo hi mx:Option Operand} {a:bE Operand} (ho:o.op=.slice t x lo hi mx) (hc:aj P ins o=some a) (ha:a.all fun x=>VR ρ (ρa x) (ρc x)) (hH:HR ρ H nx w.heap)
  (h:b7 (a.map (Av ρa)) P T L H nx k=some r):Good P w ρ H nx r k (execOp ρc o):=by
 have he:execOp ρc o=(do pure (.value (← Instr.sliceAt t (ρc x) (lo.map ρc) (hi.map ρc) (mx.map ρc)))):=by simp only [execOp,ho]
 simp only [aj,ho] at hc
 split at hc
 ·rename_i e hu
  cases hm:(mx.isNone||hi.isSome) with
  | false=>rw [hm] at hc;cases hc
  | true=>
   rw [hm] at hc
   simp only [cond_true,Option.map_eq_some_iff] at hc
   obtain ⟨z,hz,rfl⟩:=hc
   obtain ⟨h1,h2,h3,h4⟩:=ha
   refine .look he hH (FP (T:=T) (L:=L) (lo:=lo.map ρa) (hi:=hi.map ρa) (mx:=mx.map ρa) hu hz (by simpa using hm) h1 (.map h2) (.map h3) (.map h4) ?_)
   simp only [Option.map_map]
   exact h
 ·rename_i hu
  cases mx with
  | some _=>cases hc
  | none=>
   cases hc
   obtain ⟨h1,h2,h3⟩:=ha
   have hss:∀(q:Option Operand) (g:Option Value→R0),vq T L (q.map (Av ρa)) g=g (q.map ρa):=by
    intro q g;cases q<;>rfl
   have h':vq T L (lo.map (Av ρa)) (fun l=>vq T L (hi.map (Av ρa)) fun hh=>bd (gy P (ρa x::(l.toList++hh.toList)) (Instr.slice t (ρa x) l hh none)) fun v=>k v H nx)=some r:=h
   rw [hss,hss] at h'
   have j6:cL ρ (ρa x::((lo.map ρa).toList++(hi.map ρa).toList)) (ρc x::((lo.map ρc).toList++(hi.map ρc).toList)):=by
    refine .cons h1 (.append ?_ ?_)
    ·cases lo with
     | none=>exact .nil
     | some q=>exact .cons (h2 q rfl) .nil
    ·cases hi with
     | none=>exact .nil
     | some q=>exact .cons (h3 q rfl) .nil
   obtain ⟨e,v,g1,g2,g3⟩:=gF (w:=w) j6 h'
   have e1:ρc x=ρa x:=(List.cons.inj e).1
   have e3:=(List.cons.inj e).2
   have e2:lo.map ρc=lo.map ρa∧hi.map ρc=hi.map ρa:=by
    cases lo<;>cases hi<;>simp at e3 ⊢<;>simp_all
   refine .look he hH ⟨v,v,g1,?_,g3⟩
   rw [e1,e2.1,e2.2]
   simp only [Instr.sliceAt,Sem.run_bind,run_underlying hu,Result.andThen_ok]
   exact g2
 ·cases hc
theorem rT {s:TypeId} {x:Operand} {f:Nat} {a:bE Operand} (ho:o.op=.fieldAddr s x f) (hc:aj P ins o=some a) (ha:a.all fun x=>VR ρ (ρa x) (ρc x)) (hH:HR ρ H nx w.heap)
  (h:b7 (a.map (Av ρa)) P T L H nx k=some r):Good P w ρ H nx r k (execOp ρc o):=by
 have he:execOp ρc o=(do pure (.value (← Instr.fieldAt s (ρc x) f))):=by simp only [execOp,ho]
 simp only [aj,ho] at hc
 split at hc
 ·rename_i fs hu
  split at hc
  ·rename_i fd hf
   split at hc
   ·rename_i n hn
    cases hc
    exact .look he hH (Fz hu hf hn ha h)
   ·cases hc
  ·cases hc
 ·cases hc
theorem zZ {s:TypeId} {x:Operand} {f:Nat} {a:bE Operand} (ho:o.op=.field s x f) (hc:aj P ins o=some a) (ha:a.all fun x=>VR ρ (ρa x) (ρc x)) (hH:HR ρ H nx w.heap)
  (h:b7 (a.map (Av ρa)) P T L H nx k=some r):Good P w ρ H nx r k (execOp ρc o):=by
 have he:execOp ρc o=(do pure (.value (← Instr.field s (ρc x) f))):=by simp only [execOp,ho]
 simp only [aj,ho] at hc
 split at hc
 ·rename_i fs hu
  split at hc
  ·rename_i fd hf
   simp only [Option.map_eq_some_iff] at hc
   obtain ⟨g,hg,rfl⟩:=hc
   exact .look he hH (Fy hu hf hg ha h)
  ·cases hc
 ·cases hc
theorem rU {t:TypeId} {x i:Operand} {a:bE Operand} (ho:o.op=.indexAddr t x i) (hc:aj P ins o=some a) (ha:a.all fun x=>VR ρ (ρa x) (ρc x)) (hH:HR ρ H nx w.heap)
  (h:b7 (a.map (Av ρa)) P T L H nx k=some r):Good P w ρ H nx r k (execOp ρc o):=by
 have he:execOp ρc o=(do pure (.value (← Instr.indexAt t (ρc x) (ρc i)))):=by simp only [execOp,ho]
 simp only [aj,ho] at hc
 split at hc
 ·rename_i n e hu
  simp only [Option.map_eq_some_iff] at hc
  obtain ⟨z,hz,rfl⟩:=hc
  exact .look he hH (FC hu hz ha.1 ha.2 h)
 ·rename_i e hu
  simp only [Option.map_eq_some_iff] at hc
  obtain ⟨z,hz,rfl⟩:=hc
  exact .look he hH (FA hu hz ha.1 ha.2 h)
 ·cases hc
theorem z5 {t:TypeId} {x i:Operand} {a:bE Operand} (ho:o.op=.index t x i) (hc:aj P ins o=some a) (ha:a.all fun x=>VR ρ (ρa x) (ρc x)) (hH:HR ρ H nx w.heap)
  (h:b7 (a.map (Av ρa)) P T L H nx k=some r):Good P w ρ H nx r k (execOp ρc o):=by
 have he:execOp ρc o=(do pure (.value (← Instr.index t (ρc x) (ρc i)))):=by simp only [execOp,ho]
 simp only [aj,ho] at hc
 split at hc
 ·rename_i n e hu
  split at hc
  ·rename_i g z hg hz
   cases hc
   exact .look he hH (Ix hu hg hz ha.1 ha.2 h)
  ·cases hc
 ·cases hc
  exact .look he hH (FF ha.1 ha.2 h)
 ·cases hc
theorem xR {t:TypeId} {x i:Operand} {ok:Bool} {a:bE Operand} (ho:o.op=.lookup t x i ok) (hc:aj P ins o=some a) (ha:a.all fun x=>VR ρ (ρa x) (ρc x)) (hH:HR ρ H nx w.heap)
  (h:b7 (a.map (Av ρa)) P T L H nx k=some r):Good P w ρ H nx r k (execOp ρc o):=by
 have he:execOp ρc o=(do pure (.value (← Instr.lookup t (ρc x) (ρc i) ok))):=by simp only [execOp,ho]
 simp only [aj,ho] at hc
 split at hc
 ·rename_i kt e hu
  simp only [Option.map_eq_some_iff] at hc
  obtain ⟨z,hz,rfl⟩:=hc
  exact .look he hH (wE hu hz hH ha.1 ha.2 h)
 ·cases hc
theorem ql {x:Operand} {xt t:TypeId} {ok:Bool} {a:bE Operand} (ho:o.op=.typeAssert x xt t ok) (hc:aj P ins o=some a) (ha:a.all fun x=>VR ρ (ρa x) (ρc x)) (hH:HR ρ H nx w.heap)
  (h:b7 (a.map (Av ρa)) P T L H nx k=some r):Good P w ρ H nx r k (execOp ρc o):=by
 have he:execOp ρc o=(do pure (.value (← Instr.typeAssert (ρc x) xt t ok))):=by simp only [execOp,ho]
 simp only [aj,ho] at hc
 split at hc
 ·cases hc
 ·rename_i d hn hu
  simp only [Option.map_eq_some_iff] at hc
  obtain ⟨z,hz,rfl⟩:=hc
  exact .look he hH (FM hu (fun ms e=>hn ms (by rw [e])) hz ha h)
 ·cases hc
theorem vF {x:Operand} {i:Nat} {a:bE Operand} (ho:o.op=.extract x i) (hc:aj P ins o=some a) (ha:a.all fun x=>VR ρ (ρa x) (ρc x)) (hH:HR ρ H nx w.heap)
  (h:b7 (a.map (Av ρa)) P T L H nx k=some r):Good P w ρ H nx r k (execOp ρc o):=by
 have he:execOp ρc o=(do pure (.value (← Instr.extract (ρc x) i))):=by simp only [execOp,ho]
 simp only [aj,ho] at hc
 cases hc
 exact .look he hH (FD ha h)
end Go.Eng

namespace Go.Eng
variable {P:Program} {w:World} {ρ:bB} {H:Heap} {nx:Nat} {r:Ex×St} {T:Tr Value} {L:List Value} {ρa ρc:Operand→Value} {o:Oper} {k:KA} {ins:List Nat}
theorem kW (z:List Value) (n:Nat):aU z (n + 1)=z++aU z n:=rfl
theorem IC (z:List Value):∀n:Nat,((List.range (n * z.length)).map fun i=>(z.toArray)[i % z.length]!)=aU z n:=by
 intro n
 induction n with
 | zero=>rw [Nat.zero_mul];rfl
 | succ n ih=>
  rw [kW,← ih]
  have e:(n + 1) * z.length=z.length + n * z.length:=by rw [Nat.add_mul];omega
  rw [e,List.range_add,List.map_append,List.map_map]
  congr 1
  ·apply List.ext_getElem
   ·simp
   ·intro i h1 h2
    simp at h1
    have h3:i % z.length=i:=Nat.mod_eq_of_lt h1
    simp [h3,h1]
  ·apply List.map_congr_left
   intro i _
   simp
theorem cL.rep {z:List Value} (h:cL ρ z z):∀n,cL ρ (aU z n) (aU z n):=by
 intro n
 induction n with
 | zero=>exact .nil
 | succ n ih=>exact .append h ih
theorem dV (z:List Value):∀n,(aU z n).length=n * z.length:=by
 intro n
 induction n with
 | zero=>rw [Nat.zero_mul];rfl
 | succ n ih=>rw [kW];simp [ih,Nat.add_mul];omega
theorem Good.pre {H1:Heap} {s:Sem Next} (h:Good P w ρ H1 nx r k s) (ho:∀j,jM ρ H1 j→jM ρ H j) (j7:Cg H1 H):Good P w ρ H nx r k s:=by
 obtain ⟨v,H',nx',u,w',ρ',h1,h2,h3,h4,h5,h6,h7⟩:=h
 refine ⟨v,H',nx',u,w',ρ',h1,h2,h3,h4,⟨h5.ext,fun j hj=>?_,h5.ro.trans j7,fun j hj hn=>h5.frame j hj fun hx=>hn (ho j hx),h5.size,h5.os,h5.tape,h5.output⟩,h6,h7⟩
 rcases h5.own j hj with h6|h6
 ·exact .inl (ho j h6)
 ·exact .inr h6
theorem Good.El {w':World} {b:gK} {ob:Obj} {rf:Ref} {v u:Value} {s:Sem Next} (hH:HR ρ H nx w.heap) (hh:w'.heap=w.heap.push ob) (Pt:w'.os=w.os) (ht:w'.tape=w.tape) (lP:w'.output=w.output)
  (rV:rf.blk=w.heap.size) (Sv:b.ig=true) (vA:BR (ρ.with nx rf) (w.heap.push ob) rf b) (hv:VR (ρ.with nx rf) v u) (hk:k v (bD (at_ nx) H (some b)) (nx + 1)=some r) (hs:s.run P w=.ok (.value u) w'):Good P w ρ H nx r k s:=by
 refine ⟨v,_,_,u,w',ρ.with nx rf,hk,.inl hs,hv,?_,⟨hH.eM _,fun j hj=>?_,.put _ _ _ Sv,fun j hj _=>?_,by rw [hh];simp,Pt,ht,lP⟩,Nat.le_succ _,fun b hb=>bB.fP _ _ (by omega)⟩
 ·rw [hh]
  refine hH.make (fun c x s' hc eK=>?_) vA
  obtain ⟨q,hq,hbq⟩:=hH.blk c x hc
  rw [eK] at hq;cases hq
  have:=hbq.lt
  refine ⟨?_,by omega⟩
  rw [Array.getElem?_push]
  rw [if_neg (by omega)]
 ·rcases jM.so hj with h|h
  ·exact .inr (by omega)
  ·exact .inl h
 ·rw [hh,Array.getElem?_push,if_neg (by omega)]
theorem Good.made {w':World} {cs:List Value} {cs':Array Value} {e:TypeId} {v u:Value} {s:Sem Next} (hH:HR ρ H nx w.heap) (hh:w'.heap=w.heap.push (.cells cs' e (0,0))) (Pt:w'.os=w.os) (ht:w'.tape=w.tape) (lP:w'.output=w.output)
  (hr:∀(i:Nat) (x:Value),cs[i]?=some x→∃y,cs'[i]?=some y∧VR ρ x y) (hv:VR (ρ.with nx ⟨w.heap.size,0,cs'.size⟩) v u) (hk:k v (bD (at_ nx) H (some (.cells cs))) (nx + 1)=some r) (hs:s.run P w=.ok (.value u) w'):Good P w ρ H nx r k s:=by
 refine .El (b:=.cells cs) (rf:=⟨w.heap.size,0,cs'.size⟩) hH hh Pt ht lP rfl rfl ⟨cs',e,by simp,rfl,fun i x hx=>?_⟩ hv hk hs
 obtain ⟨y,hy,oR⟩:=hr i x hx
 exact ⟨y,by simpa using hy,oR.mono (hH.eM _)⟩
theorem mh {v:Value} {cs:List Value}:fresh H nx v k cs=k v (bD (at_ nx) H (some (.cells cs))) (nx + 1):=by
 unfold fresh
 rw [bN]
theorem VR.fresh {n:Nat} {sz:Nat}:VR (ρ.with nx ⟨n,0,sz⟩) (ptrTo nx) (.pointer (some ⟨n,0,none⟩)):=by
 have:=VR.ptr (ρ:=ρ.with nx ⟨n,0,sz⟩) (b:=nx) (o:=0) (bB.dF _ _ _)
 simpa [ptrTo] using this
theorem tz (n:Nat):au (Nat.succ (Nat.mul 2 n))=n:=by
 show (2 * n + 1) / 2=n
 omega
theorem VR.Em {n z len c:Nat} (h:len≤c∧c≤dA):VR (ρ.with nx ⟨n,0,c * z⟩) (rO nx z len (Nat.succ (Nat.mul 2 c))) (.slice (some ⟨n,0,none⟩) len c):=by
 refine .sl (r:=⟨n,0,c * z⟩) (bB.dF _ _ _) h (by rw [tz];exact Nat.le_refl _) (fun _=>(tz c).symm) (.inr ⟨rfl,?_⟩)
 simp
theorem cL.Mq {cs:List Value} {a:Array Value} (h:cL ρ cs a.toList):∀(i:Nat) (x:Value),cs[i]?=some x→∃y,a[i]?=some y∧VR ρ x y:=by
 intro i x hx
 obtain ⟨y,hy,hv⟩:=h.get hx
 exact ⟨y,by simpa using hy,hv⟩
theorem FR {t:TypeId} {x:Operand} {a:bE Operand} (ho:o.op=.box t x) (hc:aj P ins o=some a) (ha:a.all fun x=>VR ρ (ρa x) (ρc x)) (hH:HR ρ H nx w.heap)
  (h:b7 (a.map (Av ρa)) P T L H nx k=some r):Good P w ρ H nx r k (execOp ρc o):=by
 have he:execOp ρc o=(do pure (.value (← Instr.box t (ρc x)))):=by simp only [execOp,ho]
 simp only [aj,ho] at hc
 cases hc
 have h':fresh H nx (ptrTo nx) k (cellsOf (ρa x))=some r:=h
 rw [mh] at h'
 rw [he]
 exact .made (w':={ w with heap:=w.heap.push (.cells (ρc x).cells t (0,0)) }) hH rfl rfl rfl rfl (cL.Mq (VR.cells ha)) .fresh h' rfl
theorem z6 {t:TypeId} {a:bE Operand} (ho:o.op=.alloc t) (hc:aj P ins o=some a) (hH:HR ρ H nx w.heap)
  (h:b7 (a.map (Av ρa)) P T L H nx k=some r):Good P w ρ H nx r k (execOp ρc o):=by
 have he:execOp ρc o=(do pure (.value (← Instr.alloc t true (.tuple #[])))):=by simp only [execOp,ho]
 simp only [aj,ho,Option.map_eq_some_iff] at hc
 obtain ⟨zero,hz,rfl⟩:=hc
 have h':fresh H nx (ptrTo nx) k zero=some r:=h
 rw [mh] at h'
 obtain ⟨v,oS,rR⟩:=cS hz
 have BY:=(eD (ρ:=ρ) hz oS).2
 obtain ⟨Cj,_⟩:=gD (w:=w) oS
 rw [he]
 refine .made (w':={ w with heap:=w.heap.push (.cells v.cells t (0,0)) }) hH rfl rfl rfl rfl (cL.Mq (by rw [← rR];exact BY)) .fresh h' ?_
 simp only [Instr.alloc,Sem.run_bind,Cj,Result.andThen_ok]
 rfl
theorem vG {t:TypeId} {x:Option Operand} {a:bE Operand} (ho:o.op=.makeMap t x) (hc:aj P ins o=some a) (ha:a.all fun x=>VR ρ (ρa x) (ρc x)) (hH:HR ρ H nx w.heap)
  (h:b7 (a.map (Av ρa)) P T L H nx k=some r):Good P w ρ H nx r k (execOp ρc o):=by
 have he:execOp ρc o=(do pure (.value (← Instr.makeMap t (x.map ρc)))):=by simp only [execOp,ho]
 simp only [aj,ho] at hc
 split at hc
 ·rename_i kt e hu
  cases hc
  have h':fI T L ((x.map ρa).map Od.aD) 0 (fun _=>cQ (at_ nx) H (some (.map [] 0)) fun H=>k (.map (some nx)) H (Nat.succ nx))=some r:=by
   rw [Option.map_map];exact h
  obtain ⟨n,h1,hx⟩:=js h'
  rw [bN] at h1
  rw [he]
  refine .El (b:=.map [] 0) (rf:=⟨w.heap.size,0,0⟩) (w':={ w with heap:=w.heap.push (.map #[] 0) }) hH rfl rfl rfl rfl rfl rfl ⟨#[],by simp,.nil⟩ (.map (r:=⟨w.heap.size,0,0⟩) (bB.dF _ _ _)) h1 ?_
  rcases hx with ⟨hx,_⟩|⟨ki,hx⟩
  ·cases x with
   | none=>rfl
   | some x=>simp at hx
  ·cases x with
   | none=>simp at hx
   | some x=>
    simp only [Option.map_some,Option.some.injEq] at hx
    have hv:VR ρ (ρa x) (ρc x):=ha x rfl
    rw [hx] at hv
    have:=hv.gE
    simp only [Instr.makeMap,Option.map_some,this,Sem.run_bind,run_underlying hu,Result.andThen_ok]
    rfl
 ·cases hc
theorem mj {n:Nat} (h:n≤small):IntKind.i64.wrap (n:Int)=n:=by
 unfold IntKind.wrap IntKind.bits IntKind.signed
 unfold small at h
 have h1:(n:Int) % (2 ^ 64:Int)=n:=by omega
 simp only [h1]
 rw [if_neg]
 simp
 omega
theorem wF {e:TypeId} {z c:Nat} {zero:List Value} (hz:zeroCells P e=some zero) (hl:zero.length=z) :
  ∃zr:Array Value,(∀K:Array Value→Sem Value,(if c * z=0 then (do let zero ← pure #[];K zero) else (do let v ← zeroValue e;let zero ← pure v.cells;K zero):Sem Value).run P w=(K zr).run P w)∧
   (Array.range (c * z)).map (zr[· % zr.size]!)=(aU zero c).toArray:=by
 obtain ⟨v,oS,rR⟩:=cS hz
 obtain ⟨Cj,_⟩:=gD (w:=w) oS
 subst hl
 by_cases h0:c * zero.length=0
 ·refine ⟨#[],fun K=>by simp only [h0,if_true,Sem.run_pure,Sem.run_bind,Result.andThen_ok],?_⟩
  have:aU zero c=[]:=by
   apply List.eq_nil_of_length_eq_zero
   rw [dV,h0]
  rw [this,h0]
  simp
 ·refine ⟨v.cells,fun K=>by simp only [if_neg h0,Sem.run_bind,Sem.run_pure,Result.andThen_ok,Cj],?_⟩
  have e1:v.cells=zero.toArray:=by rw [rR]
  apply Array.ext'
  rw [e1]
  simp only [Array.toList_map,Array.toList_range,List.size_toArray]
  exact IC zero c
theorem gY {k:IntKind} {n:Int}:(asInt (.int k n)).run P w=.ok n w:=rfl
theorem z7 {e:TypeId} {zero:List Value} (hz:zeroCells P e=some zero) (c:Nat):cL ρ (aU zero c) (aU zero c):=by
 obtain ⟨v,oS,rR⟩:=cS hz
 exact ((eD (ρ:=ρ) hz oS).2).rep c
theorem rW {t:TypeId} {x y:Operand} {a:bE Operand} (ho:o.op=.makeSlice t x y) (hc:aj P ins o=some a) (ha:a.all fun x=>VR ρ (ρa x) (ρc x)) (hH:HR ρ H nx w.heap)
  (h:b7 (a.map (Av ρa)) P T L H nx k=some r):Good P w ρ H nx r k (execOp ρc o):=by
 have he:execOp ρc o=(do pure (.value (← Instr.makeSlice t (ρc x) (ρc y)))):=by simp only [execOp,ho]
 simp only [aj,ho] at hc
 split at hc
 ·rename_i e hu
  split at hc
  ·rename_i z bytes zero hz hb wG
   cases hl:Nat.beq zero.length z with
   | false=>rw [hl] at hc;cases hc
   | true=>
    rw [hl] at hc
    cases hc
    have lD:=Nat.eq_of_beq_eq_true hl
    have h':cx (ρa x) (fun l=>cx (ρa y) fun c=>Ma z bytes zero H nx l c k)=some r:=h
    obtain ⟨k1,l,e1,h1⟩:=eC h'
    obtain ⟨k2,c,e2,h2⟩:=eC h1
    obtain ⟨ss,h3⟩:=bI h2
    simp only [Bool.and_eq_true] at ss
    obtain ⟨c1,c2,c3,c4⟩:=ss
    have W1:l≤c:=Nat.le_of_ble_eq_true c1
    have LM:c * bytes≤small:=Nat.le_of_ble_eq_true c2
    have nj:c≤small:=Nat.le_of_ble_eq_true c3
    rw [mh] at h3
    obtain ⟨hx,hy⟩:=ha
    have oT:ρc x=.int k1 (.ofNat l):=by rw [e1] at hx;exact hx.gE
    have HC:ρc y=.int k2 (.ofNat c):=by rw [e2] at hy;exact hy.gE
    obtain ⟨i,hi,Co⟩:=Fv (w:=w) hb
    obtain ⟨zr,oS,rR⟩:=wF (w:=w) (c:=c) wG lD
    rw [he]
    have lG:(aU zero c).toArray.size=c * z:=by rw [List.size_toArray,dV,lD]
    refine .made (w':={ w with heap:=w.heap.push (.cells (aU zero c).toArray e (0,0)) }) (cs':=(aU zero c).toArray) hH rfl rfl rfl rfl (cL.Mq (z7 wG c)) (by rw [lG];exact .Em ⟨W1,by unfold small at nj;unfold dA;omega⟩) h3 ?_
    have w1:IntKind.i64.wrap (Int.ofNat l)=(l:Int):=mj (by omega)
    have w2:IntKind.i64.wrap (Int.ofNat c)=(c:Int):=mj nj
    have Cp:small=1099511627776:=rfl
    have hbi:((i.bytes:Int) * (c:Int))≤1099511627776:=by
     rw [Co,Int.mul_comm]
     have:((c * bytes:Nat):Int)≤1099511627776:=by rw [Cp] at LM;omega
     simpa using this
    have tA:((decide ((c:Int) < 0)||decide ((i.bytes:Int) * (c:Int) > 2 ^ 48)||decide ((l:Int) < 0)||decide ((l:Int) > (c:Int)))=true)↔False:=by
     simp only [Bool.or_eq_true,decide_eq_true_eq,iff_false]
     omega
    simp only [Instr.makeSlice,Sem.run_bind,run_underlying hu,Result.andThen_ok,oT,HC,gY,Sem.run_pure,hi,w1,w2]
    rw [if_neg (by rw [tA];exact fun h=>h)]
    simp only [Sem.run_bind,run_askRoom,Result.andThen_ok,dK hz,Int.toNat_natCast]
    rw [oS]
    simp only [rR,newRow,Sem.run_bind,run_newObj,Sem.run_pure,Result.andThen_ok]
  ·cases hc
 ·cases hc
theorem qn {t:TypeId} {len:Nat} {xs:Array (Nat×Operand)} {a:bE Operand} (ho:o.op=.buildSlice t len xs) (hc:aj P ins o=some a) (ha:a.all fun x=>VR ρ (ρa x) (ρc x)) (hH:HR ρ H nx w.heap)
  (h:b7 (a.map (Av ρa)) P T L H nx k=some r):Good P w ρ H nx r k (execOp ρc o):=by
 have he:execOp ρc o=(do pure (.value (← Instr.buildSlice t len (xs.map fun (i,x)=>(i,ρc x))))):=by simp only [execOp,ho]
 have hq:(xs.map fun (i,x)=>(i,ρc x))=(xs.toList.map fun x=>(x.1,ρc x.2)).toArray:=by
  apply Array.ext';simp
 rw [hq] at he
 simp only [aj,ho] at hc
 split at hc
 ·rename_i e hu
  split at hc
  ·rename_i z zero hz wG
   cases hl:(Nat.ble (len * z) 16777216&&Nat.beq zero.length z) with
   | false=>rw [hl] at hc;cases hc
   | true=>
    rw [hl] at hc
    cases hc
    simp only [Bool.and_eq_true] at hl
    have hlz:len * z≤16777216:=Nat.le_of_ble_eq_true hl.1
    have lD:=Nat.eq_of_beq_eq_true hl.2
    obtain ⟨h1,h2⟩:=rh (z:=z) xs.toList
    have h':cW T L (((eB z xs.toList).map fun x=>(x.1,x.2.1,ρa x.2.2)).map fun x=>(x.1,x.2.1,Od.aD x.2.2)) (fun ps=>bd (ew (aU zero len) ps) fun cs=>
      cond (Nat.blt 0 z) (fresh H nx (rO nx z len (Nat.succ (Nat.mul 2 len))) k cs) none)=some r:=by
     rw [List.map_map];exact h
    rw [nT] at h'
    obtain ⟨cs,hf,h4⟩:=aL h'
    obtain ⟨ri,hk⟩:=bI h4
    rw [mh] at hk
    have hlm:len≤dA:=by
     have h0:0 < z:=by simpa [Nat.blt_eq] using ri
     have:len * 1≤len * z:=Nat.mul_le_mul_left _ h0
     unfold dA;omega
    obtain ⟨zr,oS,rR⟩:=wF (w:=w) (c:=len) wG lD
    obtain ⟨c,jT,sr⟩:=nR (ρ:=ρ) (fun i=>some (i * z,z)) ((eB z xs.toList).map fun x=>(x.1,x.2.1,ρa x.2.2)) (xs.toList.map fun x=>(x.1,ρc x.2)) (aU zero len) cs (aU zero len).toArray (by simp [h1]) (fun i p q N1 N2=>by
     simp only [List.getElem?_map,Option.map_eq_some_iff] at N1 N2
     obtain ⟨p',kk,rfl⟩:=N1
     obtain ⟨q',fQ,rfl⟩:=N2
     have:=h2 i p' q' kk fQ
     subst this
     exact ⟨rfl,ha _ (List.mem_of_getElem? kk)⟩) (z7 wG len) hf
    have iP:c.size=len * z:=by
     have g1:=sr.length
     have g2:∀(ps:List (Nat×Nat×Value)) (a b:List Value),ew a ps=some b→b.length=a.length:=by
      intro ps
      induction ps with
      | nil=>intro a b qg;simp [ew] at qg;rw [qg]
      | cons p ps ih=>
       intro a b qg
       obtain ⟨p1,p2,p3⟩:=p
       unfold ew at qg
       cases hb:Nat.beq (cellsOf p3).length p2 with
       | false=>rw [hb] at qg;cases qg
       | true=>
        rw [hb] at qg
        simp only [cond_true] at qg
        cases ve:gu a p1 (cellsOf p3) with
        | none=>simp [ve] at qg
        | some a1=>
         simp [ve] at qg
         rw [ih a1 b qg,(tp _ _ _ _ ve).1]
     have g3:=g2 _ _ _ hf
     rw [dV,lD] at g3
     simp only [Array.length_toList] at g1
     omega
    rw [he]
    refine .made (w':={ w with heap:=w.heap.push (.cells c e (0,0)) }) (cs':=c) hH rfl rfl rfl rfl (cL.Mq sr) (by rw [iP];exact .Em ⟨Nat.le_refl _,hlm⟩) hk ?_
    have Yx:¬(len * z > 2 ^ 24):=by omega
    simp only [Instr.buildSlice,Sem.run_bind,run_underlying hu,Result.andThen_ok,dK hz,if_neg Yx]
    rw [oS]
    simp only [rR,jT,newRow,Sem.run_bind,run_newObj,Sem.run_pure,Result.andThen_ok]
  ·cases hc
 ·cases hc
end Go.Eng
