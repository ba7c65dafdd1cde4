import Derived.Defers
import Derived.Recover
import Derived.KernelRfl
import Derived.Laws.Entries
/- An interpreter of the model's code that follows one order and is proved right for all: part 1. -/

theorem O{P:Prop}(h:P:=by kernel_rfl):P:=h
theorem V{P:Prop}(h:P:=by omega):P:=h
abbrev mM:=@List.eq_nil_of_length_eq_zero
abbrev aY:=@List.getD_eq_getElem?_getD
abbrev aiQ:=@List.getElem?_append_right
abbrev cS:=@List.getElem?_eq_some_iff
abbrev eC:=@List.getElem?_append_left
abbrev NW:=@List.drop_eq_getElem_cons
abbrev aM:=@List.getElem?_eq_getElem
abbrev mN:=@List.getElem?_replicate
abbrev DV:=@List.getElem?_cons_succ
abbrev WI:=@List.getElem?_cons_zero
abbrev Ab:=@Nat.ne_of_beq_eq_false
abbrev NX:=@List.take_of_length_le
abbrev dB:=@Nat.eq_of_beq_eq_true
abbrev gx:=@List.getElem?_eq_none
abbrev lu:=@Nat.le_of_ble_eq_true
abbrev NY:=@List.length_replicate
abbrev K6:=@List.take_append_drop
abbrev Ac:=@List.length_filter_le
abbrev aL:=@Int.ofNat_eq_natCast
abbrev dM:=@List.mem_of_getElem?
abbrev fY:=@List.mem_cons_of_mem
abbrev SN:=@Nat.mul_le_mul_right
abbrev kG:=@List.getElem_of_mem
abbrev wz:=@List.getElem?_range
abbrev SO:=@Nat.mul_le_mul_left
abbrev cm:=@List.length_append
abbrev hJ:=@List.mem_cons_self
abbrev kN:=@Nat.lt_of_lt_of_le
abbrev fe:=@List.mem_singleton
abbrev wA:=@List.getElem?_take
abbrev eD:=@List.getElem?_map
abbrev eE:=@Int.toNat_natCast
abbrev fZ:=@List.getElem?_set
abbrev jj:=@List.append_assoc
abbrev SQ:=@List.length_range
abbrev SR:=@Classical.not_not
abbrev Hc:=@List.foldl_append
abbrev DW:=@decide_eq_true_eq
abbrev mb:=@List.ext_getElem?
abbrev hO:=@List.length_cons
abbrev iJ:=@List.take_length
abbrev Hd:=@List.not_mem_nil
abbrev iZ:=@List.length_take
abbrev jE:=@List.getElem_mem
abbrev gd:=@Bool.and_eq_true
abbrev pf:=@List.length_drop
abbrev wB:=@Option.getD_some
abbrev K7:=@Nat.lt_succ_self
abbrev ee:=@List.mem_append
abbrev gp:=@List.length_nil
abbrev im:=@decide_eq_false
abbrev gN:=@List.append_nil
abbrev iq:=@List.length_set
abbrev ja:=@List.length_map
abbrev rC:=@List.mem_filter
abbrev K8:=@List.range_succ
abbrev SS:=@Nat.not_lt_zero
abbrev jG:=@List.map_append
abbrev jk:=@Option.some.inj
abbrev qQ:=@List.nil_append
abbrev fB:=@decide_eq_true
abbrev wC:=@List.mem_range
abbrev NZ:=@List.drop_zero
abbrev dT:=@List.mem_cons
abbrev pg:=@List.mem_map
abbrev hX:=@Nat.le_trans
abbrev rD:=@Nat.lt_or_ge
abbrev He:=@Nat.sub_self
abbrev Hf:=@Nat.add_zero
abbrev au:=@Nat.le_refl
abbrev bS:=@Nat.zero_le
abbrev cE:=@Nat.le_succ
abbrev aw:=@if_neg
abbrev aJ:=@if_pos
set_option maxRecDepth 100000
namespace Go.Eng
section
noncomputable section
inductive Tr (α:Type) where
 | e
 | n (l:Tr α) (v:Option α) (r:Tr α)
def path(f:Nat):Nat->List Bool:=Nat.rec (motive:=λ_=>Nat->List Bool) (λ_=>[])
 (λ_ ih k=>cond (Nat.beq k 0) [] (cond (Nat.beq (Nat.mod k 2) 1) (true::ih (Nat.div k 2)) (false::ih (Nat.sub (Nat.div k 2) 1)))) f
def at_(k:Nat):List Bool:=path k k
inductive jb where
 | cells (cs:List Value)
 | map (es:List MapEntry) (clock:Nat)
 | ro (cs:List Value)
 | iter (m:Option Nat) (since:Nat) (seen:List Nat) (last:Nat)
abbrev Heap:=Tr jb
inductive Od where
 | loc (d:Nat)
 | var (p:List Bool)
 | aO (v:Value)
 | fn (f:FuncId)
inductive cr (α:Type) where
 | ai (x:α)
 | pick (c a b:α)
 | aA (x:α)
 | ext (x:α) (i:Nat)
 | Ad (x:α) (off:Nat) (agg:Option Nat)
 | aI (x:α) (off:Nat)
 | aK (x i:α) (z:Nat)
 | nO (x i:α) (n z:Nat)
 | ix (x i:α) (n z:Nat) (agg:Option Nat)
 | bin (op:BinOp) (t:TypeId) (x y:α)
 | un (op:UnOp) (x:α)
 | AV (s d:TypeId) (x:α)
 | ur (min:Bool) (xs:List α)
 | Nn (t:TypeId) (x i:α)
 | Hg (t:TypeId) (x:α) (lo hi:Option α)
 | eP (neg:Bool) (kd:Nat) (x y:α)
 | fR (zero:List Value) (parts:List (Nat×Nat×α))
 | B8 (fn:FuncId) (first cap:List α)
 | Hh (t:TypeId) (x:α)
 | K9 (x:α) (t:TypeId) (zero:Value) (ok:Bool)
 | an (x:α) (agg:Option Nat)
 | len (x:α)
 | GU (x:α)
 | No (x:α)
 | cap (x:α)
 | lx (x:α) (lo hi mx:Option α) (z:Nat)
 | N0 (x:α) (lo hi:Option α) (n z:Nat)
 | AW (x k:α) (kt:TypeId) (zero:Value) (ok:Bool)
 | box (x:α)
 | gM (zero:List Value)
 | mO (z bytes:Nat) (zero:List Value) (l c:α)
 | fC (z len:Nat) (zero:List Value) (parts:List (Nat×Nat×α))
 | Np (r:Option α)
 | bE (x v:α) (n:Nat)
 | app (z bytes:Nat) (zero:List Value) (s x:α) (fS:Bool)
 | Jq (z:Nat) (d s:α)
 | Sx (x:α) (zero:List Value)
 | N1 (m k v:α) (kt:TypeId)
 | Sy (m k:α) (kt:TypeId) (zero:Value)
 | Sz (m s v:α)
 | ins (z bytes:Nat) (s i v:α)
 | call (f:α) (args:List α)
 | inv (x:α) (name:String) (args:List α)
 | sx (f:α) (args:List α)
 | rE (x:α)
 | AX
 | AY (x:α)
 | nxt (x:α)
 | SU (x:α)
structure AO where
 keep:Option (List Bool)
 guard:Option (Nat×Bool)
 op:cr Od
structure cz where
 guard:Option (Nat×Bool)
 op:cr Od
 d:Nat
inductive bA where
 | skip
 | ae (dr:Bool) (ops:List (AO×List cz))
 | seq (a b:bA)
 | cond (c:Od) (a b:bA)
 | block (id:Nat) (c:bA)
 | loop (c:bA)
 | exit (id:Nat)
 | ret
structure az where
 results:List (Od×Option (Option Nat))
 body:bA
inductive eF where
 | ok (v:Value) (H:Heap) (nx:Nat)
 | rE (chain:List PanicEntry) (H:Heap) (nx:Nat)
structure aN where
 P:Program
 funcs:Nat->Option az
 aS:FuncId->List Value->Heap->Nat->Option eF
abbrev _root_.zhN(A:aN)(g:FuncId):Prop:=∀vs H nx,aN.aS A g vs H nx=none
inductive Ex where
 | normal
 | exit (id:Nat)
 | ret
 | panic (chain:List PanicEntry)
abbrev gf:=Value×List Value
structure St where
 T:Tr Value
 D:List gf
 H:Heap
 nx:Nat
abbrev R0:=Option (Ex×St)
def scalar:Value->Bool
 | .bool _ | .int _ _ | .float _ _ | .complex _ _ _ | .string _ | .nilFunc=>true
 | _=>false
def flat:Value->Bool
 | .agg cs=>cs.toList.all scalar
 | v=>scalar v
def quiet{α:Type}(P:Program):Sem α->Option α
 | .pure a=>some a
 | .program k=>quiet P (k P)
 | _=>none
def take?(n:Nat)(l:List Value):Option (List Value):=
 Nat.rec (motive:=λ_=>List Value->Option (List Value)) (λ_=>some []) (λ_ ih l=>List.rec none (λc cs _=>Option.rec none (λr=>some (c::r)) (ih cs)) l) n l
def fq(l:List Value)(n:Nat):List Value:=
 List.rec (motive:=λ_=>Nat->List Value) (λ_=>[]) (λc l ih k=>Nat.rec (c::l) (λk _=>ih k) k) l n
def fi:List Value->List Value->Option (List Value)
 | cs,[]=>some cs
 | _::cs,v::vs=>match fi cs vs with
  | some r=>some (v::r)
  | none=>none
 | [],_::_=>none
def jc(cs:List Value)(o:Nat)(vs:List Value):Option (List Value):=
 Nat.rec (motive:=λ_=>List Value->Option (List Value)) (λcs=>fi cs vs) (λ_ ih cs=>List.rec none (λc cs _=>Option.rec none (λr=>some (c::r)) (ih cs)) cs) o cs
def cellsOf:Value->List Value
 | .agg cs=>cs.toList
 | v=>[v]
def AZ(l:List Value):Option Value:=List.rec none (λc _ _=>some c) l
def Vn(o:Option (List Value)):Option Value:=Option.rec none (λl=>some (.agg l.toArray)) o
def partOf(cs:List Value)(off:Nat)(agg:Option Nat):Option Value:=
 Option.rec (AZ (fq cs off)) (λn=>Vn (take? n (fq cs off))) agg
def fJ(cells:List Value):List (Nat×Nat×Value)->Option (List Value)
 | []=>some cells
 | (off,size,v)::rest=>bif Nat.beq (cellsOf v).length size then match jc cells off (cellsOf v)with
   | some WJ=>fJ WJ rest
   | none=>none
  else none
def bj(zero:List Value)(n:Nat):List Value:=Nat.rec [] (λ_ ih=>zero++ih) n
def aF(c:Nat):Nat:=Nat.div c 2
def exact(c:Nat):Bool:=Nat.beq (Nat.mod c 2) 1
def small:Nat:=1099511627776
def dg:Nat->Value->Option Bool
 | 0,.pointer none=>some true
 | 0,.pointer (some _)=>some false
 | 1,.slice none _ _=>some true
 | 1,.slice (some _) _ _=>some false
 | 2,.map none=>some true
 | 2,.map (some _)=>some false
 | 3,.nilFunc=>some true
 | 3,.func _ _ _=>some false
 | 4,.nilIface=>some true
 | 4,.iface _ _=>some false
 | _,_=>none
def marked:List MapEntry->Nat->List MapEntry
 | [],_=>[]
 | e::es,i=>{ e with val:=.int .i64 i }::marked es (i+1)
def B9:Value->Value->Bool
 | .bool a,.bool b=>cond a b (not b)
 | .int j a,.int k b=>decide (j=k)&&decide (a=b)
 | .string a,.string b=>decide (a=b)
 | _,_=>false
def Ca:List Value->List Value->Bool
 | [],[]=>true
 | a::as,b::bs=>B9 a b&&Ca as bs
 | _,_=>false
def DX:Value->Value->Bool
 | .agg a,.agg b=>Ca a.toList b.toList
 | a,b=>B9 a b
def DY:List MapEntry->Nat->Value->Bool
 | [],_,_=>false
 | e::_,0,k=>DX e.key k
 | _::es,i+1,k=>DY es i k
def findAt(P:Program)(emp:Bool)(kt:TypeId)(k:Value)(es:List MapEntry):Option (Option Nat):=
 bif flat k&&es.all (λe=>flat e.key)then match quiet P (Instr.checkKey emp 10000 kt k)with
  | some ()=>match quiet P (Instr.findKey kt k (marked es 0))with
   | some (some (i,_))=>bif DY es i k then some (some i)else none
   | some none=>some none
   | none=>none
  | none=>none
 else none
def mj:List MapEntry->Nat->Option MapEntry
 | [],_=>none
 | e::_,0=>some e
 | _::es,i+1=>mj es i
def xA:List MapEntry->Nat->Nat->Option Nat
 | [],_,_=>none
 | e::es,b,i=>bif Nat.beq e.born b then some i else xA es b (i+1)
def ph:List MapEntry->Nat->Value->List MapEntry
 | [],_,_=>[]
 | e::es,0,v=>{ e with val:=v }::es
 | e::es,i+1,v=>e::ph es i v
def ff:Value->Value->Bool
 | .bool a,.bool b=>cond a b (not b)
 | .int j a,.int k b=>decide (j=k)&&decide (a=b)
 | .pointer none,.pointer none=>true
 | .pointer (some a),.pointer (some b)=>decide (a=b)
 | .slice none a b,.slice none c d=>Nat.beq a c&&Nat.beq b d
 | .slice (some p) a b,.slice (some q) c d=>decide (p=q)&&Nat.beq a c&&Nat.beq b d
 | .map none,.map none=>true
 | .map (some a),.map (some b)=>Nat.beq a b
 | _,_=>false
def SV:List Value->List Value->Bool
 | [],[]=>true
 | a::as,b::bs=>ff a b&&SV as bs
 | _,_=>false
def mc:Value->Value->Bool
 | .agg a,.agg b=>SV a.toList b.toList
 | a,b=>ff a b
def Jr(op:BinOp)(a b:Nat):Option Value:=match op with
 | .add=>cond (Nat.blt (Nat.add a b) 2147483648) (some (.int .i64 (.ofNat (Nat.add a b)))) none
 | .sub=>cond (Nat.ble b a) (cond (Nat.blt a 2147483648) (some (.int .i64 (.ofNat (Nat.sub a b)))) none) none
 | .mul=>cond (Nat.blt (Nat.mul a b) 2147483648) (some (.int .i64 (.ofNat (Nat.mul a b)))) none
 | .eql=>some (.bool (Nat.beq a b))
 | .neq=>some (.bool (not (Nat.beq a b)))
 | .lss=>some (.bool (Nat.blt a b))
 | .leq=>some (.bool (Nat.ble a b))
 | .gtr=>some (.bool (Nat.blt b a))
 | .geq=>some (.bool (Nat.ble b a))
 | _=>none
def wU(op:BinOp):Option Value:=match op with
 | .eql=>some (.bool false)
 | .neq=>some (.bool true)
 | _=>none
def Ae(op:BinOp)(x y:Value):Option Value:=match x,y with
 | .int .i64 (.ofNat a),.int .i64 (.ofNat b)=>Jr op a b
 | .int .i64 (.ofNat _),.int .i64 (.negSucc _)=>wU op
 | .int .i64 (.negSucc _),.int .i64 (.ofNat _)=>wU op
 | _,_=>none
def Js(lo hi:Nat):Value:=.chan (some (Nat.add (Nat.mul lo 18446744073709551616) hi))
def DZ(k:Nat):Nat:=Nat.div k 18446744073709551616
def A0(k:Nat):Nat:=Nat.mod k 18446744073709551616
def fF:Value->Bool
 | .chan (some _)=>true
 | _=>false
def cW:Value->Option (Nat×Nat)
 | .int .i64 (.ofNat n)=>some (n,n)
 | .chan (some k)=>some (DZ k,A0 k)
 | _=>none
def vz(op:BinOp)(a b c d:Nat):Option Value:=match op with
 | .add=>bif Nat.blt (Nat.add b d) 9223372036854775808 then some (Js (Nat.add a c) (Nat.add b d))else none
 | .leq=>bif Nat.ble b c then some (.bool true)else bif Nat.blt d a then some (.bool false)else none
 | .gtr=>bif Nat.ble b c then some (.bool false)else bif Nat.blt d a then some (.bool true)else none
 | .lss=>bif Nat.blt b c then some (.bool true)else bif Nat.ble d a then some (.bool false)else none
 | .geq=>bif Nat.blt b c then some (.bool false)else bif Nat.ble d a then some (.bool true)else none
 | _=>none
def xB(op:BinOp)(x y:Value):Option Value:=bif fF x||fF y then match cW x,cW y with
  | some (a,b),some (c,d)=>vz op a b c d
  | _,_=>none
 else none
def uu(mn:Bool)(xs:List Value):Option Value:=match mn,xs with
 | true,[x,y]=>bif fF x||fF y then match cW x,cW y with
   | some (a,b),some (c,d)=>some (Js (Nat.min a c) (Nat.min b d))
   | _,_=>none
  else none
 | _,_=>none
def sI(P:Program)(op:BinOp)(t:TypeId)(x y:Value):Option Value:=
 bif flat x&&flat y then match quiet P (do eqGuard op t (.const x) (.const y) x y;binOp op t x y)with
  | some v=>bif flat v then some v else none
  | none=>none
 else xB op x y
def jH(P:Program)(xs:List Value)(s:Sem Value):Option Value:=
 bif xs.all flat then match quiet P s with
  | some v=>bif flat v then some v else none
  | none=>none
 else none
def Cb(P:Program)(t:TypeId):Option (Option Nat):=match P.info? t,P.underlying t with
 | some i,some (.struct _)|some i,some (.array _ _)=>some (some i.size)
 | some _,some _=>some none
 | _,_=>none
def methodOf(P:Program)(t:TypeId)(name:String):Option (FuncId×Option (Option Nat)):=match P.info? t with
 | some i=>match i.methods.toList.find? (·.name == name)with
  | some m=>bif m.path.isEmpty then match m.func,P.underlying t with
    | some (f,true),some (.pointer _)=>some (f,none)
    | some (f,false),some (.pointer e)=>match Cb P e with
     | some a=>some (f,some a)
     | none=>none
    | some (f,false),some _=>some (f,none)
    | _,_=>none
   else none
  | none=>none
 | none=>none
def oneOf:List Value->Value
 | [v]=>v
 | vs=>.tuple vs.toArray
def ad3{α:Type}(v:Option α)(gl gr:List Bool->Option α)(p:List Bool):Option α:=List.rec v (λb p _=>cond b (gl p) (gr p)) p
def ad4{α:Type}(_:List Bool):Option α:=none
def ah{α:Type}(t:Tr α):List Bool->Option α:=Tr.rec ad4 (λ_ v _ gl gr=>ad3 v gl gr) t
abbrev SP(α:Type):=Tr α->Option α->(Tr α->R0)->R0
def ad5{α:Type}(t:Tr α)(x:Option α)(k:Tr α->R0):R0:=Tr.rec (k (.n .e x .e)) (λl _ r _ _=>k (.n l x r)) t
def aat{α:Type}(b:Bool)(ih:SP α)(x:Option α)(k:Tr α->R0):R0:=cond b (ih .e x λl=>k (.n l none .e)) (ih .e x λr=>k (.n .e none r))
def aau{α:Type}(b:Bool)(ih:SP α)(x:Option α)(k:Tr α->R0)(l:Tr α)(v:Option α)(r:Tr α):R0:=cond b (ih l x λl=>k (.n l v r)) (ih r x λr=>k (.n l v r))
def SW{α:Type}(b:Bool)(ih:SP α)(t:Tr α)(x:Option α)(k:Tr α->R0):R0:=Tr.rec (aat b ih x k) (λl v r _ _=>aau b ih x k l v r) t
def eQ{α:Type}(p:List Bool):SP α:=List.rec ad5 (λb _ ih=>SW b ih) p
def bd{α β:Type}(o:Option α)(f:α->Option β):Option β:=Option.rec none f o
abbrev KV:=Value->R0
def Af(L:List Value)(d:Nat)(k:KV):R0:=List.rec (motive:=λ_=>Nat->R0) (λ_=>none) (λv _ ih d=>Nat.rec (k v) (λd _=>ih d) d) L d
def fnK(f:FuncId)(k:KV):R0:=k (.func (.func f) #[] #[])
def bI(T:Tr Value)(L:List Value)(x:Od)(k:KV):R0:=Od.rec (λd=>Af L d k) (λp=>bd (ah T p) k) k (λf=>fnK f k) x
def dN(T:Tr Value)(L:List Value)(xs:List Od):(List Value->R0)->R0:=
 List.rec (motive:=λ_=>(List Value->R0)->R0) (λk=>k []) (λx _ ih k=>bI T L x λv=>ih λvs=>k (v::vs)) xs
def N2(T:Tr Value)(L:List Value)(x:Nat×Nat×Od)(k:Nat×Nat×Value->R0):R0:=Prod.rec (λa r=>Prod.rec (λb x=>bI T L x λv=>k (a,b,v)) r) x
def eX(T:Tr Value)(L:List Value)(xs:List (Nat×Nat×Od)):(List (Nat×Nat×Value)->R0)->R0:=
 List.rec (motive:=λ_=>(List (Nat×Nat×Value)->R0)->R0) (λk=>k []) (λx _ ih k=>N2 T L x λv=>ih λvs=>k (v::vs)) xs
def dU(v:Value)(k:Nat->Nat->R0):R0:=match v with
 | .pointer (some ⟨b,o,none⟩)=>k b o
 | _=>none
def dp(v:Value)(k:Nat->R0):R0:=match v with
 | .int _ (.ofNat n)=>k n
 | _=>none
def pj(v:Value)(k:Nat->R0):R0:=match v with
 | .int .i64 (.ofNat n)=>k n
 | _=>none
def rj(v:Value)(k:List Value->R0):R0:=match v with
 | .agg cs=>k cs.toList
 | _=>none
def wD(v:Value)(k:Nat->Nat->Nat->Nat->Nat->R0):R0:=match v with
 | .slice (some ⟨b,o,some z⟩) len c=>k b o z len c
 | _=>none
def hY(v:Value)(a b:R0):R0:=match v with
 | .bool t=>cond t a b
 | _=>none
def wV(b:Option jb)(k:List Value->R0):R0:=Option.rec none (λb=>jb.rec k (λ_ _=>none) (λ_=>none) (λ_ _ _ _=>none) b) b
def onRead(b:Option jb)(k:List Value->R0):R0:=Option.rec none (λb=>jb.rec k (λ_ _=>none) k (λ_ _ _ _=>none) b) b
def jI(b:Option jb)(k:List MapEntry->Nat->R0):R0:=Option.rec none (λb=>jb.rec (λ_=>none) k (λ_=>none) (λ_ _ _ _=>none) b) b
def eY(H:Heap)(b:Nat)(k:List Value->R0):R0:=wV (ah H (at_ b)) k
def db(H:Heap)(b:Nat)(k:List Value->R0):R0:=onRead (ah H (at_ b)) k
def Ag(H:Heap)(v:Value)(k:Nat->List MapEntry->Nat->R0):R0:=match v with
 | .map (some r)=>jI (ah H (at_ r)) (k r)
 | _=>none
def jd(T:Tr Value)(L:List Value)(x:Option Od)(ad6:Nat)(k:Nat->R0):R0:=Option.rec (k ad6) (λx=>bI T L x λv=>dp v k) x
abbrev LK:=Program->Tr Value->List Value->Heap->KV->R0
def aav(x:Od):LK:=λ_ T L _ k=>bI T L x k
def Vo(c a b:Od):LK:=λ_ T L _ k=>bI T L c λc=>hY c (bI T L a k) (bI T L b k)
def xC(v:Value)(k:KV):R0:=match v with
 | .pointer (some a)=>k (.pointer (some a))
 | .func (.func f) a b=>k (.func (.func f) a b)
 | _=>none
def N3(x:Od):LK:=λ_ T L _ k=>bI T L x λv=>xC v k
def N4(v:Value)(i:Nat)(k:KV):R0:=match v with
 | .tuple vs=>Af vs.toList i k
 | _=>none
def aaw(x:Od)(i:Nat):LK:=λ_ T L _ k=>bI T L x λv=>N4 v i k
def aax(x:Od)(off:Nat)(agg:Option Nat):LK:=λ_ T L _ k=>bI T L x λv=>rj v λcs=>bd (partOf cs off agg) k
def Jt(b o:Nat)(k:KV):R0:=k (.pointer (some ⟨b,o,none⟩))
def aay(x:Od)(off:Nat):LK:=λ_ T L _ k=>bI T L x λv=>dU v λb o=>Jt b (Nat.add o off) k
def WK(z n:Nat)(k:KV)(b o z' len _c:Nat):R0:=cond (and (Nat.blt n len) (Nat.beq z z')) (Jt b (Nat.add o (Nat.mul n z)) k) none
def aaz(x i:Od)(z:Nat):LK:=λ_ T L _ k=>bI T L x λv=>bI T L i λi=>dp i λn=>wD v (WK z n k)
def WL(n len z:Nat)(k:KV)(b o:Nat):R0:=cond (Nat.blt n len) (Jt b (Nat.add o (Nat.mul n z)) k) none
def aaA(x i:Od)(len z:Nat):LK:=λ_ T L _ k=>bI T L x λv=>bI T L i λi=>dp i λn=>dU v (WL n len z k)
def lIx(x i:Od)(len z:Nat)(agg:Option Nat):LK:=λ_ T L _ k=>bI T L x λv=>bI T L i λi=>dp i λn=>rj v λcs=>cond (Nat.blt n len) (bd (partOf cs (Nat.mul n z) agg) k) none
def jl(P:Program)(op:BinOp)(t:TypeId)(x y:Value)(k:KV):R0:=Option.rec (bd (sI P op t x y) k) k (Ae op x y)
def aaB(op:BinOp)(t:TypeId)(x y:Od):LK:=λP T L _ k=>bI T L x λa=>bI T L y λb=>jl P op t a b k
def lUn(op:UnOp)(x:Od):LK:=λP T L _ k=>bI T L x λv=>bd (jH P [v] (Op.unary op v)) k
def aaC(s d:TypeId)(x:Od):LK:=λP T L _ k=>bI T L x λv=>bd (jH P [v] (convert s d v)) k
def Cc(P:Program)(mn:Bool)(vs:List Value):Option Value:=Option.rec (jH P vs (cond mn (Builtin.min_ #[] 0 vs.toArray) (Builtin.max_ #[] 0 vs.toArray))) some (uu mn vs)
def aaD(mn:Bool)(xs:List Od):LK:=λP T L _ k=>dN T L xs λvs=>bd (Cc P mn vs) k
def aaE(t:TypeId)(x i:Od):LK:=λP T L _ k=>bI T L x λv=>bI T L i λi=>bd (jH P [v,i] (Instr.index t v i)) k
def D1(T:Tr Value)(L:List Value)(x:Option Od)(k:Option Value->R0):R0:=Option.rec (k none) (λx=>bI T L x λv=>k (some v)) x
def aaF(t:TypeId)(x:Od)(lo hi:Option Od):LK:=λP T L _ k=>bI T L x λv=>D1 T L lo λl=>D1 T L hi λh=>bd (jH P (v::(l.toList++h.toList)) (Instr.slice t v l h none)) k
def Cd(neg:Bool)(kd:Nat)(x y:Value)(k:KV):R0:=bd (dg kd x) λa=>bd (dg kd y) λb=>cond (or a b) (k (.bool (xor neg (and a b)))) none
def N5(neg:Bool)(kd:Nat)(x y:Od):LK:=λ_ T L _ k=>bI T L x λa=>bI T L y λb=>Cd neg kd a b k
def aaG(zero:List Value)(parts:List (Nat×Nat×Od)):LK:=λ_ T L _ k=>eX T L parts λps=>bd (fJ zero ps) λcs=>k (.agg cs.toArray)
def aaH(f:FuncId)(first cp:List Od):LK:=λ_ T L _ k=>dN T L first λa=>dN T L cp λb=>k (.func (.func f) a.toArray b.toArray)
def aaI(t:TypeId)(x:Od):LK:=λ_ T L _ k=>bI T L x λv=>k (.iface t v)
def SX(t:TypeId)(zero:Value)(ok:Bool)(k:KV)(v:Value):R0:=match v with
 | .nilIface=>cond ok (k (.tuple #[zero,.bool false])) none
 | .iface t' v=>cond (Nat.beq t' t) (k (cond ok (.tuple #[v,.bool true]) v)) (cond ok (k (.tuple #[zero,.bool false])) none)
 | _=>none
def aaJ(x:Od)(t:TypeId)(zero:Value)(ok:Bool):LK:=λ_ T L _ k=>bI T L x (SX t zero ok k)
def aaK(x:Od)(agg:Option Nat):LK:=λ_ T L H k=>bI T L x λv=>dU v λb o=>db H b λcs=>bd (partOf cs o agg) k
def N6(v:Value)(k:KV):R0:=match v with
 | .slice _ n _=>k (.int .i64 (.ofNat n))
 | _=>none
def aaL(x:Od):LK:=λ_ T L _ k=>bI T L x λv=>N6 v k
def N7(v:Value)(k:KV):R0:=match v with
 | .string s=>k (.int .i64 (.ofNat s.size))
 | _=>none
def aaM(x:Od):LK:=λ_ T L _ k=>bI T L x λv=>N7 v k
def Ce(H:Heap)(v:Value)(k:KV):R0:=match v with
 | .map none=>k (.int .i64 (.ofNat 0))
 | .map (some r)=>jI (ah H (at_ r)) λes _=>k (.int .i64 (.ofNat es.length))
 | _=>none
def aaN(x:Od):LK:=λ_ T L H k=>bI T L x λv=>Ce H v k
def D3(v:Value)(k:KV):R0:=match v with
 | .slice none _ _=>k (.int .i64 (.ofNat 0))
 | .slice (some _) _ c=>cond (exact c) (k (.int .i64 (.ofNat (aF c)))) (k (Js (aF c) 9223372036854775807))
 | _=>none
def aaO(x:Od):LK:=λ_ T L _ k=>bI T L x λv=>D3 v k
def La(T:Tr Value)(L:List Value)(mx:Option Od)(k:KV)(b o z l h c:Nat):R0:=
 Option.rec (k (.slice (some ⟨b,Nat.add o (Nat.mul l z),some z⟩) (Nat.sub h l) (Nat.sub c (Nat.mul 2 l))))
  (λm=>bI T L m λm=>dp m λm=>cond (and (Nat.ble h m) (Nat.ble m (aF c))) (k (.slice (some ⟨b,Nat.add o (Nat.mul l z),some z⟩) (Nat.sub h l) (Nat.succ (Nat.mul 2 (Nat.sub m l))))) none) mx
def Ah(T:Tr Value)(L:List Value)(lo hi mx:Option Od)(z:Nat)(k:KV)(v:Value):R0:=match v with
 | .slice none _ _=>jd T L lo 0 λl=>jd T L hi 0 λh=>cond (and (Nat.beq l 0) (and (Nat.beq h 0) mx.isNone)) (k (.slice none 0 0)) none
 | .slice (some ⟨_,_,none⟩) 0 _=>jd T L lo 0 λl=>jd T L hi 0 λh=>cond (and (Nat.beq l 0) (and (Nat.beq h 0) mx.isNone)) (k (.slice (some ⟨0,0,none⟩) 0 1)) none
 | .slice (some ⟨b,o,some z'⟩) len c=>jd T L lo 0 λl=>jd T L hi len λh=>cond (and (Nat.beq z z') (and (Nat.ble l h) (Nat.ble h (aF c)))) (La T L mx k b o z l h c) none
 | _=>none
def aaP(x:Od)(lo hi mx:Option Od)(z:Nat):LK:=λ_ T L _ k=>bI T L x (Ah T L lo hi mx z k)
def aaQ(x:Od)(lo hi:Option Od)(n z:Nat):LK:=λ_ T L _ k=>bI T L x λv=>dU v λb o=>jd T L lo 0 λl=>jd T L hi n λh=>
 cond (and (Nat.ble l h) (and (Nat.ble h n) (Nat.blt 0 z))) (k (.slice (some ⟨b,Nat.add o (Nat.mul l z),some z⟩) (Nat.sub h l) (Nat.succ (Nat.mul 2 (Nat.sub n l))))) none
def okV(ok:Bool)(v:Value)(b:Bool):Value:=cond ok (.tuple #[v,.bool b]) v
def aaR(es:List MapEntry)(zero:Value)(ok:Bool)(k:KV)(i:Option Nat):R0:=Option.rec (k (okV ok zero false)) (λi=>bd (mj es i) λe=>k (okV ok e.val true)) i
def Cf(P:Program)(kt:TypeId)(zero:Value)(ok:Bool)(H:Heap)(key:Value)(k:KV)(m:Value):R0:=match m with
 | .map none=>cond (flat key) (bd (quiet P (Instr.checkKey true 10000 kt key)) λ_=>k (okV ok zero false)) none
 | .map (some r)=>jI (ah H (at_ r)) λes _=>bd (findAt P es.isEmpty kt key es) (aaR es zero ok k)
 | _=>none
def aaS(m key:Od)(kt:TypeId)(zero:Value)(ok:Bool):LK:=λP T L H k=>bI T L m λm=>bI T L key λkey=>Cf P kt zero ok H key k m
def Ai:LK:=λ_ _ _ _ _=>none
abbrev KA:=Value->Heap->Nat->R0
abbrev AK:=Program->Tr Value->List Value->Heap->Nat->KA->R0
def eS(f:LK):AK:=λP T L H nx k=>f P T L H λv=>k v H nx
def oR(H:Heap)(nx b:Nat)(v:Value)(k:KA)(cs:List Value):R0:=eQ (at_ b) H (some (.cells cs)) λH=>k v H nx
def fresh(H:Heap)(nx:Nat)(v:Value)(k:KA)(cs:List Value):R0:=eQ (at_ nx) H (some (.cells cs)) λH=>k v H (Nat.succ nx)
def ptrTo(nx:Nat):Value:=.pointer (some ⟨nx,0,none⟩)
def wE(nx z len c:Nat):Value:=.slice (some ⟨nx,0,some z⟩) len c
def ad7(x:Od):AK:=λ_ T L H nx k=>bI T L x λv=>fresh H nx (ptrTo nx) k (cellsOf v)
def ad8(zero:List Value):AK:=λ_ _ _ H nx k=>fresh H nx (ptrTo nx) k zero
def SY(z bytes:Nat)(zero:List Value)(H:Heap)(nx l c:Nat)(k:KA):R0:=
 cond (and (Nat.ble l c) (and (Nat.ble (Nat.mul c bytes) small) (and (Nat.ble c small) (Nat.blt 0 z)))) (fresh H nx (wE nx z l (Nat.succ (Nat.mul 2 c))) k (bj zero c)) none
def ad9(z bytes:Nat)(zero:List Value)(l c:Od):AK:=λ_ T L H nx k=>bI T L l λl=>dp l λl=>bI T L c λc=>dp c λc=>SY z bytes zero H nx l c k
def aea(z len:Nat)(zero:List Value)(parts:List (Nat×Nat×Od)):AK:=λ_ T L H nx k=>eX T L parts λps=>bd (fJ (bj zero len) ps) λcs=>
 cond (Nat.blt 0 z) (fresh H nx (wE nx z len (Nat.succ (Nat.mul 2 len))) k cs) none
def aeb(r:Option Od):AK:=λ_ T L H nx k=>jd T L r 0 λ_=>eQ (at_ nx) H (some (.map [] 0)) λH=>k (.map (some nx)) H (Nat.succ nx)
def xD(l:List Value):Nat->Value->(List Value->R0)->R0:=
 List.rec (motive:=λ_=>Nat->Value->(List Value->R0)->R0) (λ_ _ _=>none) (λc l ih o v k=>Nat.rec (k (v::l)) (λo _=>ih o v λl=>k (c::l)) o) l
def SZ(H:Heap)(nx b o:Nat)(cs old:List Value)(k:KA):R0:=
 List.rec none (λc r _=>List.rec (xD old o c (oR H nx b undef k)) (λ_ _ _=>bd (jc old o cs) (oR H nx b undef k)) r) cs
def ux:Value->Bool
 | .agg _ | .tuple _=>false
 | _=>true
def cq(l:List Value):Bool:=List.rec true (λv _ ih=>cond (ux v) ih false) l
def Lb(H:Heap)(nx n:Nat)(cs:List Value)(k:KA)(b o:Nat):R0:=cond (and (Nat.beq cs.length n) (cq cs)) (eY H b λold=>SZ H nx b o cs old k) none
def aec(x v:Od)(n:Nat):AK:=λ_ T L H nx k=>bI T L x λx=>bI T L v λv=>dU x (Lb H nx n (cellsOf v) k)
def kO(H:Heap)(z:Nat)(k:Nat->List Value->R0)(v:Value):R0:=match v with
 | .slice none _ _=>k 0 []
 | .slice (some ⟨_,_,none⟩) 0 _=>k 0 []
 | .slice (some ⟨b,o,some z'⟩) n _=>cond (Nat.beq z z') (cond (Nat.beq n 0) (k 0 []) (db H b λcs=>bd (take? (Nat.mul n z) (fq cs o)) λcs=>k n cs)) none
 | _=>none
def eG(z bytes:Nat)(H:Heap)(nx:Nat)(k:KA)(len n:Nat)(old new:List Value):R0:=
 cond (and (Nat.ble (Nat.mul (Nat.add len n) bytes) small) (Nat.ble (Nat.add len n) small)) (fresh H nx (wE nx z (Nat.add len n) (Nat.mul 2 (Nat.add len n))) k (old++new)) none
def nQ(z bytes:Nat)(H:Heap)(nx:Nat)(k:KA)(b o len c n:Nat)(new:List Value):R0:=
 eY H b λcs=>bd (take? (Nat.mul len z) (fq cs o)) λold=>
  cond (exact c) (eG z bytes H nx k len n old new) (eQ (at_ b) H none λH=>eG z bytes H nx k len n old new)
def mm(cs:List Value)(o:Nat)(vs:List Value):Option (List Value):=Option.rec (cond (Nat.beq cs.length o) (some (cs++vs)) none) some (jc cs o vs)
def pk(z:Nat)(H:Heap)(nx:Nat)(k:KA)(b o len c n:Nat)(new:List Value):R0:=
 eY H b λcs=>bd (mm cs (Nat.add o (Nat.mul len z)) new) (oR H nx b (.slice (some ⟨b,o,some z⟩) (Nat.add len n) c) k)
def uy(z bytes:Nat)(H:Heap)(nx:Nat)(k:KA)(s:Value)(n:Nat)(new:List Value):R0:=match s with
 | .slice none _ _=>cond (Nat.beq n 0) (k (.slice none 0 0) H nx) (cond (Nat.blt 0 z) (eG z bytes H nx k 0 n [] new) none)
 | .slice (some ⟨b,o,some z'⟩) len c=>cond (and (Nat.beq z z') (and (Nat.blt 0 z) (cq new)))
   (cond (Nat.beq n 0) (k (.slice (some ⟨b,o,some z⟩) len c) H nx) (cond (Nat.ble (Nat.add len n) (aF c)) (pk z H nx k b o len c n new) (nQ z bytes H nx k b o len c n new))) none
 | _=>none
def aaT(bytes:Nat)(zero:List Value)(k:Nat->List Value->R0)(n:Nat):R0:=cond (and (Nat.ble n small) (Nat.ble (Nat.mul n bytes) small)) (k n (bj zero n)) none
def Cg(z bytes:Nat)(zero:List Value)(fS:Bool)(H:Heap)(x:Value)(k:Nat->List Value->R0):R0:=cond fS (dp x (aaT bytes zero k)) (kO H z k x)
def aed(z bytes:Nat)(zero:List Value)(s x:Od)(fS:Bool):AK:=λ_ T L H nx k=>bI T L s λs=>bI T L x λx=>Cg z bytes zero fS H x (uy z bytes H nx k s)
def aee(z:Nat)(H:Heap)(nx:Nat)(k:KA)(n:Nat)(cs:List Value)(b o z' len _c:Nat):R0:=cond (Nat.beq z z')
 (cond (Nat.beq (Nat.min n len) 0) (k (.int .i64 (.ofNat 0)) H nx) (bd (take? (Nat.mul (Nat.min n len) z) cs) λcs=>cond (cq cs) (eY H b λold=>bd (jc old o cs) (oR H nx b (.int .i64 (.ofNat (Nat.min n len))) k)) none)) none
def S0(z:Nat)(H:Heap)(nx:Nat)(k:KA)(d:Value)(n:Nat)(cs:List Value):R0:=match d with
 | .slice none _ _=>k (.int .i64 (.ofNat 0)) H nx
 | d=>wD d (aee z H nx k n cs)
def aef(z:Nat)(d s:Od):AK:=λ_ T L H nx k=>bI T L d λd=>bI T L s λs=>kO H z (S0 z H nx k d) s
def Ta(zero:List Value)(H:Heap)(nx:Nat)(k:KA)(x:Value):R0:=match x with
 | .slice none _ _=>k undef H nx
 | .slice (some ⟨b,o,some z⟩) n _=>cond (Nat.beq n 0) (k undef H nx) (cond (and (Nat.beq z zero.length) (cq zero)) (eY H b λcs=>bd (jc cs o (bj zero n)) (oR H nx b undef k)) none)
 | _=>none
def aeg(x:Od)(zero:List Value):AK:=λ_ T L H nx k=>bI T L x λx=>Ta zero H nx k x
def ni(es:List MapEntry)(c:Nat)(key v:Value):jb:=.map (es++[{ key,val:=v,born:=c }]) (Nat.succ c)
def aeh(m key v:Od)(kt:TypeId):AK:=λP T L H nx k=>bI T L m λm=>bI T L key λkey=>bI T L v λv=>Ag H m λr es c=>
 bd (findAt P false kt key es) λi=>Option.rec (eQ (at_ r) H (some (ni es c key v)) λH=>k undef H nx) (λi=>eQ (at_ r) H (some (.map (ph es i v) c)) λH=>k undef H nx) i
def aei(m key:Od)(kt:TypeId)(zero:Value):AK:=λP T L H nx k=>bI T L m λm=>bI T L key λkey=>Ag H m λr es c=>
 bd (findAt P false kt key es) λi=>Option.rec (eQ (at_ r) H (some (ni es c key zero)) λH=>k (.tuple #[zero,.int .i64 (.ofNat c)]) H nx)
  (λi=>bd (mj es i) λe=>k (.tuple #[e.val,.int .i64 (.ofNat e.born)]) H nx) i
def aej(m s v:Od):AK:=λ_ T L H nx k=>bI T L m λm=>bI T L s λs=>dp s λb=>bI T L v λv=>Ag H m λr es c=>
 bd (xA es b 0) λi=>eQ (at_ r) H (some (.map (ph es i v) c)) λH=>k undef H nx
def WM(z bytes:Nat)(H:Heap)(nx:Nat)(k:KA)(i:Nat)(b o z1 len _c b2 o2 z2 m _c2:Nat):R0:=
 cond (and (Nat.beq z z1) (and (Nat.beq z z2) (and (Nat.blt 0 z) (and (Nat.blt 0 m) (and (Nat.ble i len) (not (Nat.beq b b2)))))))
  (eY H b λcs=>eY H b2 λkf=>bd (take? (Nat.mul len z) (fq cs o)) λold=>bd (take? (Nat.mul m z) (fq kf o2)) λnew=>bd (take? (Nat.mul i z) old) λfront=>
   cond (and (cq old) (cq new)) (eQ (at_ b) H none λH=>eG z bytes H nx k len m front (new++fq old (Nat.mul i z))) none) none
def Tb(z bytes:Nat)(H:Heap)(nx:Nat)(k:KA)(i:Nat)(b2 o2 z2 m _c2:Nat):R0:=
 cond (and (Nat.beq z z2) (and (Nat.blt 0 z) (and (Nat.blt 0 m) (Nat.beq i 0))))
  (eY H b2 λkf=>bd (take? (Nat.mul m z) (fq kf o2)) λnew=>cond (cq new) (eQ (at_ nx) H none λH=>eG z bytes H nx k 0 m [] new) none) none
def Hi(z bytes:Nat)(H:Heap)(nx:Nat)(k:KA)(i:Nat)(s v:Value):R0:=match s with
 | .slice none _ _=>wD v (Tb z bytes H nx k i)
 | s=>wD s λb o z1 len c=>wD v (WM z bytes H nx k i b o z1 len c)
def aek(z bytes:Nat)(s i v:Od):AK:=λ_ T L H nx k=>bI T L s λs=>bI T L i λi=>pj i λi=>bI T L v λv=>Hi z bytes H nx k i s v
def aNo:AK:=λ_ _ _ _ _ _=>none
def po(o:Option jb)(k:Option Nat->Nat->List Nat->Nat->R0):R0:=match o with
 | some (.iter m a s c)=>k m a s c
 | _=>none
def Tc(H:Heap)(nx:Nat)(k:KA)(m:Value):R0:=match m with
 | .map none=>eQ (at_ nx) H (some (.iter none 0 [] 0)) λH=>k (ptrTo nx) H (Nat.succ nx)
 | .map (some b)=>jI (ah H (at_ b)) λ_ c=>eQ (at_ nx) H (some (.iter (some b) c [] c)) λH=>k (ptrTo nx) H (Nat.succ nx)
 | _=>none
def ael(x:Od):AK:=λ_ T L H nx k=>bI T L x (Tc H nx k)
def xE(es:List MapEntry)(seen:List Nat):List MapEntry:=es.filter λe=>!seen.contains e.born
def Td(H:Heap)(nx:Nat)(k:KA)(r b since:Nat)(seen:List Nat)(c:Nat)(l:List MapEntry):R0:=match l with
 | []=>k (.tuple #[.bool false]) H nx
 | [e]=>cond (Nat.blt e.born since) (eQ (at_ r) H (some (.iter (some b) since (seen++[e.born]) c)) λH=>k (.tuple #[.bool true,e.key,e.val]) H nx) none
 | _=>none
def aaU(H:Heap)(nx:Nat)(k:KA)(r:Nat)(m:Option Nat)(since:Nat)(seen:List Nat)(last:Nat):R0:=
 Option.rec (k (.tuple #[.bool false]) H nx) (λb=>jI (ah H (at_ b)) λes c=>
  cond (!seen.isEmpty&&!es.isEmpty&&es.all λe=>decide (e.born>=last)) none (Td H nx k r b since seen c (xE es seen))) m
def aem(x:Od):AK:=λ_ T L H nx k=>bI T L x λv=>dU v λr o=>cond (Nat.beq o 0) (po (ah H (at_ r)) (aaU H nx k r)) none
def aaV(H:Heap)(nx:Nat)(k:KA)(m:Option Nat)(aen:Nat)(seen:List Nat)(last:Nat):R0:=
 Option.rec none (λb=>bd seen.getLast? λst=>jI (ah H (at_ b)) λes c=>cond (Nat.beq c last) (bd (es.find? λe=>e.born == st) λe=>k (.tuple #[e.key,e.val]) H nx) none) m
def aeo(x:Od):AK:=λ_ T L H nx k=>bI T L x λv=>dU v λr o=>cond (Nat.beq o 0) (po (ah H (at_ r)) (aaV H nx k)) none
def e7(o:cr Od):LK:=cr.rec (motive:=λ_=>LK) aav Vo N3 aaw aax aay aaz aaA lIx aaB lUn aaC aaD aaE aaF N5 aaG aaH aaI aaJ aaK aaL aaN aaM aaO aaP aaQ aaS
 (λ_=>Ai) (λ_=>Ai) (λ_ _ _ _ _=>Ai) (λ_ _ _ _=>Ai) (λ_=>Ai) (λ_ _ _=>Ai) (λ_ _ _ _ _ _=>Ai) (λ_ _ _=>Ai) (λ_ _=>Ai) (λ_ _ _ _=>Ai) (λ_ _ _ _=>Ai) (λ_ _ _=>Ai) (λ_ _ _ _ _=>Ai)
 (λ_ _=>Ai) (λ_ _ _=>Ai) (λ_ _=>Ai) (λ_=>Ai) Ai (λ_=>Ai) (λ_=>Ai) (λ_=>Ai) o
def cY(o:cr Od):AK:=cr.rec (motive:=λ_=>AK) (λx=>eS (aav x)) (λx y z=>eS (Vo x y z)) (λx=>eS (N3 x)) (λx y=>eS (aaw x y)) (λx y z=>eS (aax x y z)) (λx y=>eS (aay x y))
 (λx y z=>eS (aaz x y z)) (λa b c d=>eS (aaA a b c d)) (λa b c d e=>eS (lIx a b c d e)) (λa b c d=>eS (aaB a b c d)) (λa b=>eS (lUn a b)) (λa b c=>eS (aaC a b c)) (λa b=>eS (aaD a b))
 (λa b c=>eS (aaE a b c)) (λa b c d=>eS (aaF a b c d)) (λa b c d=>eS (N5 a b c d)) (λa b=>eS (aaG a b)) (λa b c=>eS (aaH a b c)) (λa b=>eS (aaI a b)) (λa b c d=>eS (aaJ a b c d))
 (λa b=>eS (aaK a b)) (λa=>eS (aaL a)) (λa=>eS (aaN a)) (λa=>eS (aaM a)) (λa=>eS (aaO a)) (λa b c d e=>eS (aaP a b c d e)) (λa b c d e=>eS (aaQ a b c d e)) (λa b c d e=>eS (aaS a b c d e))
 ad7 ad8 ad9 aea aeb aec aed aef aeg aeh aei aej aek (λ_ _=>aNo) (λ_ _ _=>aNo) (λ_ _=>aNo) (λ_=>aNo) aNo ael aem aeo o
abbrev RC:=Tr Value->List gf->Heap->Nat->R0
structure ly where
 code:bA->RC
 call:FuncId->List Value->Heap->Nat->Option eF
abbrev RL:=Tr Value->List Value->List gf->Heap->Nat->R0
def rk(want:Bool)(v:Value):Bool:=match v with
 | .bool b=>cond b want (not want)
 | _=>false
def Lc(L:List Value)(d:Nat):Option Value:=List.rec (motive:=λ_=>Nat->Option Value) (λ_=>none) (λv _ ih d=>Nat.rec (some v) (λd _=>ih d) d) L d
def D4(want:Bool)(v:Option Value):Bool:=Option.rec false (rk want) v
def wanted(L:List Value)(g:Option (Nat×Bool)):Bool:=Option.rec true (λp=>Prod.rec (λd want=>D4 want (Lc L d)) p) g
def N8(P:Program)(T:Tr Value)(L:List Value)(H:Heap)(a:cz)(k:R0):R0:=cond (wanted L a.guard) (e7 a.op P T L H λv=>Af L a.d λu=>cond (mc u v) k none) k
def jJ(P:Program)(T:Tr Value)(L:List Value)(H:Heap)(l:List cz)(k:R0):R0:=List.rec k (λa _ ih=>N8 P T L H a ih) l
def N9(T:Tr Value)(p:Option (List Bool))(v:Value)(k:Tr Value->R0):R0:=Option.rec (k T) (λp=>eQ p T (some v) k) p
def bX(P:Program)(p:Option (List Bool))(ag:List cz)(k:RL)(T:Tr Value)(L:List Value)(D:List gf)(v:Value)(H:Heap)(nx:Nat):R0:=
 N9 T p v λT=>jJ P T (v::L) H ag (k T (v::L) D H nx)
abbrev OK:=aN->ly->Option (List Bool)->List cz->RL->cr Od->RL
def eH:OK:=λA _ p ag k o T L D H nx=>cY o A.P T L H nx (bX A.P p ag k T L D)
def ew(P:Program)(p:Option (List Bool))(ag:List cz)(k:RL)(T:Tr Value)(L:List Value)(D:List gf)(c:eF):R0:=
 eF.rec (λv H nx=>bX P p ag k T L D v H nx) (λch H nx=>some (.panic ch,⟨T,D,H,nx⟩)) c
def gO(args:List Value)(k:FuncId->List Value->R0)(f:Value):R0:=match f with
 | .func (.func f) first captured=>k f (first.toList++args++captured.toList)
 | _=>none
def aaW(f:Od)(args:List Od):OK:=λA r p ag k _ T L D H nx=>bI T L f λf=>dN T L args λvs=>gO vs (λg vs=>bd (r.call g vs H nx) (ew A.P p ag k T L D)) f
def D5(H:Heap)(v:Value)(a:Option (Option Nat))(k:KV):R0:=Option.rec (k v) (λagg=>dU v λb o=>db H b λcs=>bd (partOf cs o agg) k) a
def qR(P:Program)(name:String)(H:Heap)(k:FuncId->Value->R0)(v:Value):R0:=match v with
 | .iface t v=>bd (methodOf P t name) λm=>D5 H v m.2 (k m.1)
 | _=>none
def aep(x:Od)(name:String)(args:List Od):OK:=λA r p ag k _ T L D H nx=>bI T L x λx=>dN T L args λvs=>qR A.P name H (λg v=>bd (r.call g (v::vs) H nx) (ew A.P p ag k T L D)) x
def uz(f:Value)(k:R0):R0:=match f with
 | .func (.func _) _ _=>k
 | _=>none
def aeq(f:Od)(args:List Od):OK:=λA _ p ag k _ T L D H nx=>bI T L f λf=>dN T L args λvs=>uz f (bX A.P p ag k T L ((f,vs)::D) undef H nx)
def D6(T:Tr Value)(D:List gf)(H:Heap)(nx:Nat)(v:Value):R0:=match v with
 | .iface t v=>some (.panic [{ v:=.iface t v,recovered:=false }],⟨T,D,H,nx⟩)
 | _=>none
def aer(x:Od):OK:=λ_ _ _ _ _ _ T L D H nx=>bI T L x (D6 T D H nx)
def oNo:OK:=λ_ _ _ _ _ _ _ _ _ _ _=>none
def uf(o:cr Od):OK:=cr.rec (motive:=λ_=>OK) (λ_=>eH) (λ_ _ _=>eH) (λ_=>eH) (λ_ _=>eH) (λ_ _ _=>eH) (λ_ _=>eH) (λ_ _ _=>eH) (λ_ _ _ _=>eH) (λ_ _ _ _ _=>eH) (λ_ _ _ _=>eH) (λ_ _=>eH) (λ_ _ _=>eH) (λ_ _=>eH) (λ_ _ _=>eH) (λ_ _ _ _=>eH) (λ_ _ _ _=>eH) (λ_ _=>eH) (λ_ _ _=>eH) (λ_ _=>eH) (λ_ _ _ _=>eH) (λ_ _=>eH) (λ_=>eH) (λ_=>eH) (λ_=>eH) (λ_=>eH) (λ_ _ _ _ _=>eH) (λ_ _ _ _ _=>eH) (λ_ _ _ _ _=>eH) (λ_=>eH) (λ_=>eH) (λ_ _ _ _ _=>eH) (λ_ _ _ _=>eH) (λ_=>eH) (λ_ _ _=>eH) (λ_ _ _ _ _ _=>eH) (λ_ _ _=>eH) (λ_ _=>eH) (λ_ _ _ _=>eH) (λ_ _ _ _=>eH) (λ_ _ _=>eH) (λ_ _ _ _ _=>eH) aaW aep aeq aer oNo (λ_=>eH) (λ_=>eH) (λ_=>eH) o
def opG(A:aN)(r:ly)(o:AO)(ag:List cz)(k:RL):RL:=λT L D H nx=>
 cond (wanted L o.guard) (uf o.op A r o.keep ag k o.op T L D H nx) (bX A.P o.keep ag k T L D undef H nx)
def aes:RL:=λT _ D H nx=>some (.normal,⟨T,D,H,nx⟩)
def opP(A:aN)(r:ly)(x:AO×List cz)(k:RL):RL:=Prod.rec (λo ag=>opG A r o ag k) x
def cx(A:aN)(r:ly)(l:List (AO×List cz)):RL:=List.rec (motive:=λ_=>RL) aes (λo _ ih=>opP A r o ih) l
def aet(k:RC)(st:St):R0:=St.rec (λT D H nx=>k T D H nx) st
def stay(e:Ex)(st:St):R0:=some (e,st)
def aeu(k:RC)(e:Ex):St->R0:=Ex.rec (aet k) (λi=>stay (.exit i)) (stay .ret) (λc=>stay (.panic c)) e
def pr(k:RC)(o:Ex×St):R0:=Prod.rec (λe st=>aeu k e st) o
def Oa:RC:=λT D H nx=>some (.normal,⟨T,D,H,nx⟩)
def aaX(A:aN)(r:ly)(ops:List (AO×List cz)):RC:=λT D H nx=>cx A r ops T [] D H nx
def aaY(e:Ex):St->R0:=Ex.rec (stay .normal) (λ_ _=>none) (λ_=>none) (λ_ _=>none) e
def xF(o:Ex×St):R0:=Prod.rec (λe st=>aaY e st) o
def Vp(A:aN)(r:ly)(ops:List (AO×List cz)):RC:=λT D H nx=>bd (cx A r ops T [] D H nx) xF
def aaZ(a b:RC):RC:=λT D H nx=>bd (a T D H nx) (pr b)
def Vq(c:Od)(a b:RC):RC:=λT D H nx=>bI T [] c λv=>hY v (a T D H nx) (b T D H nx)
def WN(id:Nat)(e:Ex):St->R0:=Ex.rec (stay .normal) (λi=>cond (Nat.beq i id) (stay .normal) (stay (.exit i))) (stay .ret) (λc=>stay (.panic c)) e
def rF(id:Nat)(o:Ex×St):R0:=Prod.rec (λe st=>WN id e st) o
def Ob(id:Nat)(a:RC):RC:=λT D H nx=>bd (a T D H nx) (rF id)
def Vr(r:ly)(c:bA)(a:RC):RC:=λT D H nx=>bd (a T D H nx) (pr (r.code (.loop c)))
def Vs(id:Nat):RC:=λT D H nx=>some (.exit id,⟨T,D,H,nx⟩)
def aa0:RC:=λT D H nx=>some (.ret,⟨T,D,H,nx⟩)
abbrev CK:=aN->ly->RC
def aa1:CK:=λ_ _=>Oa
def aev(dr:Bool)(ops:List (AO×List cz)):CK:=λA r=>cond dr (Vp A r ops) (aaX A r ops)
def aew(a b:CK):CK:=λA r=>aaZ (a A r) (b A r)
def aa2(c:Od)(a b:CK):CK:=λA r=>Vq c (a A r) (b A r)
def WQ(id:Nat)(a:CK):CK:=λA r=>Ob id (a A r)
def aa3(c:bA)(a:CK):CK:=λA r=>Vr r c (a A r)
def aa4(id:Nat):CK:=λ_ _=>Vs id
def aex:CK:=λ_ _=>aa0
def cJ(c:bA):CK:=bA.rec (motive:=λ_=>CK) aa1 aev (λ_ _ a b=>aew a b) (λc _ _ a b=>aa2 c a b) (λid _ a=>WQ id a) aa3 aa4 aex c
def nj:bA->Option (List Bool×bA)
 | .seq a b=>match nj a with
  | some (p,a')=>some (p,.seq a' b)
  | none=>none
 | .ae false [(⟨some p,none,.AX⟩,[])]=>some (p,.skip)
 | _=>none
def recovered(u:FrameMode):Value×FrameMode:=match u with
 | .panicking ({ v,recovered:=false,goexit:=false }::aa5)=>(v,.panicking ({ v,recovered:=true }::aa5))
 | u=>(.nilIface,u)
def Ld(T:Tr Value)(H:Heap)(x:Od×Option (Option Nat))(k:Value->Option eF):Option eF:=match x with
 | (.var p,none)=>bd (ah T p) k
 | (.var p,some agg)=>match ah T p with
  | some (.pointer (some ⟨b,o,none⟩))=>match ah H (at_ b)with
   | some (.cells cs)=>bd (partOf cs o agg) k
   | _=>none
  | _=>none
 | _=>none
def ir(T:Tr Value)(H:Heap):List (Od×Option (Option Nat))->(List Value->Option eF)->Option eF
 | [],k=>k []
 | x::xs,k=>Ld T H x λv=>ir T H xs λvs=>k (v::vs)
def Le(o:Ex×St)(u:FrameMode):Option (FrameMode×Heap×Nat):=match o with
 | (.normal,⟨_,[],H,nx⟩)|(.ret,⟨_,[],H,nx⟩)=>some (settle u,H,nx)
 | (.panic ch,⟨_,[],H,nx⟩)=>some (raised u ch,H,nx)
 | _=>none
def nR(l:List Value):Tr Value->(Tr Value->R0)->R0:=List.rec (motive:=λ_=>Nat->Tr Value->(Tr Value->R0)->R0) (λ_ T k=>k T) (λv _ ih i T k=>eQ (at_ i) T (some v) λT=>ih (Nat.succ i) T k) l 0
def iO(A:aN)(r:ly)(f:Value)(args:List Value)(u:FrameMode)(H:Heap)(nx:Nat):Option (FrameMode×Heap×Nat):=match f with
 | .func (.func g) first captured=>match A.funcs g with
  | some ⟨[],c⟩=>match nj c with
   | some (p,c')=>bd (nR (first.toList++args++captured.toList) .e λT=>eQ p T (some (recovered u).1) λT=>cJ c' A r T [] H nx) λo=>Le o (recovered u).2
   | none=>bd (nR (first.toList++args++captured.toList) .e λT=>cJ c A r T [] H nx) λo=>Le o u
  | _=>none
 | _=>none
def gP(A:aN)(r:ly):List gf->FrameMode->Heap->Nat->Option (FrameMode×Heap×Nat)
 | [],u,H,nx=>some (u,H,nx)
 | (f,args)::ds,u,H,nx=>match iO A r f args u H nx with
  | some (u,H,nx)=>gP A r ds u H nx
  | none=>none
def nS(af:az)(T:Tr Value)(x:FrameMode×Heap×Nat):Option eF:=match x with
 | (.returning,H,nx)=>ir T H af.results λvs=>some (.ok (oneOf vs) H nx)
 | (.panicking ch,H,nx)=>some (.rE ch H nx)
 | _=>none
def pt(A:aN)(r:ly)(af:az)(u:FrameMode)(st:St):Option eF:=St.rec (λT D H nx=>bd (gP A r D u H nx) (nS af T)) st
def aey(A:aN)(r:ly)(af:az)(e:Ex):St->Option eF:=Ex.rec (pt A r af .returning) (λ_ _=>none) (pt A r af .returning) (λch=>pt A r af (.panicking ch)) e
def Aj(A:aN)(r:ly)(af:az)(o:Ex×St):Option eF:=Prod.rec (λe st=>aey A r af e st) o
def lz(A:aN)(r:ly)(vs:List Value)(H:Heap)(nx:Nat)(af:az):Option eF:=bd (nR vs .e λT=>cJ af.body A r T [] H nx) (Aj A r af)
def Vt(A:aN)(r:ly)(g:FuncId)(vs:List Value)(H:Heap)(nx:Nat):Option eF:=Option.rec (bd (A.funcs g) (lz A r vs H nx)) some (A.aS g vs H nx)
def aez:ly:=⟨λ_ _ _ _ _=>none,λ_ _ _ _=>none⟩
def run(A:aN)(n:Nat):ly:=Nat.rec aez (λ_ r=>⟨λc=>cJ c A r,Vt A r⟩) n
end
end
section
def A1:Nat->Nat->List Bool
 | 0,_=>[]
 | f+1,k=>bif Nat.beq k 0 then[]else bif Nat.beq (k%2) 1 then true::A1 f (k / 2)else false::A1 f (k / 2-1)
def cP(t:Nat):List Bool:=A1 t t
def sJ:Value->Bool
 | .bool _ | .int _ _ | .float _ _ | .complex _ _ _ | .string _ | .nilFunc | .nilIface | .pointer none | .slice none 0 0 | .map none=>true
 | _=>false
def kP:Value->Bool
 | .agg cs=>cs.toList.all sJ
 | v=>sJ v
def Hj:Value->List Value
 | .agg cs=>cs.toList
 | v=>[v]
def eI(l:List Nat)(n:Nat):Bool:=l.any (Nat.beq n)
abbrev Env:=List (Nat×Od)
def find(env:Env)(t:Nat):Option Od:=match env with
 | []=>none
 | (u,x)::r=>bif Nat.beq u t then some x else find r t
def cv(kept:List Nat)(n:Nat)(env:Env):Operand->Option Od
 | .tmp t=>bif Nat.blt t n then match find env t with
  | some x=>some x
  | none=>bif eI kept t then some (.var (cP t))else none
  else none
 | .const v=>bif kP v then some (.aO v)else none
 | .func f=>some (.fn f)
 | .global _=>none
def cr.map{α β:Type}(f:α->β):cr α->cr β
 | .ai v0=>.ai (f v0)
 | .pick v0 v1 v2=>.pick (f v0) (f v1) (f v2)
 | .aA v0=>.aA (f v0)
 | .ext v0 v1=>.ext (f v0) v1
 | .Ad v0 v1 v2=>.Ad (f v0) v1 v2
 | .aI v0 v1=>.aI (f v0) v1
 | .aK v0 v1 v2=>.aK (f v0) (f v1) v2
 | .nO v0 v1 v2 v3=>.nO (f v0) (f v1) v2 v3
 | .ix v0 v1 v2 v3 v4=>.ix (f v0) (f v1) v2 v3 v4
 | .bin v0 v1 v2 v3=>.bin v0 v1 (f v2) (f v3)
 | .un v0 v1=>.un v0 (f v1)
 | .AV v0 v1 v2=>.AV v0 v1 (f v2)
 | .ur v0 v1=>.ur v0 (v1.map f)
 | .Nn v0 v1 v2=>.Nn v0 (f v1) (f v2)
 | .Hg v0 v1 v2 v3=>.Hg v0 (f v1) (v2.map f) (v3.map f)
 | .eP v0 v1 v2 v3=>.eP v0 v1 (f v2) (f v3)
 | .fR v0 v1=>.fR v0 (v1.map λx=>(x.1,x.2.1,f x.2.2))
 | .B8 v0 v1 v2=>.B8 v0 (v1.map f) (v2.map f)
 | .Hh v0 v1=>.Hh v0 (f v1)
 | .K9 v0 v1 v2 v3=>.K9 (f v0) v1 v2 v3
 | .an v0 v1=>.an (f v0) v1
 | .len v0=>.len (f v0)
 | .GU v0=>.GU (f v0)
 | .No v0=>.No (f v0)
 | .cap v0=>.cap (f v0)
 | .lx v0 v1 v2 v3 v4=>.lx (f v0) (v1.map f) (v2.map f) (v3.map f) v4
 | .N0 v0 v1 v2 v3 v4=>.N0 (f v0) (v1.map f) (v2.map f) v3 v4
 | .AW v0 v1 v2 v3 v4=>.AW (f v0) (f v1) v2 v3 v4
 | .box v0=>.box (f v0)
 | .gM v0=>.gM v0
 | .mO v0 v1 v2 v3 v4=>.mO v0 v1 v2 (f v3) (f v4)
 | .fC v0 v1 v2 v3=>.fC v0 v1 v2 (v3.map λx=>(x.1,x.2.1,f x.2.2))
 | .Np v0=>.Np (v0.map f)
 | .bE v0 v1 v2=>.bE (f v0) (f v1) v2
 | .app v0 v1 v2 v3 v4 v5=>.app v0 v1 v2 (f v3) (f v4) v5
 | .Jq v0 v1 v2=>.Jq v0 (f v1) (f v2)
 | .Sx v0 v1=>.Sx (f v0) v1
 | .N1 v0 v1 v2 v3=>.N1 (f v0) (f v1) (f v2) v3
 | .Sy v0 v1 v2 v3=>.Sy (f v0) (f v1) v2 v3
 | .Sz v0 v1 v2=>.Sz (f v0) (f v1) (f v2)
 | .ins v0 v1 v2 v3 v4=>.ins v0 v1 (f v2) (f v3) (f v4)
 | .call v0 v1=>.call (f v0) (v1.map f)
 | .inv v0 v1 v2=>.inv (f v0) v1 (v2.map f)
 | .sx v0 v1=>.sx (f v0) (v1.map f)
 | .rE v0=>.rE (f v0)
 | .AX=>.AX 
 | .AY v0=>.AY (f v0)
 | .nxt v0=>.nxt (f v0)
 | .SU v0=>.SU (f v0)
def jm{α β:Type}(c:α->Option β):List α->Option (List β)
 | []=>some []
 | x::xs=>match c x,jm c xs with
  | some a,some as=>some (a::as)
  | _,_=>none
def oF{α β:Type}(c:α->Option β):Option α->Option (Option β)
 | none=>some none
 | some x=>(c x).map some
def sK{α β:Type}(c:α->Option β):List (Nat×Nat×α)->Option (List (Nat×Nat×β))
 | []=>some []
 | (i,j,x)::xs=>match c x,sK c xs with
  | some a,some as=>some ((i,j,a)::as)
  | _,_=>none
def cr.hZ{α β:Type}(c:α->Option β):cr α->Option (cr β)
 | .ai v0=>match c v0 with
  | some iK=>some (.ai iK)
  | _=>none
 | .pick v0 v1 v2=>match c v0,c v1,c v2 with
  | some iK,some nn,some uA=>some (.pick iK nn uA)
  | _,_,_=>none
 | .aA v0=>match c v0 with
  | some iK=>some (.aA iK)
  | _=>none
 | .ext v0 v1=>match c v0 with
  | some iK=>some (.ext iK v1)
  | _=>none
 | .Ad v0 v1 v2=>match c v0 with
  | some iK=>some (.Ad iK v1 v2)
  | _=>none
 | .aI v0 v1=>match c v0 with
  | some iK=>some (.aI iK v1)
  | _=>none
 | .aK v0 v1 v2=>match c v0,c v1 with
  | some iK,some nn=>some (.aK iK nn v2)
  | _,_=>none
 | .nO v0 v1 v2 v3=>match c v0,c v1 with
  | some iK,some nn=>some (.nO iK nn v2 v3)
  | _,_=>none
 | .ix v0 v1 v2 v3 v4=>match c v0,c v1 with
  | some iK,some nn=>some (.ix iK nn v2 v3 v4)
  | _,_=>none
 | .bin v0 v1 v2 v3=>match c v2,c v3 with
  | some uA,some Hk=>some (.bin v0 v1 uA Hk)
  | _,_=>none
 | .un v0 v1=>match c v1 with
  | some nn=>some (.un v0 nn)
  | _=>none
 | .AV v0 v1 v2=>match c v2 with
  | some uA=>some (.AV v0 v1 uA)
  | _=>none
 | .ur v0 v1=>match jm c v1 with
  | some nn=>some (.ur v0 nn)
  | _=>none
 | .Nn v0 v1 v2=>match c v1,c v2 with
  | some nn,some uA=>some (.Nn v0 nn uA)
  | _,_=>none
 | .Hg v0 v1 v2 v3=>match c v1,oF c v2,oF c v3 with
  | some nn,some uA,some Hk=>some (.Hg v0 nn uA Hk)
  | _,_,_=>none
 | .eP v0 v1 v2 v3=>match c v2,c v3 with
  | some uA,some Hk=>some (.eP v0 v1 uA Hk)
  | _,_=>none
 | .fR v0 v1=>match sK c v1 with
  | some nn=>some (.fR v0 nn)
  | _=>none
 | .B8 v0 v1 v2=>match jm c v1,jm c v2 with
  | some nn,some uA=>some (.B8 v0 nn uA)
  | _,_=>none
 | .Hh v0 v1=>match c v1 with
  | some nn=>some (.Hh v0 nn)
  | _=>none
 | .K9 v0 v1 v2 v3=>match c v0 with
  | some iK=>some (.K9 iK v1 v2 v3)
  | _=>none
 | .an v0 v1=>match c v0 with
  | some iK=>some (.an iK v1)
  | _=>none
 | .len v0=>match c v0 with
  | some iK=>some (.len iK)
  | _=>none
 | .GU v0=>match c v0 with
  | some iK=>some (.GU iK)
  | _=>none
 | .No v0=>match c v0 with
  | some iK=>some (.No iK)
  | _=>none
 | .cap v0=>match c v0 with
  | some iK=>some (.cap iK)
  | _=>none
 | .lx v0 v1 v2 v3 v4=>match c v0,oF c v1,oF c v2,oF c v3 with
  | some iK,some nn,some uA,some Hk=>some (.lx iK nn uA Hk v4)
  | _,_,_,_=>none
 | .N0 v0 v1 v2 v3 v4=>match c v0,oF c v1,oF c v2 with
  | some iK,some nn,some uA=>some (.N0 iK nn uA v3 v4)
  | _,_,_=>none
 | .AW v0 v1 v2 v3 v4=>match c v0,c v1 with
  | some iK,some nn=>some (.AW iK nn v2 v3 v4)
  | _,_=>none
 | .box v0=>match c v0 with
  | some iK=>some (.box iK)
  | _=>none
 | .gM v0=>some (.gM v0)
 | .mO v0 v1 v2 v3 v4=>match c v3,c v4 with
  | some Hk,some wv4=>some (.mO v0 v1 v2 Hk wv4)
  | _,_=>none
 | .fC v0 v1 v2 v3=>match sK c v3 with
  | some Hk=>some (.fC v0 v1 v2 Hk)
  | _=>none
 | .Np v0=>match oF c v0 with
  | some iK=>some (.Np iK)
  | _=>none
 | .bE v0 v1 v2=>match c v0,c v1 with
  | some iK,some nn=>some (.bE iK nn v2)
  | _,_=>none
 | .app v0 v1 v2 v3 v4 v5=>match c v3,c v4 with
  | some Hk,some wv4=>some (.app v0 v1 v2 Hk wv4 v5)
  | _,_=>none
 | .Sx v0 v1=>match c v0 with
  | some iK=>some (.Sx iK v1)
  | _=>none
 | .Jq v0 v1 v2=>match c v1,c v2 with
  | some nn,some uA=>some (.Jq v0 nn uA)
  | _,_=>none
 | .N1 v0 v1 v2 v3=>match c v0,c v1,c v2 with
  | some iK,some nn,some uA=>some (.N1 iK nn uA v3)
  | _,_,_=>none
 | .Sy v0 v1 v2 v3=>match c v0,c v1 with
  | some iK,some nn=>some (.Sy iK nn v2 v3)
  | _,_=>none
 | .Sz v0 v1 v2=>match c v0,c v1,c v2 with
  | some iK,some nn,some uA=>some (.Sz iK nn uA)
  | _,_,_=>none
 | .ins v0 v1 v2 v3 v4=>match c v2,c v3,c v4 with
  | some uA,some Hk,some wv4=>some (.ins v0 v1 uA Hk wv4)
  | _,_,_=>none
 | .call v0 v1=>match c v0,jm c v1 with
  | some iK,some nn=>some (.call iK nn)
  | _,_=>none
 | .inv v0 v1 v2=>match c v0,jm c v2 with
  | some iK,some uA=>some (.inv iK v1 uA)
  | _,_=>none
 | .sx v0 v1=>match c v0,jm c v1 with
  | some iK,some nn=>some (.sx iK nn)
  | _,_=>none
 | .rE v0=>match c v0 with
  | some iK=>some (.rE iK)
  | _=>none
 | .AX=>some (.AX )
 | .AY v0=>match c v0 with
  | some iK=>some (.AY iK)
  | _=>none
 | .nxt v0=>match c v0 with
  | some iK=>some (.nxt iK)
  | _=>none
 | .SU v0=>match c v0 with
  | some iK=>some (.SU iK)
  | _=>none
def cQ(P:Program)(t:TypeId):Option Nat:=(P.info? t).map (·.size)
def mo(P:Program)(t:TypeId):Option Nat:=(P.info? t).map (·.bytes)
def sL(P:Program)(t:TypeId):Option (Option Nat):=match P.info? t,P.underlying t with
 | some i,some (.struct _)|some i,some (.array _ _)=>some (some i.size)
 | some _,some _=>some none
 | _,_=>none
def iC(P:Program)(t:TypeId):Option Value:=match P.info? t with
 | some i=>match i.zero with
  | some z=>bif kP z then some z else none
  | none=>none
 | none=>none
def zeroCells(P:Program)(t:TypeId):Option (List Value):=(iC P t).map Hj
def nT(P:Program)(t:TypeId):Bool:=match P.underlying t with
 | some .bool|some (.int _)|some (.float _)|some .string=>true
 | _=>false
def kQ(P:Program)(fs:List Field):List (Nat×Operand)->Option (List (Nat×Nat×Operand))
 | []=>some []
 | (i,x)::r=>match fs[i]?,kQ P fs r with
  | some f,some rs=>match cQ P f.type with
   | some s=>some ((f.offset,s,x)::rs)
   | none=>none
  | _,_=>none
def fK(z:Nat):List (Nat×Operand)->List (Nat×Nat×Operand)
 | []=>[]
 | (i,x)::r=>(i*z,z,x)::fK z r
def ef:Operand->Bool
 | .const _=>true
 | _=>false
def lA:BinOp->Bool
 | .neq=>true
 | _=>false
def jK(P:Program)(op:BinOp)(t:TypeId)(x y:Operand):Option (cr Operand):=
 match op with
 | .eql | .neq=>match P.underlying t with
  | some (.pointer _)=>some (.eP (lA op) 0 x y)
  | some (.slice _)=>some (.eP (lA op) 1 x y)
  | some (.map _ _)=>some (.eP (lA op) 2 x y)
  | some (.func _ _ _)=>some (.eP (lA op) 3 x y)
  | some (.interface _)=>bif ef x||ef y then some (.eP (lA op) 4 x y)else none
  | some _=>some (.bin op t x y)
  | none=>none
 | _=>some (.bin op t x y)
def dh(P:Program)(b:Builtin)(ts:Array TypeId)(args:Array Operand):Option (cr Operand):=
 match b,ts.toList,args.toList with
 | .append,[t,t2],[s,x]=>match P.underlying t with
  | some (.slice e)=>match cQ P e,mo P e,zeroCells P e,P.underlying t2 with
   | some z,some n,some zero,some (.int _)=>bif Nat.beq zero.length z then some (.app z n zero s x true)else none
   | some z,some n,some zero,some (.slice _)=>bif Nat.beq zero.length z then some (.app z n zero s x false)else none
   | _,_,_,_=>none
  | _=>none
 | .len,t::_,[x]=>match P.underlying t with
  | some (.slice _)=>some (.len x)
  | some .string=>some (.No x)
  | some (.map _ _)=>some (.GU x)
  | _=>none
 | .cap,t::_,[x]=>match P.underlying t with
  | some (.slice _)=>some (.cap x)
  | _=>none
 | .copy,t::_,[d,s]=>match P.underlying t with
  | some (.slice e)=>match cQ P e with
   | some z=>some (.Jq z d s)
   | none=>none
  | _=>none
 | .min,_,xs=>some (.ur true xs)
 | .max,_,xs=>some (.ur false xs)
 | .recover,_,[]=>some .AX
 | .clear,t::_,[x]=>match P.underlying t with
  | some (.slice e)=>match zeroCells P e with
   | some zero=>some (.Sx x zero)
   | none=>none
  | _=>none
 | _,_,_=>none
def ar(P:Program)(ins:List Nat)(o:Oper):Option (cr Operand):=
 match o.op with
 | .move x | .assign x=>some (.ai x)
 | .pick a x y=>some (.pick a x y)
 | .alloc t=>(zeroCells P t).map .gM
 | .box _ x=>some (.box x)
 | .build t parts=>match P.underlying t,zeroCells P t with
  | some (.struct fs),some zero=>bif fs.toList.all (λf=>(cQ P f.type).isSome)then(kQ P fs.toList parts.toList).map (.fR zero)else none
  | some (.array _ e),some zero=>match cQ P e with
   | some z=>some (.fR zero (fK z parts.toList))
   | none=>none
  | _,_=>none
 | .buildSlice t len parts=>match P.underlying t with
  | some (.slice e)=>match cQ P e,zeroCells P e with
   | some z,some zero=>bif Nat.ble (len*z) 16777216&&Nat.beq zero.length z then some (.fC z len zero (fK z parts.toList))else none
   | _,_=>none
  | _=>none
 | .load t a=>(sL P t).map (.an a)
 | .store t a x=>(cQ P t).map (.bE a x)
 | .nilCheck x=>some (.aA x)
 | .binOp op t x y _=>jK P op t x y
 | .unOp op _ x=>some (.un op x)
 | .convert s d x=>bif nT P s&&nT P d then some (.AV s d x)else none
 | .makeInterface t x=>match P.underlying t with
  | some (.interface _)=>none
  | some _=>some (.Hh t x)
  | none=>none
 | .makeFunc (.func f) a b=>some (.B8 f a.toList b.toList)
 | .makeMap t r=>match P.underlying t with
  | some (.map _ _)=>some (.Np r)
  | _=>none
 | .makeSlice t l k=>match P.underlying t with
  | some (.slice e)=>match cQ P e,mo P e,zeroCells P e with
   | some z,some n,some zero=>bif Nat.beq zero.length z then some (.mO z n zero l k)else none
   | _,_,_=>none
  | _=>none
 | .slice t x lo hi mx=>match P.underlying t with
  | some (.slice e)=>bif mx.isNone||hi.isSome then(cQ P e).map (.lx x lo hi mx)else none
  | some .string=>match mx with
   | none=>some (.Hg t x lo hi)
   | some _=>none
  | _=>none
 | .fieldAddr s x f=>match P.underlying s with
  | some (.struct fs)=>match fs.toList[f]? with
   | some fd=>match cQ P fd.type with
    | some (_+1)=>some (.aI x fd.offset)
    | _=>none
   | none=>none
  | _=>none
 | .field s x f=>match P.underlying s with
  | some (.struct fs)=>match fs.toList[f]? with
   | some fd=>(sL P fd.type).map (.Ad x fd.offset)
   | none=>none
  | _=>none
 | .indexAddr t x i=>match P.underlying t with
  | some (.array n e)=>(cQ P e).map (.nO x i n)
  | some (.slice e)=>(cQ P e).map (.aK x i)
  | _=>none
 | .index t x i=>match P.underlying t with
  | some (.array n e)=>match sL P e,cQ P e with
   | some a,some z=>some (.ix x i n z a)
   | _,_=>none
  | some .string=>some (.Nn t x i)
  | _=>none
 | .lookup t x k ok=>match P.underlying t with
  | some (.map kt e)=>(iC P e).map λz=>.AW x k kt z ok
  | _=>none
 | .mapUpdate t m k v | .insert t m k v=>match P.underlying t with
  | some (.map kt _)=>some (.N1 m k v kt)
  | _=>none
 | .mapEntry t m k=>match P.underlying t with
  | some (.map kt e)=>(iC P e).map (.Sy m k kt)
  | _=>none
 | .entryStore _ m s v=>some (.Sz m s v)
 | .typeAssert x _ t ok=>match P.underlying t with
  | some (.interface _)=>none
  | some _=>(iC P t).map λz=>.K9 x t z ok
  | none=>none
 | .extract t i=>some (.ext t i)
 | .call d=>match d.callee with
  | .builtin b=>dh P b d.argTypes d.args
  | .value (.func g)=>bif eI ins g then match d.args.toList,d.argTypes.toList with
    | [s,i,v],t::_=>match P.underlying t with
     | some (.slice e)=>match cQ P e,mo P e with
      | some 1,some 8=>some (.ins 1 8 s i v)
      | _,_=>none
     | _=>none
    | _,_=>none
   else some (.call (.func g) d.args.toList)
  | .value f=>some (.call f d.args.toList)
  | .invoke x name=>some (.inv x name d.args.toList)
 | .defer d=>match d.callee with
  | .value f=>some (.sx f d.args.toList)
  | _=>none
 | .panic x=>some (.rE x)
 | .range t x=>match P.underlying t with
  | some (.map _ _)=>some (.AY x)
  | _=>none
 | .next x false=>some (.nxt x)
 | .entry x=>some (.SU x)
 | _=>none
inductive Kd where
 | pure|load|make|di
def cK{α:Type}:cr α->Kd
 | .an _ _ | .GU _ | .AW _ _ _ _ _=>.load
 | .box _ | .gM _ | .mO _ _ _ _ _ | .fC _ _ _ _ | .Np _=>.make
 | .bE _ _ _ | .app _ _ _ _ _ _ | .Jq _ _ _ | .Sx _ _ | .N1 _ _ _ _ | .Sy _ _ _ _ | .Sz _ _ _ | .ins _ _ _ _ _ | .call _ _ | .inv _ _ _ | .sx _ _ | .rE _ | .AX | .AY _ | .nxt _ | .SU _=>.di
 | _=>.pure
def kdC:Op->Kd
 | .load _ _ | .lookup _ _ _ _=>.load
 | .box _ _ | .alloc _ | .makeSlice _ _ _ | .buildSlice _ _ _ | .makeMap _ _=>.make
 | .store _ _ _ | .mapUpdate _ _ _ _ | .insert _ _ _ _ | .mapEntry _ _ _ | .entryStore _ _ _ _ | .defer _ | .panic _ | .range _ _ | .next _ _ | .entry _=>.di
 | .call d=>match d.callee with
  | .builtin .append | .builtin .copy | .builtin .clear | .builtin .recover=>.di
  | .builtin .len=>.load
  | .builtin _=>.pure
  | _=>.di
 | _=>.pure
def mq(ops:List Oper):List Nat:=
 (ops.foldl (λacc o=>acc++[o.after.toList.foldl (λs e=>bif Region.binds .any e then s||| 2 ^ e.on||| acc.getD e.on 0 else s) 0]) [])
def WR(p:Kd->Bool)(ks:List Kd):Nat:=(ks.zipIdx.filter λx=>p x.1).foldl (λs x=>s||| 2 ^ x.2) 0
def cO:Kd->Bool | .di=>true|_=>false
def jL:Kd->Bool | .make=>true|_=>false
def lB:Kd->Bool | .load=>true|_=>false
def sub(a b:Nat):Bool:=Nat.beq (a&&& b) a
def Te(fQ:List Nat)(ks:List Kd):List Nat:=
 let nh:=WR (λk=>cO k||jL k) ks
 let n:=fQ.length
 let hs:=(List.range n).filter λi=>match ks[i]? with|some k=>cO k|none=>false
 let (done,l):=hs.foldl (λ(done,l) h=>
  let bh:=fQ.getD h 0
  let now:=(List.range n).filter λi=>!(Nat.testBit done i)&&i != h&&(Nat.testBit bh i||(match ks[i]? with
   | some .pure|some .load=>sub (fQ.getD i 0&&& nh) bh
   | _=>false))
  let l:=l++now++[h]
  (l.foldl (λs i=>s||| 2 ^ i) done,l)) (0,[])
 l++(List.range n).filter λi=>!(Nat.testBit done i)
def tmpsOf(o:Oper):List Nat:=o.op.operands.toList.filterMap fun | .tmp t=>some t|_=>none
def hygienic(ops:List Oper)(fQ:List Nat)(j:Nat)(o:Oper):Bool:=
 (tmpsOf o).all λt=>ops.zipIdx.all λ(q,i)=>match q.dst with
  | some d=>!(Nat.beq d t)||Nat.testBit (fQ.getD j 0) i||Nat.testBit (fQ.getD i 0) j
  | none=>true
def uB(ops:List Oper):Bool:=ops.zipIdx.all λ(o,i)=>ops.zipIdx.all λ(q,j)=>Nat.beq i j||(match o.dst,q.dst with|some a,some b=>!(Nat.beq a b)|_,_=>true)
def shift:Od->Od
 | .loc d=>.loc (d+1)
 | x=>x
def dj(env:Env):Env:=env.map λ(t,x)=>(t,shift x)
def gk(env:Env)(t:Nat):Env:=env.filter λp=>!(Nat.beq p.1 t)
def lC:List Bool->List Bool->Bool
 | [],[]=>true
 | true::p,true::q=>lC p q
 | false::p,false::q=>lC p q
 | _,_=>false
def isVar(p:List Bool):Od->Bool
 | .var q=>lC p q
 | _=>false
def D7:Od->Option Nat
 | .loc d=>some d
 | _=>none
structure Laid where
 env:Env
 ed:List Nat
 di:Nat
 make:Nat
 done:Nat
 out:List (AO×List cz)
def rp:Laid:=⟨[],[],0,0,0,[]⟩
def A2(t:Nat)(rest:List Oper):Bool:=rest.any λo=>(tmpsOf o).any (Nat.beq t)
def jn(p:List Bool)(rest:List Oper):Env->Laid->Laid
 | [],s=>s
 | (t,x)::r,s=>bif isVar p x then
   (bif A2 t rest then jn p rest r { s with env:=(t,.loc 0)::gk (dj s.env) t,out:=(⟨none,none,.ai x⟩,[])::s.out }else jn p rest r { s with env:=gk s.env t })
  else jn p rest r s
def xG:Op->Bool
 | .move _ | .assign _=>true
 | _=>false
def jM(ops:List Oper)(env:Env):Option (Nat×Bool)->Option (Option (Nat×Bool))
 | none=>some none
 | some (g,w)=>match ops[g]? with
  | some o=>match o.dst with
   | some t=>match find env t with
    | some x=>(D7 x).map λd=>some (d,w)
    | none=>none
   | none=>none
  | none=>none
def lD(ops:List Oper)(fQ:List Nat)(done j:Nat)(o:Oper):Bool:=
 (tmpsOf o).all λt=>ops.zipIdx.all λ(q,i)=>match q.dst with
  | some d=>!(Nat.beq d t)||Nat.testBit (fQ.getD j 0) i||!(Nat.testBit done i)
  | none=>true
def sM(P:Program)(kept:List Nat)(n:Nat)(ops:List Oper)(fQ:List Nat)(done:Nat)(env:Env)(bh:Nat):List Nat->Option (List cz)
 | []=>some []
 | j::r=>match sM P kept n ops fQ done env bh r with
  | none=>none
  | some as=>bif Nat.testBit bh j then some as else match ops[j]? with
   | some o=>bif !(lD ops fQ done j o)then none else match (ar P [] o).bind (cr.hZ (cv kept n env)),jM ops env o.guard,(o.dst.bind (find env)).bind D7 with
    | some a,some g,some d=>some (⟨g,a,d⟩::as)
    | _,_,_=>none
   | none=>none
def dO(kept:List Nat):Option Nat->Option (List Bool)
 | some d=>bif eI kept d then some (cP d)else none
 | none=>none
def sP(env:Env):Option Nat->Env
 | some t=>(t,.loc 0)::gk (dj env) t
 | none=>dj env
def emit(P:Program)(kept:List Nat)(n:Nat)(ops:List Oper)(fQ:List Nat)(b:Nat)(o:Oper)(g:Option (Nat×Bool))(a:cr Od)(s:Laid):Option Laid:=
 match (bif cO (cK a)then sM P kept n ops fQ s.done (sP s.env o.dst) b s.ed else some [])with
 | none=>none
 | some as=>match dO kept o.dst with
  | none=>some { s with env:=sP s.env o.dst,out:=(⟨none,g,a⟩,as)::s.out }
  | some p=>bif (dj s.env).any (λe=>isVar p e.2)then none else some { s with env:=sP s.env o.dst,out:=(⟨some p,g,a⟩,as)::s.out }
def Ju(l:List Oper)(s:Laid):Option (List Bool)->Laid
 | some p=>jn p l s.env s
 | none=>s
def Oc(P:Program)(ins kept:List Nat)(n:Nat)(ops rest:List Oper)(fQ:List Nat)(b:Nat)(xH:Bool)(o:Oper)(s0:Laid):Option Laid:=
 let s:=Ju (o::rest) s0 (dO kept o.dst)
 match (ar P ins o).bind (cr.hZ (cv kept n s.env)),jM ops s.env o.guard with
 | some a,some g=>
  match a,o.dst,g with
  | .ai x,some t,none=>
   bif (dO kept (some t)).isNone&&xG o.op&&!xH then some { s with env:=(t,x)::gk s.env t }
   else emit P kept n ops fQ b o g a s
  | _,_,_=>emit P kept n ops fQ b o g a s
 | _,_=>none
def xI(ops:List Oper):List Nat:=ops.filterMap λo=>o.guard.map (·.1)
def rG(P:Program)(ins kept:List Nat)(n:Nat)(draw:Bool)(ops:List Oper)(fQ xH:List Nat):List Nat->Laid->Option Laid
 | [],s=>some s
 | i::is,s=>match ops[i]? with
  | none=>none
  | some o=>
   let b:=bif draw then fQ.getD i 0 else 2 ^ ops.length-1
   match Oc P ins kept n ops (is.filterMap λi=>ops[i]?) fQ b (eI xH i) o s with
   | none=>none
   | some s1=>match ar P ins o with
    | none=>none
    | some k=>
     bif (match o.dst with|some d=>Nat.blt d n|none=>true)then
      bif !draw||(sub b s.done&&!(Nat.testBit s.done i)&&hygienic ops fQ i o&&(match o.guard with|some (g,_)=>Nat.testBit b g|none=>true)
       &&(match cK k with | .di=>sub s.di b&&sub s.make b | .load=>sub s.di b|_=>true))then
       rG P ins kept n draw ops fQ xH is { s1 with ed:=(bif lB (cK k)then i::s1.ed else s1.ed),di:=(bif cO (cK k)then s1.di||| 2 ^ i else s1.di),make:=(bif jL (cK k)then s1.make||| 2 ^ i else s1.make),done:=s1.done||| 2 ^ i }
      else none
     else none
def jN(P:Program)(ins kept:List Nat)(n:Nat)(draw:Bool)(ops:List Oper):Option (List (AO×List cz)):=
 (bif draw then
  let fQ:=mq ops
  let aeA:=Te fQ (ops.map λo=>kdC o.op)
  bif uB ops then(rG P ins kept n true ops fQ (xI ops) aeA rp).bind λs=>bif (List.range ops.length).all λi=>Nat.testBit s.done i then some s else none else none
 else rG P ins kept n false ops [] (xI ops) (List.range ops.length) rp).map λs=>s.out.reverse
def Jv{α:Type}:cr α->Bool
 | .AX=>true
 | _=>false
def Oe(kept:List Nat)(n:Nat)(ops:List Oper):Option (List Bool):=match ops with
 | [o]=>match o.op,o.guard,o.dst with
  | .call d,none,some t=>match d.callee with
   | .builtin .recover=>bif d.args.toList.isEmpty&&Nat.blt t n&&eI kept t then some (cP t)else none
   | _=>none
  | _,_,_=>none
 | _=>none
def lE(P:Program)(ins kept:List Nat)(n:Nat)(draw:Bool)(ops:List Oper):Option bA:=match Oe kept n ops,draw with
 | some p,false=>some (.ae false [(⟨some p,none,.AX⟩,[])])
 | _,_=>match jN P ins kept n draw ops with
  | some l=>bif l.any λx=>Jv x.1.op then none else some (.ae draw l)
  | none=>none
def cd(P:Program)(ins kept:List Nat)(n:Nat):Code->Option bA
 | .skip=>some .skip
 | .label _=>some .skip
 | .region _ ops draw=>lE P ins kept n draw ops.toList
 | .seq a b=>match cd P ins kept n a,cd P ins kept n b with
  | some a,some b=>some (.seq a b)
  | _,_=>none
 | .cond c a b=>match cv kept n ([]:Env) c,cd P ins kept n a,cd P ins kept n b with
  | some c,some a,some b=>some (.cond c a b)
  | _,_,_=>none
 | .block id c=>(cd P ins kept n c).map (.block id)
 | .loop c=>(cd P ins kept n c).map .loop
 | .exit id=>some (.exit id)
 | .ret=>some .ret
 | _=>none
def j7(P:Program)(kept:List Nat)(n:Nat):ResultVar->Option (Od×Option (Option Nat))
 | .tmp t=>bif Nat.blt t n&&eI kept t then some (.var (cP t),none)else none
 | .cell a t=>bif Nat.blt a n&&eI kept a then(sL P t).map λg=>(.var (cP a),some g)else none
def dC(P:Program)(kept:List Nat)(n:Nat):List ResultVar->Option (List (Od×Option (Option Nat)))
 | []=>some []
 | r::rs=>match j7 P kept n r,dC P kept n rs with
  | some a,some as=>some (a::as)
  | _,_=>none
def mr(P:Program)(ins kept:List Nat)(f:Func):Option az:=match f.body with
 | some c=>match cd P ins kept f.ntmps c,dC P kept f.ntmps f.results.toList with
  | some b,some r=>some ⟨r,b⟩
  | _,_=>none
 | none=>none
end
section
noncomputable section
@[simp] theorem ad2{α β:Type}(f:α->Option β):bd none f=none:=rfl
@[simp] theorem Jw{α β:Type}(a:α)(f:α->Option β):bd (some a) f=f a:=rfl
theorem bn{α β:Type}{o:Option α}{f:α->Option β}{r:β}(h:bd o f=some r):∃a,o=some a/\f a=some r:=by
 cases o with
 | none=>cases h
 | some a=>exact⟨a,rfl,h⟩
section
variable {α:Type}
@[simp] theorem aeB(p:List Bool):ah (.e:Tr α) p=none:=rfl
@[simp] theorem WS(l:Tr α)(v:Option α)(r:Tr α):ah (.n l v r) []=v:=rfl
@[simp] theorem Vu(l:Tr α)(v:Option α)(r:Tr α)(b:Bool)(p:List Bool):ah (.n l v r) (b::p)=cond b (ah l p) (ah r p):=rfl
def cA:List Bool->Tr α->Option α->Tr α
 | [],.e,x=>.n .e x .e
 | [],.n l _ r,x=>.n l x r
 | b::p,.e,x=>cond b (.n (cA p .e x) none .e) (.n .e none (cA p .e x))
 | b::p,.n l v r,x=>cond b (.n (cA p l x) v r) (.n l v (cA p r x))
theorem cL(p:List Bool):∀(t:Tr α) (x:Option α) (k:Tr α->R0),eQ p t x k=k (cA p t x):=by
 induction p with
 | nil=>intro t x k;cases t<;>rfl
 | cons b p ih=>
  intro t x k;have h:eQ (b::p) t x k=SW b (eQ p) t x k:=rfl;rw[h];cases t with
  | e=>cases b<;>simp[SW,aat,cA,ih]
  | n l v r=>cases b<;>simp[SW,aau,cA,ih]
theorem cB(p:List Bool):∀(t:Tr α) (x:Option α),ah (cA p t x) p=x:=by
 induction p with
 | nil=>intro t x;cases t<;>rfl
 | cons b p ih=>intro t x;cases t<;>cases b<;>simp[cA,ih]
theorem bz(p:List Bool):∀(q:List Bool) (t:Tr α) (x:Option α),q≠p->ah (cA p t x) q=ah t q:=by
 induction p with
 | nil=>
  intro q t x h;cases q with
  | nil=>exact absurd rfl h
  | cons c q=>cases t<;>cases c<;>rfl
 | cons b p ih=>
  intro q t x h;cases q with
  | nil=>cases t<;>cases b<;>rfl
  | cons c q=>
   by_cases e:c=b
   ·subst e;have cG:q≠p:=λe=>h (by rw[e])
    cases t<;>cases c<;>simp[cA,ih q _ _ cG]
   ·cases t<;>cases b<;>cases c<;>first|exact absurd rfl e|simp[cA]
end
def rH:List Bool->Nat
 | []=>0
 | true::p=>2*rH p+1
 | false::p=>2*rH p+2
theorem A3(f k:Nat):path (f+1) k=cond (Nat.beq k 0) [] (cond (Nat.beq (Nat.mod k 2) 1) (true::path f (Nat.div k 2)) (false::path f (Nat.sub (Nat.div k 2) 1))):=rfl
theorem vA(f:Nat):∀k,k<=f->rH (path f k)=k:=by
 induction f with
 | zero=>
   intro k h;have:k=0:=by omega
   subst this;rfl
 | succ f ih=>
  intro k h;rw[A3];by_cases h0:k=0
  ·subst h0;rfl
  ·have hb:Nat.beq k 0=false:=by
    cases e:Nat.beq k 0 with
    | true=>exact absurd (dB e) h0
    | false=>rfl
   rw[hb];simp only[cond_false]
   by_cases h1:k%2=1
   ·have:Nat.beq (Nat.mod k 2) 1=true:=by
     show Nat.beq (k%2) 1=true;rw[h1];rfl
    rw[this];simp only[cond_true,rH]
    have:=ih (k / 2) (by omega);show 2*rH (path f (k / 2))+1=k;rw[this];omega
   ·have hm:Nat.beq (Nat.mod k 2) 1=false:=by
     cases e:Nat.beq (Nat.mod k 2) 1 with
     | true=>exact absurd (dB e) h1
     | false=>rfl
    rw[hm];simp only[cond_false,rH]
    have:=ih (k / 2-1) (by omega);show 2*rH (path f (k / 2-1))+2=k;rw[this];omega
theorem gy{a b:Nat}(h:at_ a=at_ b):a=b:=by
 have ha:=vA a a (au _);have hb:=vA b b (au _);unfold at_ at h;rw[<-ha,<-hb,h]
theorem Of(f:Nat):∀k,A1 f k=path f k:=by
 induction f with
 | zero=>intro k;rfl
 | succ f ih=>
  intro k;rw[A3];show (bif Nat.beq k 0 then[]else bif Nat.beq (k%2) 1 then true::A1 f (k / 2)else false::A1 f (k / 2-1))=_;rw[ih,ih];rfl
theorem kg(t:Nat):cP t=at_ t:=Of t t
def kh(T:Tr Value)(L:List Value):Od->Option Value
 | .loc d=>L[d]?
 | .var p=>ah T p
 | .aO v=>some v
 | .fn f=>some (.func (.func f) #[] #[])
theorem nU(L:List Value):∀(d:Nat) (k:KV),Af L d k=bd L[d]? k:=by
 induction L with
 | nil=>intro d k;rfl
 | cons v L ih=>
  intro d k;cases d with
  | zero=>rfl
  | succ d=>exact ih d k
theorem wW(L:List Value):∀d,Lc L d=L[d]?:=by
 induction L with
 | nil=>intro d;rfl
 | cons v L ih=>
  intro d;cases d with
  | zero=>rfl
  | succ d=>exact ih d
theorem dd(T:Tr Value)(L:List Value)(x:Od)(k:KV):bI T L x k=bd (kh T L x) k:=by
 cases x with
 | loc d=>exact nU L d k
 | var p=>rfl
 | aO v=>rfl
 | fn f=>rfl
def rq(T:Tr Value)(L:List Value):List Od->Option (List Value)
 | []=>some []
 | x::xs=>match kh T L x,rq T L xs with
  | some v,some vs=>some (v::vs)
  | _,_=>none
theorem eT(T:Tr Value)(L:List Value)(xs:List Od):∀k,dN T L xs k=bd (rq T L xs) k:=by
 induction xs with
 | nil=>intro k;rfl
 | cons x xs ih=>
  intro k;show bI T L x (λv=>dN T L xs λvs=>k (v::vs))=_;rw[dd];cases h:kh T L x with
  | none=>simp[rq,h]
  | some v=>
   simp only[Jw,ih,rq,h];cases rq T L xs<;>rfl
def xJ(T:Tr Value)(L:List Value):List (Nat×Nat×Od)->Option (List (Nat×Nat×Value))
 | []=>some []
 | (i,j,x)::xs=>match kh T L x,xJ T L xs with
  | some v,some vs=>some ((i,j,v)::vs)
  | _,_=>none
theorem A4(T:Tr Value)(L:List Value)(xs:List (Nat×Nat×Od)):∀k,eX T L xs k=bd (xJ T L xs) k:=by
 induction xs with
 | nil=>intro k;rfl
 | cons x xs ih=>
  intro k;obtain⟨i,j,x⟩:=x;show bI T L x (λv=>eX T L xs λvs=>k ((i,j,v)::vs))=_;rw[dd];cases h:kh T L x with
  | none=>simp[xJ,h]
  | some v=>
   simp only[Jw,ih,xJ,h];cases xJ T L xs<;>rfl
def qS(T:Tr Value)(L:List Value)(x:Od):Od:=.aO ((kh T L x).getD undef)
end
end
section
variable {T:Tr Value}(T':Tr Value){L:List Value}(L':List Value){r:Ex×St}
theorem bx{x:Od}{k k':KV}(h:bI T L x k=some r)(hk:∀v,k v=some r->k' v=some r):bI T' L' (qS T L x) k'=some r:=by
 rw[dd]at h;obtain⟨v,hv,h⟩:=bn h;show k' ((kh T L x).getD undef)=_;rw[hv];exact hk v h
theorem Cj{xs:List Od}:∀{k k':List Value->R0},dN T L xs k=some r->(∀v,k v=some r->k' v=some r)->dN T' L' (xs.map (qS T L)) k'=some r:=by
 induction xs with
 | nil=>intro k k' h hk;exact hk _ h
 | cons x xs ih=>
  intro k k' h hk;exact bx T' L' (k:=λv=>dN T L xs λvs=>k (v::vs)) h λ_ h=>ih h λvs h=>hk _ h
theorem Og{x:Nat×Nat×Od}{k k':Nat×Nat×Value->R0}(h:N2 T L x k=some r)(hk:∀v,k v=some r->k' v=some r):N2 T' L' (x.1,x.2.1,qS T L x.2.2) k'=some r:=
 bx T' L' (k:=λv=>k (x.1,x.2.1,v)) h λ_ h=>hk _ h
theorem A5{xs:List (Nat×Nat×Od)}:∀{k k':List (Nat×Nat×Value)->R0},eX T L xs k=some r->(∀v,k v=some r->k' v=some r)->
  eX T' L' (xs.map λx=>(x.1,x.2.1,qS T L x.2.2)) k'=some r:=by
 induction xs with
 | nil=>intro k k' h hk;exact hk _ h
 | cons x xs ih=>
  intro k k' h hk;exact Og T' L' (k:=λv=>eX T L xs λvs=>k (v::vs)) h λv h=>ih h λvs h=>hk _ h
theorem xK{v:Value}{k k':Nat->R0}(h:dp v k=some r)(hk:∀n,k n=some r->k' n=some r):dp v k'=some r:=by
 unfold dp at h ⊢;split at h
 ·exact hk _ h
 ·cases h
theorem Oh{v:Value}{k k':Nat->R0}(h:pj v k=some r)(hk:∀n,k n=some r->k' n=some r):pj v k'=some r:=by
 unfold pj at h ⊢;split at h
 ·exact hk _ h
 ·cases h
theorem kR{x:Option Od}{d:Nat}{k k':Nat->R0}(h:jd T L x d k=some r)(hk:∀v,k v=some r->k' v=some r):jd T' L' (x.map (qS T L)) d k'=some r:=by
 cases x with
 | none=>exact hk _ h
 | some x=>exact bx T' L' (k:=λv=>dp v k) h λv h=>xK h hk
theorem Jx{x:Option Od}{k k':Option Value->R0}(h:D1 T L x k=some r)(hk:∀v,k v=some r->k' v=some r):D1 T' L' (x.map (qS T L)) k'=some r:=by
 cases x with
 | none=>exact hk _ h
 | some x=>exact bx T' L' (k:=λv=>k (some v)) h λv h=>hk _ h
theorem A6{v:Value}{a b a' b':R0}(h:hY v a b=some r)(ha:a=some r->a'=some r)(hb:b=some r->b'=some r):hY v a' b'=some r:=by
 unfold hY at h ⊢;split at h
 ·rename_i t;cases t
  ·exact hb h
  ·exact ha h
 ·cases h
theorem vB{α:Type}{o:Option α}{k k':α->R0}(h:bd o k=some r)(hk:∀a,k a=some r->k' a=some r):bd o k'=some r:=by
 cases o with
 | none=>cases h
 | some a=>exact hk a h
theorem Oi{v:Value}{k k':Nat->Nat->R0}(h:dU v k=some r)(hk:∀a b,k a b=some r->k' a b=some r):dU v k'=some r:=by
 unfold dU at h ⊢;split at h
 ·exact hk _ _ h
 ·cases h
theorem wX{c:Bool}{a b a' b':R0}(h:cond c a b=some r)(ha:a=some r->a'=some r)(hb:b=some r->b'=some r):cond c a' b'=some r:=by
 cases c
 ·exact hb h
 ·exact ha h
variable {P:Program}{H:Heap}{nx:Nat}
theorem Tf{mx:Option Od}{k:KV}{b o z l h c:Nat}(hh:La T L mx k b o z l h c=some r):La T' L' (mx.map (qS T L)) k b o z l h c=some r:=by
 cases mx with
 | none=>exact hh
 | some m=>exact bx T' L' (k:=λm=>dp m _) hh λv h=>h
theorem Tg{lo hi mx:Option Od}{z:Nat}{k:KV}{v:Value}(h:Ah T L lo hi mx z k v=some r):Ah T' L' (lo.map (qS T L)) (hi.map (qS T L)) (mx.map (qS T L)) z k v=some r:=by
 unfold Ah at h ⊢;split at h
 ·refine kR T' L' h λl h=>kR T' L' h λi h=>?_
  have e:(mx.map (qS T L)).isNone=mx.isNone:=by cases mx<;>rfl
  rw[e];exact h
 ·refine kR T' L' h λl h=>kR T' L' h λi h=>?_
  have e:(mx.map (qS T L)).isNone=mx.isNone:=by cases mx<;>rfl
  rw[e];exact h
 ·exact kR T' L' h λl h=>kR T' L' h λi h=>wX h (Tf T' L') id
 ·cases h
theorem cf{a:cr Od}{k:KV}(h:e7 a P T L H k=some r):e7 (a.map (qS T L)) P T' L' H k=some r:=by
 cases a with
 | ai x=>exact bx T' L' h λv h=>h
 | pick c x y=>exact bx T' L' h λv h=>A6 h (λh=>bx T' L' h λ_ h=>h) (λh=>bx T' L' h λ_ h=>h)
 | aA x=>exact bx T' L' h λv h=>h
 | ext x i=>exact bx T' L' h λv h=>h
 | Ad x off agg=>exact bx T' L' h λv h=>h
 | aI x off=>exact bx T' L' h λv h=>h
 | aK x i z=>exact bx T' L' h λv h=>bx T' L' h λi h=>h
 | nO x i n z=>exact bx T' L' h λv h=>bx T' L' h λi h=>h
 | ix x i n z agg=>exact bx T' L' h λv h=>bx T' L' h λi h=>h
 | bin op t x y=>exact bx T' L' h λv h=>bx T' L' h λi h=>h
 | un op x=>exact bx T' L' h λv h=>h
 | AV s d x=>exact bx T' L' h λv h=>h
 | ur mn xs=>exact Cj T' L' h λv h=>h
 | Nn t x i=>exact bx T' L' h λv h=>bx T' L' h λi h=>h
 | Hg t x lo hi=>exact bx T' L' h λv h=>Jx T' L' h λl h=>Jx T' L' h λi h=>h
 | eP neg kd x y=>exact bx T' L' h λv h=>bx T' L' h λi h=>h
 | fR zero parts=>exact A5 T' L' h λv h=>h
 | B8 fn first cap=>exact Cj T' L' h λv h=>Cj T' L' h λi h=>h
 | Hh t x=>exact bx T' L' h λv h=>h
 | K9 x t zero ok=>exact bx T' L' h λv h=>h
 | an x agg=>exact bx T' L' h λv h=>h
 | len x=>exact bx T' L' h λv h=>h
 | GU x=>exact bx T' L' h λv h=>h
 | No x=>exact bx T' L' h λv h=>h
 | cap x=>exact bx T' L' h λv h=>h
 | lx x lo hi mx z=>exact bx T' L' h λv h=>Tg T' L' h
 | N0 x lo hi n z=>exact bx T' L' h λv h=>Oi h λb o h=>kR T' L' h λl h=>kR T' L' h λi h=>h
 | AW x key kt zero ok=>exact bx T' L' h λv h=>bx T' L' h λi h=>h
 | _=>cases h
theorem Jy{a:cr Od}{k:KA}(h:cY a P T L H nx k=some r):cY (a.map (qS T L)) P T' L' H nx k=some r:=by
 cases a with
 | box x=>exact bx T' L' h λv h=>h
 | gM zero=>exact h
 | mO z bytes zero l c=>exact bx T' L' h λv h=>xK h λn h=>bx T' L' h λi h=>h
 | fC z len zero parts=>exact A5 T' L' h λv h=>h
 | Np x=>exact kR T' L' (d:=0) (k:=λ_=>eQ (at_ nx) H (some (.map [] 0)) λH=>k (.map (some nx)) H (Nat.succ nx)) h λv h=>h
 | bE x v n=>exact bx T' L' h λv h=>bx T' L' h λi h=>h
 | app z bytes zero s x fS=>exact bx T' L' h λv h=>bx T' L' h λi h=>h
 | Jq z d s=>exact bx T' L' h λv h=>bx T' L' h λi h=>h
 | Sx x zero=>exact bx T' L' h λv h=>h
 | N1 m key v kt=>exact bx T' L' h λv h=>bx T' L' h λi h=>bx T' L' h λu h=>h
 | Sy m key kt zero=>exact bx T' L' h λv h=>bx T' L' h λi h=>h
 | Sz m s v=>exact bx T' L' h λv h=>bx T' L' h λi h=>xK h λn h=>bx T' L' h λu h=>h
 | ins z bytes s i v=>exact bx T' L' h λv h=>bx T' L' h λi h=>Oh h λn h=>bx T' L' h λu h=>h
 | call f args=>cases h
 | inv x name args=>cases h
 | sx f args=>cases h
 | rE x=>cases h
 | AX=>cases h
 | AY x=>exact bx T' L' h λv h=>h
 | nxt x=>exact bx T' L' h λv h=>h
 | SU x=>exact bx T' L' h λv h=>h
 | ai x=>exact cf T' L' (a:=.ai x) h
 | pick c x y=>exact cf T' L' (a:=.pick c x y) h
 | aA x=>exact cf T' L' (a:=.aA x) h
 | ext x i=>exact cf T' L' (a:=.ext x i) h
 | Ad x off agg=>exact cf T' L' (a:=.Ad x off agg) h
 | aI x off=>exact cf T' L' (a:=.aI x off) h
 | aK x i z=>exact cf T' L' (a:=.aK x i z) h
 | nO x i n z=>exact cf T' L' (a:=.nO x i n z) h
 | ix x i n z agg=>exact cf T' L' (a:=.ix x i n z agg) h
 | bin op t x y=>exact cf T' L' (a:=.bin op t x y) h
 | un op x=>exact cf T' L' (a:=.un op x) h
 | AV s d x=>exact cf T' L' (a:=.AV s d x) h
 | ur mn xs=>exact cf T' L' (a:=.ur mn xs) h
 | Nn t x i=>exact cf T' L' (a:=.Nn t x i) h
 | Hg t x lo hi=>exact cf T' L' (a:=.Hg t x lo hi) h
 | eP neg kd x y=>exact cf T' L' (a:=.eP neg kd x y) h
 | fR zero parts=>exact cf T' L' (a:=.fR zero parts) h
 | B8 fn first cap=>exact cf T' L' (a:=.B8 fn first cap) h
 | Hh t x=>exact cf T' L' (a:=.Hh t x) h
 | K9 x t zero ok=>exact cf T' L' (a:=.K9 x t zero ok) h
 | an x agg=>exact cf T' L' (a:=.an x agg) h
 | len x=>exact cf T' L' (a:=.len x) h
 | GU x=>exact cf T' L' (a:=.GU x) h
 | No x=>exact cf T' L' (a:=.No x) h
 | cap x=>exact cf T' L' (a:=.cap x) h
 | lx x lo hi mx z=>exact cf T' L' (a:=.lx x lo hi mx z) h
 | N0 x lo hi n z=>exact cf T' L' (a:=.N0 x lo hi n z) h
 | AW x key kt zero ok=>exact cf T' L' (a:=.AW x key kt zero ok) h
end
section
structure Ref where
 blk:Nat
 sh:Nat
 size:Nat
abbrev bY:=Nat->Option Ref
def ft:Nat:=9223372036854775807
def xL:Value->Bool
 | .agg _ | .tuple _ | .bool _=>false
 | _=>true
mutual
inductive VR (ρ:bY):Value->Value->Prop where
 | sc {v:Value} (h:scalar v=true):VR ρ v v
 | wF:VR ρ .nilIface .nilIface
 | D8:VR ρ (.pointer none) (.pointer none)
 | ptr {b o:Nat} {r:Ref} (h:ρ b=some r):VR ρ (.pointer (some ⟨b,o,none⟩)) (.pointer (some ⟨r.blk,r.sh+o,none⟩))
 | mP:VR ρ (.slice none 0 0) (.slice none 0 0)
 | sl {b o z len c p c':Nat} {r:Ref} (h:ρ b=some r) (hl:len<=c'/\c'<=ft) (hs:aF c<=c') (he:exact c=true->c'=aF c)
   (hp:c'=0\/(p=r.sh+o/\p+c'*z<=r.size)):VR ρ (.slice (some ⟨b,o,some z⟩) len c) (.slice (some ⟨r.blk,p,none⟩) len c')
 | Jz {a:Addr}:VR ρ (.slice (some ⟨0,0,none⟩) 0 1) (.slice (some a) 0 0)
 | wG:VR ρ (.map none) (.map none)
 | map {b:Nat} {r:Ref} (h:ρ b=some r):VR ρ (.map (some b)) (.map (some r.blk))
 | func {f:FuncId} {a a' c c':List Value} (h:dJ ρ a a') (h':dJ ρ c c'):VR ρ (.func (.func f) ⟨a⟩ ⟨c⟩) (.func (.func f) ⟨a'⟩ ⟨c'⟩)
 | iface {t:TypeId} {v v':Value} (h:VR ρ v v'):VR ρ (.iface t v) (.iface t v')
 | agg {a a':List Value} (h:dJ ρ a a'):VR ρ (.agg ⟨a⟩) (.agg ⟨a'⟩)
 | tuple {a a':List Value} (h:dJ ρ a a'):VR ρ (.tuple ⟨a⟩) (.tuple ⟨a'⟩)
 | any {u:Value} (h:xL u=true):VR ρ (.chan none) u
 | AY {k:Nat} {x:Int} (h:(DZ k:Int)<=x/\x<=(A0 k:Int)):VR ρ (.chan (some k)) (.int .i64 x)
inductive dJ (ρ:bY):List Value->List Value->Prop where
 | nil:dJ ρ [] []
 | cons {v v':Value} {vs Vv:List Value} (h:VR ρ v v') (hs:dJ ρ vs Vv):dJ ρ (v::vs) (v'::Vv)
end
def Ext(ρ ρ':bY):Prop:=∀b r,ρ b=some r->ρ' b=some r
theorem Ext.refl(ρ:bY):Ext ρ ρ:=λ_ _ h=>h
theorem Ext.trans{a b c:bY}(h:Ext a b)(h':Ext b c):Ext a c:=λ_ _ x=>h' _ _ (h _ _ x)
mutual
theorem VR.mono{ρ ρ':bY}(e:Ext ρ ρ'):∀{v v':Value},VR ρ v v'->VR ρ' v v'
 | _,_,.sc h=>.sc h
 | _,_,.wF=>.wF
 | _,_,.D8=>.D8
 | _,_,.ptr h=>.ptr (e _ _ h)
 | _,_,.mP=>.mP
 | _,_,.sl h hl hs he hp=>.sl (e _ _ h) hl hs he hp
 | _,_,.Jz=>.Jz
 | _,_,.wG=>.wG
 | _,_,.map h=>.map (e _ _ h)
 | _,_,.func h h'=>.func (dJ.mono e h) (dJ.mono e h')
 | _,_,.iface h=>.iface (VR.mono e h)
 | _,_,.agg h=>.agg (dJ.mono e h)
 | _,_,.tuple h=>.tuple (dJ.mono e h)
 | _,_,.any h=>.any h
 | _,_,.AY h=>.AY h
theorem dJ.mono{ρ ρ':bY}(e:Ext ρ ρ'):∀{v v':List Value},dJ ρ v v'->dJ ρ' v v'
 | _,_,.nil=>.nil
 | _,_,.cons h hs=>.cons (VR.mono e h) (dJ.mono e hs)
end
section lists
variable {ρ:bY}
theorem dJ.length{a a':List Value}(h:dJ ρ a a'):a'.length=a.length:=by
 induction a generalizing a' with
 | nil=>cases h;rfl
 | cons v a ih=>cases h with|cons h hs=>simp[ih hs]
theorem dJ.get{a a':List Value}(h:dJ ρ a a'):∀{i:Nat} {v:Value},a[i]?=some v->∃v',a'[i]?=some v'/\VR ρ v v':=by
 induction a generalizing a' with
 | nil=>intro i v hv;simp at hv
 | cons u a ih=>
  intro i v hv;cases h with
  | cons h hs=>
   cases i with
   | zero=>simp at hv;subst hv;exact⟨_,rfl,h⟩
   | succ i=>simpa using ih hs (by simpa using hv)
theorem dJ.append{a a' b b':List Value}(h:dJ ρ a a')(h':dJ ρ b b'):dJ ρ (a++b) (a'++b'):=by
 induction a generalizing a' with
 | nil=>cases h;exact h'
 | cons v a ih=>cases h with|cons h hs=>exact .cons h (ih hs)
theorem dJ.xM{a a':List Value}(hl:a'.length=a.length)(h:∀(i:Nat) (v:Value),a[i]?=some v->∃v',a'[i]?=some v'/\VR ρ v v'):dJ ρ a a':=by
 induction a generalizing a' with
 | nil=>cases a' with
  | nil=>exact .nil
  | cons=>simp at hl
 | cons v a ih=>
  cases a' with
  | nil=>simp at hl
  | cons v' a'=>
   obtain⟨u,hu,hr⟩:=h 0 v rfl;simp at hu;subst hu
   refine .cons hr (ih (by simpa using hl) λi w hw=>?_);have:=h (i+1) w (by simpa using hw)
   simpa using this
end lists
theorem VR.eM{ρ:bY}{v v':Value}(h:VR ρ v v')(hs:scalar v=true):v'=v:=by
 cases h with
 | sc _=>rfl
 | _=>simp[scalar]at hs
theorem dJ.eM{ρ:bY}{a a':List Value}(h:dJ ρ a a')(hs:a.all scalar=true):a'=a:=by
 induction a generalizing a' with
 | nil=>cases h;rfl
 | cons v a ih=>
  cases h with
  | cons h hr=>
   simp at hs;rw[h.eM hs.1,ih hr (by simpa using hs.2)]
theorem VR.jo{ρ:bY}{v v':Value}(h:VR ρ v v')(hs:flat v=true):v'=v:=by
 cases h with
 | sc _=>rfl
 | agg h=>rw[h.eM (by simpa[flat]using hs)]
 | _=>simp[flat,scalar]at hs
theorem dJ.Lf{ρ:bY}{a:List Value}(hs:a.all scalar=true):dJ ρ a a:=by
 induction a with
 | nil=>exact .nil
 | cons v a ih=>simp at hs;exact .cons (.sc hs.1) (ih (by simpa using hs.2))
theorem VR.of_flat{ρ:bY}{v:Value}(hs:flat v=true):VR ρ v v:=by
 cases v with
 | agg cs=>exact .agg (.Lf (by simpa[flat]using hs))
 | _=>exact .sc (by simpa[flat]using hs)
inductive oS (ρ:bY):List MapEntry->List MapEntry->Prop where
 | nil:oS ρ [] []
 | cons {e e':MapEntry} {es es':List MapEntry} (hk:VR ρ e.key e'.key) (hv:VR ρ e.val e'.val) (hb:e'.born=e.born) (h:oS ρ es es'):oS ρ (e::es) (e'::es')
theorem oS.mono{ρ ρ':bY}(e:Ext ρ ρ'){a a':List MapEntry}(h:oS ρ a a'):oS ρ' a a':=by
 induction h with
 | nil=>exact .nil
 | cons hk hv hb _ ih=>exact .cons (hk.mono e) (hv.mono e) hb ih
def Th(ρ:bY)(hp:Array Obj)(r:Ref)(cs:List Value):Prop:=∃a e f,hp[r.blk]?=some (.cells a e f)/\a.size=r.size/\∀i v,cs[i]?=some v->∃v',a[r.sh+i]?=some v'/\VR ρ v v'
def BR(ρ:bY)(hp:Array Obj)(r:Ref):jb->Prop
 | .cells cs=>∃a e,hp[r.blk]?=some (.cells a e (0,0))/\a.size=r.size/\∀i v,cs[i]?=some v->∃v',a[r.sh+i]?=some v'/\VR ρ v v'
 | .map es c=>∃es',hp[r.blk]?=some (.map es' c)/\oS ρ es es'.toList
 | .ro cs=>Th ρ hp r cs
 | .iter m a s c=>r.sh=0/\∃m',hp[r.blk]?=some (.mapIter m' a s.toArray c)/\VR ρ (.map m) (.map m')
def jb.kj:jb->Bool
 | .ro _=>false
 | _=>true
theorem BR.mono{ρ ρ':bY}(e:Ext ρ ρ'){hp:Array Obj}{r:Ref}{k:jb}(h:BR ρ hp r k):BR ρ' hp r k:=by
 cases k with
 | cells cs=>
  obtain⟨a,t,h1,h2,h3⟩:=h;exact⟨a,t,h1,h2,λi v hv=>let ⟨v',g,hr⟩:=h3 i v hv;⟨v',g,hr.mono e⟩⟩
 | map es c=>
  obtain⟨es',h1,h2⟩:=h;exact⟨es',h1,h2.mono e⟩
 | ro cs=>
  obtain⟨a,t,f,h1,h2,h3⟩:=h;exact⟨a,t,f,h1,h2,λi v hv=>let ⟨v',g,hr⟩:=h3 i v hv;⟨v',g,hr.mono e⟩⟩
 | iter m a s c=>
  obtain⟨h0,m',h1,h2⟩:=h;exact⟨h0,m',h1,h2.mono e⟩
theorem BR.lt{ρ:bY}{hp:Array Obj}{r:Ref}{k:jb}(h:BR ρ hp r k):r.blk<hp.size:=by
 cases k with
 | cells cs=>
  obtain⟨a,t,h1,_⟩:=h;exact(Array.getElem?_eq_some_iff.1 h1).1
 | map es c=>
  obtain⟨es',h1,_⟩:=h;exact(Array.getElem?_eq_some_iff.1 h1).1
 | ro cs=>
  obtain⟨a,t,f,h1,_⟩:=h;exact(Array.getElem?_eq_some_iff.1 h1).1
 | iter m a s c=>
  obtain⟨_,m',h1,_⟩:=h;exact(Array.getElem?_eq_some_iff.1 h1).1
theorem BR.of_same{ρ:bY}{hp m6:Array Obj}{r:Ref}{k:jb}(h:BR ρ hp r k)(e:m6[r.blk]?=hp[r.blk]?):BR ρ m6 r k:=by
 cases k with
 | cells cs=>obtain⟨a,t,h1,h2⟩:=h;exact⟨a,t,e.trans h1,h2⟩
 | map es c=>obtain⟨es',h1,h2⟩:=h;exact⟨es',e.trans h1,h2⟩
 | ro cs=>obtain⟨a,t,f,h1,h2⟩:=h;exact⟨a,t,f,e.trans h1,h2⟩
 | iter m a s c=>obtain⟨h0,m',h1,h2⟩:=h;exact⟨h0,m',e.trans h1,h2⟩
structure HR(ρ:bY)(H:Heap)(nx:Nat)(hp:Array Obj):Prop where
 blk:∀b k,ah H (at_ b)=some k->∃r,ρ b=some r/\BR ρ hp r k
 inj:∀b c k l r s,ah H (at_ b)=some k->ah H (at_ c)=some l->k.kj=true->ρ b=some r->ρ c=some s->r.blk=s.blk->b=c
 new:∀b,nx<=b->ρ b=none
def mf(ρ:bY)(H:Heap)(k:Nat):Prop:=∃b x r,ah H (at_ b)=some x/\x.kj=true/\ρ b=some r/\r.blk=k
def Hl(H' H:Heap):Prop:=∀b x,ah H' (at_ b)=some x->x.kj=false->ah H (at_ b)=some x
theorem Hl.refl(H:Heap):Hl H H:=λ_ _ h _=>h
theorem Hl.trans{H2 H1 H:Heap}(h:Hl H2 H1)(h':Hl H1 H):Hl H2 H:=λb x hb hm=>h' b x (h b x hb hm) hm
theorem Hl.forget(H:Heap)(b:Nat):Hl (cA (at_ b) H none) H:=by
 intro c x hc _;by_cases e:at_ c=at_ b
 ·rw[e,cB]at hc;cases hc
 ·rwa [bz _ _ _ _ e]at hc
theorem Hl.put(H:Heap)(b:Nat)(k:jb)(hk:k.kj=true:=by rfl):Hl (cA (at_ b) H (some k)) H:=by
 intro c x hc hx;by_cases e:at_ c=at_ b
 ·rw[e,cB]at hc;have:k=x:=by simpa using hc
  subst this;rw[hk]at hx;cases hx
 ·rwa [bz _ _ _ _ e]at hc
structure Hm(ρ:bY)(H:Heap)(w:World)(ρ':bY)(H':Heap)(w':World):Prop where
 ext:Ext ρ ρ'
 own:∀k,mf ρ' H' k->mf ρ H k\/w.heap.size<=k
 ro:Hl H' H
 frame:∀k,k<w.heap.size->¬mf ρ H k->w'.heap[k]?=w.heap[k]?
 size:w.heap.size<=w'.heap.size
 os:w'.os=w.os
 tape:w'.tape=w.tape
 output:w'.output=w.output
theorem Hm.refl(ρ:bY)(H:Heap)(w:World):Hm ρ H w ρ H w:=⟨.refl ρ,λ_ h=>.inl h,.refl H,λ_ _ _=>rfl,au _,rfl,rfl,rfl⟩
theorem Hm.trans{ρ ρ1 ρ2:bY}{H H1 H2:Heap}{w w1 w2:World}(h:Hm ρ H w ρ1 H1 w1)(h':Hm ρ1 H1 w1 ρ2 H2 w2):Hm ρ H w ρ2 H2 w2:=by
 refine⟨h.ext.trans h'.ext,λk hk=>?_,h'.ro.trans h.ro,λk hk hn=>?_,hX h.size h'.size,h'.os.trans h.os,h'.tape.trans h.tape,h'.output.trans h.output⟩
 ·rcases h'.own k hk with h1|h1
  ·exact h.own k h1
  ·exact .inr (hX h.size h1)
 ·have h1:¬mf ρ1 H1 k:=λho=>by
   rcases h.own k ho with h2|h2
   ·exact hn h2
   ·omega
  rw[h'.frame k (kN hk h.size) h1,h.frame k hk hn]
theorem Hm.drew(ρ:bY)(H:Heap)(w:World)(n:Nat):Hm ρ H w ρ H { w with drawn:=n }:=⟨.refl ρ,λ_ h=>.inl h,.refl H,λ_ _ _=>rfl,au _,rfl,rfl,rfl⟩
section steps
variable {ρ:bY}{H:Heap}{nx:Nat}{hp:Array Obj}
def bY.with(ρ:bY)(b:Nat)(r:Ref):bY:=λx=>if x=b then some r else ρ x
theorem bY.fu(ρ:bY)(b:Nat)(r:Ref):ρ.with b r b=some r:=by simp[bY.with]
theorem bY.iD(ρ:bY){b c:Nat}(r:Ref)(h:c≠b):ρ.with b r c=ρ c:=by simp[bY.with,h]
theorem HR.gz(h:HR ρ H nx hp)(r:Ref):Ext ρ (ρ.with nx r):=by
 intro b s hb;have cG:b≠nx:=by
  intro e;subst e
  rw[h.new b (au _)]at hb;cases hb
 rw[bY.iD _ _ cG];exact hb
theorem HR.forget(h:HR ρ H nx hp)(b:Nat):HR ρ (cA (at_ b) H none) nx hp:=by
 have key:∀c k,ah (cA (at_ b) H none) (at_ c)=some k->ah H (at_ c)=some k:=by
  intro c k hc;by_cases e:at_ c=at_ b
  ·rw[e,cB]at hc;cases hc
  ·rwa [bz _ _ _ _ e]at hc
 exact⟨λc k hc=>h.blk c k (key c k hc),λc d k l r s hc hd=>h.inj c d k l r s (key _ _ hc) (key _ _ hd),h.new⟩
theorem mf.qh{b k:Nat}(h:mf ρ (cA (at_ b) H none) k):mf ρ H k:=by
 obtain⟨c,x,r,hc,hm,hr,e⟩:=h;refine⟨c,x,r,?_,hm,hr,e⟩;by_cases e:at_ c=at_ b
 ·rw[e,cB]at hc;cases hc
 ·rwa [bz _ _ _ _ e]at hc
theorem HR.make(h:HR ρ H nx hp){m6:Array Obj}{k:jb}{r:Ref}(hold:∀b x s,ah H (at_ b)=some x->ρ b=some s->m6[s.blk]?=hp[s.blk]?/\s.blk≠r.blk)(hk:BR (ρ.with nx r) m6 r k) :
  HR (ρ.with nx r) (cA (at_ nx) H (some k)) (nx+1) m6:=by
 have ext:=h.gz r;have mQ:∀b x,ah (cA (at_ nx) H (some k)) (at_ b)=some x->(b=nx/\x=k)\/(b≠nx/\ah H (at_ b)=some x):=by
  intro b x hb;by_cases e:at_ b=at_ nx
  ·rw[e,cB]at hb;exact .inl ⟨gy e,by simpa using hb.symm⟩
  ·rw[bz _ _ _ _ e]at hb;exact .inr ⟨λe'=>e (by rw[e']),hb⟩
 refine⟨λb x hb=>?_,λb c x y s t hb hc hm hs ht e=>?_,λb hb=>?_⟩
 ·rcases mQ b x hb with⟨rfl,rfl⟩|⟨cG,hb⟩
  ·exact⟨r,bY.fu _ _ _,hk⟩
  ·obtain⟨s,hs,zO⟩:=h.blk b x hb;exact⟨s,ext b s hs,(zO.mono ext).of_same (hold b x s hb hs).1⟩
 ·rcases mQ b x hb with⟨eb,_⟩|⟨sQ,ia⟩
  ·rcases mQ c y hc with⟨ec,_⟩|⟨Oj,hc'⟩
   ·rw[eb,ec]
   ·rw[eb,bY.fu]at hs;cases hs
    rw[bY.iD _ _ Oj]at ht;exact absurd e.symm (hold c y t hc' ht).2
  ·rcases mQ c y hc with⟨ec,_⟩|⟨Oj,hc'⟩
   ·rw[ec,bY.fu]at ht;cases ht
    rw[bY.iD _ _ sQ]at hs;exact absurd e (hold b x s ia hs).2
   ·rw[bY.iD _ _ sQ]at hs;rw[bY.iD _ _ Oj]at ht;exact h.inj b c x y s t ia hc' hm hs ht e
 ·rw[bY.iD _ _ (by omega)];exact h.new b (by omega)
theorem mf.wY{k:jb}{r:Ref}{j:Nat}(h:mf (ρ.with nx r) (cA (at_ nx) H (some k)) j):j=r.blk\/mf ρ H j:=by
 obtain⟨b,x,s,hb,hm,hs,e⟩:=h;by_cases e':at_ b=at_ nx
 ·have:=gy e';subst this
  rw[bY.fu]at hs;cases hs
  exact .inl e.symm
 ·rw[bz _ _ _ _ e']at hb;rw[bY.iD _ _ (λe=>e' (by rw[e]))]at hs;exact .inr ⟨b,x,s,hb,hm,hs,e⟩
theorem HR.write(h:HR ρ H nx hp){m6:Array Obj}{b:Nat}{k0 k:jb}{r:Ref}(hb:ah H (at_ b)=some k0)(hr:ρ b=some r)(hold:∀i,i≠r.blk->m6[i]?=hp[i]?)(hk:BR ρ m6 r k)(wZ:k0.kj=true:=by rfl):HR ρ (cA (at_ b) H (some k)) nx m6:=by
 have mQ:∀c x,ah (cA (at_ b) H (some k)) (at_ c)=some x->(c=b/\x=k)\/(c≠b/\ah H (at_ c)=some x):=by
  intro c x hc;by_cases e:at_ c=at_ b
  ·rw[e,cB]at hc;exact .inl ⟨gy e,by simpa using hc.symm⟩
  ·rw[bz _ _ _ _ e]at hc;exact .inr ⟨λe'=>e (by rw[e']),hc⟩
 have back:∀c x,ah (cA (at_ b) H (some k)) (at_ c)=some x->∃y,ah H (at_ c)=some y/\(x.kj=true->y.kj=true):=by
  intro c x hc;rcases mQ c x hc with⟨rfl,rfl⟩|⟨_,hc⟩
  ·exact⟨k0,hb,λ_=>wZ⟩
  ·exact⟨x,hc,id⟩
 refine⟨λc x hc=>?_,λc d x y s t hc hd hm hs ht e=>?_,h.new⟩
 ·rcases mQ c x hc with⟨rfl,rfl⟩|⟨cG,hc⟩
  ·exact⟨r,hr,hk⟩
  ·obtain⟨s,hs,zO⟩:=h.blk c x hc;refine⟨s,hs,zO.of_same (hold _ λe=>cG (h.inj b c k0 x r s hb hc wZ hr hs e.symm).symm)⟩
 ·obtain⟨x',hc',Ck⟩:=back c x hc;obtain⟨y',Hn,_⟩:=back d y hd;exact h.inj c d x' y' s t hc' Hn (Ck hm) hs ht e
theorem mf.pw{b:Nat}{k0 k:jb}{j:Nat}(hb:ah H (at_ b)=some k0)(h:mf ρ (cA (at_ b) H (some k)) j)(wZ:k0.kj=true:=by rfl):mf ρ H j:=by
 obtain⟨c,x,s,hc,hm,hs,e⟩:=h;by_cases e':at_ c=at_ b
 ·exact⟨c,k0,s,by rw[e'];exact hb,wZ,hs,e⟩
 ·rw[bz _ _ _ _ e']at hc;exact⟨c,x,s,hc,hm,hs,e⟩
end steps
end
section
theorem fw(l:List Value):∀n,fq l n=l.drop n:=by
 induction l with
 | nil=>intro n;cases n<;>rfl
 | cons c l ih=>
  intro n;cases n with
  | zero=>rfl
  | succ n=>exact ih n
theorem take?_eq(n:Nat):∀(l r:List Value),take? n l=some r->r=l.take n/\n<=l.length:=by
 induction n with
 | zero=>intro l r h;cases h;simp
 | succ n ih=>
  intro l r h;cases l with
  | nil=>cases h
  | cons c l=>
   have h':(Option.rec none (λr=>some (c::r)) (take? n l):Option (List Value))=some r:=h;cases e:take? n l with
   | none=>rw[e]at h';cases h'
   | some q=>
    rw[e]at h';have WT:some (c::q)=some r:=h';obtain⟨h1,h2⟩:=ih l q e;cases WT;exact⟨by rw[h1];rfl,by simpa using h2⟩
theorem take?_get{n:Nat}{l r:List Value}(h:take? n l=some r):r.length=n/\∀i,i<n->r[i]?=l[i]?:=by
 obtain⟨h1,h2⟩:=take?_eq n l r h;subst h1;exact⟨by simp;omega,λi hi=>by rw[wA];simp[hi]⟩
theorem Ol(l:List Value):AZ l=l[0]?:=by cases l<;>rfl
theorem vC{cs:List Value}{off:Nat}{v:Value}(h:partOf cs off none=some v):cs[off]?=some v:=by
 have h':AZ (fq cs off)=some v:=h;rw[Ol,fw,List.getElem?_drop]at h'
 simpa using h'
theorem vD{cs:List Value}{off n:Nat}{v:Value}(h:partOf cs off (some n)=some v) :
  ∃l,v=.agg ⟨l⟩/\l.length=n/\∀i,i<n->l[i]?=cs[off+i]?:=by
 have h':Vn (take? n (fq cs off))=some v:=h;cases e:take? n (fq cs off)with
 | none=>rw[e]at h';cases h'
 | some l=>
  rw[e]at h';have WT:some (Value.agg l.toArray)=some v:=h';cases WT;obtain⟨h1,h2⟩:=take?_get e;refine⟨l,rfl,h1,λi hi=>?_⟩;rw[h2 i hi,fw,List.getElem?_drop]
variable {P:Program}{w:World}
theorem k8{α:Type}{s:Sem α}{a:α}(h:quiet P s=some a):s.run P w=.ok a w:=by
 induction s with
 | pure b=>cases h;rfl
 | program k ih=>exact ih P h
 | _=>cases h
theorem np{t:TypeId}{i:TypeInfo}(h:P.info? t=some i):(typeInfo t).run P w=.ok i w:=by
 simp[typeInfo,h]
theorem eU{t:TypeId}{n:Nat}(h:cQ P t=some n):(sizeOf t).run P w=.ok n w:=by
 unfold cQ at h;cases e:P.info? t with
 | none=>rw[e]at h;cases h
 | some i=>
  rw[e]at h;simp at h;simp[sizeOf,np e,h]
theorem Lg{t:TypeId}{n:Nat}(h:mo P t=some n):∃i,(typeInfo t).run P w=.ok i w/\i.bytes=n:=by
 unfold mo at h;cases e:P.info? t with
 | none=>rw[e]at h;cases h
 | some i=>
  rw[e]at h;simp at h;exact⟨i,np e,h⟩
theorem A7{t:TypeId}{n:Nat}(h:sL P t=some (some n)):(isAgg t).run P w=.ok true w/\(sizeOf t).run P w=.ok n w:=by
 unfold sL at h;split at h
 ·rename_i i fs hi hu;cases h;exact⟨by simp[isAgg,run_underlying hu],by simp[sizeOf,np hi]⟩
 ·rename_i i a b hi hu;cases h;exact⟨by simp[isAgg,run_underlying hu],by simp[sizeOf,np hi]⟩
 ·cases h
 ·cases h
theorem A8{t:TypeId}(h:sL P t=some none):(isAgg t).run P w=.ok false w:=by
 unfold sL at h;split at h
 ·cases h
 ·cases h
 ·rename_i i d h1 h2 hi hu;have hd:(underlying t).run P w=.ok d w:=run_underlying hu w;simp only[isAgg,Sem.run_bind,hd,Result.andThen_ok];cases d with
  | struct fs=>exact(h1 fs rfl).elim
  | array n e=>exact(h2 n e rfl).elim
  | _=>rfl
 ·cases h
theorem jq{t:TypeId}{z:Value}(h:iC P t=some z):(zeroValue t).run P w=.ok z w/\kP z=true:=by
 unfold iC at h;split at h
 ·rename_i i hi;split at h
  ·rename_i z' hz;cases hc:kP z' with
   | false=>rw[hc]at h;cases h
   | true=>
    rw[hc]at h;have h':some z'=some z:=h;cases h';exact⟨by simp[zeroValue,np hi,hz],hc⟩
  ·cases h
 ·cases h
theorem cell_of{hp:Array Obj}{b o:Nat}{a:Array Value}{e:TypeId}{f:Nat×Nat}{v:Value}(w:World)(hw:w.heap=hp)(h:hp[b]?=some (.cells a e f))(hv:a[o]?=some v):w.cell? ⟨b,o,none⟩=some v:=by
 unfold World.cell?;rw[hw];simp[h,hv]
theorem Ak{a:Addr}{v:Value}(h:w.cell? a=some v):(load a).run P w=.ok v w:=by
 simp[load,Sem.run,h]
theorem run_loadCellsFrom(b o:Nat)(f:Nat->Value):∀(n i:Nat) (acc:Array Value),(∀j,j<n->w.cell? ⟨b,o+(i+j),none⟩=some (f (i+j)))->
  (loadCellsFrom ⟨b,o,none⟩ i n acc).run P w=.ok (acc++((List.range n).map λj=>f (i+j)).toArray) w:=by
 intro n
 induction n with
 | zero=>intro i acc _;simp[loadCellsFrom,Sem.run_pure]
 | succ n ih=>
  intro i acc h;have h0:(load (Addr.add ⟨b,o,none⟩ i)).run P w=.ok (f i) w:=by
   rw[Addr.add_lit];exact Ak (by simpa using h 0 (by omega))
  simp only[loadCellsFrom,Sem.run_bind,h0,Result.andThen_ok];rw[ih (i+1) (acc.push (f i)) (λj hj=>by have:=h (j+1) (by omega);rw[show i+1+j=i+(j+1) by omega];exact this)]
  congr 1
  apply Array.ext';simp[List.range_succ_eq_map];intro a _;congr 1;omega
theorem run_loadCells{b o n:Nat}{l:List Value}(hl:l.length=n)(h:∀i v,l[i]?=some v->w.cell? ⟨b,o+i,none⟩=some v):(loadCells ⟨b,o,none⟩ n).run P w=.ok ⟨l⟩ w:=by
 have:=run_loadCellsFrom (P:=P) (w:=w) b o (λi=>l.getD i undef) n 0 #[] (λj hj=>by
  have Ho:j<l.length:=by omega
  have:=h j l[j] (by simp[Ho])
  simpa[aY,Ho]using this)
 unfold loadCells;rw[this]
 congr 1
 apply Array.ext';simp;apply List.ext_getElem
 ·simp[hl]
 ·intro i h1 h2;simp;simp at h1;rw[aM (by omega)];rfl
end
section
variable {P:Program}{w:World}{ρ:bY}{H:Heap}{nx:Nat}{r:Ex×St}
theorem VR.JA{cs:Array Value}{u:Value}(h:VR ρ (.agg cs) u):∃cs',u=.agg cs'/\dJ ρ cs.toList cs'.toList:=by
 cases h with
 | sc h=>simp[scalar]at h
 | agg h=>exact⟨_,rfl,h⟩
theorem VR.Lh{cs:Array Value}{u:Value}(h:VR ρ (.tuple cs) u):∃cs',u=.tuple cs'/\dJ ρ cs.toList cs'.toList:=by
 cases h with
 | sc h=>simp[scalar]at h
 | tuple h=>exact⟨_,rfl,h⟩
theorem VR.jr{k:IntKind}{n:Int}{u:Value}(h:VR ρ (.int k n) u):u=.int k n:=h.eM rfl
theorem VR.sS{b:Bool}{u:Value}(h:VR ρ (.bool b) u):u=.bool b:=h.eM rfl
theorem VR.sT{b o:Nat}{u:Value}(h:VR ρ (.pointer (some ⟨b,o,none⟩)) u):∃s,ρ b=some s/\u=.pointer (some ⟨s.blk,s.sh+o,none⟩):=by
 cases h with
 | sc h=>simp[scalar]at h
 | ptr h=>exact⟨_,h,rfl⟩
theorem lF{v:Value}{k:Nat->Nat->R0}(h:dU v k=some r):∃b o,v=.pointer (some ⟨b,o,none⟩)/\k b o=some r:=by
 unfold dU at h;split at h
 ·exact⟨_,_,rfl,h⟩
 ·cases h
theorem fL{v:Value}{k:Nat->R0}(h:dp v k=some r):∃(i:IntKind) (n:Nat),v=.int i (.ofNat n)/\k n=some r:=by
 unfold dp at h;split at h
 ·exact⟨_,_,rfl,h⟩
 ·cases h
theorem xN{v:Value}{k:List Value->R0}(h:rj v k=some r):∃cs:Array Value,v=.agg cs/\k cs.toList=some r:=by
 unfold rj at h;split at h
 ·exact⟨_,rfl,h⟩
 ·cases h
theorem nq{v:Value}{k:Nat->Nat->Nat->Nat->Nat->R0}(h:wD v k=some r):∃b o z len c,v=.slice (some ⟨b,o,some z⟩) len c/\k b o z len c=some r:=by
 unfold wD at h;split at h
 ·exact⟨_,_,_,_,_,rfl,h⟩
 ·cases h
theorem py{v:Value}{a b:R0}(h:hY v a b=some r):(v=.bool true/\a=some r)\/(v=.bool false/\b=some r):=by
 unfold hY at h;split at h
 ·rename_i t;cases t
  ·exact .inr ⟨rfl,h⟩
  ·exact .inl ⟨rfl,h⟩
 ·cases h
theorem ct{c:Bool}{a:R0}(h:cond c a none=some r):c=true/\a=some r:=by
 cases c
 ·cases h
 ·exact⟨rfl,h⟩
theorem fG{b:Nat}{k:List Value->R0}(h:eY H b k=some r):∃cs,ah H (at_ b)=some (.cells cs)/\k cs=some r:=by
 unfold eY wV at h;cases e:ah H (at_ b)with
 | none=>rw[e]at h;cases h
 | some x=>
  rw[e]at h;cases x with
  | cells cs=>exact⟨cs,rfl,h⟩
  | map es c=>cases h
  | ro cs=>cases h
  | iter _ _ _ _=>cases h
theorem pz{b:Nat}{k:List Value->R0}(h:db H b k=some r):∃cs x,ah H (at_ b)=some x/\(∀(ρ:bY) (hp:Array Obj) (s:Ref),BR ρ hp s x->Th ρ hp s cs)/\k cs=some r:=by
 unfold db onRead at h;cases e:ah H (at_ b)with
 | none=>rw[e]at h;cases h
 | some x=>
  rw[e]at h;cases x with
  | cells cs=>exact⟨cs,_,rfl,λ_ _ _ h=>let ⟨a,e,h1,h2⟩:=h;⟨a,e,_,h1,h2⟩,h⟩
  | map es c=>cases h
  | ro cs=>exact⟨cs,_,rfl,λ_ _ _ h=>h,h⟩
  | iter _ _ _ _=>cases h
theorem iP{b:Nat}{k:List MapEntry->Nat->R0}(h:jI (ah H (at_ b)) k=some r):∃es c,ah H (at_ b)=some (.map es c)/\k es c=some r:=by
 unfold jI at h;cases e:ah H (at_ b)with
 | none=>rw[e]at h;cases h
 | some x=>
  rw[e]at h;cases x with
  | cells cs=>cases h
  | map es c=>exact⟨es,c,rfl,h⟩
  | ro cs=>cases h
  | iter _ _ _ _=>cases h
theorem xO{t:TypeId}{off:Nat}{g:Option Nat}{a a':List Value}{v:Value}(hg:sL P t=some g)(hr:dJ ρ a a')(h:partOf a off g=some v) :
  ∃u,(part t ⟨a'⟩ off).run P w=.ok u w/\VR ρ v u:=by
 cases g with
 | none=>
  obtain⟨u,hu,hv⟩:=hr.get (vC h);refine⟨u,?_,hv⟩;simp[part,A8 hg,hu,Sem.run_pure]
 | some n=>
  obtain⟨l,rfl,hl,hi⟩:=vD h;obtain⟨h1,h2⟩:=A7 (w:=w) hg;refine⟨.agg (Array.extract ⟨a'⟩ off (off+n)),by simp[part,h1,h2,Sem.run_pure],?_⟩;have qi:=hr.length;have hlen:n=0\/off+n<=a.length:=by
   by_cases hn:n=0
   ·exact .inl hn
   ·right;have h0:=hi (n-1) (by omega);rw[aM (by omega)]at h0;have:=(cS.1 h0.symm).1;omega
  have hx:(Array.extract ⟨a'⟩ off (off+n))=⟨(a'.drop off).take n⟩:=by
   apply Array.ext';simp[Array.toList_extract,List.extract_eq_take_drop]
  rw[hx];refine .agg (.xM ?_ λi u hu=>?_)
  ·simp;omega
  ·have ie:i<n:=by rw[<-hl];exact(cS.1 hu).1
   rw[hi i ie]at hu;obtain⟨u',hu',hv⟩:=hr.get hu;exact⟨u',by rw[wA];simp[ie,hu'],hv⟩
theorem xP{t:TypeId}{o:Nat}{g:Option Nat}{cs:List Value}{s:Ref}{v:Value}(hg:sL P t=some g)(hb:Th ρ w.heap s cs)(h:partOf cs o g=some v) :
  ∃u,(loadVar t ⟨s.blk,s.sh+o,none⟩).run P w=.ok u w/\VR ρ v u:=by
 obtain⟨a,e,f,h1,h2,h3⟩:=hb;cases g with
 | none=>
  obtain⟨u,hu,hv⟩:=h3 _ _ (vC h);refine⟨u,?_,hv⟩;simp[loadVar,A8 hg,cell_of w rfl h1 hu]
 | some n=>
  obtain⟨l,rfl,hl,hi⟩:=vD h;obtain⟨g1,g2⟩:=A7 (w:=w) hg;have key:∀m,m<=n->∃l':List Value,l'.length=m/\∀i,i<m->∃x y,l[i]?=some x/\l'[i]?=some y/\a[s.sh+(o+i)]?=some y/\VR ρ x y:=by
   intro m
   induction m with
   | zero=>intro _;exact⟨[],rfl,λi hi=>by omega⟩
   | succ m ih=>
    intro hm;obtain⟨l',mR,hq⟩:=ih (by omega);have hx:l[m]?=some l[m]:=aM (by omega);obtain⟨y,hy,hv⟩:=h3 (o+m) l[m] (by rw[<-hi m (by omega)];exact hx);refine⟨l'++[y],by simp[mR],λi ie=>?_⟩;by_cases e:i=m
    ·subst e;exact⟨_,y,hx,by simp[mR],hy,hv⟩
    ·obtain⟨x,z,q1,q2,q3,q4⟩:=hq i (by omega);exact⟨x,z,q1,by rw[eC (by omega)];exact q2,q3,q4⟩
  obtain⟨l',mR,hq⟩:=key n (au _);have fT:(loadCells ⟨s.blk,s.sh+o,none⟩ n).run P w=.ok ⟨l'⟩ w:=run_loadCells mR λi v hv=>by
   have ie:i<n:=by rw[<-mR];exact(cS.1 hv).1
   obtain⟨x,y,q1,q2,q3,q4⟩:=hq i ie;rw[hv]at q2;cases q2
   exact cell_of w rfl h1 (by rw[Nat.add_assoc];exact q3)
  refine⟨.agg ⟨l'⟩,by simp[loadVar,g1,g2,fT,Sem.run_pure],.agg (.xM (by omega) λi x hx=>?_)⟩;have ie:i<n:=by rw[<-hl];exact(cS.1 hx).1
  obtain⟨x',y,q1,q2,q3,q4⟩:=hq i ie;rw[hx]at q1;cases q1
  exact⟨y,q2,q4⟩
theorem uC{t:TypeId}{g:Option Nat}{v u:Value}{k:KV}(hg:sL P t=some g)(hH:HR ρ H nx w.heap)(hv:VR ρ v u)(h:(dU v λb o=>db H b λcs=>bd (partOf cs o g) k)=some r):∃x y,k x=some r/\(Instr.loadAt t u).run P w=.ok y w/\VR ρ x y:=by
 obtain⟨b,o,rfl,h⟩:=lF h;obtain⟨cs,xb,hb,SA,h⟩:=pz h;obtain⟨x,hx,h⟩:=bn h;obtain⟨s,hs,rfl⟩:=hv.sT;obtain⟨s',fD,zO⟩:=hH.blk b _ hb;have zO:=SA _ _ _ zO;rw[hs]at fD;cases fD
 obtain⟨y,hy,oT⟩:=xP (w:=w) hg zO hx;exact⟨x,y,h,by simpa[Instr.loadAt,Instr.sureAddr,Sem.run_pure]using hy,oT⟩
theorem Li{t:TypeId}{f:Nat}{fs:Array Field}{fd:Field}{g:Option Nat}{v u:Value}{k:KV}(hu:P.underlying t=some (.struct fs))(hf:fs.toList[f]?=some fd)(hg:sL P fd.type=some g)(hv:VR ρ v u)(h:(rj v λcs=>bd (partOf cs fd.offset g) k)=some r):∃x y,k x=some r/\(Instr.field t u f).run P w=.ok y w/\VR ρ x y:=by
 obtain⟨cs,rfl,h⟩:=xN h;obtain⟨x,hx,h⟩:=bn h;obtain⟨cs',rfl,hr⟩:=hv.JA;obtain⟨y,hy,oT⟩:=xO (w:=w) hg hr hx;refine⟨x,y,h,?_,oT⟩;have hf':fs[f]?=some fd:=by rw[<-Array.getElem?_toList];exact hf
 simpa[Instr.field,run_underlying hu,hf',asAgg,Sem.run_pure]using hy
theorem Lj{t:TypeId}{f:Nat}{fs:Array Field}{fd:Field}{n:Nat}{v u:Value}{k:KV}(hu:P.underlying t=some (.struct fs))(hf:fs.toList[f]?=some fd)(hn:cQ P fd.type=some (n+1))(hv:VR ρ v u)(h:(dU v λb o=>Jt b (Nat.add o fd.offset) k)=some r):∃x y,k x=some r/\(Instr.fieldAt t u f).run P w=.ok y w/\VR ρ x y:=by
 obtain⟨b,o,rfl,h⟩:=lF h;obtain⟨s,hs,rfl⟩:=hv.sT;have hf':fs[f]?=some fd:=by rw[<-Array.getElem?_toList];exact hf
 refine⟨_,.pointer (some ⟨s.blk,s.sh+(o+fd.offset),none⟩),h,?_,.ptr hs⟩;simp[Instr.fieldAt,run_underlying hu,hf',Instr.sureAddr,fieldPlace,eU hn,Sem.run_pure,Addr.add_lit,Nat.add_assoc]
theorem Lk{t e:TypeId}{z:Nat}{v u i j:Value}{k:KV}(hu:P.underlying t=some (.slice e))(hz:cQ P e=some z)(hv:VR ρ v u)(hi:VR ρ i j)(h:(dp i λn=>wD v (WK z n k))=some r):∃x y,k x=some r/\(Instr.indexAt t u j).run P w=.ok y w/\VR ρ x y:=by
 obtain⟨ki,n,rfl,h1⟩:=fL h;obtain⟨b,o,z',len,c,rfl,h2⟩:=nq h1;obtain⟨hc,h3⟩:=ct h2;have hj:=hi.jr;subst hj
 simp only[gd]at hc;have hn:n<len:=by simpa[Nat.blt_eq]using hc.1
 have Ll:z=z':=dB hc.2;subst Ll;clear h h1 h2;cases hv with
 | sc h=>simp[scalar]at h
 | @sl _ _ _ _ _ p c' s hs hl qj he hp=>
  have m6:p=s.sh+o:=by rcases hp with h0|h0<;>omega
  refine⟨_,.pointer (some ⟨s.blk,s.sh+(o+n*z),none⟩),h3,?_,.ptr hs⟩;subst m6;simp[Instr.indexAt,asIntOf,run_underlying hu,eU hz,hn,Addr.add_lit,Nat.add_assoc]
theorem Lm{t e:TypeId}{z len:Nat}{v u i j:Value}{k:KV}(hu:P.underlying t=some (.array len e))(hz:cQ P e=some z)(hv:VR ρ v u)(hi:VR ρ i j)(h:(dp i λn=>dU v (WL n len z k))=some r):∃x y,k x=some r/\(Instr.indexAt t u j).run P w=.ok y w/\VR ρ x y:=by
 obtain⟨ki,n,rfl,h1⟩:=fL h;obtain⟨b,o,rfl,h2⟩:=lF h1;obtain⟨hc,h3⟩:=ct h2;have hj:=hi.jr;subst hj
 have hn:n<len:=by simpa[Nat.blt_eq]using hc
 obtain⟨s,hs,rfl⟩:=hv.sT;refine⟨_,.pointer (some ⟨s.blk,s.sh+(o+n*z),none⟩),h3,?_,.ptr hs⟩;simp[Instr.indexAt,asIntOf,Instr.sureAddr,run_underlying hu,eU hz,hn,Addr.add_lit,Nat.add_assoc]
theorem Om{t e:TypeId}{z len:Nat}{g:Option Nat}{v u i j:Value}{k:KV}(hu:P.underlying t=some (.array len e))(hg:sL P e=some g)(hz:cQ P e=some z)(hv:VR ρ v u)(hi:VR ρ i j)(h:(dp i λn=>rj v λcs=>cond (Nat.blt n len) (bd (partOf cs (Nat.mul n z) g) k) none)=some r):∃x y,k x=some r/\(Instr.index t u j).run P w=.ok y w/\VR ρ x y:=by
 obtain⟨ki,n,rfl,h1⟩:=fL h;obtain⟨cs,rfl,h2⟩:=xN h1;obtain⟨hc,h3⟩:=ct h2;obtain⟨x,hx,h4⟩:=bn h3;have hj:=hi.jr;subst hj
 have hn:n<len:=by simpa[Nat.blt_eq]using hc
 obtain⟨cs',rfl,hr⟩:=hv.JA;obtain⟨y,hy,oT⟩:=xO (w:=w) hg hr hx;refine⟨x,y,h4,?_,oT⟩
 simpa[Instr.index,asIntOf,run_underlying hu,eU hz,hn]using hy
theorem Ln{i:Nat}{v u:Value}{k:KV}(hv:VR ρ v u)(h:N4 v i k=some r):∃x y,k x=some r/\(Instr.extract u i).run P w=.ok y w/\VR ρ x y:=by
 unfold N4 at h;split at h
 ·rw[nU]at h;obtain⟨x,hx,h1⟩:=bn h;obtain⟨Vv,rfl,hr⟩:=hv.Lh;obtain⟨y,hy,oT⟩:=hr.get hx;refine⟨x,y,h1,?_,oT⟩;have Nq:Vv[i]?=some y:=by rw[<-Array.getElem?_toList];exact hy
  simp[Instr.extract,Nq,Sem.run_pure]
 ·cases h
theorem D9{v u:Value}{k:KV}(hv:VR ρ v u)(h:xC v k=some r):∃x y,k x=some r/\
  (match u with
   | .pointer none | .nilIface | .nilFunc=>runtimePanic .nilDeref
   | .func (.method name) first captured=>
    match (first[0]? : Option Value)with
    | some .nilIface=>runtimePanic .nilDeref
    | some (.iface t w)=>do
     if (<-nilAhead ((<-program).types.size+Made.depth) t w name) != some false then
      unsupported (.noEntry "op/nilCheck.the method's receiver behind this interface value is a nil pointer, or cannot be seen to be none, and the arguments act or may panic (ledger 612)")
     pure (.value (.func (.method name) first captured))
    | _=>pure (.value (.func (.method name) first captured))
   | x=>pure (.value x):Sem Next).run P w=.ok (.value y) w/\VR ρ x y:=by
 unfold xC at h;split at h
 ·cases hv with
  | sc h=>simp[scalar]at h
  | @ptr b o s hs=>exact⟨_,_,h,rfl,.ptr hs⟩
 ·cases hv with
  | sc h=>simp[scalar]at h
  | func h1 h2=>exact⟨_,_,h,rfl,.func h1 h2⟩
 ·cases h
theorem dJ.jo{a a':List Value}(h:dJ ρ a a')(hs:a.all flat=true):a'=a:=by
 induction a generalizing a' with
 | nil=>cases h;rfl
 | cons v a ih=>
  cases h with
  | cons h hr=>
   simp only[List.all_cons,gd]at hs;rw[h.jo hs.1,ih hr hs.2]
theorem Ea{vs:List Value}{s:Sem Value}{x:Value}(h:jH P vs s=some x):vs.all flat=true/\quiet P s=some x/\flat x=true:=by
 unfold jH at h;cases hf:vs.all flat with
 | false=>rw[hf]at h;cases h
 | true=>
  rw[hf]at h;cases hq:quiet P s with
  | none=>rw[hq]at h;cases h
  | some v=>
   rw[hq]at h;cases hv:flat v with
   | false=>simp[hv]at h
   | true=>
    simp[hv]at h;subst h;exact⟨rfl,rfl,hv⟩
theorem js{vs us:List Value}{s:Sem Value}{k:KV}(mS:dJ ρ vs us)(h:bd (jH P vs s) k=some r):us=vs/\∃x,k x=some r/\s.run P w=.ok x w/\VR ρ x x:=by
 obtain⟨x,hx,h1⟩:=bn h;obtain⟨hf,hq,hv⟩:=Ea hx;exact⟨mS.jo hf,x,h1,k8 hq,.of_flat hv⟩
theorem On{op:UnOp}{v u:Value}{k:KV}(hv:VR ρ v u)(h:bd (jH P [v] (Op.unary op v)) k=some r):∃x y,k x=some r/\(Op.unary op u).run P w=.ok y w/\VR ρ x y:=by
 obtain⟨e,x,h1,h2,h3⟩:=js (w:=w) (.cons hv .nil) h;cases e;exact⟨x,x,h1,h2,h3⟩
theorem Lo{s d:TypeId}{v u:Value}{k:KV}(hv:VR ρ v u)(h:bd (jH P [v] (convert s d v)) k=some r):∃x y,k x=some r/\(convert s d u).run P w=.ok y w/\VR ρ x y:=by
 obtain⟨e,x,h1,h2,h3⟩:=js (w:=w) (.cons hv .nil) h;cases e;exact⟨x,x,h1,h2,h3⟩
theorem Lp{t:TypeId}{v u i j:Value}{k:KV}(hv:VR ρ v u)(hi:VR ρ i j)(h:bd (jH P [v,i] (Instr.index t v i)) k=some r):∃x y,k x=some r/\(Instr.index t u j).run P w=.ok y w/\VR ρ x y:=by
 obtain⟨e,x,h1,h2,h3⟩:=js (w:=w) (.cons hv (.cons hi .nil)) h;cases e;exact⟨x,x,h1,h2,h3⟩
theorem Lq{t:TypeId}{d:TypeDesc}{v u:Value}{k:KV}(hd:P.underlying t=some d)(hn:∀ms,d≠.interface ms)(hv:VR ρ v u)(h:k (.iface t v)=some r) :
  ∃x y,k x=some r/\(Instr.makeInterface t u).run P w=.ok y w/\VR ρ x y:=by
 refine⟨_,_,h,?_,.iface hv⟩;simp only[Instr.makeInterface,Sem.run_bind,run_underlying hd,Result.andThen_ok];cases d with
 | interface ms=>exact absurd rfl (hn ms)
 | _=>rfl
theorem Lr{t e ty:TypeId}{v u:Value}{k:KV}(hu:P.underlying t=some (.slice e))(hv:VR ρ v u)(h:D3 v k=some r):∃x y,k x=some r/\(Builtin.cap_ #[t] ty #[u]).run P w=.ok y w/\VR ρ x y:=by
 unfold D3 at h;split at h
 ·cases hv with
  | sc h=>simp[scalar]at h
  | mP=>exact⟨_,_,h,by simp[Builtin.cap_,run_underlying hu,goInt,Sem.run_pure],.sc rfl⟩
 ·rename_i c;cases hv with
  | sc h=>simp[scalar]at h
  | Jz=>
   have h':k (.int .i64 (.ofNat 0))=some r:=h;exact⟨_,_,h',by simp[Builtin.cap_,run_underlying hu,goInt,Sem.run_pure],.sc rfl⟩
  | @sl _ _ _ _ _ _ c' _ hs hl qj hx hp=>
   cases he:exact c with
   | true=>
    rw[he]at h;refine⟨_,_,h,?_,.sc rfl⟩;rw[<-hx he];simp[Builtin.cap_,run_underlying hu,goInt,Sem.run_pure]
   | false=>
    rw[he]at h;refine⟨_,.int .i64 (c':Int),h,by simp[Builtin.cap_,run_underlying hu,goInt,Sem.run_pure],.AY ?_⟩;have hm:=hl.2;unfold ft at hm;have h1:DZ (Nat.add (Nat.mul (aF c) 18446744073709551616) 9223372036854775807)=aF c:=by
     show (aF c*18446744073709551616+9223372036854775807) / 18446744073709551616=_;omega
    have h2:A0 (Nat.add (Nat.mul (aF c) 18446744073709551616) 9223372036854775807)=9223372036854775807:=by
     show (aF c*18446744073709551616+9223372036854775807)%18446744073709551616=_;omega
    rw[h1,h2];omega
 ·cases h
theorem Ls{t e ty:TypeId}{v u:Value}{k:KV}(hd:P.underlying t=some (.slice e))(hv:VR ρ v u)(h:N6 v k=some r) :
  ∃x y,k x=some r/\(Builtin.len_ #[t] ty #[u]).run P w=.ok y w/\VR ρ x y:=by
 unfold N6 at h;split at h
 ·cases hv with
  | sc h=>simp[scalar]at h
  | mP=>exact⟨_,_,h,by simp[Builtin.len_,run_underlying hd,goInt,Sem.run_pure],.sc rfl⟩
  | sl hs hl qj hx hp=>exact⟨_,_,h,by simp[Builtin.len_,run_underlying hd,goInt,Sem.run_pure],.sc rfl⟩
  | Jz=>exact⟨_,_,h,by simp[Builtin.len_,run_underlying hd,goInt,Sem.run_pure],.sc rfl⟩
 ·cases h
theorem Lt{t ty:TypeId}{v u:Value}{k:KV}(hd:P.underlying t=some .string)(hv:VR ρ v u)(h:N7 v k=some r) :
  ∃x y,k x=some r/\(Builtin.len_ #[t] ty #[u]).run P w=.ok y w/\VR ρ x y:=by
 unfold N7 at h;split at h
 ·have hu:=hv.eM rfl;subst hu;exact⟨_,_,h,by simp[Builtin.len_,run_underlying hd,goInt,Sem.run_pure],.sc rfl⟩
 ·cases h
end
section
variable {P:Program}{w:World}{ρ:bY}{H:Heap}{nx:Nat}{r:Ex×St}
theorem VR.dg{v u:Value}{kd:Nat}{b:Bool}(h:VR ρ v u)(hn:dg kd v=some b):Go.Eng.dg kd u=some b:=by
 cases h with
 | sc h=>exact hn
 | wF=>exact hn
 | D8=>exact hn
 | mP=>exact hn
 | wG=>exact hn
 | Jz=>unfold Go.Eng.dg at hn ⊢;split at hn<;>simp_all
 | any h=>
  unfold Go.Eng.dg at hn;split at hn<;>simp_all
 | ptr h=>
  unfold Go.Eng.dg at hn ⊢;split at hn<;>simp_all
 | sl h hl hs he hp=>
  unfold Go.Eng.dg at hn ⊢;split at hn<;>simp_all
 | map h=>
  unfold Go.Eng.dg at hn ⊢;split at hn<;>simp_all
 | func h h'=>
  unfold Go.Eng.dg at hn ⊢;split at hn<;>simp_all
 | iface h=>
  unfold Go.Eng.dg at hn ⊢;split at hn<;>simp_all
 | agg h=>
  unfold Go.Eng.dg at hn ⊢;split at hn<;>simp_all
 | tuple h=>
  unfold Go.Eng.dg at hn ⊢;split at hn<;>simp_all
 | AY h=>
  unfold Go.Eng.dg at hn;split at hn<;>simp_all
def xQ:Nat->TypeDesc->Bool
 | 0,.pointer _|1,.slice _|2,.map _ _|3,.func _ _ _|4,.interface _=>true
 | _,_=>false
theorem Eb(n:Nat){t:TypeId}{d:TypeDesc}{kd:Nat}{u v:Value}{a b:Bool}(hd:P.underlying t=some d)(hk:xQ kd d=true)(ha:dg kd u=some a)(hb:dg kd v=some b)(uD:(a||b)=true) :
  (Op.equalIn (n+1) t u v).run P w=.ok (a&&b) w:=by
 simp only[Op.equalIn,Sem.run_bind,run_underlying hd,Result.andThen_ok];unfold xQ at hk;split at hk
 all_goals first
  | cases hk;done
  | (
    unfold dg at ha hb;split at ha<;>(try contradiction)<;>(try omega)<;>split at hb<;>(try contradiction)<;>(try omega)<;>simp at ha hb<;>subst ha<;>subst hb<;>first|(simp at uD;done)|rfl)
theorem Lu{t:TypeId}{d:TypeDesc}{kd:Nat}{u v:Value}{a b:Bool}(hd:P.underlying t=some d)(hk:xQ kd d=true)(ha:dg kd u=some a)(hb:dg kd v=some b)(uD:(a||b)=true) :
  (Op.equal t u v).run P w=.ok (a&&b) w:=Eb 9999 hd hk ha hb uD
theorem Ec{op:BinOp}{t:TypeId}{d:TypeDesc}{kd:Nat}{x y:Operand}{v u v' u':Value}{k:KV}(ho:op=.eql\/op=.neq)(hd:P.underlying t=some d)(hk:xQ kd d=true)(hc:kd=4->(ef x||ef y)=true)(hv:VR ρ v u)(lY:VR ρ v' u')(h:Cd (lA op) kd v v' k=some r) :
  ∃z q,k z=some r/\(do eqGuard op t x y u u';binOp op t u u':Sem Value).run P w=.ok q w/\VR ρ z q:=by
 unfold Cd at h;obtain⟨a,ha,h1⟩:=bn h;obtain⟨b,hb,h2⟩:=bn h1;obtain⟨uD,h3⟩:=ct h2;have Nr:=hv.dg ha;have ia:=lY.dg hb;have he:=Lu (w:=w) hd hk Nr ia uD;refine⟨_,_,h3,?_,.sc rfl⟩;have hg:(eqGuard op t x y u u').run P w=.ok () w:=by
  unfold dg at Nr ia;split at Nr<;>split at ia<;>(try contradiction)<;>rcases ho with rfl|rfl<;>simp[eqGuard,Sem.run_pure]<;>
   (intro hx hy;have:=hc rfl;cases x<;>cases y<;>simp_all [ef])
 have k9:(binOp op t u u').run P w=.ok (.bool (xor (lA op) (a&&b))) w:=by
  rcases ho with rfl|rfl
  ·have:binOp .eql t u u'=(do pure (.bool (<-Op.equal t u u'))):=by
    unfold dg at Nr ia;split at Nr<;>split at ia<;>(try contradiction)<;>rfl
   rw[this];simp[he,Sem.run_pure,lA]
  ·have:binOp .neq t u u'=(do pure (.bool (!(<-Op.equal t u u')))):=by
    unfold dg at Nr ia;split at Nr<;>split at ia<;>(try contradiction)<;>rfl
   rw[this];simp only[Sem.run_bind,he,Result.andThen_ok,lA];cases a<;>cases b<;>rfl
 simp only[Sem.run_bind,hg,Result.andThen_ok,k9]
theorem Cl(op:BinOp)(t:TypeId)(x y x' y':Operand){u v:Value}(hu:flat u=true):eqGuard op t x y u v=eqGuard op t x' y' u v:=by
 unfold eqGuard;cases u<;>cases v<;>first|rfl|(simp[flat,scalar]at hu)
theorem Oo{a b:Nat}(hb:b<18446744073709551616):DZ (Nat.add (Nat.mul a 18446744073709551616) b)=a:=by
 show (a*18446744073709551616+b) / 18446744073709551616=_;omega
theorem Oq{a b:Nat}(hb:b<18446744073709551616):A0 (Nat.add (Nat.mul a 18446744073709551616) b)=b:=by
 show (a*18446744073709551616+b)%18446744073709551616=_;omega
theorem VR.Js{a b:Nat}{x:Int}(h:(a:Int)<=x)(h':x<=(b:Int))(hb:b<18446744073709551616):VR ρ (Go.Eng.Js a b) (.int .i64 x):=by
 refine .AY ?_;rw[Oo hb,Oq hb];exact⟨h,h'⟩
theorem Ot(k:Nat):A0 k<18446744073709551616:=Nat.mod_lt _ (by decide)
theorem mv{v u:Value}{a b:Nat}(hv:VR ρ v u)(h:cW v=some (a,b)):∃x:Int,u=.int .i64 x/\(a:Int)<=x/\x<=(b:Int)/\(fF v=true->b<18446744073709551616):=by
 unfold cW at h;split at h
 ·have:=hv.eM rfl;subst this;cases h;exact⟨_,rfl,Int.le_refl _,Int.le_refl _,λh=>by cases h⟩
 ·cases h;cases hv with
  | sc h=>simp[scalar]at h
  | AY h=>exact⟨_,rfl,h.1,h.2,λ_=>Ot _⟩
 ·cases h
theorem Ti{n:Int}(h0:0<=n)(h1:n<9223372036854775808):IntKind.i64.wrap n=n:=by
 unfold IntKind.wrap IntKind.signed IntKind.bits;simp only[Bool.true_and,ge_iff_le,DW];split<;>omega
theorem kS{b:Bool}{v q:Value}{z:Option Value}(h:(bif b then some v else z)=some q):(b=true/\q=v)\/(b=false/\z=some q):=by
 cases b
 ·exact .inr ⟨rfl,h⟩
 ·cases h;exact .inl ⟨rfl,rfl⟩
theorem Cm{op:BinOp}{t:TypeId}{x y:Operand}{v u v' u' q:Value}(hv:VR ρ v u)(lY:VR ρ v' u')(h:xB op v v'=some q) :
  ∃q',(do eqGuard op t x y u u';binOp op t u u':Sem Value).run P w=.ok q' w/\VR ρ q q':=by
 unfold xB at h;cases hi:fF v||fF v' with
 | false=>rw[hi]at h;cases h
 | true=>
  rw[hi]at h;cases ha:cW v with
  | none=>simp[ha]at h
  | some p=>
   cases hb:cW v' with
   | none=>simp[ha,hb]at h
   | some p'=>
    obtain⟨a,b⟩:=p;obtain⟨c,d⟩:=p';simp only[ha,hb,cond_true]at h;obtain⟨m,rfl,h1,h2,_⟩:=mv hv ha;obtain⟨n,rfl,h3,h4,_⟩:=mv lY hb;have hg:eqGuard op t x y (.int .i64 m) (.int .i64 n)=Sem.pure ():=by cases op<;>rfl
    have fin:∀q',binOp op t (.int .i64 m) (.int .i64 n)=Sem.pure q'->(do eqGuard op t x y (.int .i64 m) (.int .i64 n);binOp op t (.int .i64 m) (.int .i64 n):Sem Value).run P w=.ok q' w:=by
     intro q' hq;rw[hg,hq];rfl
    have Vw:∀p:Bool,(q=.bool p)->binOp op t (.int .i64 m) (.int .i64 n)=Sem.pure (.bool p)->∃q',(do eqGuard op t x y (.int .i64 m) (.int .i64 n);binOp op t (.int .i64 m) (.int .i64 n):Sem Value).run P w=.ok q' w/\VR ρ q q':=λp hp h=>⟨_,fin _ h,by rw[hp];exact .sc rfl⟩
    unfold vz at h;split at h
    ·rcases kS h with⟨hc,rfl⟩|⟨_,h⟩
     ·have hc:b+d<9223372036854775808:=by simpa[Nat.blt_eq]using hc
      refine⟨.int .i64 (m+n),fin _ ?_,?_⟩
      ·have:binOp .add t (.int .i64 m) (.int .i64 n)=Sem.pure (.int .i64 (IntKind.i64.wrap (m+n))):=by simp[binOp,Op.intArith];rfl
       rw[this,Ti (by omega) (by omega)]
      ·refine VR.Js (a:=a+c) (b:=b+d) ?_ ?_ (by omega)<;>push_cast<;>omega
     ·cases h
    ·have e:binOp .leq t (.int .i64 m) (.int .i64 n)=Sem.pure (.bool (decide (m<=n))):=by simp[binOp,Op.intCmp];rfl
     rcases kS h with⟨hc,hq⟩|⟨_,h⟩
     ·have hc:b<=c:=lu hc;exact Vw _ hq (by rw[e,fB (by omega)])
     ·rcases kS h with⟨hc,hq⟩|⟨_,h⟩
      ·have hc:d<a:=by simpa[Nat.blt_eq]using hc
       exact Vw _ hq (by rw[e,im (by omega)])
      ·cases h
    ·have e:binOp .gtr t (.int .i64 m) (.int .i64 n)=Sem.pure (.bool (decide (n<m))):=by simp[binOp,Op.intCmp];rfl
     rcases kS h with⟨hc,hq⟩|⟨_,h⟩
     ·have hc:b<=c:=lu hc;exact Vw _ hq (by rw[e,im (by omega)])
     ·rcases kS h with⟨hc,hq⟩|⟨_,h⟩
      ·have hc:d<a:=by simpa[Nat.blt_eq]using hc
       exact Vw _ hq (by rw[e,fB (by omega)])
      ·cases h
    ·have e:binOp .lss t (.int .i64 m) (.int .i64 n)=Sem.pure (.bool (decide (m<n))):=by simp[binOp,Op.intCmp];rfl
     rcases kS h with⟨hc,hq⟩|⟨_,h⟩
     ·have hc:b<c:=by simpa[Nat.blt_eq]using hc
      exact Vw _ hq (by rw[e,fB (by omega)])
     ·rcases kS h with⟨hc,hq⟩|⟨_,h⟩
      ·have hc:d<=a:=lu hc;exact Vw _ hq (by rw[e,im (by omega)])
      ·cases h
    ·have e:binOp .geq t (.int .i64 m) (.int .i64 n)=Sem.pure (.bool (decide (n<=m))):=by simp[binOp,Op.intCmp];rfl
     rcases kS h with⟨hc,hq⟩|⟨_,h⟩
     ·have hc:b<c:=by simpa[Nat.blt_eq]using hc
      exact Vw _ hq (by rw[e,im (by omega)])
     ·rcases kS h with⟨hc,hq⟩|⟨_,h⟩
      ·have hc:d<=a:=lu hc;exact Vw _ hq (by rw[e,fB (by omega)])
      ·cases h
    ·cases h
theorem Tj{mn:Bool}{vs us:List Value}{q:Value}(hv:dJ ρ vs us)(h:uu mn vs=some q):mn=true/\∃q',(Builtin.min_ #[] 0 us.toArray).run P w=.ok q' w/\VR ρ q q':=by
 unfold uu at h;split at h
 ·rename_i x y;refine⟨rfl,?_⟩;cases hv with
  | cons hx hr=>
   cases hr with
   | cons hy hr=>
    cases hr with
    | nil=>
     cases hi:fF x||fF y with
     | false=>rw[hi]at h;cases h
     | true=>
      rw[hi]at h;cases ha:cW x with
      | none=>simp[ha]at h
      | some p=>
       cases hb:cW y with
       | none=>simp[ha,hb]at h
       | some p'=>
        obtain⟨a,b⟩:=p;obtain⟨c,d⟩:=p';simp only[ha,hb,cond_true,Option.some.injEq]at h;subst h;obtain⟨m,rfl,h1,h2,h5⟩:=mv hx ha;obtain⟨n,rfl,h3,h4,h6⟩:=mv hy hb;refine⟨.int .i64 (if n<m then n else m),rfl,VR.Js (a:=Nat.min a c) (b:=Nat.min b d) ?_ ?_ ?_⟩
        ·have:=Nat.min_le_left a c;have:=Nat.min_le_right a c;show ((min a c:Nat):Int)<=_;split<;>omega
        ·show _<=((min b d:Nat):Int);split<;>omega
        ·have:=Nat.min_le_left b d;have:=Nat.min_le_right b d;show min b d<_;rcases Bool.or_eq_true _ _ ▸ hi with h7|h7
         ·have:=h5 h7;omega
         ·have:=h6 h7;omega
 ·cases h
theorem Hp{op:BinOp}{t:TypeId}{x y:Operand}{v u v' u' q:Value}(hv:VR ρ v u)(lY:VR ρ v' u')(h:sI P op t v v'=some q) :
  ∃q',(do eqGuard op t x y u u';binOp op t u u':Sem Value).run P w=.ok q' w/\VR ρ q q':=by
 unfold sI at h;cases hf:flat v&&flat v' with
 | false=>rw[hf]at h;exact Cm hv lY h
 | true=>
  rw[hf]at h;simp only[gd]at hf;have e:=hv.jo hf.1;have e':=lY.jo hf.2;subst e;subst e'
  cases hq:quiet P (do eqGuard op t (.const u) (.const u') u u';binOp op t u u')with
  | none=>rw[hq]at h;cases h
  | some z=>
   rw[hq]at h;cases hz:flat z with
   | false=>simp[hz]at h
   | true=>
    simp[hz]at h;subst h;rw[Cl op t x y (.const u) (.const u') hf.1];exact⟨z,k8 hq,.of_flat hz⟩
theorem wrap_small{n:Nat}(h:n<2147483648):IntKind.i64.wrap (Int.ofNat n)=Int.ofNat n:=by
 unfold IntKind.wrap IntKind.bits IntKind.signed;simp only[aL];have h1:(n:Int)%(2 ^ 64:Int)=n:=by omega
 simp only[h1];rw[aw];simp;omega
theorem JB(a b:Nat):(Int.ofNat a == Int.ofNat b)=Nat.beq a b:=by
 rw[Bool.eq_iff_iff];simp[Nat.beq_eq];omega
theorem Tk(a b:Nat):(Int.ofNat a != Int.ofNat b)=!Nat.beq a b:=by rw[bne,JB]
theorem JC(a b:Nat):decide (Int.ofNat a<Int.ofNat b)=Nat.blt a b:=by
 rw[Bool.eq_iff_iff];simp[Nat.blt_eq]
theorem JD(a b:Nat):decide (Int.ofNat a<=Int.ofNat b)=Nat.ble a b:=by
 rw[Bool.eq_iff_iff];simp[Nat.ble_eq]
theorem xR{op:BinOp}{t:TypeId}{x y:Operand}{v v' q:Value}(h:Ae op v v'=some q) :
  (do eqGuard op t x y v v';binOp op t v v':Sem Value).run P w=.ok q w/\scalar q=true/\scalar v=true/\scalar v'=true:=by
 unfold Ae at h;split at h
 ·rename_i a b;have hg:eqGuard op t x y (.int .i64 (.ofNat a)) (.int .i64 (.ofNat b))=pure ():=by cases op<;>rfl
  rw[hg];unfold Jr at h;split at h
  ·cases hc:Nat.blt (Nat.add a b) 2147483648 with
   | false=>rw[hc]at h;cases h
   | true=>
    rw[hc]at h;simp at h;subst h
    have cg:a+b<2147483648:=by simpa[Nat.blt_eq]using hc
    have:=wrap_small cg;refine⟨?_,rfl,rfl,rfl⟩;simp[binOp,Op.intArith,Sem.run_pure]
    simpa using this
  ·cases hc:Nat.ble b a with
   | false=>rw[hc]at h;cases h
   | true=>
    rw[hc]at h;cases hd:Nat.blt a 2147483648 with
    | false=>rw[hd]at h;cases h
    | true=>
     rw[hd]at h;simp at h;subst h
     have hle:b<=a:=by simpa[Nat.ble_eq]using hc
     have cg:a<2147483648:=by simpa[Nat.blt_eq]using hd
     have:=wrap_small (n:=a-b) (by omega);refine⟨?_,rfl,rfl,rfl⟩;simp[binOp,Op.intArith,Sem.run_pure];rw[<-Int.ofNat_sub hle]
     simpa using this
  ·cases hc:Nat.blt (Nat.mul a b) 2147483648 with
   | false=>rw[hc]at h;cases h
   | true=>
    rw[hc]at h;simp at h;subst h
    have cg:a*b<2147483648:=by simpa[Nat.blt_eq]using hc
    have:=wrap_small cg;refine⟨?_,rfl,rfl,rfl⟩;simp[binOp,Op.intArith,Sem.run_pure]
    simpa using this
  ·cases h;exact⟨by rw[<-JB];rfl,rfl,rfl,rfl⟩
  ·cases h;exact⟨by rw[<-Tk];rfl,rfl,rfl,rfl⟩
  ·cases h;exact⟨by rw[<-JC];rfl,rfl,rfl,rfl⟩
  ·cases h;exact⟨by rw[<-JD];rfl,rfl,rfl,rfl⟩
  ·cases h;exact⟨by rw[<-JC];rfl,rfl,rfl,rfl⟩
  ·cases h;exact⟨by rw[<-JD];rfl,rfl,rfl,rfl⟩
  ·cases h
 ·rename_i a b;have hg:eqGuard op t x y (.int .i64 (.ofNat a)) (.int .i64 (.negSucc b))=pure ():=by cases op<;>rfl
  rw[hg];unfold wU at h;split at h
  ·cases h;exact⟨rfl,rfl,rfl,rfl⟩
  ·cases h;exact⟨rfl,rfl,rfl,rfl⟩
  ·cases h
 ·rename_i a b;have hg:eqGuard op t x y (.int .i64 (.negSucc a)) (.int .i64 (.ofNat b))=pure ():=by cases op<;>rfl
  rw[hg];unfold wU at h;split at h
  ·cases h;exact⟨rfl,rfl,rfl,rfl⟩
  ·cases h;exact⟨rfl,rfl,rfl,rfl⟩
  ·cases h
 ·cases h
theorem Lv{op:BinOp}{t:TypeId}{x y:Operand}{v u v' u':Value}{k:KV}(hv:VR ρ v u)(lY:VR ρ v' u')(h:jl P op t v v' k=some r) :
  ∃z q,k z=some r/\(do eqGuard op t x y u u';binOp op t u u':Sem Value).run P w=.ok q w/\VR ρ z q:=by
 unfold jl at h;cases hf:Ae op v v' with
 | some q=>
  rw[hf]at h;obtain⟨h1,h2,h3,h4⟩:=xR (P:=P) (w:=w) (t:=t) (x:=x) (y:=y) hf;have e:=hv.eM h3;have e':=lY.eM h4;subst e;subst e'
  exact⟨q,q,h,h1,.sc h2⟩
 | none=>
  rw[hf]at h;obtain⟨q,hq,h1⟩:=bn h;obtain⟨q',h2,h3⟩:=Hp (w:=w) (x:=x) (y:=y) hv lY hq;exact⟨q,q',h1,h2,h3⟩
end
section
variable {P:Program}{w:World}{ρ:bY}{H:Heap}{nx:Nat}{r:Ex×St}
theorem VR.nV{v:Value}(h:sJ v=true):VR ρ v v:=by
 unfold sJ at h;split at h
 ·exact .sc rfl
 ·exact .sc rfl
 ·exact .sc rfl
 ·exact .sc rfl
 ·exact .sc rfl
 ·exact .sc rfl
 ·exact .wF
 ·exact .D8
 ·exact .mP
 ·exact .wG
 ·cases h
theorem dJ.nV{a:List Value}(h:a.all sJ=true):dJ ρ a a:=by
 induction a with
 | nil=>exact .nil
 | cons v a ih=>
  simp only[List.all_cons,gd]at h;exact .cons (.nV h.1) (ih h.2)
theorem VR.jt{v:Value}(h:kP v=true):VR ρ v v:=by
 unfold kP at h;split at h
 ·exact .agg (.nV h)
 ·exact .nV h
theorem VR.cells{v u:Value}(h:VR ρ v u):dJ ρ (cellsOf v) u.cells.toList:=by
 cases h with
 | agg h=>exact h
 | sc h=>cases v<;>first|exact .cons (.sc h) .nil|(simp[scalar]at h)
 | wF=>exact .cons .wF .nil
 | D8=>exact .cons .D8 .nil
 | ptr h=>exact .cons (.ptr h) .nil
 | mP=>exact .cons .mP .nil
 | sl h1 h2 h3 h4 h5=>exact .cons (.sl h1 h2 h3 h4 h5) .nil
 | wG=>exact .cons .wG .nil
 | Jz=>exact .cons .Jz .nil
 | map h=>exact .cons (.map h) .nil
 | func h h'=>exact .cons (.func h h') .nil
 | iface h=>exact .cons (.iface h) .nil
 | tuple h=>exact .cons (.tuple h) .nil
 | any h=>cases u<;>first|exact .cons (.any h) .nil|(simp[xL]at h)
 | AY h=>exact .cons (.AY h) .nil
theorem fM{t:TypeId}{z:Value}{l:List Value}(h:zeroCells P t=some l)(hz:iC P t=some z):l=z.cells.toList/\dJ ρ l l:=by
 unfold zeroCells at h;rw[hz]at h;simp at h;subst h;obtain⟨h1,h2⟩:=jq (w:=default) hz;have e:Hj z=z.cells.toList:=by cases z<;>rfl
 have e2:Hj z=cellsOf z:=by cases z<;>rfl
 refine⟨e,?_⟩;have:=(VR.jt (ρ:=ρ) h2).cells;rw[<-e]at this;rw[<-e2]at this;exact this
theorem dD{t:TypeId}{l:List Value}(h:zeroCells P t=some l):∃z,iC P t=some z/\l=z.cells.toList:=by
 have h0:=h;unfold zeroCells at h;cases hz:iC P t with
 | none=>rw[hz]at h;cases h
 | some z=>exact⟨z,rfl,(fM (ρ:=λ_=>none) h0 hz).1⟩
theorem Lw{t xt:TypeId}{d:TypeDesc}{z:Value}{ok:Bool}{v u:Value}{k:KV}(hd:P.underlying t=some d)(hn:∀ms,d≠.interface ms)(hz:iC P t=some z)(hv:VR ρ v u)(h:SX t z ok k v=some r):∃x y,k x=some r/\(Instr.typeAssert u xt t ok).run P w=.ok y w/\VR ρ x y:=by
 obtain⟨sU,uE⟩:=jq (w:=w) hz;have GV:VR ρ (.tuple #[z,.bool false]) (.tuple #[z,.bool false]):=.tuple (.cons (.jt uE) (.cons (.sc rfl) .nil));unfold SX at h;split at h
 ·cases ok with
  | false=>cases h
  | true=>
   cases hv with
   | sc h=>simp[scalar]at h
   | wF=>
    refine⟨_,.tuple #[z,.bool false],h,?_,GV⟩;simp only[Instr.typeAssert,Sem.run_bind,run_underlying hd,Result.andThen_ok];cases d with
    | interface ms=>exact absurd rfl (hn ms)
    | _=>simp[sU,Sem.run_pure]
 ·rename_i t' v';cases hv with
  | sc h=>simp[scalar]at h
  | @iface _ _ u' lY=>
   cases he:Nat.beq t' t with
   | true=>
    rw[he]at h;have zP:t'=t:=dB he;subst zP;cases ok with
    | true=>
     refine⟨_,.tuple #[u',.bool true],h,?_,.tuple (.cons lY (.cons (.sc rfl) .nil))⟩;simp only[Instr.typeAssert,Sem.run_bind,run_underlying hd,Result.andThen_ok];cases d with
     | interface ms=>exact absurd rfl (hn ms)
     | _=>simp[Sem.run_pure]
    | false=>
     refine⟨_,u',h,?_,lY⟩;simp only[Instr.typeAssert,Sem.run_bind,run_underlying hd,Result.andThen_ok];cases d with
     | interface ms=>exact absurd rfl (hn ms)
     | _=>simp[Sem.run_pure]
   | false=>
    rw[he]at h;have zP:t'≠t:=Ab he;cases ok with
    | false=>cases h
    | true=>
     refine⟨_,.tuple #[z,.bool false],h,?_,GV⟩;simp only[Instr.typeAssert,Sem.run_bind,run_underlying hd,Result.andThen_ok];cases d with
     | interface ms=>exact absurd rfl (hn ms)
     | _=>simp[sU,Sem.run_pure,zP]
 ·cases h
theorem Ee:∀(vs cs r:List Value),fi cs vs=some r->r.length=cs.length/\vs.length<=cs.length/\∀i,r[i]?=if i<vs.length then vs[i]? else cs[i]?:=by
 intro vs
 induction vs with
 | nil=>intro cs r h;cases cs<;>(simp[fi]at h;subst h;simp)
 | cons v vs ih=>
  intro cs r h;cases cs with
  | nil=>simp[fi]at h
  | cons c cs=>
   unfold fi at h;cases e:fi cs vs with
   | none=>simp[e]at h
   | some q=>
    simp[e]at h;subst h;obtain⟨h1,h2,h3⟩:=ih cs q e;refine⟨by simp[h1],by simp;omega,λi=>?_⟩;cases i with
    | zero=>simp
    | succ i=>simp[h3 i]
theorem xS:∀(o:Nat) (cs vs r:List Value),jc cs o vs=some r->r.length=cs.length/\o+vs.length<=cs.length/\∀i,r[i]?=if o<=i/\i<o+vs.length then vs[i-o]? else cs[i]?:=by
 intro o
 induction o with
 | zero=>
  intro cs vs r h;obtain⟨h1,h2,h3⟩:=Ee vs cs r h;exact⟨h1,by omega,λi=>by rw[h3 i];simp⟩
 | succ o ih=>
  intro cs vs r h;cases cs with
  | nil=>cases h
  | cons c cs=>
   have h':(Option.rec none (λr=>some (c::r)) (jc cs o vs):Option (List Value))=some r:=h;cases e:jc cs o vs with
   | none=>rw[e]at h';cases h'
   | some q=>
    rw[e]at h';have WT:some (c::q)=some r:=h';cases WT;obtain⟨h1,h2,h3⟩:=ih cs vs q e;refine⟨by simp[h1],by simp;omega,λi=>?_⟩;cases i with
    | zero=>simp
    | succ i=>
     simp only[DV,h3 i];have:(o+1<=i+1/\i+1<o+1+vs.length)↔(o<=i/\i<o+vs.length):=by omega
     simp only[this]
     congr 2
     omega
theorem Lx(off:Nat):∀(l:List Value) (n:Nat) (a:Array Value),off+n+l.length<=a.size->
  ((l.zipIdx n).foldl (λcs (x:Value×Nat)=>cs.setIfInBounds (off+x.2) x.1) a).size=a.size/\
  ∀i:Nat,((l.zipIdx n).foldl (λcs (x:Value×Nat)=>cs.setIfInBounds (off+x.2) x.1) a)[i]?=if off+n<=i/\i<off+n+l.length then l[i-(off+n)]? else a[i]?:=by
 intro l
 induction l with
 | nil=>intro n a _;refine⟨rfl,λi=>?_⟩;rw[aw (by simp)];rfl
 | cons v l ih=>
  intro n a hl;simp only[List.zipIdx_cons,List.foldl_cons,hO]at hl ⊢;obtain⟨h1,h2⟩:=ih (n+1) (a.setIfInBounds (off+n) v) (by simp;omega);refine⟨by rw[h1];simp,λi=>?_⟩;rw[h2 i];by_cases c1:off+(n+1)<=i/\i<off+(n+1)+l.length
  ·rw[aJ c1,aJ (by omega)];have:i-(off+n)=(i-(off+(n+1)))+1:=by omega
   rw[this,DV]
  ·rw[aw c1,Array.getElem?_setIfInBounds];by_cases c2:off+n=i
   ·subst c2;rw[aJ rfl,aJ (by omega),aJ (by omega)];simp
   ·rw[aw c2,aw (by omega)]
theorem rI(place:Nat->Option (Nat×Nat)):∀(ps:List (Nat×Nat×Value)) (qs:List (Nat×Value)) (a r:List Value) (b:Array Value),
  ps.length=qs.length->(∀(i:Nat) (p:Nat×Nat×Value) (q:Nat×Value),ps[i]?=some p->qs[i]?=some q->place q.1=some (p.1,p.2.1)/\VR ρ p.2.2 q.2)->dJ ρ a b.toList->fJ a ps=some r->
  ∃c,Instr.fill place b qs=some c/\dJ ρ r c.toList:=by
 intro ps
 induction ps with
 | nil=>
  intro qs a r b hl _ hr h;cases qs with
  | nil=>simp[fJ]at h;subst h;exact⟨b,rfl,hr⟩
  | cons=>simp at hl
 | cons p ps ih=>
  intro qs a r b hl hp hr h;cases qs with
  | nil=>simp at hl
  | cons q qs=>
   obtain⟨off,size,v⟩:=p;obtain⟨i,u⟩:=q;obtain⟨h1,h2⟩:=hp 0 _ _ rfl rfl;simp only at h1 h2;unfold fJ at h;cases hs:Nat.beq (cellsOf v).length size with
   | false=>rw[hs]at h;cases h
   | true=>
    rw[hs]at h;have fD:=dB hs;simp only[cond_true]at h;cases ho:jc a off (cellsOf v)with
    | none=>simp[ho]at h
    | some a1=>
     simp[ho]at h;obtain⟨o1,o2,o3⟩:=xS off a (cellsOf v) a1 ho;have hc:=h2.cells;have kI:=hc.length;have qi:=hr.length;have m7:u.cells.size=size:=by rw[<-fD,<-kI];simp
     have Ns:b.size=a.length:=by simpa using qi
     obtain⟨f1,f2⟩:=Lx off u.cells.toList 0 b (by simp only[Array.length_toList];omega);have Ef:u.cells.zipIdx.foldl (λcs (x:Value×Nat)=>cs.setIfInBounds (off+x.2) x.1) b=(u.cells.toList.zipIdx 0).foldl (λcs (x:Value×Nat)=>cs.setIfInBounds (off+x.2) x.1) b:=by
      rw[<-Array.foldl_toList,Array.toList_zipIdx]
     obtain⟨c,c1,c2⟩:=ih qs a1 r ((u.cells.toList.zipIdx 0).foldl (λcs (x:Value×Nat)=>cs.setIfInBounds (off+x.2) x.1) b) (by simpa using hl) (λj x y hx hy=>hp (j+1) x y (by simpa using hx) (by simpa using hy)) (by
      refine .xM (by simp only[Array.length_toList];omega) λj x hx=>?_
      rw[o3 j]at hx;simp only[Array.getElem?_toList];rw[f2 j];simp only[Hf,Array.length_toList]at kI ⊢;by_cases cc:off<=j/\j<off+(cellsOf v).length
      ·rw[aJ cc]at hx;rw[aJ (by omega)];exact hc.get hx
      ·rw[aw cc]at hx;rw[aw (by omega)];obtain⟨y,hy,oT⟩:=hr.get hx;exact⟨y,by simpa using hy,oT⟩) h
     refine⟨c,?_,c2⟩;have hng:¬(u.cells.size≠size\/off+u.cells.size>b.size):=by omega
     unfold Instr.fill;simp only[h1];rw[aw (by simpa using hng),Ef];exact c1
theorem uF{t:TypeId}{fs:Array Field}{zero:List Value}{xs:List (Nat×Operand)}{pl:List (Nat×Nat×Operand)}{ps:List (Nat×Nat×Value)}{qs:List (Nat×Value)}{cs:List Value}(hu:P.underlying t=some (.struct fs))(hz:zeroCells P t=some zero)(qk:kQ P fs.toList xs=some pl)(hl:ps.length=qs.length)(zQ:∀(i:Nat) (p:Nat×Nat×Value) (q:Nat×Value),ps[i]?=some p->qs[i]?=some q->∃f s,fs.toList[q.1]?=some f/\cQ P f.type=some s/\p.1=f.offset/\p.2.1=s/\VR ρ p.2.2 q.2)(m7:∀(i:Nat) (f:Field),fs.toList[i]?=some f->∃s,cQ P f.type=some s)(h:fJ zero ps=some cs):∃y,(Instr.build t qs.toArray).run P w=.ok y w/\VR ρ (.agg cs.toArray) y:=by
 obtain⟨z,sU,uE⟩:=dD hz;have GV:=(fM (ρ:=ρ) hz sU).2;obtain⟨Hq,_⟩:=jq (w:=w) sU;have hpm:∀(l:List Field),(∀(i:Nat) (f:Field),l[i]?=some f->∃s,cQ P f.type=some s)->∃m:List (Nat×Nat),(l.mapM (m:=Sem) λf=>do pure (f.offset,<-sizeOf f.type)).run P w=.ok m w/\m.length=l.length/\
   ∀(i:Nat) (f:Field) (s:Nat),l[i]?=some f->cQ P f.type=some s->m[i]?=some (f.offset,s):=by
  intro l
  induction l with
  | nil=>intro _;exact⟨[],rfl,rfl,λi f s hf=>by simp at hf⟩
  | cons f l ih=>
   intro hl;obtain⟨s,hs⟩:=hl 0 f rfl;obtain⟨m,h1,h2,h3⟩:=ih λi g hg=>hl (i+1) g (by simpa using hg)
   refine⟨(f.offset,s)::m,?_,by simp[h2],λi g s' hg fD=>?_⟩
   ·rw[List.mapM_cons];simp only[Sem.run_bind,eU hs,Result.andThen_ok,Sem.run_pure,h1]
   ·cases i with
    | zero=>simp at hg;subst hg;rw[hs]at fD;cases fD;rfl
    | succ i=>simpa using h3 i g s' (by simpa using hg) fD
 obtain⟨m,h1,h2,h3⟩:=hpm fs.toList m7;obtain⟨c,lZ,vE⟩:=rI (ρ:=ρ) (λi=>(m.toArray)[i]?) ps qs zero cs z.cells hl (λi p q hp hq=>by
  obtain⟨f,s,g1,g2,g3,g4,g5⟩:=zQ i p q hp hq;refine⟨?_,g5⟩;rw[g3,g4]
  simpa using h3 _ f s g1 g2) (by rw[<-uE];exact GV) h
 refine⟨.agg c,?_,.agg vE⟩;have hm:(fs.mapM (m:=Sem) λf=>do pure (f.offset,<-sizeOf f.type)).run P w=.ok m.toArray w:=by
  rw[Array.mapM_eq_mapM_toList];rw[map_eq_pure_bind];simp only[Sem.run_bind,h1,Result.andThen_ok,Sem.run_pure]
 simp only[Instr.build,Sem.run_bind,Hq,Result.andThen_ok,run_underlying hu,hm,lZ];rfl
theorem wH{t e:TypeId}{n z:Nat}{zero:List Value}{ps:List (Nat×Nat×Value)}{qs:List (Nat×Value)}{cs:List Value}(hu:P.underlying t=some (.array n e))(hz:zeroCells P t=some zero)(hs:cQ P e=some z)(hl:ps.length=qs.length)(zQ:∀(i:Nat) (p:Nat×Nat×Value) (q:Nat×Value),ps[i]?=some p->qs[i]?=some q->p.1=q.1*z/\p.2.1=z/\VR ρ p.2.2 q.2)(h:fJ zero ps=some cs):∃y,(Instr.build t qs.toArray).run P w=.ok y w/\VR ρ (.agg cs.toArray) y:=by
 obtain⟨v,sU,uE⟩:=dD hz;have GV:=(fM (ρ:=ρ) hz sU).2;obtain⟨Hq,_⟩:=jq (w:=w) sU;obtain⟨c,lZ,vE⟩:=rI (ρ:=ρ) (λi=>some (i*z,z)) ps qs zero cs v.cells hl (λi p q hp hq=>by
  obtain⟨g1,g2,g3⟩:=zQ i p q hp hq;exact⟨by rw[g1,g2],g3⟩) (by rw[<-uE];exact GV) h
 refine⟨.agg c,?_,.agg vE⟩;simp only[Instr.build,Sem.run_bind,Hq,Result.andThen_ok,run_underlying hu,eU hs,lZ];rfl
end
section
variable {P:Program}{w:World}{ρ:bY}{H:Heap}{nx:Nat}{r:Ex×St}
inductive OR (ρ:bY):Option Value->Option Value->Prop where
 | no:OR ρ none none
 | one {v u:Value} (h:VR ρ v u):OR ρ (some v) (some u)
theorem OR.nat{k:IntKind}{n:Nat}{x:Option Value}(h:OR ρ (some (.int k (.ofNat n))) x):x=some (.int k (.ofNat n)):=by
 cases h with
 | one h=>rw[h.jr]
theorem Ly{k:IntKind}{n y:Nat}{c:BoundsCode}(h:n<=y):(Instr.sliceBound (.int k (.ofNat n)) y c).run P w=.ok n w:=by
 have:(n:Int)<=y:=by omega
 simp[Instr.sliceBound,asIntOf,Sem.run_pure,this]
theorem fN{k:IntKind}{n y:Nat}{c:BoundsCode}(h:n<=y):(Instr.sliceBound (.int k (n:Int)) y c).run P w=.ok n w:=Ly h
theorem nW(b:Bool){len cap l h m:Nat}{lo hi mx:Option Value}(vF:(lo=none/\l=0)\/∃ki:IntKind,lo=some (.int ki (.ofNat l)))(Hr:(hi=none/\mx=none/\h=len)\/∃ki:IntKind,hi=some (.int ki (.ofNat h)))(Nt:(mx=none/\m=cap)\/∃ki:IntKind,mx=some (.int ki (.ofNat m))/\m<=cap)(h1:l<=h)(h2:h<=m):(Instr.sliceBounds b len cap lo hi mx).run P w=.ok (l,h,m) w:=by
 unfold Instr.sliceBounds;rcases Nt with⟨rfl,rfl⟩|⟨k3,rfl,hm⟩
 ·rcases Hr with⟨rfl,_,rfl⟩|⟨k2,rfl⟩
  ·rcases vF with⟨rfl,rfl⟩|⟨k1,rfl⟩
   ·simp[Sem.run_pure]
   ·simp[Sem.run_pure,fN h1]
  ·rcases vF with⟨rfl,rfl⟩|⟨k1,rfl⟩
   ·simp[Sem.run_pure,fN h2]
   ·simp[Sem.run_pure,fN h1,fN h2]
 ·rcases Hr with⟨_,hh,_⟩|⟨k2,rfl⟩
  ·cases hh
  ·rcases vF with⟨rfl,rfl⟩|⟨k1,rfl⟩
   ·simp[Sem.run_pure,fN h2,fN hm]
   ·simp[Sem.run_pure,fN h1,fN h2,fN hm]
theorem lG{T:Tr Value}{L:List Value}{x:Option Value}{d:Nat}{k:Nat->R0}(h:jd T L (x.map Od.aO) d k=some r) :
  ∃n,k n=some r/\((x=none/\n=d)\/∃ki:IntKind,x=some (.int ki (.ofNat n))):=by
 cases x with
 | none=>exact⟨d,h,.inl ⟨rfl,rfl⟩⟩
 | some v=>
  have h':dp v k=some r:=h;obtain⟨ki,n,rfl,h1⟩:=fL h';exact⟨n,h1,.inr ⟨ki,rfl⟩⟩
theorem Eg{x x':Option Value}{n d:Nat}(hr:OR ρ x x')(h:(x=none/\n=d)\/∃ki:IntKind,x=some (.int ki (.ofNat n))):(x'=none/\n=d)\/∃ki:IntKind,x'=some (.int ki (.ofNat n)):=by
 rcases h with⟨rfl,rfl⟩|⟨ki,rfl⟩
 ·cases hr;exact .inl ⟨rfl,rfl⟩
 ·exact .inr ⟨ki,hr.nat⟩
theorem vG(c l:Nat):aF (Nat.sub c (Nat.mul 2 l))=aF c-l:=by
 show (c-2*l) / 2=c / 2-l;omega
theorem uG(c:Nat):exact c=true↔c%2=1:=by
 unfold exact;rw[Nat.beq_eq];exact Iff.rfl
theorem A9{t e:TypeId}{z len c' l h m p b:Nat}{lo hi mx:Option Value}(hu:P.underlying t=some (.slice e))(hz:cQ P e=some z)(hb:(Instr.sliceBounds true len c' lo hi mx).run P w=.ok (l,h,m) w) :
  (Instr.sliceAt t (.slice (some ⟨b,p,none⟩) len c') lo hi mx).run P w=.ok (.slice (some (if m=l then⟨b,p,none⟩else⟨b,p+l*z,none⟩)) (h-l) (m-l)) w:=by
 simp only[Instr.sliceAt,Instr.slice,Sem.run_bind,run_underlying hu,Result.andThen_ok,hb,eU hz,Sem.run_pure];by_cases e:m=l
 ·simp[e]
 ·simp[e,Addr.add_lit]
theorem LA{T:Tr Value}{L:List Value}{t e:TypeId}{z:Nat}{v u:Value}{lo hi mx lo' zR mx':Option Value}{k:KV}(hu:P.underlying t=some (.slice e))(hz:cQ P e=some z)(hm:(mx.isNone||hi.isSome)=true)(hv:VR ρ v u)(vF:OR ρ lo lo')(Hr:OR ρ hi zR)(Nt:OR ρ mx mx')(h:Ah T L (lo.map Od.aO) (hi.map Od.aO) (mx.map Od.aO) z k v=some r):∃x y,k x=some r/\(Instr.sliceAt t u lo' zR mx').run P w=.ok y w/\VR ρ x y:=by
 unfold Ah at h;split at h
 ·
  obtain⟨l,h1,hl⟩:=lG h;obtain⟨g,h2,hg⟩:=lG h1;obtain⟨hc,h3⟩:=ct h2;simp only[gd]at hc;obtain⟨c1,c2,c3⟩:=hc;have el:l=0:=dB c1;have eg:g=0:=dB c2;subst el;subst eg
  have iL:mx=none:=by cases mx<;>simp at c3 ⊢
  subst iL;cases Nt;cases hv with
  | sc h=>simp[scalar]at h
  | mP=>
   have hb:=nW (P:=P) (w:=w) true (len:=0) (cap:=0) (m:=0) (Eg vF hl) (by
    rcases Eg Hr hg with⟨e,_⟩|hk
    ·exact .inl ⟨e,rfl,rfl⟩
    ·exact .inr hk) (.inl ⟨rfl,rfl⟩) (au _) (au _)
   refine⟨_,_,h3,?_,.mP⟩;simp only[Instr.sliceAt,Instr.slice,Sem.run_bind,run_underlying hu,Result.andThen_ok,hb,eU hz,Sem.run_pure];rfl
 ·obtain⟨l,h1,hl⟩:=lG h;obtain⟨g,h2,hg⟩:=lG h1;obtain⟨hc,h3⟩:=ct h2;simp only[gd]at hc;obtain⟨c1,c2,c3⟩:=hc;have el:l=0:=dB c1;have eg:g=0:=dB c2;subst el;subst eg
  have iL:mx=none:=by cases mx<;>simp at c3 ⊢
  subst iL;cases Nt;cases hv with
  | sc h=>simp[scalar]at h
  | @Jz a=>
   have hb:=nW (P:=P) (w:=w) true (len:=0) (cap:=0) (m:=0) (Eg vF hl) (by
    rcases Eg Hr hg with⟨e,_⟩|hk
    ·exact .inl ⟨e,rfl,rfl⟩
    ·exact .inr hk) (.inl ⟨rfl,rfl⟩) (au _) (au _)
   refine⟨_,_,h3,?_,.Jz (a:=a)⟩;simp only[Instr.sliceAt,Instr.slice,Sem.run_bind,run_underlying hu,Result.andThen_ok,hb,eU hz,Sem.run_pure];rfl
 ·rename_i b o z' len c;obtain⟨l,h1,hl⟩:=lG h;obtain⟨g,h2,hg⟩:=lG h1;obtain⟨hc,h3⟩:=ct h2;simp only[gd]at hc;obtain⟨c1,c2,c3⟩:=hc;have ez:z=z':=dB c1;subst ez;have hlg:l<=g:=lu c2;have hgc:g<=aF c:=lu c3;clear h h1 h2;cases hv with
  | sc h=>simp[scalar]at h
  | @sl _ _ _ _ _ p c' s hs WU qj he hp=>
   cases mx with
   | none=>
    cases Nt;have hb:=nW (P:=P) (w:=w) true (len:=len) (cap:=c') (m:=c') (Eg vF hl) (by
     rcases Eg Hr hg with⟨e,e2⟩|hk
     ·exact .inl ⟨e,rfl,e2⟩
     ·exact .inr hk) (.inl ⟨rfl,rfl⟩) hlg (by omega)
    have h4:k (.slice (some ⟨b,Nat.add o (Nat.mul l z),some z⟩) (Nat.sub g l) (Nat.sub c (Nat.mul 2 l)))=some r:=h3;refine⟨_,_,h4,A9 hu hz hb,?_⟩;have hq:∀q:Nat,(c'-l=0\/(q=s.sh+(o+l*z)/\q+(c'-l)*z<=s.size))->VR ρ (.slice (some ⟨b,Nat.add o (Nat.mul l z),some z⟩) (Nat.sub g l) (Nat.sub c (Nat.mul 2 l))) (.slice (some ⟨s.blk,q,none⟩) (g-l) (c'-l)):=by
     intro q hq;refine .sl hs ⟨(show g-l<=c'-l by omega),by omega⟩ (by rw[vG];omega) (λhx=>?_) hq;rw[uG]at hx;have sV:(c-2*l)%2=1:=hx;have:=he ((uG c).2 (by omega));rw[vG];omega
    by_cases e:c'=l
    ·rw[aJ e];exact hq p (.inl (by omega))
    ·rw[aw e];refine hq (p+l*z) (.inr ?_);rcases hp with h0|⟨h5,h6⟩
     ·omega
     ·have:c'*z=l*z+(c'-l)*z:=by rw[<-Nat.add_mul];congr 1;omega
      omega
   | some m=>
    have h4:dp m (λm=>cond (and (Nat.ble g m) (Nat.ble m (aF c))) (k (.slice (some ⟨b,Nat.add o (Nat.mul l z),some z⟩) (Nat.sub g l) (Nat.succ (Nat.mul 2 (Nat.sub m l))))) none)=some r:=h3;obtain⟨ki,m,rfl,h5⟩:=fL h4;obtain⟨hc,h6⟩:=ct h5;simp only[gd]at hc;have Ht:g<=m:=lu hc.1;have hmc:m<=aF c:=lu hc.2;have aeC:=Nt.nat;have hb:=nW (P:=P) (w:=w) true (len:=len) (cap:=c') (m:=m) (mx:=mx') (Eg vF hl) (by
     rcases Eg Hr hg with⟨e,e2⟩|hk
     ·cases Hr with
      | no=>simp at hm
      | one=>cases e
     ·exact .inr hk) (.inr ⟨ki,aeC,by omega⟩) hlg Ht
    refine⟨_,_,h6,A9 hu hz hb,?_⟩;have hq:∀q:Nat,(m-l=0\/(q=s.sh+(o+l*z)/\q+(m-l)*z<=s.size))->VR ρ (.slice (some ⟨b,Nat.add o (Nat.mul l z),some z⟩) (Nat.sub g l) (Nat.succ (Nat.mul 2 (Nat.sub m l)))) (.slice (some ⟨s.blk,q,none⟩) (g-l) (m-l)):=by
     intro q hq;have e1:aF (Nat.succ (Nat.mul 2 (Nat.sub m l)))=m-l:=by
      show (2*(m-l)+1) / 2=m-l;omega
     exact .sl hs ⟨(show g-l<=m-l by omega),by omega⟩ (by rw[e1];exact au _) (λ_=>e1.symm) hq
    by_cases e:m=l
    ·rw[aJ e];exact hq p (.inl (by omega))
    ·rw[aw e];refine hq (p+l*z) (.inr ?_);rcases hp with h0|⟨h5,h6⟩
     ·omega
     ·have h7:m*z=l*z+(m-l)*z:=by rw[<-Nat.add_mul];congr 1;omega
      have h8:m*z<=c'*z:=SN _ (by omega);omega
 ·cases h
end
section
variable {P:Program}{w:World}{ρ:bY}{H:Heap}{nx:Nat}{r:Ex×St}
theorem fO{α β:Type}(s:Sem α)(f:α->Sem β):quiet P (s >>= f)=(quiet P s).bind λa=>quiet P (f a):=by
 induction s with
 | pure a=>rfl
 | program k ih=>exact ih P
 | _=>rfl
theorem rJ{α:Type}(a:α):quiet P (pure a)=some a:=rfl
def Fit(es:List MapEntry)(i:Nat)(x y:Option (Nat×Value)):Prop:=
 (x=none/\y=none)\/∃j v e,x=some (j,v)/\i<=j/\es[j-i]?=some e/\y=some (j,e.val)
theorem Fit.tail{e:MapEntry}{es:List MapEntry}{i:Nat}{x y:Option (Nat×Value)}(h:Fit es (i+1) x y):Fit (e::es) i x y:=by
 rcases h with h|⟨j,v,e',h1,h2,h3,h4⟩
 ·exact .inl h
 ·refine .inr ⟨j,v,e',h1,by omega,?_,h4⟩;have:j-i=(j-(i+1))+1:=by omega
  rw[this,DV];exact h3
theorem Al(d:TypeDesc)(k:Value):∀(xT sW:List MapEntry) (i:Nat),sW.map (·.key)=xT.map (·.key)->
  (Instr.findNow d k xT i=none->Instr.findNow d k sW i=none)/\∀x,Instr.findNow d k xT i=some x->∃y,Instr.findNow d k sW i=some y/\Fit sW i x y:=by
 intro xT
 induction xT with
 | nil=>
  intro sW i h;cases sW with
  | nil=>exact⟨λh=>h,λx hx=>by simp[Instr.findNow]at hx;subst hx;exact⟨none,rfl,.inl ⟨rfl,rfl⟩⟩⟩
  | cons=>simp at h
 | cons e1 xT ih=>
  intro sW i h;cases sW with
  | nil=>simp at h
  | cons e2 sW=>
   simp only[List.map_cons,List.cons.injEq]at h;obtain⟨hk,ht⟩:=h;obtain⟨h1,h2⟩:=ih sW (i+1) ht;unfold Instr.findNow;rw[hk];cases hs:Instr.sameNow d k e1.key with
   | none=>exact⟨λ_=>rfl,λx hx=>by simp at hx⟩
   | some b=>
    cases b with
    | true=>
     refine⟨λhx=>by simp at hx,λx hx=>?_⟩;simp at hx;subst hx;exact⟨_,rfl,.inr ⟨i,_,e2,rfl,au _,by simp,rfl⟩⟩
    | false=>
     refine⟨λhx=>h1 hx,λx hx=>?_⟩;obtain⟨y,hy,hf⟩:=h2 x hx;exact⟨y,hy,hf.tail⟩
theorem uH(kt:TypeId)(k:Value):∀(xT sW:List MapEntry) (i:Nat) (x:Option (Nat×Value)),sW.map (·.key)=xT.map (·.key)->
  quiet P (Instr.findAsking kt k xT i)=some x->∃y,(Instr.findAsking kt k sW i).run P w=.ok y w/\Fit sW i x y:=by
 intro xT
 induction xT with
 | nil=>
  intro sW i x h hq;cases sW with
  | nil=>
   simp[Instr.findAsking]at hq;cases hq;exact⟨none,rfl,.inl ⟨rfl,rfl⟩⟩
  | cons=>simp at h
 | cons e1 xT ih=>
  intro sW i x h hq;cases sW with
  | nil=>simp at h
  | cons e2 sW=>
   simp only[List.map_cons,List.cons.injEq]at h;obtain⟨hk,ht⟩:=h;unfold Instr.findAsking at hq ⊢;rw[fO]at hq;rw[hk];cases hs:quiet P (Op.equal kt k e1.key)with
   | none=>rw[hs]at hq;cases hq
   | some b=>
    rw[hs]at hq;simp only[Sem.run_bind,k8 hs,Result.andThen_ok];cases b with
    | true=>
     have:x=some (i,e1.val):=by simpa[rJ]using hq.symm
     subst this;exact⟨_,rfl,.inr ⟨i,_,e2,rfl,au _,by simp,rfl⟩⟩
    | false=>
     obtain⟨y,hy,hf⟩:=ih sW (i+1) x ht (by simpa using hq);exact⟨y,by simpa using hy,hf.tail⟩
theorem Am(kt:TypeId)(k:Value)(xT sW:List MapEntry)(x:Option (Nat×Value))(h:sW.map (·.key)=xT.map (·.key))(hq:quiet P (Instr.findKey kt k xT)=some x):∃y,(Instr.findKey kt k sW).run P w=.ok y w/\Fit sW 0 x y:=by
 unfold Instr.findKey at hq ⊢;rw[fO]at hq;cases hu:quiet P (underlying kt)with
 | none=>rw[hu]at hq;cases hq
 | some d=>
  rw[hu]at hq;simp only[Sem.run_bind,k8 hu,Result.andThen_ok];obtain⟨h1,h2⟩:=Al d k xT sW 0 h;cases hf:Instr.findNow d k xT 0 with
  | some z=>
   obtain⟨y,hy,Eh⟩:=h2 z hf;have:x=z:=by simpa[hf,rJ]using hq.symm
   subst this;exact⟨y,by simp[hy,Sem.run_pure],Eh⟩
  | none=>
   have iE:quiet P (Instr.findAsking kt k xT)=some x:=by simpa[hf]using hq
   obtain⟨y,hy,Eh⟩:=uH (w:=w) kt k xT sW 0 x h iE;exact⟨y,by simpa[h1 hf]using hy,Eh⟩
theorem Ei(es:List MapEntry):∀i,(marked es i).map (·.key)=es.map (·.key):=by
 induction es with
 | nil=>intro i;rfl
 | cons e es ih=>intro i;simp[marked,ih]
theorem oS.keys{es es':List MapEntry}(h:oS ρ es es')(hf:es.all (λe=>flat e.key)=true):es'.map (·.key)=es.map (·.key):=by
 induction h with
 | nil=>rfl
 | cons hk hv hb _ ih=>
  simp only[List.all_cons,gd]at hf;simp[hk.jo hf.1,ih hf.2]
theorem oS.length{es es':List MapEntry}(h:oS ρ es es'):es'.length=es.length:=by
 induction h with
 | nil=>rfl
 | cons _ _ _ _ ih=>simp[ih]
theorem oS.get{es es':List MapEntry}(h:oS ρ es es'):∀{i:Nat} {e':MapEntry},es'[i]?=some e'->∃e,es[i]?=some e/\VR ρ e.key e'.key/\VR ρ e.val e'.val/\e'.born=e.born:=by
 induction h with
 | nil=>intro i e' he;simp at he
 | cons hk hv hb _ ih=>
  intro i e' he;cases i with
  | zero=>simp at he;subst he;exact⟨_,rfl,hk,hv,hb⟩
  | succ i=>simpa using ih (by simpa using he)
theorem xU(es:List MapEntry):∀i,mj es i=es[i]?:=by
 induction es with
 | nil=>intro i;rfl
 | cons e es ih=>
  intro i;cases i with
  | zero=>rfl
  | succ i=>simpa[mj]using ih i
theorem Hu{es:List MapEntry}:∀{i:Nat} {k:Value},DY es i k=true->∃e,es[i]?=some e/\DX e.key k=true:=by
 induction es with
 | nil=>intro i k h;simp[DY]at h
 | cons e es ih=>
  intro i k h;cases i with
  | zero=>exact⟨e,rfl,h⟩
  | succ i=>simpa using ih h
theorem sX{a b:Value}(n:Nat)(h:B9 a b=true):a=b/\Instr.sameBits n a b=true:=by
 unfold B9 at h;split at h
 ·rename_i x y;cases x<;>cases y<;>first|(cases h;done)|exact⟨rfl,by unfold Instr.sameBits;rfl⟩
 ·simp only[gd,DW]at h;obtain⟨rfl,rfl⟩:=h;exact⟨rfl,by unfold Instr.sameBits;simp⟩
 ·simp only[DW]at h;subst h;refine⟨rfl,?_⟩;unfold Instr.sameBits;rename_i s;show (s == s)=true
  first|exact beq_self_eq_true s|(show (s.data == s.data)=true;simp)|exact fB rfl
 ·cases h
theorem Cn(n:Nat):∀{a b:List Value},Ca a b=true->a=b/\(a.zip b).all (λx=>Instr.sameBits n x.1 x.2)=true:=by
 intro a
 induction a with
 | nil=>intro b h;cases b with
  | nil=>exact⟨rfl,rfl⟩
  | cons=>cases h
 | cons x a ih=>
  intro b h;cases b with
  | nil=>cases h
  | cons y b=>
   simp only[Ca,gd]at h;obtain⟨h1,h2⟩:=sX n h.1;obtain⟨h3,h4⟩:=ih h.2;exact⟨by rw[h1,h3],by simp only[List.zip_cons_cons,List.all_cons,h2,h4];rfl⟩
theorem Co{a b:Value}(n:Nat)(h:DX a b=true):a=b/\Instr.sameBits (n+1) a b=true:=by
 unfold DX at h;split at h
 ·rename_i x y;obtain⟨h1,h2⟩:=Cn n h;have e:x=y:=Array.ext' h1;refine⟨by rw[e],?_⟩;unfold Instr.sameBits;simp only[gd];exact⟨by rw[e];simp,h2⟩
 ·exact sX (n+1) h
theorem Ej{a b:Value}(h:DX a b=true):a=b/\Instr.sameBits 10000 a b=true:=Co 9999 h
theorem nX{emp:Bool}{kt:TypeId}{k:Value}{es es':List MapEntry}{x:Option Nat}(h:findAt P emp kt k es=some x)(hr:oS ρ es es') :
  flat k=true/\(Instr.checkKey emp 10000 kt k).run P w=.ok () w/\((x=none/\(Instr.findKey kt k es').run P w=.ok none w)\/
   ∃i e e',x=some i/\es[i]?=some e/\es'[i]?=some e'/\VR ρ e.val e'.val/\e'.born=e.born/\e'.key=k/\e.key=k/\Instr.sameBits 10000 e'.key k=true/\(Instr.findKey kt k es').run P w=.ok (some (i,e'.val)) w):=by
 unfold findAt at h;cases hf:(flat k&&es.all (λe=>flat e.key))with
 | false=>rw[hf]at h;cases h
 | true=>
  rw[hf]at h;simp only[gd]at hf;cases hc:quiet P (Instr.checkKey emp 10000 kt k)with
  | none=>simp[hc]at h
  | some u=>
   cases hq:quiet P (Instr.findKey kt k (marked es 0))with
   | none=>simp[hc,hq]at h
   | some q=>
    have aa6:es'.map (·.key)=(marked es 0).map (·.key):=by rw[Ei,hr.keys hf.2]
    obtain⟨y,hy,Eh⟩:=Am (w:=w) kt k (marked es 0) es' q aa6 hq;refine⟨hf.1,k8 hc,?_⟩;rcases Eh with⟨rfl,rfl⟩|⟨j,v,e',rfl,h2,h3,rfl⟩
    ·simp[hc,hq]at h;subst h;exact .inl ⟨rfl,hy⟩
    ·simp only[hc,hq,cond_true]at h;cases hk:DY es j k with
     | false=>simp[hk]at h
     | true=>
      simp[hk]at h;subst h;simp only[Nat.sub_zero]at h3;obtain⟨e,he,hke⟩:=Hu hk;obtain⟨g1,g2⟩:=Ej hke;obtain⟨e2,he2,ql,Ek,hr3⟩:=hr.get h3;rw[he]at he2;cases he2
      have aa7:e'.key=e.key:=ql.jo (by rw[g1];exact hf.1);exact .inr ⟨j,e,e',rfl,he,h3,Ek,hr3,aa7.trans g1,g1,by rw[aa7];exact g2,hy⟩
end
section
variable {P:Program}{w:World}{ρ:bY}{H:Heap}{nx:Nat}{r:Ex×St}
def cr.all{α:Type}(p:α->Prop):cr α->Prop
 | .ai v0=>p v0
 | .pick v0 v1 v2=>p v0/\p v1/\p v2
 | .aA v0=>p v0
 | .ext v0 _=>p v0
 | .Ad v0 _ _=>p v0
 | .aI v0 _=>p v0
 | .aK v0 v1 _=>p v0/\p v1
 | .nO v0 v1 _ _=>p v0/\p v1
 | .ix v0 v1 _ _ _=>p v0/\p v1
 | .bin _ _ v2 v3=>p v2/\p v3
 | .un _ v1=>p v1
 | .AV _ _ v2=>p v2
 | .ur _ v1=>(∀x∈v1,p x)
 | .Nn _ v1 v2=>p v1/\p v2
 | .Hg _ v1 v2 v3=>p v1/\(∀x∈v2,p x)/\(∀x∈v3,p x)
 | .eP _ _ v2 v3=>p v2/\p v3
 | .fR _ v1=>(∀x∈v1,p x.2.2)
 | .B8 _ v1 v2=>(∀x∈v1,p x)/\(∀x∈v2,p x)
 | .Hh _ v1=>p v1
 | .K9 v0 _ _ _=>p v0
 | .an v0 _=>p v0
 | .len v0=>p v0
 | .GU v0=>p v0
 | .No v0=>p v0
 | .cap v0=>p v0
 | .lx v0 v1 v2 v3 _=>p v0/\(∀x∈v1,p x)/\(∀x∈v2,p x)/\(∀x∈v3,p x)
 | .N0 v0 v1 v2 _ _=>p v0/\(∀x∈v1,p x)/\(∀x∈v2,p x)
 | .AW v0 v1 _ _ _=>p v0/\p v1
 | .box v0=>p v0
 | .gM _=>True
 | .mO _ _ _ v3 v4=>p v3/\p v4
 | .fC _ _ _ v3=>(∀x∈v3,p x.2.2)
 | .Np v0=>(∀x∈v0,p x)
 | .bE v0 v1 _=>p v0/\p v1
 | .app _ _ _ v3 v4 _=>p v3/\p v4
 | .Jq _ v1 v2=>p v1/\p v2
 | .Sx v0 _=>p v0
 | .N1 v0 v1 v2 _=>p v0/\p v1/\p v2
 | .Sy v0 v1 _ _=>p v0/\p v1
 | .Sz v0 v1 v2=>p v0/\p v1/\p v2
 | .ins _ _ v2 v3 v4=>p v2/\p v3/\p v4
 | .call v0 v1=>p v0/\(∀x∈v1,p x)
 | .inv v0 _ v2=>p v0/\(∀x∈v2,p x)
 | .sx v0 v1=>p v0/\(∀x∈v1,p x)
 | .rE v0=>p v0
 | .AX=>True
 | .AY v0=>p v0
 | .nxt v0=>p v0
 | .SU v0=>p v0
theorem iQ{α β:Type}(d:β){c:α->Option β}:∀{l:List α} {m:List β},jm c l=some m->m=l.map (λx=>(c x).getD d)/\∀x∈l,∃y,c x=some y:=by
 intro l
 induction l with
 | nil=>intro m h;cases h;exact⟨rfl,λx hx=>by simp at hx⟩
 | cons x l ih=>
  intro m h;unfold jm at h;cases hx:c x with
  | none=>simp[hx]at h
  | some a=>
   cases hl:jm c l with
   | none=>simp[hx,hl]at h
   | some as=>
    simp[hx,hl]at h;subst h;obtain⟨h1,h2⟩:=ih hl;refine⟨by simp[hx,<-h1],λy hy=>?_⟩;rcases dT.1 hy with rfl|hy
    ·exact⟨a,hx⟩
    ·exact h2 y hy
theorem dq{α β:Type}(d:β){c:α->Option β}{l:Option α}{m:Option β}(h:oF c l=some m):m=l.map (λx=>(c x).getD d)/\∀x∈l,∃y,c x=some y:=by
 cases l with
 | none=>cases h;exact⟨rfl,λx hx=>by simp at hx⟩
 | some x=>
  unfold oF at h;cases hx:c x with
  | none=>simp[hx]at h
  | some a=>
   simp[hx]at h;subst h;exact⟨by simp[hx],λy hy=>by simp at hy;subst hy;exact⟨a,hx⟩⟩
theorem vH{α β:Type}(d:β){c:α->Option β}:∀{l:List (Nat×Nat×α)} {m:List (Nat×Nat×β)},sK c l=some m->m=l.map (λx=>(x.1,x.2.1,(c x.2.2).getD d))/\∀x∈l,∃y,c x.2.2=some y:=by
 intro l
 induction l with
 | nil=>intro m h;cases h;exact⟨rfl,λx hx=>by simp at hx⟩
 | cons x l ih=>
  intro m h;obtain⟨i,j,x⟩:=x;unfold sK at h;cases hx:c x with
  | none=>simp[hx]at h
  | some a=>
   cases hl:sK c l with
   | none=>simp[hx,hl]at h
   | some as=>
    simp[hx,hl]at h;subst h;obtain⟨h1,h2⟩:=ih hl;refine⟨by simp[hx,<-h1],λy hy=>?_⟩;rcases dT.1 hy with rfl|hy
    ·exact⟨a,hx⟩
    ·exact h2 y hy
theorem jO{α β:Type}(d:β){c:α->Option β}{a:cr α}{b:cr β}(h:a.hZ c=some b):b=a.map (λx=>(c x).getD d)/\a.all (λx=>∃y,c x=some y):=by
 cases a<;>simp only[cr.hZ]at h<;>(try split at h)<;>first
  | (cases h;done)
  | (
    cases h;simp only[cr.map,cr.all]
    try simp_all only[wB,Option.some.injEq,exists_eq',and_self,and_true,true_and]
    first
    | done
    | (rename_i h1 h2 h3;exact⟨by rw[<-(dq d h1).1,<-(dq d h2).1,<-(dq d h3).1],(dq d h1).2,(dq d h2).2,(dq d h3).2⟩)
    | (rename_i h1 h2;exact⟨by rw[<-(dq d h1).1,<-(dq d h2).1],(dq d h1).2,(dq d h2).2⟩)
    | (rename_i h1 h2;exact⟨by rw[<-(iQ d h1).1,<-(iQ d h2).1],(iQ d h1).2,(iQ d h2).2⟩)
    | (rename_i h1;exact⟨by rw[<-(iQ d h1).1],(iQ d h1).2⟩)
    | (rename_i h1;exact⟨by rw[<-(vH d h1).1],(vH d h1).2⟩)
    | (rename_i h1;exact⟨by rw[<-(dq d h1).1],(dq d h1).2⟩))
theorem ns{α:Type}{p q:α->Prop}(ug:∀x,p x->q x){a:cr α}(h:a.all p):a.all q:=by
 cases a<;>simp only[cr.all]at h ⊢<;>first
  | trivial
  | exact ug _ h
  | exact⟨ug _ h.1,ug _ h.2⟩
  | exact⟨ug _ h.1,ug _ h.2.1,ug _ h.2.2⟩
  | exact λx hx=>ug _ (h x hx)
  | exact⟨ug _ h.1,λx hx=>ug _ (h.2 x hx)⟩
  | exact⟨λx hx=>ug _ (h.1 x hx),λx hx=>ug _ (h.2 x hx)⟩
  | exact⟨ug _ h.1,λx hx=>ug _ (h.2.1 x hx),λx hx=>ug _ (h.2.2 x hx)⟩
  | exact⟨ug _ h.1,λx hx=>ug _ (h.2.1 x hx),λx hx=>ug _ (h.2.2.1 x hx),λx hx=>ug _ (h.2.2.2 x hx)⟩
theorem dP{hp:Array Obj}{b:Nat}{es:Array MapEntry}{c:Nat}(w:World)(hw:w.heap=hp)(h:hp[b]?=some (.map es c)):(getObj b).run P w=.ok (.map es c) w:=by
 subst hw;simp[getObj,Sem.run,h]
theorem Ba{t kt e ty:TypeId}{v u:Value}{k:KV}(hd:P.underlying t=some (.map kt e))(hH:HR ρ H nx w.heap)(hv:VR ρ v u)(h:Ce H v k=some r) :
  ∃x y,k x=some r/\(Builtin.len_ #[t] ty #[u]).run P w=.ok y w/\VR ρ x y:=by
 unfold Ce at h;split at h
 ·cases hv with
  | sc h=>simp[scalar]at h
  | wG=>exact⟨_,_,h,by simp[Builtin.len_,run_underlying hd,goInt,Sem.run_pure],.sc rfl⟩
 ·obtain⟨es,c,hb,h1⟩:=iP h;cases hv with
  | sc h=>simp[scalar]at h
  | @map _ s hs=>
   obtain⟨s',fD,es',he,hr⟩:=hH.blk _ _ hb;rw[hs]at fD;cases fD
   refine⟨_,_,h1,?_,.sc rfl⟩;have hl:es'.size=es.length:=by simpa using hr.length
   simp[Builtin.len_,run_underlying hd,dP w rfl he,hl,goInt,Sem.run_pure]
 ·cases h
theorem xV{ok:Bool}{v u:Value}{b:Bool}(h:VR ρ v u):VR ρ (okV ok v b) (if ok=true then .tuple #[u,.bool b]else u):=by
 cases ok with
 | true=>exact .tuple (.cons h (.cons (.sc rfl) .nil))
 | false=>exact h
theorem Bb{t kt e:TypeId}{z:Value}{ok:Bool}{v u kv ku:Value}{k:KV}(hd:P.underlying t=some (.map kt e))(hz:iC P e=some z)(hH:HR ρ H nx w.heap)(hv:VR ρ v u)(hk:VR ρ kv ku)(h:Cf P kt z ok H kv k v=some r):∃x y,k x=some r/\(Instr.lookup t u ku ok).run P w=.ok y w/\VR ρ x y:=by
 obtain⟨sU,uE⟩:=jq (w:=w) hz;unfold Cf at h;split at h
 ·obtain⟨hf,h1⟩:=ct h;obtain⟨_,hq,h2⟩:=bn h1;have:=hk.jo hf;subst this;cases hv with
  | sc h=>simp[scalar]at h
  | wG=>
   refine⟨_,_,h2,?_,xV (.jt uE)⟩;have JE:(Instr.checkKey true 10000 kt ku).run P w=.ok () w:=k8 hq;obtain⟨y,hy,Eh⟩:∃y,(Instr.findKey kt ku []).run P w=.ok y w/\y=none:=by
    refine⟨none,?_,rfl⟩;unfold Instr.findKey;cases hu:P.underlying kt with
    | none=>
     exfalso;have iE:quiet P (Instr.checkKey true (9999+1) kt ku)=some ():=hq;unfold Instr.checkKey at iE;rw[fO]at iE;have:quiet P (underlying kt)=none:=by
      unfold underlying;simp[fO,quiet,program,hu];rfl
     rw[this]at iE;cases iE
    | some d=>simp[run_underlying hu,Instr.findNow,Sem.run_pure]
   subst Eh;simp only[Instr.lookup,Sem.run_bind,run_underlying hd,Result.andThen_ok,Sem.run_pure,JE,hy,sU,List.isEmpty_toArray,Array.isEmpty_empty];have aeD:(Instr.checkKey ([]:List MapEntry).isEmpty 10000 kt ku).run P w=.ok () w:=JE;simp only[aeD,hy,sU,Result.andThen_ok,Sem.run_bind,Sem.run_pure]
 ·obtain⟨es,c,hb,h1⟩:=iP h;obtain⟨x,hx,h2⟩:=bn h1;cases hv with
  | sc h=>simp[scalar]at h
  | @map _ s hs=>
   obtain⟨s',fD,es',he,hr⟩:=hH.blk _ _ hb;rw[hs]at fD;cases fD
   obtain⟨hf,JE,sY⟩:=nX (w:=w) hx hr;have:=hk.jo hf;subst this;have aa8:es'.isEmpty=es.isEmpty:=by
    have hl:es'.size=es.length:=by simpa using hr.length
    cases es with
    | nil=>simp[Array.isEmpty,hl]
    | cons=>simp[Array.isEmpty,hl]
   rcases sY with⟨rfl,Hv⟩|⟨i,e1,e2,rfl,g1,g2,g3,g4,g5,g6,g7,Hv⟩
   ·refine⟨_,_,h2,?_,xV (.jt uE)⟩;simp only[Instr.lookup,Sem.run_bind,run_underlying hd,Result.andThen_ok,dP w rfl he,Sem.run_pure,aa8,JE,Hv,sU]
   ·have h3:bd (mj es i) (λe=>k (okV ok e.val true))=some r:=h2;rw[xU,g1]at h3;refine⟨_,_,h3,?_,xV g3⟩;simp only[Instr.lookup,Sem.run_bind,run_underlying hd,Result.andThen_ok,dP w rfl he,Sem.run_pure,aa8,JE,Hv]
 ·cases h
end
section
variable {P:Program}{w:World}{ρ:bY}{H:Heap}{nx:Nat}{r:Ex×St}{T:Tr Value}{L:List Value}
theorem sZ:∀(vs:List Value) (k:List Value->R0),dN T L (vs.map Od.aO) k=k vs:=by
 intro vs
 induction vs with
 | nil=>intro k;rfl
 | cons v vs ih=>
  intro k;show dN T L (vs.map Od.aO) (λvs=>k (v::vs))=k (v::vs);rw[ih]
theorem rK:∀(vs:List (Nat×Nat×Value)) (k:List (Nat×Nat×Value)->R0),eX T L (vs.map λx=>(x.1,x.2.1,Od.aO x.2.2)) k=k vs:=by
 intro vs
 induction vs with
 | nil=>intro k;rfl
 | cons v vs ih=>
  intro k;obtain⟨a,b,v⟩:=v;show eX T L (vs.map λx=>(x.1,x.2.1,Od.aO x.2.2)) (λvs=>k ((a,b,v)::vs))=k ((a,b,v)::vs);rw[ih]
theorem dJ.map{α:Type}{f g:α->Value}:∀{l:List α},(∀x∈l,VR ρ (f x) (g x))->dJ ρ (l.map f) (l.map g):=by
 intro l
 induction l with
 | nil=>intro _;exact .nil
 | cons x l ih=>intro h;exact .cons (h x (by simp)) (ih λy hy=>h y (by simp[hy]))
theorem OR.map{α:Type}{f g:α->Value}{o:Option α}(h:∀x∈o,VR ρ (f x) (g x)):OR ρ (o.map f) (o.map g):=by
 cases o with
 | none=>exact .no
 | some x=>exact .one (h x rfl)
def Good(P:Program)(w:World)(ρ:bY)(H:Heap)(nx:Nat)(r:Ex×St)(k:KA)(s:Sem Next):Prop:=
 ∃v H' nx' u w' ρ',k v H' nx'=some r/\(s.run P w=.ok (.value u) w'\/(s.run P w=.ok .skip w'/\u=undef))/\VR ρ' v u/\HR ρ' H' nx' w'.heap/\Hm ρ H w ρ' H' w'/\nx<=nx'/\∀b,b<nx->ρ' b=ρ b
theorem Good.look{k:KA}{s:Sem Value}{s':Sem Next}(hs:s'=(do pure (.value (<-s))))(hH:HR ρ H nx w.heap)(h:∃x y,k x H nx=some r/\s.run P w=.ok y w/\VR ρ x y):Good P w ρ H nx r k s':=by
 obtain⟨x,y,h1,h2,h3⟩:=h;subst hs;exact⟨x,H,nx,y,w,ρ,h1,.inl (by simp only[Sem.run_bind,h2,Result.andThen_ok,Sem.run_pure]),h3,hH,.refl ρ H w,au _,λ_ _=>rfl⟩
variable {ρa ρc:Operand->Value}{o:Oper}{k:KA}{ins:List Nat}
abbrev Av(ρa:Operand->Value):Operand->Od:=λx=>Od.aO (ρa x)
theorem El{fs:List Field}:∀{xs:List (Nat×Operand)} {pl:List (Nat×Nat×Operand)},kQ P fs xs=some pl->pl.length=xs.length/\∀(i:Nat) (p:Nat×Nat×Operand) (x:Nat×Operand),
  pl[i]?=some p->xs[i]?=some x->∃f s,fs[x.1]?=some f/\cQ P f.type=some s/\p=(f.offset,s,x.2):=by
 intro xs
 induction xs with
 | nil=>intro pl h;cases h;exact⟨rfl,λi p x hp=>by simp at hp⟩
 | cons x xs ih=>
  intro pl h;obtain⟨j,x⟩:=x;unfold kQ at h;cases hf:fs[j]? with
  | none=>simp[hf]at h
  | some f=>
   cases hr:kQ P fs xs with
   | none=>simp[hf,hr]at h
   | some rs=>
    cases hs:cQ P f.type with
    | none=>simp[hf,hr,hs]at h
    | some s=>
     simp[hf,hr,hs]at h;subst h;obtain⟨h1,h2⟩:=ih hr;refine⟨by simp[h1],λi p y hp hy=>?_⟩;cases i with
     | zero=>simp at hp hy;subst hp;subst hy;exact⟨f,s,hf,hs,rfl⟩
     | succ i=>exact h2 i p y (by simpa using hp) (by simpa using hy)
theorem vI{z:Nat}:∀(xs:List (Nat×Operand)),(fK z xs).length=xs.length/\∀(i:Nat) (p:Nat×Nat×Operand) (x:Nat×Operand),
  (fK z xs)[i]?=some p->xs[i]?=some x->p=(x.1*z,z,x.2):=by
 intro xs
 induction xs with
 | nil=>exact⟨rfl,λi p x hp=>by simp[fK]at hp⟩
 | cons x xs ih=>
  obtain⟨j,x⟩:=x;obtain⟨h1,h2⟩:=ih;refine⟨by simp[fK,h1],λi p y hp hy=>?_⟩;cases i with
  | zero=>simp[fK]at hp hy;subst hp;subst hy;rfl
  | succ i=>exact h2 i p y (by simpa[fK]using hp) (by simpa using hy)
theorem Em{t:TypeId}{xs:Array (Nat×Operand)}{a:cr Operand}(ho:o.op=.build t xs)(hc:ar P ins o=some a)(ha:a.all λx=>VR ρ (ρa x) (ρc x))(hH:HR ρ H nx w.heap)(h:cY (a.map (Av ρa)) P T L H nx k=some r):Good P w ρ H nx r k (execOp ρc o):=by
 have he:execOp ρc o=(do pure (.value (<-Instr.build t (xs.map λ(i,x)=>(i,ρc x))))):=by simp only[execOp,ho]
 refine .look he hH ?_;have hq:(xs.map λ(i,x)=>(i,ρc x))=(xs.toList.map λx=>(x.1,ρc x.2)).toArray:=by
  apply Array.ext';simp
 rw[hq];simp only[ar,ho]at hc;split at hc
 ·rename_i fs zero hu hz;cases kk:fs.toList.all (λf=>(cQ P f.type).isSome)with
  | false=>rw[kk]at hc;cases hc
  | true=>
   rw[kk]at hc;cases hp:kQ P fs.toList xs.toList with
   | none=>simp[hp]at hc
   | some pl=>
    simp[hp]at hc;subst hc;obtain⟨h1,h2⟩:=El hp;have h':eX T L ((pl.map λx=>(x.1,x.2.1,ρa x.2.2)).map λx=>(x.1,x.2.1,Od.aO x.2.2)) (λps=>bd (fJ zero ps) λcs=>k (.agg cs.toArray) H nx)=some r:=by
     rw[List.map_map];exact h
    rw[rK]at h';obtain⟨cs,hf,hk⟩:=bn h';obtain⟨y,hy,hv⟩:=uF (w:=w) (ρ:=ρ) hu hz hp (ps:=pl.map λx=>(x.1,x.2.1,ρa x.2.2)) (qs:=xs.toList.map λx=>(x.1,ρc x.2)) (by simp[h1]) (λi p q Vx Vy=>by
     simp only[eD,Option.map_eq_some_iff]at Vx Vy;obtain⟨p',m6,rfl⟩:=Vx;obtain⟨q',iE,rfl⟩:=Vy;obtain⟨f,s,g1,g2,rfl⟩:=h2 i p' q' m6 iE;exact⟨f,s,g1,g2,rfl,rfl,ha _ (dM m6)⟩) (λi f Cp=>by
      have:=List.all_eq_true.1 kk f (dM Cp);exact Option.isSome_iff_exists.1 this) hf
    exact⟨_,y,hk,hy,hv⟩
 ·rename_i n e zero hu hz;cases hs:cQ P e with
  | none=>simp[hs]at hc
  | some z=>
   simp[hs]at hc;subst hc;obtain⟨h1,h2⟩:=vI (z:=z) xs.toList;have h':eX T L (((fK z xs.toList).map λx=>(x.1,x.2.1,ρa x.2.2)).map λx=>(x.1,x.2.1,Od.aO x.2.2)) (λps=>bd (fJ zero ps) λcs=>k (.agg cs.toArray) H nx)=some r:=by
    rw[List.map_map];exact h
   rw[rK]at h';obtain⟨cs,hf,hk⟩:=bn h';obtain⟨y,hy,hv⟩:=wH (w:=w) (ρ:=ρ) hu hz hs (ps:=(fK z xs.toList).map λx=>(x.1,x.2.1,ρa x.2.2)) (qs:=xs.toList.map λx=>(x.1,ρc x.2)) (by simp[h1]) (λi p q Vx Vy=>by
    simp only[eD,Option.map_eq_some_iff]at Vx Vy;obtain⟨p',m6,rfl⟩:=Vx;obtain⟨q',iE,rfl⟩:=Vy;have:=h2 i p' q' m6 iE;subst this;exact⟨rfl,rfl,ha _ (dM m6)⟩) hf
   exact⟨_,y,hk,hy,hv⟩
 ·cases hc
end
section
variable {P:Program}{w:World}{ρ:bY}{H:Heap}{nx:Nat}{r:Ex×St}{T:Tr Value}{L:List Value}{ρa ρc:Operand->Value}{o:Oper}{k:KA}{ins:List Nat}
theorem Good.same{s:Sem Next}{v u:Value}(hH:HR ρ H nx w.heap)(hv:VR ρ v u)(hk:k v H nx=some r)(hs:s.run P w=.ok (.value u) w):Good P w ρ H nx r k s:=
 ⟨v,H,nx,u,w,ρ,hk,.inl hs,hv,hH,.refl ρ H w,au _,λ_ _=>rfl⟩
theorem xW{x:Operand}{a:cr Operand}(ho:o.op=.move x\/o.op=.assign x)(hc:ar P ins o=some a)(ha:a.all λx=>VR ρ (ρa x) (ρc x))(hH:HR ρ H nx w.heap)(h:cY (a.map (Av ρa)) P T L H nx k=some r):Good P w ρ H nx r k (execOp ρc o):=by
 have he:execOp ρc o=pure (.value (ρc x)):=by rcases ho with ho|ho<;>simp only[execOp,ho]
 have hc':a=.ai x:=by rcases ho with ho|ho<;>(simp only[ar,ho]at hc;cases hc;rfl)
 subst hc';rw[he];exact .same hH ha h rfl
theorem Hw{c x y:Operand}{a:cr Operand}(ho:o.op=.pick c x y)(hc:ar P ins o=some a)(ha:a.all λx=>VR ρ (ρa x) (ρc x))(hH:HR ρ H nx w.heap)(h:cY (a.map (Av ρa)) P T L H nx k=some r):Good P w ρ H nx r k (execOp ρc o):=by
 have he:execOp ρc o=(do pure (.value (if <-asBool (ρc c)then ρc x else ρc y))):=by simp only[execOp,ho]
 simp only[ar,ho]at hc;cases hc;obtain⟨h1,h2,h3⟩:=ha;have h':hY (ρa c) (k (ρa x) H nx) (k (ρa y) H nx)=some r:=h;rw[he];rcases py h' with⟨e,hk⟩|⟨e,hk⟩
 ·rw[e]at h1;refine .same hH h2 hk ?_;rw[h1.sS];rfl
 ·rw[e]at h1;refine .same hH h3 hk ?_;rw[h1.sS];rfl
theorem En{t:TypeId}{x:Operand}{a:cr Operand}(ho:o.op=.load t x)(hc:ar P ins o=some a)(ha:a.all λx=>VR ρ (ρa x) (ρc x))(hH:HR ρ H nx w.heap)(h:cY (a.map (Av ρa)) P T L H nx k=some r):Good P w ρ H nx r k (execOp ρc o):=by
 have he:execOp ρc o=(do pure (.value (<-Instr.loadAt t (ρc x)))):=by simp only[execOp,ho]
 simp only[ar,ho,Option.map_eq_some_iff]at hc;obtain⟨g,hg,rfl⟩:=hc;exact .look he hH (uC hg hH ha h)
theorem xX{x:Operand}{a:cr Operand}(ho:o.op=.nilCheck x)(hc:ar P ins o=some a)(ha:a.all λx=>VR ρ (ρa x) (ρc x))(hH:HR ρ H nx w.heap)(h:cY (a.map (Av ρa)) P T L H nx k=some r):Good P w ρ H nx r k (execOp ρc o):=by
 simp only[ar,ho]at hc;cases hc;obtain⟨v,u,h1,h2,h3⟩:=D9 (P:=P) (w:=w) ha (show xC (ρa x) (λv=>k v H nx)=some r from h);refine .same hH h3 h1 ?_;simp only[execOp,ho];exact h2
theorem Eo{op:BinOp}{t:TypeId}{x y:Operand}{b:Bool}{a:cr Operand}(ho:∃q,o.op=.binOp op t x y q)(hc:ar P ins o=some a)(ha:a.all λx=>VR ρ (ρa x) (ρc x))(hH:HR ρ H nx w.heap)(h:cY (a.map (Av ρa)) P T L H nx k=some r):Good P w ρ H nx r k (execOp ρc o):=by
 obtain⟨q,ho⟩:=ho;have he:execOp ρc o=(do pure (.value (<-(do eqGuard op t x y (ρc x) (ρc y);binOp op t (ρc x) (ρc y):Sem Value)))):=by simp only[execOp,ho]
 simp only[ar,ho]at hc;have bin:a=.bin op t x y->Good P w ρ H nx r k (execOp ρc o):=by
  intro e;subst e;exact .look he hH (Lv ha.1 ha.2 h)
 have isn:∀(d:TypeDesc) (kd:Nat),(op=.eql\/op=.neq)->P.underlying t=some d->xQ kd d=true->(kd=4->(ef x||ef y)=true)->a=.eP (lA op) kd x y->Good P w ρ H nx r k (execOp ρc o):=by
  intro d kd h1 h2 h3 h4 e;subst e;exact .look he hH (Ec h1 h2 h3 h4 ha.1 ha.2 h)
 have eqs:(op=.eql\/op=.neq)->Good P w ρ H nx r k (execOp ρc o):=by
  intro Ep;have hc':(match P.underlying t with
   | some (.pointer _)=>some (.eP (lA op) 0 x y)
   | some (.slice _)=>some (.eP (lA op) 1 x y)
   | some (.map _ _)=>some (.eP (lA op) 2 x y)
   | some (.func _ _ _)=>some (.eP (lA op) 3 x y)
   | some (.interface _)=>bif ef x||ef y then some (.eP (lA op) 4 x y)else none
   | some _=>some (.bin op t x y)
   | none=>none:Option (cr Operand))=some a:=by
   rcases Ep with rfl|rfl<;>exact hc
  split at hc'
  ·rename_i hu;cases hc';exact isn _ 0 Ep hu rfl (λh=>by cases h) rfl
  ·rename_i hu;cases hc';exact isn _ 1 Ep hu rfl (λh=>by cases h) rfl
  ·rename_i hu;cases hc';exact isn _ 2 Ep hu rfl (λh=>by cases h) rfl
  ·rename_i hu;cases hc';exact isn _ 3 Ep hu rfl (λh=>by cases h) rfl
  ·rename_i hu;cases hb:(ef x||ef y)with
   | false=>rw[hb]at hc';cases hc'
   | true=>rw[hb]at hc';cases hc';exact isn _ 4 Ep hu rfl (λ_=>hb) rfl
  ·cases hc';exact bin rfl
  ·cases hc'
 by_cases Ep:op=.eql\/op=.neq
 ·exact eqs Ep
 ·refine bin ?_;unfold jK at hc;split at hc
  ·exact absurd (.inl rfl) Ep
  ·exact absurd (.inr rfl) Ep
  ·cases hc;rfl
theorem Hy{op:UnOp}{t:TypeId}{x:Operand}{a:cr Operand}(ho:o.op=.unOp op t x)(hc:ar P ins o=some a)(ha:a.all λx=>VR ρ (ρa x) (ρc x))(hH:HR ρ H nx w.heap)(h:cY (a.map (Av ρa)) P T L H nx k=some r):Good P w ρ H nx r k (execOp ρc o):=by
 have he:execOp ρc o=(do pure (.value (<-Op.unary op (ρc x)))):=by simp only[execOp,ho]
 simp only[ar,ho]at hc;cases hc;exact .look he hH (On ha h)
theorem An{s d:TypeId}{x:Operand}{a:cr Operand}(ho:o.op=.convert s d x)(hc:ar P ins o=some a)(ha:a.all λx=>VR ρ (ρa x) (ρc x))(hH:HR ρ H nx w.heap)(h:cY (a.map (Av ρa)) P T L H nx k=some r):Good P w ρ H nx r k (execOp ρc o):=by
 have he:execOp ρc o=(do pure (.value (<-convert s d (ρc x)))):=by simp only[execOp,ho]
 simp only[ar,ho]at hc;cases hb:(nT P s&&nT P d)with
 | false=>rw[hb]at hc;cases hc
 | true=>
  rw[hb]at hc;cases hc;exact .look he hH (Lo ha h)
theorem qT{t:TypeId}{x:Operand}{a:cr Operand}(ho:o.op=.makeInterface t x)(hc:ar P ins o=some a)(ha:a.all λx=>VR ρ (ρa x) (ρc x))(hH:HR ρ H nx w.heap)(h:cY (a.map (Av ρa)) P T L H nx k=some r):Good P w ρ H nx r k (execOp ρc o):=by
 have he:execOp ρc o=(do pure (.value (<-Instr.makeInterface t (ρc x)))):=by simp only[execOp,ho]
 simp only[ar,ho]at hc;split at hc
 ·cases hc
 ·rename_i d hn hu;cases hc;exact .look he hH (Lq hu (λms e=>hn ms (by rw[e])) ha h)
 ·cases hc
theorem xY{fn:Fn}{xs ys:Array Operand}{a:cr Operand}(ho:o.op=.makeFunc fn xs ys)(hc:ar P ins o=some a)(ha:a.all λx=>VR ρ (ρa x) (ρc x))(hH:HR ρ H nx w.heap)(h:cY (a.map (Av ρa)) P T L H nx k=some r):Good P w ρ H nx r k (execOp ρc o):=by
 have he:execOp ρc o=(do pure (.value (<-Instr.makeFunc fn (xs.map ρc) (ys.map ρc)))):=by simp only[execOp,ho]
 simp only[ar,ho]at hc;cases fn with
 | func f=>
  cases hc;have h':dN T L ((xs.toList.map ρa).map Od.aO) (λa=>dN T L ((ys.toList.map ρa).map Od.aO) λb=>k (.func (.func f) a.toArray b.toArray) H nx)=some r:=by
   rw[List.map_map,List.map_map];exact h
  rw[sZ,sZ]at h';refine .look he hH ⟨_,.func (.func f) (xs.map ρc) (ys.map ρc),h',rfl,?_⟩;have e1:xs.map ρc=⟨xs.toList.map ρc⟩:=by apply Array.ext';simp
  have e2:ys.map ρc=⟨ys.toList.map ρc⟩:=by apply Array.ext';simp
  rw[e1,e2];exact .func (.map λx hx=>ha.1 x hx) (.map λx hx=>ha.2 x hx)
 | _=>cases hc
theorem Er{t:TypeId}{x:Operand}{lo hi mx:Option Operand}{a:cr Operand}(ho:o.op=.slice t x lo hi mx)(hc:ar P ins o=some a)(ha:a.all λx=>VR ρ (ρa x) (ρc x))(hH:HR ρ H nx w.heap)(h:cY (a.map (Av ρa)) P T L H nx k=some r):Good P w ρ H nx r k (execOp ρc o):=by
 have he:execOp ρc o=(do pure (.value (<-Instr.sliceAt t (ρc x) (lo.map ρc) (hi.map ρc) (mx.map ρc)))):=by simp only[execOp,ho]
 simp only[ar,ho]at hc;split at hc
 ·rename_i e hu;cases hm:(mx.isNone||hi.isSome)with
  | false=>rw[hm]at hc;cases hc
  | true=>
   rw[hm]at hc;simp only[cond_true,Option.map_eq_some_iff]at hc;obtain⟨z,hz,rfl⟩:=hc;obtain⟨h1,h2,h3,h4⟩:=ha;refine .look he hH (LA (T:=T) (L:=L) (lo:=lo.map ρa) (hi:=hi.map ρa) (mx:=mx.map ρa) hu hz (by simpa using hm) h1 (.map h2) (.map h3) (.map h4) ?_);simp only[Option.map_map];exact h
 ·rename_i hu;cases mx with
  | some _=>cases hc
  | none=>
   cases hc;obtain⟨h1,h2,h3⟩:=ha;have hss:∀(q:Option Operand) (g:Option Value->R0),D1 T L (q.map (Av ρa)) g=g (q.map ρa):=by
    intro q g;cases q<;>rfl
   have h':D1 T L (lo.map (Av ρa)) (λl=>D1 T L (hi.map (Av ρa)) λhh=>bd (jH P (ρa x::(l.toList++hh.toList)) (Instr.slice t (ρa x) l hh none)) λv=>k v H nx)=some r:=h;rw[hss,hss]at h';have mS:dJ ρ (ρa x::((lo.map ρa).toList++(hi.map ρa).toList)) (ρc x::((lo.map ρc).toList++(hi.map ρc).toList)):=by
    refine .cons h1 (.append ?_ ?_)
    ·cases lo with
     | none=>exact .nil
     | some q=>exact .cons (h2 q rfl) .nil
    ·cases hi with
     | none=>exact .nil
     | some q=>exact .cons (h3 q rfl) .nil
   obtain⟨e,v,g1,g2,g3⟩:=js (w:=w) mS h';have e1:ρc x=ρa x:=(List.cons.inj e).1;have e3:=(List.cons.inj e).2;have e2:lo.map ρc=lo.map ρa/\hi.map ρc=hi.map ρa:=by
    cases lo<;>cases hi<;>simp at e3 ⊢<;>simp_all
   refine .look he hH ⟨v,v,g1,?_,g3⟩;rw[e1,e2.1,e2.2];simp only[Instr.sliceAt,Sem.run_bind,run_underlying hu,Result.andThen_ok];exact g2
 ·cases hc
theorem wI{s:TypeId}{x:Operand}{f:Nat}{a:cr Operand}(ho:o.op=.fieldAddr s x f)(hc:ar P ins o=some a)(ha:a.all λx=>VR ρ (ρa x) (ρc x))(hH:HR ρ H nx w.heap)(h:cY (a.map (Av ρa)) P T L H nx k=some r):Good P w ρ H nx r k (execOp ρc o):=by
 have he:execOp ρc o=(do pure (.value (<-Instr.fieldAt s (ρc x) f))):=by simp only[execOp,ho]
 simp only[ar,ho]at hc;split at hc
 ·rename_i fs hu;split at hc
  ·rename_i fd hf;split at hc
   ·rename_i n hn;cases hc;exact .look he hH (Lj hu hf hn ha h)
   ·cases hc
  ·cases hc
 ·cases hc
theorem Es{s:TypeId}{x:Operand}{f:Nat}{a:cr Operand}(ho:o.op=.field s x f)(hc:ar P ins o=some a)(ha:a.all λx=>VR ρ (ρa x) (ρc x))(hH:HR ρ H nx w.heap)(h:cY (a.map (Av ρa)) P T L H nx k=some r):Good P w ρ H nx r k (execOp ρc o):=by
 have he:execOp ρc o=(do pure (.value (<-Instr.field s (ρc x) f))):=by simp only[execOp,ho]
 simp only[ar,ho]at hc;split at hc
 ·rename_i fs hu;split at hc
  ·rename_i fd hf;simp only[Option.map_eq_some_iff]at hc;obtain⟨g,hg,rfl⟩:=hc;exact .look he hH (Li hu hf hg ha h)
  ·cases hc
 ·cases hc
theorem wJ{t:TypeId}{x i:Operand}{a:cr Operand}(ho:o.op=.indexAddr t x i)(hc:ar P ins o=some a)(ha:a.all λx=>VR ρ (ρa x) (ρc x))(hH:HR ρ H nx w.heap)(h:cY (a.map (Av ρa)) P T L H nx k=some r):Good P w ρ H nx r k (execOp ρc o):=by
 have he:execOp ρc o=(do pure (.value (<-Instr.indexAt t (ρc x) (ρc i)))):=by simp only[execOp,ho]
 simp only[ar,ho]at hc;split at hc
 ·rename_i n e hu;simp only[Option.map_eq_some_iff]at hc;obtain⟨z,hz,rfl⟩:=hc;exact .look he hH (Lm hu hz ha.1 ha.2 h)
 ·rename_i e hu;simp only[Option.map_eq_some_iff]at hc;obtain⟨z,hz,rfl⟩:=hc;exact .look he hH (Lk hu hz ha.1 ha.2 h)
 ·cases hc
theorem Et{t:TypeId}{x i:Operand}{a:cr Operand}(ho:o.op=.index t x i)(hc:ar P ins o=some a)(ha:a.all λx=>VR ρ (ρa x) (ρc x))(hH:HR ρ H nx w.heap)(h:cY (a.map (Av ρa)) P T L H nx k=some r):Good P w ρ H nx r k (execOp ρc o):=by
 have he:execOp ρc o=(do pure (.value (<-Instr.index t (ρc x) (ρc i)))):=by simp only[execOp,ho]
 simp only[ar,ho]at hc;split at hc
 ·rename_i n e hu;split at hc
  ·rename_i g z hg hz;cases hc;exact .look he hH (Om hu hg hz ha.1 ha.2 h)
  ·cases hc
 ·cases hc;exact .look he hH (Lp ha.1 ha.2 h)
 ·cases hc
theorem Cq{t:TypeId}{x i:Operand}{ok:Bool}{a:cr Operand}(ho:o.op=.lookup t x i ok)(hc:ar P ins o=some a)(ha:a.all λx=>VR ρ (ρa x) (ρc x))(hH:HR ρ H nx w.heap)(h:cY (a.map (Av ρa)) P T L H nx k=some r):Good P w ρ H nx r k (execOp ρc o):=by
 have he:execOp ρc o=(do pure (.value (<-Instr.lookup t (ρc x) (ρc i) ok))):=by simp only[execOp,ho]
 simp only[ar,ho]at hc;split at hc
 ·rename_i kt e hu;simp only[Option.map_eq_some_iff]at hc;obtain⟨z,hz,rfl⟩:=hc;exact .look he hH (Bb hu hz hH ha.1 ha.2 h)
 ·cases hc
theorem uI{x:Operand}{xt t:TypeId}{ok:Bool}{a:cr Operand}(ho:o.op=.typeAssert x xt t ok)(hc:ar P ins o=some a)(ha:a.all λx=>VR ρ (ρa x) (ρc x))(hH:HR ρ H nx w.heap)(h:cY (a.map (Av ρa)) P T L H nx k=some r):Good P w ρ H nx r k (execOp ρc o):=by
 have he:execOp ρc o=(do pure (.value (<-Instr.typeAssert (ρc x) xt t ok))):=by simp only[execOp,ho]
 simp only[ar,ho]at hc;split at hc
 ·cases hc
 ·rename_i d hn hu;simp only[Option.map_eq_some_iff]at hc;obtain⟨z,hz,rfl⟩:=hc;exact .look he hH (Lw hu (λms e=>hn ms (by rw[e])) hz ha h)
 ·cases hc
theorem Ao{x:Operand}{i:Nat}{a:cr Operand}(ho:o.op=.extract x i)(hc:ar P ins o=some a)(ha:a.all λx=>VR ρ (ρa x) (ρc x))(hH:HR ρ H nx w.heap)(h:cY (a.map (Av ρa)) P T L H nx k=some r):Good P w ρ H nx r k (execOp ρc o):=by
 have he:execOp ρc o=(do pure (.value (<-Instr.extract (ρc x) i))):=by simp only[execOp,ho]
 simp only[ar,ho]at hc;cases hc;exact .look he hH (Ln ha h)
end
section
variable {P:Program}{w:World}{ρ:bY}{H:Heap}{nx:Nat}{r:Ex×St}{T:Tr Value}{L:List Value}{ρa ρc:Operand->Value}{o:Oper}{k:KA}{ins:List Nat}
theorem nY(z:List Value)(n:Nat):bj z (n+1)=z++bj z n:=rfl
theorem Ou(z:List Value):∀n:Nat,((List.range (n*z.length)).map λi=>(z.toArray)[i%z.length]!)=bj z n:=by
 intro n
 induction n with
 | zero=>rw[Nat.zero_mul];rfl
 | succ n ih=>
  rw[nY,<-ih];have e:(n+1)*z.length=z.length+n*z.length:=by rw[Nat.add_mul];omega
  rw[e,List.range_add,jG,List.map_map]
  congr 1
  ·apply List.ext_getElem
   ·simp
   ·intro i h1 h2;simp at h1;have h3:i%z.length=i:=Nat.mod_eq_of_lt h1;simp[h3,h1]
  ·apply List.map_congr_left;intro i _;simp
theorem dJ.rep{z:List Value}(h:dJ ρ z z):∀n,dJ ρ (bj z n) (bj z n):=by
 intro n
 induction n with
 | zero=>exact .nil
 | succ n ih=>exact .append h ih
theorem dE(z:List Value):∀n,(bj z n).length=n*z.length:=by
 intro n
 induction n with
 | zero=>rw[Nat.zero_mul];rfl
 | succ n ih=>rw[nY];simp[ih,Nat.add_mul];omega
theorem Good.pre{H1:Heap}{s:Sem Next}(h:Good P w ρ H1 nx r k s)(ho:∀j,mf ρ H1 j->mf ρ H j)(o8:Hl H1 H):Good P w ρ H nx r k s:=by
 obtain⟨v,H',nx',u,w',ρ',h1,h2,h3,h4,h5,h6,h7⟩:=h;refine⟨v,H',nx',u,w',ρ',h1,h2,h3,h4,⟨h5.ext,λj hj=>?_,h5.ro.trans o8,λj hj hn=>h5.frame j hj λhx=>hn (ho j hx),h5.size,h5.os,h5.tape,h5.output⟩,h6,h7⟩;rcases h5.own j hj with h6|h6
 ·exact .inl (ho j h6)
 ·exact .inr h6
theorem Good.JF{w':World}{b:jb}{ob:Obj}{rf:Ref}{v u:Value}{s:Sem Next}(hH:HR ρ H nx w.heap)(hh:w'.heap=w.heap.push ob)(WV:w'.os=w.os)(ht:w'.tape=w.tape)(oU:w'.output=w.output)(uh:rf.blk=w.heap.size)(hbm:b.kj=true)(zO:BR (ρ.with nx rf) (w.heap.push ob) rf b)(hv:VR (ρ.with nx rf) v u)(hk:k v (cA (at_ nx) H (some b)) (nx+1)=some r)(hs:s.run P w=.ok (.value u) w'):Good P w ρ H nx r k s:=by
 refine⟨v,_,_,u,w',ρ.with nx rf,hk,.inl hs,hv,?_,⟨hH.gz _,λj hj=>?_,.put _ _ _ hbm,λj hj _=>?_,by rw[hh];simp,WV,ht,oU⟩,cE _,λb hb=>bY.iD _ _ (by omega)⟩
 ·rw[hh];refine hH.make (λc x s' hc fD=>?_) zO;obtain⟨q,hq,hbq⟩:=hH.blk c x hc;rw[fD]at hq;cases hq
  have:=hbq.lt;refine⟨?_,by omega⟩;rw[Array.getElem?_push];rw[aw (by omega)]
 ·rcases mf.wY hj with h|h
  ·exact .inr (by omega)
  ·exact .inl h
 ·rw[hh,Array.getElem?_push,aw (by omega)]
theorem Good.made{w':World}{cs:List Value}{cs':Array Value}{e:TypeId}{v u:Value}{s:Sem Next}(hH:HR ρ H nx w.heap)(hh:w'.heap=w.heap.push (.cells cs' e (0,0)))(WV:w'.os=w.os)(ht:w'.tape=w.tape)(oU:w'.output=w.output)(hr:∀(i:Nat) (x:Value),cs[i]?=some x->∃y,cs'[i]?=some y/\VR ρ x y)(hv:VR (ρ.with nx ⟨w.heap.size,0,cs'.size⟩) v u)(hk:k v (cA (at_ nx) H (some (.cells cs))) (nx+1)=some r)(hs:s.run P w=.ok (.value u) w'):Good P w ρ H nx r k s:=by
 refine .JF (b:=.cells cs) (rf:=⟨w.heap.size,0,cs'.size⟩) hH hh WV ht oU rfl rfl ⟨cs',e,by simp,rfl,λi x hx=>?_⟩ hv hk hs;obtain⟨y,hy,oT⟩:=hr i x hx;exact⟨y,by simpa using hy,oT.mono (hH.gz _)⟩
theorem pA{v:Value}{cs:List Value}:fresh H nx v k cs=k v (cA (at_ nx) H (some (.cells cs))) (nx+1):=by
 unfold fresh;rw[cL]
theorem VR.fresh{n:Nat}{sz:Nat}:VR (ρ.with nx ⟨n,0,sz⟩) (ptrTo nx) (.pointer (some ⟨n,0,none⟩)):=by
 have:=VR.ptr (ρ:=ρ.with nx ⟨n,0,sz⟩) (b:=nx) (o:=0) (bY.fu _ _ _)
 simpa[ptrTo]using this
theorem xZ(n:Nat):aF (Nat.succ (Nat.mul 2 n))=n:=by
 show (2*n+1) / 2=n;omega
theorem VR.JG{n z len c:Nat}(h:len<=c/\c<=ft):VR (ρ.with nx ⟨n,0,c*z⟩) (wE nx z len (Nat.succ (Nat.mul 2 c))) (.slice (some ⟨n,0,none⟩) len c):=by
 refine .sl (r:=⟨n,0,c*z⟩) (bY.fu _ _ _) h (by rw[xZ];exact au _) (λ_=>(xZ c).symm) (.inr ⟨rfl,?_⟩);simp
theorem dJ.Tl{cs:List Value}{a:Array Value}(h:dJ ρ cs a.toList):∀(i:Nat) (x:Value),cs[i]?=some x->∃y,a[i]?=some y/\VR ρ x y:=by
 intro i x hx;obtain⟨y,hy,hv⟩:=h.get hx;exact⟨y,by simpa using hy,hv⟩
theorem LB{t:TypeId}{x:Operand}{a:cr Operand}(ho:o.op=.box t x)(hc:ar P ins o=some a)(ha:a.all λx=>VR ρ (ρa x) (ρc x))(hH:HR ρ H nx w.heap)(h:cY (a.map (Av ρa)) P T L H nx k=some r):Good P w ρ H nx r k (execOp ρc o):=by
 have he:execOp ρc o=(do pure (.value (<-Instr.box t (ρc x)))):=by simp only[execOp,ho]
 simp only[ar,ho]at hc;cases hc;have h':fresh H nx (ptrTo nx) k (cellsOf (ρa x))=some r:=h;rw[pA]at h';rw[he];exact .made (w':={ w with heap:=w.heap.push (.cells (ρc x).cells t (0,0)) }) hH rfl rfl rfl rfl (dJ.Tl (VR.cells ha)) .fresh h' rfl
theorem Eu{t:TypeId}{a:cr Operand}(ho:o.op=.alloc t)(hc:ar P ins o=some a)(hH:HR ρ H nx w.heap)(h:cY (a.map (Av ρa)) P T L H nx k=some r):Good P w ρ H nx r k (execOp ρc o):=by
 have he:execOp ρc o=(do pure (.value (<-Instr.alloc t true (.tuple #[])))):=by simp only[execOp,ho]
 simp only[ar,ho,Option.map_eq_some_iff]at hc;obtain⟨zero,hz,rfl⟩:=hc;have h':fresh H nx (ptrTo nx) k zero=some r:=h;rw[pA]at h';obtain⟨v,sU,uE⟩:=dD hz;have GV:=(fM (ρ:=ρ) hz sU).2;obtain⟨Hq,_⟩:=jq (w:=w) sU;rw[he];refine .made (w':={ w with heap:=w.heap.push (.cells v.cells t (0,0)) }) hH rfl rfl rfl rfl (dJ.Tl (by rw[<-uE];exact GV)) .fresh h' ?_;simp only[Instr.alloc,Sem.run_bind,Hq,Result.andThen_ok];rfl
theorem Ap{t:TypeId}{x:Option Operand}{a:cr Operand}(ho:o.op=.makeMap t x)(hc:ar P ins o=some a)(ha:a.all λx=>VR ρ (ρa x) (ρc x))(hH:HR ρ H nx w.heap)(h:cY (a.map (Av ρa)) P T L H nx k=some r):Good P w ρ H nx r k (execOp ρc o):=by
 have he:execOp ρc o=(do pure (.value (<-Instr.makeMap t (x.map ρc)))):=by simp only[execOp,ho]
 simp only[ar,ho]at hc;split at hc
 ·rename_i kt e hu;cases hc;have h':jd T L ((x.map ρa).map Od.aO) 0 (λ_=>eQ (at_ nx) H (some (.map [] 0)) λH=>k (.map (some nx)) H (Nat.succ nx))=some r:=by
   rw[Option.map_map];exact h
  obtain⟨n,h1,hx⟩:=lG h';rw[cL]at h1;rw[he];refine .JF (b:=.map [] 0) (rf:=⟨w.heap.size,0,0⟩) (w':={ w with heap:=w.heap.push (.map #[] 0) }) hH rfl rfl rfl rfl rfl rfl ⟨#[],by simp,.nil⟩ (.map (r:=⟨w.heap.size,0,0⟩) (bY.fu _ _ _)) h1 ?_;rcases hx with⟨hx,_⟩|⟨ki,hx⟩
  ·cases x with
   | none=>rfl
   | some x=>simp at hx
  ·cases x with
   | none=>simp at hx
   | some x=>
    simp only[Option.map_some,Option.some.injEq]at hx;have hv:VR ρ (ρa x) (ρc x):=ha x rfl;rw[hx]at hv;have:=hv.jr;simp only[Instr.makeMap,Option.map_some,this,Sem.run_bind,run_underlying hu,Result.andThen_ok];rfl
 ·cases hc
theorem s4{n:Nat}(h:n<=small):IntKind.i64.wrap (n:Int)=n:=by
 unfold IntKind.wrap IntKind.bits IntKind.signed;unfold small at h;have h1:(n:Int)%(2 ^ 64:Int)=n:=by omega
 simp only[h1];rw[aw];simp;omega
theorem Bc{e:TypeId}{z c:Nat}{zero:List Value}(hz:zeroCells P e=some zero)(hl:zero.length=z) :
  ∃zr:Array Value,(∀K:Array Value->Sem Value,(if c*z=0 then(do let zero <-pure #[];K zero)else(do let v <-zeroValue e;let zero <-pure v.cells;K zero):Sem Value).run P w=(K zr).run P w)/\
   (Array.range (c*z)).map (zr[· % zr.size]!)=(bj zero c).toArray:=by
 obtain⟨v,sU,uE⟩:=dD hz;obtain⟨Hq,_⟩:=jq (w:=w) sU;subst hl;by_cases h0:c*zero.length=0
 ·refine⟨#[],λK=>by simp only[h0,if_true,Sem.run_pure,Sem.run_bind,Result.andThen_ok],?_⟩;have:bj zero c=[]:=by
   apply mM;rw[dE,h0]
  rw[this,h0];simp
 ·refine⟨v.cells,λK=>by simp only[aw h0,Sem.run_bind,Sem.run_pure,Result.andThen_ok,Hq],?_⟩;have e1:v.cells=zero.toArray:=by rw[uE]
  apply Array.ext';rw[e1];simp only[Array.toList_map,Array.toList_range,List.size_toArray];exact Ou zero c
theorem ld{k:IntKind}{n:Int}:(asInt (.int k n)).run P w=.ok n w:=rfl
theorem Ev{e:TypeId}{zero:List Value}(hz:zeroCells P e=some zero)(c:Nat):dJ ρ (bj zero c) (bj zero c):=by
 obtain⟨v,sU,uE⟩:=dD hz;exact((fM (ρ:=ρ) hz sU).2).rep c
theorem wK{t:TypeId}{x y:Operand}{a:cr Operand}(ho:o.op=.makeSlice t x y)(hc:ar P ins o=some a)(ha:a.all λx=>VR ρ (ρa x) (ρc x))(hH:HR ρ H nx w.heap)(h:cY (a.map (Av ρa)) P T L H nx k=some r):Good P w ρ H nx r k (execOp ρc o):=by
 have he:execOp ρc o=(do pure (.value (<-Instr.makeSlice t (ρc x) (ρc y)))):=by simp only[execOp,ho]
 simp only[ar,ho]at hc;split at hc
 ·rename_i e hu;split at hc
  ·rename_i z bytes zero hz hb Bd;cases hl:Nat.beq zero.length z with
   | false=>rw[hl]at hc;cases hc
   | true=>
    rw[hl]at hc;cases hc;have mR:=dB hl;have h':dp (ρa x) (λl=>dp (ρa y) λc=>SY z bytes zero H nx l c k)=some r:=h;obtain⟨k1,l,e1,h1⟩:=fL h';obtain⟨k2,c,e2,h2⟩:=fL h1;obtain⟨zS,h3⟩:=ct h2;simp only[gd]at zS;obtain⟨c1,c2,c3,c4⟩:=zS;have hlc:l<=c:=lu c1;have LC:c*bytes<=small:=lu c2;have oG:c<=small:=lu c3;rw[pA]at h3;obtain⟨hx,hy⟩:=ha;have sV:ρc x=.int k1 (.ofNat l):=by rw[e1]at hx;exact hx.jr
    have Nq:ρc y=.int k2 (.ofNat c):=by rw[e2]at hy;exact hy.jr
    obtain⟨i,hi,Hz⟩:=Lg (w:=w) hb;obtain⟨zr,sU,uE⟩:=Bc (w:=w) (c:=c) Bd mR;rw[he];have m7:(bj zero c).toArray.size=c*z:=by rw[List.size_toArray,dE,mR]
    refine .made (w':={ w with heap:=w.heap.push (.cells (bj zero c).toArray e (0,0)) }) (cs':=(bj zero c).toArray) hH rfl rfl rfl rfl (dJ.Tl (Ev Bd c)) (by rw[m7];exact .JG ⟨hlc,by unfold small at oG;unfold ft;omega⟩) h3 ?_;have w1:IntKind.i64.wrap (Int.ofNat l)=(l:Int):=s4 (by omega);have w2:IntKind.i64.wrap (Int.ofNat c)=(c:Int):=s4 oG;have HA:small=1099511627776:=rfl;have hbi:((i.bytes:Int)*(c:Int))<=1099511627776:=by
     rw[Hz,Int.mul_comm];have:((c*bytes:Nat):Int)<=1099511627776:=by rw[HA]at LC;omega
     simpa using this
    have yb:((decide ((c:Int)<0)||decide ((i.bytes:Int)*(c:Int)>2 ^ 48)||decide ((l:Int)<0)||decide ((l:Int)>(c:Int)))=true)↔False:=by
     simp only[Bool.or_eq_true,DW,iff_false];omega
    simp only[Instr.makeSlice,Sem.run_bind,run_underlying hu,Result.andThen_ok,sV,Nq,ld,Sem.run_pure,hi,w1,w2];rw[aw (by rw[yb];exact λh=>h)];simp only[Sem.run_bind,run_askRoom,Result.andThen_ok,eU hz,eE];rw[sU];simp only[uE,newRow,Sem.run_bind,run_newObj,Sem.run_pure,Result.andThen_ok]
  ·cases hc
 ·cases hc
theorem uJ{t:TypeId}{len:Nat}{xs:Array (Nat×Operand)}{a:cr Operand}(ho:o.op=.buildSlice t len xs)(hc:ar P ins o=some a)(ha:a.all λx=>VR ρ (ρa x) (ρc x))(hH:HR ρ H nx w.heap)(h:cY (a.map (Av ρa)) P T L H nx k=some r):Good P w ρ H nx r k (execOp ρc o):=by
 have he:execOp ρc o=(do pure (.value (<-Instr.buildSlice t len (xs.map λ(i,x)=>(i,ρc x))))):=by simp only[execOp,ho]
 have hq:(xs.map λ(i,x)=>(i,ρc x))=(xs.toList.map λx=>(x.1,ρc x.2)).toArray:=by
  apply Array.ext';simp
 rw[hq]at he;simp only[ar,ho]at hc;split at hc
 ·rename_i e hu;split at hc
  ·rename_i z zero hz Bd;cases hl:(Nat.ble (len*z) 16777216&&Nat.beq zero.length z)with
   | false=>rw[hl]at hc;cases hc
   | true=>
    rw[hl]at hc;cases hc;simp only[gd]at hl;have hlz:len*z<=16777216:=lu hl.1;have mR:=dB hl.2;obtain⟨h1,h2⟩:=vI (z:=z) xs.toList;have h':eX T L (((fK z xs.toList).map λx=>(x.1,x.2.1,ρa x.2.2)).map λx=>(x.1,x.2.1,Od.aO x.2.2)) (λps=>bd (fJ (bj zero len) ps) λcs=>
      cond (Nat.blt 0 z) (fresh H nx (wE nx z len (Nat.succ (Nat.mul 2 len))) k cs) none)=some r:=by
     rw[List.map_map];exact h
    rw[rK]at h';obtain⟨cs,hf,h4⟩:=bn h';obtain⟨zT,hk⟩:=ct h4;rw[pA]at hk;have Tm:len<=ft:=by
     have h0:0<z:=by simpa[Nat.blt_eq]using zT
     have:len*1<=len*z:=SO _ h0;unfold ft;omega
    obtain⟨zr,sU,uE⟩:=Bc (w:=w) (c:=len) Bd mR;obtain⟨c,lZ,vE⟩:=rI (ρ:=ρ) (λi=>some (i*z,z)) ((fK z xs.toList).map λx=>(x.1,x.2.1,ρa x.2.2)) (xs.toList.map λx=>(x.1,ρc x.2)) (bj zero len) cs (bj zero len).toArray (by simp[h1]) (λi p q Vx Vy=>by
     simp only[eD,Option.map_eq_some_iff]at Vx Vy;obtain⟨p',m6,rfl⟩:=Vx;obtain⟨q',iE,rfl⟩:=Vy;have:=h2 i p' q' m6 iE;subst this;exact⟨rfl,ha _ (dM m6)⟩) (Ev Bd len) hf
    have kI:c.size=len*z:=by
     have g1:=vE.length;have g2:∀(ps:List (Nat×Nat×Value)) (a b:List Value),fJ a ps=some b->b.length=a.length:=by
      intro ps
      induction ps with
      | nil=>intro a b uD;simp[fJ]at uD;rw[uD]
      | cons p ps ih=>
       intro a b uD;obtain⟨p1,p2,p3⟩:=p;unfold fJ at uD;cases hb:Nat.beq (cellsOf p3).length p2 with
       | false=>rw[hb]at uD;cases uD
       | true=>
        rw[hb]at uD;simp only[cond_true]at uD;cases zU:jc a p1 (cellsOf p3)with
        | none=>simp[zU]at uD
        | some a1=>
         simp[zU]at uD;rw[ih a1 b uD,(xS _ _ _ _ zU).1]
     have g3:=g2 _ _ _ hf;rw[dE,mR]at g3;simp only[Array.length_toList]at g1;omega
    rw[he];refine .made (w':={ w with heap:=w.heap.push (.cells c e (0,0)) }) (cs':=c) hH rfl rfl rfl rfl (dJ.Tl vE) (by rw[kI];exact .JG ⟨au _,Tm⟩) hk ?_;have hng:¬(len*z>2 ^ 24):=by omega
    simp only[Instr.buildSlice,Sem.run_bind,run_underlying hu,Result.andThen_ok,eU hz,aw hng];rw[sU];simp only[uE,lZ,newRow,Sem.run_bind,run_newObj,Sem.run_pure,Result.andThen_ok]
  ·cases hc
 ·cases hc
end
end Go.Eng
