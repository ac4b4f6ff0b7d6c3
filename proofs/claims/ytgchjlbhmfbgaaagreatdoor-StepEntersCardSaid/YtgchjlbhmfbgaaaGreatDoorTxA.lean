/- The abstract evaluator of translated Go code: shapes, typed data, abstract values, abstract memory, and what each operation does on them. Plain definitions; nothing is proved here. -/
import Derived.Calls
import Derived.Orders
import Derived.Laws.Sem
namespace Go.TX
set_option linter.unusedVariables false
set_option linter.unusedSimpArgs false
inductive Sh where
 |int (k:IntKind)
 |bool
 |str
 |unit
 |pair (a b:Sh)
 |sl (e:Sh)
 deriving DecidableEq
@[reducible] def Sh.Den : Sh → Type
 | .int _=>Int
 | .bool=>Bool
 | .str=>ByteArray
 | .unit=>Unit
 | .pair a b=>a.Den×b.Den
 | .sl e=>List e.Den
def Sh.width:Sh→Nat
 | .unit=>0
 | .pair a b=>a.width+b.width
 |_=>1
def Sh.dflt:(s:Sh)→s.Den
 | .int _=>(0:Int)
 | .bool=>false
 | .str=>ByteArray.empty
 | .unit=>()
 | .pair a b=>(a.dflt,b.dflt)
 | .sl _=>[]
class Globals where
 tab:Nat→Option ((s:Sh)×List s.Den)
inductive AV where
 |any
 |lit (v:Value)
 |agg (l:List AV)
 |tup (l:List AV)
 |sl (s:Sh) (l:List s.Den) (x:Bool)
 |ptr (r i off:Nat)
 |pel (s:Sh) (l:List s.Den) (i off:Nat)
 |msl (r i n:Nat)
 |clo (f:Fn) (first caps:List AV)
 |mp (r:Nat)
inductive AObj where
 |gone
 |box (l:List AV)
 |row (s:Sh) (l:List s.Den)
 |fz (s:Sh) (l:List s.Den)
 |mapo (ks vs:Sh) (l:List (ks.Den×vs.Den))
 |it (x:ByteArray) (pos:Nat)
 |raw (s:Sh) (l:List s.Den) (n:Nat)
abbrev Heap:=List AObj
abbrev Kont (α:Type):=AV→Heap→Option α
abbrev Value.isCell (v:Value):Bool:=v.oneCell'
def up:(s:Sh)→s.Den→List AV
 | .int k,n=>[.lit (.int k n)]
 | .bool,b=>[.lit (.bool b)]
 | .str,x=>[.lit (.string x)]
 | .unit,_=>[]
 | .pair a b,x=>up a x.1++up b x.2
 | .sl e,l=>[.sl e l false]
def down:(s:Sh)→List AV→Option (s.Den×List AV)
 | .int k, .lit (.int k' n)::r=>if k'=k then some (n,r) else none
 | .bool, .lit (.bool b)::r=>some (b,r)
 | .str, .lit (.string x)::r=>some (x,r)
 | .unit,r=>some ((),r)
 | .pair a b,r=>
  match down a r with
  |none=>none
  |some (x,r)=>
   match down b r with
   |none=>none
   |some (y,r)=>some ((x,y),r)
 | .sl e, .sl e' l _::r=>if h:e'=e then some (h▸l,r) else none
 | .sl _, .lit (.slice none 0 0)::r=>some ([],r)
 |_,_=>none
def AV.cells:AV→Option (List AV)
 | .agg l=>some l
 | .lit v=>if Value.isCell v then some [.lit v] else none
 | .any=>none
 | .tup _=>none
 |a=>some [a]
def AV.cell:AV→Bool
 | .lit v=>Value.isCell v
 | .any| .agg _| .tup _=>false
 |_=>true
section types
variable (P:Program)
def shOf:Nat→TypeId→Option Sh
 |0,_=>none
 |n+1,t=>
  match P.underlying t with
  |some (.int k)=>some (.int k)
  |some .bool=>some .bool
  |some .string=>some .str
  |some (.struct fs)=>
   fs.toList.foldr (fun f (acc:Option (Option Sh))=>
    match shOf n f.type,acc with
    |some s,some none=>some (some s)
    |some s,some (some r)=>some (some (.pair s r))
    |_,_=>none) (some none) |>.map (·.getD .unit)
  |some (.slice e)=>(shOf n e).map .sl
  |_=>none
def elemSh (t:TypeId):Option Sh:=
 match P.underlying t with
 |some (.slice e)=>shOf P 9 e
 |_=>none
def leafTys:Nat→TypeId→List TypeId
 |0,t=>[t]
 |n+1,t=>
  match P.underlying t with
  |some (.struct fs)=>fs.toList.flatMap fun f=>leafTys n f.type
  |some (.array m e)=>(List.replicate m (leafTys n e)).flatten
  |_=>[t]
def typed (t:TypeId):AV→AV
 | .lit (.slice none 0 0)=>match elemSh P t with|some s=> .sl s [] true|none=> .lit (.slice none 0 0)
 |a=>a
def constA:Value→AV
 | .agg cs=> .agg (cs.toList.map .lit)
 |v=> .lit v
def isAggT (t:TypeId):Bool:=
 match P.underlying t with
 |some (.struct _)|some (.array _ _)=>true
 |_=>false
def zeroT (t:TypeId):Option (List AV):=
 match P.info? t with
 |none=>none
 |some i=>
  match i.zero with
  |none=>none
  |some z=>
   let ts:=leafTys P 9 t
   let cs:=z.cells.toList
   if cs.length=ts.length then some (List.zipWith (fun t v=>typed P t (.lit v)) ts cs) else none
def sizeT (t:TypeId):Option Nat:=(P.info? t).map (·.size)
end types
def over (cs:List AV)(off:Nat)(xs:List AV):List AV:=cs.take off++xs++cs.drop (off+xs.length)
def fillA (place:Nat→Option (Nat×Nat))(cells:List AV):List (Nat×AV)→Option (List AV)
 |[]=>some cells
 |(i,v)::rest=>
  match place i,v.cells with
  |some (off,size),some cs=>
   if cs.length=size∧off+cs.length≤cells.length then fillA place (over cells off cs) rest else none
  |_,_=>none
def Heap.at (H:Heap)(r:Nat):AObj:=H.getD r .gone
def content (H:Heap):AV→Option ((s:Sh)×List s.Den)
 | .sl s l _=>some ⟨s,l⟩
 | .msl r i n=>
  match H.at r with
  | .row s l=>some ⟨s,(l.drop i).take n⟩
  | .fz s l=>some ⟨s,(l.drop i).take n⟩
  |_=>none
 | .lit (.string x)=>some ⟨.int .u8,x.data.toList.map fun b=>(b.toNat:Int)⟩
 |_=>none
def readA {α:Type}(P:Program)(t:TypeId)(cells:List AV)(off:Nat)(H:Heap)(k:Kont α):Option α:=
 match P.underlying t,sizeT P t with
 |some _,some n=>
  if isAggT P t then
   if off+n≤cells.length then k (.agg ((cells.drop off).take n)) H else none
  else
   match cells[off]? with
   |some a=>k a H
   |none=>none
 |_,_=>none
def chunks (w:Nat):Nat→List AV→List (List AV)
 |0,_=>[]
 |n+1,l=>l.take w::chunks w n (l.drop w)
def downAll (s:Sh):List (List AV)→Option (List s.Den)
 |[]=>some []
 |c::cs=>
  match down s c with
  |some (d,[])=>(downAll s cs).map (d:: ·)
  |_=>none
def arrT (P:Program)(t:TypeId):Option (Sh×Nat):=
 match P.underlying t with
 |some (.array n e)=>
  match shOf P 9 e with
  |some s=>if 0<n∧0<s.width∧some s.width=sizeT P e∧sizeT P t=some (n*s.width) then some (s,n) else none
  |none=>none
 |_=>none
def upAll (s:Sh)(l:List s.Den)(n:Nat):List AV:=(List.range n).flatMap fun j=>up s (l.getD j s.dflt)
def loadA {α:Type}(P:Program)(t:TypeId)(a:AV)(H:Heap)(k:Kont α):Option α:=
 match a with
 | .ptr r i off=>
  match H.at r with
  | .box cells=>readA P t cells off H k
  | .row s l=>
   match arrT P t with
   |some (s',n)=>if s'=s∧i=0∧off=0 then cond (decide (l.length=n)) (readA P t (upAll s l n) 0 H k) none else readA P t (up s (l.getD i s.dflt)) off H k
   |none=>readA P t (up s (l.getD i s.dflt)) off H k
  | .fz s l=>readA P t (up s (l.getD i s.dflt)) off H k
  |_=>none
 | .pel s l i off=>readA P t (up s (l.getD i s.dflt)) off H k
 |_=>none
def rowP (s:Sh)(l:List s.Den)(i off:Nat)(cs:List AV):List s.Den:=
 match down s (over (up s (l.getD i s.dflt)) off cs) with
 |some (d,[])=>l.set i d
 |_=>l
def rowI (s:Sh)(l:List s.Den)(i off:Nat)(k:IntKind)(v:Int):List s.Den:=rowP s l i off [.lit (.int k v)]
def rowB (s:Sh)(l:List s.Den)(i off:Nat)(b:Bool):List s.Den:=rowP s l i off [.lit (.bool b)]
def rowS (s:Sh)(l:List s.Den)(i off:Nat)(x:ByteArray):List s.Den:=rowP s l i off [.lit (.string x)]
def rowSel (s:Sh)(l:List s.Den)(i off n:Nat)(cs:List AV)(d:s.Den):List s.Den:=
 if n=s.width then l.set i d else
 match cs with
 |[.lit (.int k v)]=>rowI s l i off k v
 |[.lit (.bool b)]=>rowB s l i off b
 |[.lit (.string x)]=>rowS s l i off x
 |_=>l.set i d
def storeA {α:Type}(P:Program)(t:TypeId)(a x:AV)(H:Heap)(k:Kont α):Option α:=
 match (typed P t x).cells,sizeT P t with
 |some cs,some n=>
  if cs.length=n∧cs.all AV.cell then
   match a with
   | .ptr r i off=>
    match H.at r with
    | .box cells=>if off+n≤cells.length then k (.lit undef) (H.set r (.box (over cells off cs))) else none
    | .row s l=>
     match (match arrT P t with|some (s',m)=>if s'=s∧i=0∧off=0 then some m else none|none=>none) with
     |some m=>
      match downAll s (chunks s.width m cs) with
      |some l'=>cond (decide (l.length=m)) (k (.lit undef) (H.set r (.row s l'))) none
      |none=>none
     |none=>
      let cells:=up s (l.getD i s.dflt)
      if off+n≤cells.length∧0<n then
       match down s (over cells off cs) with
       |some (d,[])=>k (.lit undef) (H.set r (.row s (rowSel s l i off n cs d)))
       |_=>none
      else none
    |_=>none
   |_=>none
  else none
 |_,_=>none
def allocA {α:Type}(P:Program)(t:TypeId)(H:Heap)(k:Kont α):Option α:=
 match zeroT P t with
 |none=>none
 |some zs=>
  match arrT P t with
  |some (s,n)=>
   if zs.length=n*s.width then
    match downAll s (chunks s.width n zs) with
    |some l=>k (.ptr H.length 0 0) (H++[.row s l])
    |none=>none
   else none
  |none=>k (.ptr H.length 0 0) (H++[.box zs])
def ibits0 (op:BinOp)(k:IntKind)(x y:Int):Int:=
 let a:=BitVec.ofInt k.bits x
 let b:=BitVec.ofInt k.bits y
 match op with
 | .and=>k.wrap (a&&&b).toNat
 | .or=>k.wrap (a|||b).toNat
 | .xor=>k.wrap (a^^^b).toNat
 |_=>k.wrap (a&&& ~~~b).toNat
/- A number that no evaluation opens: digit by digit work on a number that is a variable has no end. -/
theorem held_eq:{x:Int // True}={x:Int // True∧True}:=by simp
def held (x:Int):Int:=(cast held_eq ⟨x,trivial⟩).val
theorem held_val (p q:Prop)(h:{_x:Int // p}={_x:Int // q})(hpq:p=q)(x:Int)(hp:p):(cast h ⟨x,hp⟩).val=x:=by
 subst hpq;rfl
theorem held_is (x:Int):held x=x:=held_val _ _ held_eq (by simp) x trivial
def ibits (op:BinOp)(k:IntKind)(x y:Int):Int:=held (ibits0 op k x y)
theorem ibits_def (op:BinOp)(k:IntKind)(x y:Int):ibits op k x y=ibits0 op k x y:=held_is _
def intA {α:Type}(op:BinOp)(k:IntKind)(x y:Int)(c:AV→Option α):Option α:=
 match op with
 | .add=>c (.lit (.int k (k.wrap (x+y))))
 | .sub=>c (.lit (.int k (k.wrap (x-y))))
 | .mul=>c (.lit (.int k (k.wrap (x*y))))
 | .quo=>cond (decide (y=0)) none (c (.lit (.int k (k.wrap (x.tdiv y)))))
 | .rem=>cond (decide (y=0)) none (c (.lit (.int k (x.tmod y))))
 | .and=>c (.lit (.int k (ibits .and k x y)))
 | .or=>c (.lit (.int k (ibits .or k x y)))
 | .xor=>c (.lit (.int k (ibits .xor k x y)))
 | .andNot=>c (.lit (.int k (ibits .andNot k x y)))
 | .eql=>c (.lit (.bool (x==y)))
 | .neq=>c (.lit (.bool (x != y)))
 | .lss=>c (.lit (.bool (decide (x<y))))
 | .leq=>c (.lit (.bool (decide (x≤y))))
 | .gtr=>c (.lit (.bool (decide (x>y))))
 | .geq=>c (.lit (.bool (decide (x≥y))))
 |_=>none
def shiftA {α:Type}(op:BinOp)(k:IntKind)(x y:Int)(c:AV→Option α):Option α:=
 match op with
 | .shl=>cond (decide (y<0)) none (c (.lit (.int k (k.wrap (x*2^min y.toNat k.bits)))))
 | .shr=>cond (decide (y<0)) none (c (.lit (.int k (x.fdiv (2^min y.toNat k.bits)))))
 |_=>none
def strA {α:Type}(op:BinOp)(x y:ByteArray)(c:AV→Option α):Option α:=
 match op with
 | .add=>cond (decide (((x.size+y.size:Nat):Int)>IntKind.i64.max)) none (c (.lit (.string (x++y))))
 | .eql=>c (.lit (.bool (x.toList==y.toList)))
 | .neq=>c (.lit (.bool !(x.toList==y.toList)))
 | .lss=>c (.lit (.bool (Op.bytesLess x.toList y.toList)))
 | .leq=>c (.lit (.bool (Op.bytesLess x.toList y.toList||x.toList==y.toList)))
 | .gtr=>c (.lit (.bool !(Op.bytesLess x.toList y.toList||x.toList==y.toList)))
 | .geq=>c (.lit (.bool !(Op.bytesLess x.toList y.toList)))
 |_=>none
def eqA (P:Program):Nat→TypeId→List AV→List AV→Option Bool
 |0,_,_,_=>none
 |d+1,t,xs,ys=>
  match P.underlying t,xs,ys with
  |some (.int _),[.lit (.int k a)],[.lit (.int k' b)]=>if k=k' then some (a==b) else none
  |some .bool,[.lit (.bool a)],[.lit (.bool b)]=>some (a==b)
  |some .string,[.lit (.string a)],[.lit (.string b)]=>some (a==b)
  |some (.struct fs),xs,ys=>
   if P.stoodInHeld t then none else
   fs.toList.foldr (fun f acc=>
    if f.name= "_" then acc else
    match sizeT P f.type with
    |none=>none
    |some n=>
     match eqA P d f.type ((xs.drop f.offset).take n) ((ys.drop f.offset).take n),acc with
     |some b,some c=>some (b&&c)
     |_,_=>none) (some true)
  |_,_,_=>none
def isNilFunc:AV→Option Bool
 | .lit .nilFunc=>some true
 | .lit (.func ..)=>some false
 | .clo .. =>some false
 |_=>none
def equalA (P:Program)(t:TypeId)(x y:AV):Option Bool:=
 match P.underlying t,x,y with
 |some .bool, .lit (.bool a), .lit (.bool b)=>some (a==b)
 |some (.func ..),x, .lit .nilFunc=>isNilFunc x
 |some (.func ..), .lit .nilFunc,y=>isNilFunc y
 |some (.struct _), .agg xs, .agg ys=>if P.eqGuardType P.depth t then none else eqA P 9 t xs ys
 |_,_,_=>none
def nilSl {α:Type}(P:Program)(t:TypeId)(x y:AV)(k:Bool→Option α):Option α:=
 match P.underlying t,x,y with
 |some (.slice _), .sl _ l _, .lit (.slice none 0 0)=>cond l.isEmpty none (k false)
 |some (.slice _), .msl _ _ n, .lit (.slice none 0 0)=>cond (decide (0<n)) (k false) none
 |_,_,_=>none
def binA {α:Type}(P:Program)(op:BinOp)(t:TypeId)(x y:AV)(c:AV→Option α):Option α:=
 match x,y with
 | .lit (.int k a), .lit (.int k' b)=>
  match op with
  | .shl=>shiftA .shl k a b c
  | .shr=>shiftA .shr k a b c
  |op=>if k=k' then intA op k a b c else none
 | .lit (.string a), .lit (.string b)=>strA op a b c
 |x,y=>
  match op with
  | .eql=>match equalA P t x y with|some b=>c (.lit (.bool b))|none=>nilSl P t x y fun b=>c (.lit (.bool b))
  | .neq=>match equalA P t x y with|some b=>c (.lit (.bool !b))|none=>nilSl P t x y fun b=>c (.lit (.bool !b))
  |_=>none
def unA {α:Type}(op:UnOp)(x:AV)(c:AV→Option α):Option α:=
 match op,x with
 | .neg, .lit (.int k n)=>c (.lit (.int k (k.wrap (0-n))))
 | .xor, .lit (.int k n)=>c (.lit (.int k (ibits .xor k (if k.signed then -1 else k.max) n)))
 | .not, .lit (.bool b)=>c (.lit (.bool !b))
 |_,_=>none
def mxA:AV→AV→Option AV
 | .lit (.int k x), .lit (.int _ y)=>some (.lit (.int k (if y>x then y else x)))
 |_,_=>none
def mnA:AV→AV→Option AV
 | .lit (.int k x), .lit (.int _ y)=>some (.lit (.int k (if y<x then y else x)))
 |_,_=>none
def mHas {K V:Type}[BEq K]:List (K×V)→K→Bool
 |[],_=>false
 |e::l,k=>cond (k==e.1) true (mHas l k)
def mGetD {K V:Type}[BEq K]:List (K×V)→K→V→V
 |[],_,d=>d
 |e::l,k,d=>cond (k==e.1) e.2 (mGetD l k d)
def mPut {K V:Type}[BEq K]:List (K×V)→K→V→List (K×V)
 |[],k,v=>[(k,v)]
 |e::l,k,v=>cond (k==e.1) ((k,v)::l) (e::mPut l k v)
def mDel {K V:Type}[BEq K]:List (K×V)→K→List (K×V)
 |[],_=>[]
 |e::l,k=>cond (k==e.1) l (e::mDel l k)
def Sh.isAgg:Sh→Bool
 | .pair .. | .unit=>true
 |_=>false
def hasK:(ks:Sh)→{V:Type}→List (ks.Den×V)→ks.Den→Bool
 | .int _,_,l,k=>mHas (K:=Int) l k
 | .str,_,l,k=>mHas (K:=ByteArray) l k
 |_,_,_,_=>false
def getK:(ks:Sh)→{V:Type}→List (ks.Den×V)→ks.Den→V→V
 | .int _,_,l,k,d=>mGetD (K:=Int) l k d
 | .str,_,l,k,d=>mGetD (K:=ByteArray) l k d
 |_,_,_,_,d=>d
def putK:(ks:Sh)→{V:Type}→List (ks.Den×V)→ks.Den→V→List (ks.Den×V)
 | .int _,_,l,k,v=>mPut (K:=Int) l k v
 | .str,_,l,k,v=>mPut (K:=ByteArray) l k v
 |_,_,l,_,_=>l
def delK:(ks:Sh)→{V:Type}→List (ks.Den×V)→ks.Den→List (ks.Den×V)
 | .int _,_,l,k=>mDel (K:=Int) l k
 | .str,_,l,k=>mDel (K:=ByteArray) l k
 |_,_,l,_=>l
def valA:(s:Sh)→s.Den→AV
 | .int k,n=> .lit (.int k n)
 | .bool,b=> .lit (.bool b)
 | .str,x=> .lit (.string x)
 | .unit,_=> .agg []
 | .pair a b,d=> .agg (up a d.1++up b d.2)
 | .sl e,l=> .sl e l false
def readV (s:Sh)(a:AV):Option s.Den:=
 match s.isAgg with
 |true=>
  match a with
  | .agg l=>match down s l with|some (d,[])=>some d|_=>none
  |_=>none
 |false=>match down s [a] with|some (d,[])=>some d|_=>none
def keyT (P:Program)(t:TypeId)(ks:Sh):Bool:=
 match P.underlying t,ks with
 |some (.int _), .int _=>true
 |some .string, .str=>true
 |_,_=>false
def zeroAgg (P:Program)(t:TypeId):Option Bool:=
 match P.info? t with
 |none=>none
 |some i=>
  match i.zero with
  |some (.agg _)=>some true
  |some _=>some false
  |none=>none
def makeMapA {α:Type}(P:Program)(t:TypeId)(r:Option AV)(H:Heap)(k:Kont α):Option α:=
 match P.underlying t,r with
 |some (.map kt et),none=>
  match shOf P 9 kt,shOf P 9 et with
  |some ks,some vs=>if keyT P kt ks then k (.mp H.length) (H++[.mapo ks vs []]) else none
  |_,_=>none
 |_,_=>none
def lookupA {α:Type}(P:Program)(t:TypeId)(x ix:AV)(ok:Bool)(H:Heap)(k:Kont α):Option α:=
 match P.underlying t,x with
 |some (.map kt et), .mp r=>
  match H.at r with
  | .mapo ks vs l=>
   match zeroT P et,down ks [ix] with
   |some zs,some (kk,[])=>
    if keyT P kt ks∧zeroAgg P et=some vs.isAgg then
     match down vs zs with
     |some (d,[])=>
      if ok then k (.tup [valA vs (getK ks l kk d), .lit (.bool (hasK ks l kk))]) H else k (valA vs (getK ks l kk d)) H
     |_=>none
    else none
   |_,_=>none
  |_=>none
 |_,_=>none
def mapPutA {α:Type}(P:Program)(t:TypeId)(m key x:AV)(H:Heap)(k:Kont α):Option α:=
 match P.underlying t,m with
 |some (.map kt et), .mp r=>
  match H.at r with
  | .mapo ks vs l=>
   match down ks [key],readV vs (typed P et x) with
   |some (kk,[]),some d=>if keyT P kt ks then k (.lit undef) (H.set r (.mapo ks vs (putK ks l kk d))) else none
   |_,_=>none
  |_=>none
 |_,_=>none
def mapDelA {α:Type}(P:Program)(t:TypeId)(m key:AV)(H:Heap)(k:Kont α):Option α:=
 match P.underlying t,m with
 |some (.map kt _), .mp r=>
  match H.at r with
  | .mapo ks vs l=>
   match down ks [key] with
   |some (kk,[])=>if keyT P kt ks then k (.lit (.tuple #[])) (H.set r (.mapo ks vs (delK ks l kk))) else none
   |_=>none
  |_=>none
 |_,_=>none
def strOf (l:List Int):ByteArray:=l.foldl (fun r n=>r.push (UInt8.ofNat n.toNat)) ByteArray.empty
def convA {α:Type}(P:Program)(a b:TypeId)(x:AV)(H:Heap)(k:Kont α):Option α:=
 match P.underlying a,P.underlying b with
 |some _,some (.int d)=>(match x with| .lit (.int _ n)=>k (.lit (.int d (d.wrap n))) H|_=>none)
 |some (.slice e),some .string=>
  match P.underlying e,typed P a x with
  |some (.int .u8), .sl (.int .u8) l _=>k (.lit (.string (strOf l))) H
  |some (.int .u8), .msl r i n=>(match content H (.msl r i n) with|some ⟨.int .u8,l⟩=>k (.lit (.string (strOf l))) H|_=>none)
  |_,_=>none
 |some _,some .string=>(match x with| .lit (.string x)=>k (.lit (.string x)) H|_=>none)
 |_,_=>none
def bytesI (s:ByteArray):List Int:=s.data.toList.map fun b=>(b.toNat:Int)
def convN {α:Type}(P:Program)(a e:TypeId)(x:AV)(H:Heap)(k:Kont α):Option α:=
 match P.underlying a,P.underlying e,x with
 |some .string,some (.int .u8), .lit (.string s)=>k (.msl H.length 0 s.size) (H++[.row (.int .u8) (bytesI s)])
 |_,_,_=>none
def runeAt (x:ByteArray)(i:Nat):Int:=((Utf8.decode x i).1:Nat)
def runeW (x:ByteArray)(i:Nat):Nat:=(Utf8.decode x i).2
def rangeA {α:Type}(P:Program)(t:TypeId)(x:AV)(H:Heap)(k:Kont α):Option α:=
 match P.underlying t,x with
 |some .string, .lit (.string s)=>k (.ptr H.length 0 0) (H++[.it s 0])
 |_,_=>none
def nextA {α:Type}(x:AV)(isStr:Bool)(H:Heap)(k:Kont α):Option α:=
 match x,isStr with
 | .ptr r i off,true=>
  if i=0∧off=0 then
   match H.at r with
   | .it s pos=>cond (decide (pos<s.size)) (k (.tup [.lit (.bool true), .lit (.int .i64 (pos:Nat)), .lit (.int .i32 (runeAt s pos))]) (H.set r (.it s (pos+runeW s pos)))) (k (.tup [.lit (.bool false)]) H)
   |_=>none
  else none
 |_,_=>none
end Go.TX
