/- The abstract evaluator, second part: slices, calls with their own memory, operations, regions, code, functions. Plain definitions. -/
import Derived.Test.YtgchjlbhmfbgaaaGreatDoorTxA
namespace Go.TX
set_option linter.unusedVariables false
set_option linter.unusedSimpArgs false
mutual
def refs:AV→List Nat
 | .ptr r _ _=>[r]
 | .msl r _ _=>[r]
 | .mp r=>[r]
 | .agg l=>refsL l
 | .tup l=>refsL l
 | .clo _ a b=>refsL a++refsL b
 |_=>[]
def refsL:List AV→List Nat
 |[]=>[]
 |a::l=>refs a++refsL l
end
mutual
def ren (f:Nat→Nat):AV→AV
 | .ptr r i o=> .ptr (f r) i o
 | .msl r i n=> .msl (f r) i n
 | .mp r=> .mp (f r)
 | .agg l=> .agg (renL f l)
 | .tup l=> .tup (renL f l)
 | .clo g a b=> .clo g (renL f a) (renL f b)
 |a=>a
def renL (f:Nat→Nat):List AV→List AV
 |[]=>[]
 |a::l=>ren f a::renL f l
end
def renO (f:Nat→Nat):AObj→AObj
 | .box l=> .box (renL f l)
 |o=>o
def refsO:AObj→List Nat
 | .box l=>refsL l
 |_=>[]
def addNew:List Nat→List Nat→List Nat
 |F,[]=>F
 |F,r::rs=>if F.contains r then addNew F rs else addNew (F++[r]) rs
def reach (H:Heap):Nat→List Nat→List Nat
 |0,F=>F
 |n+1,F=>let G:=addNew F (F.flatMap fun r=>refsO (H.at r));if G.length=F.length then F else reach H n G
def closedB (H:Heap)(F:List Nat):Bool:=
 F.Nodup&&F.all fun r=>decide (r<H.length)&&(refsO (H.at r)).all F.contains
def local_ (H:Heap)(F:List Nat):Heap:=F.map fun r=>renO F.idxOf (H.at r)
def back (H:Heap)(F:List Nat)(i:Nat):Nat:=if i<F.length then F.getD i 0 else H.length+(i-F.length)
def putBack (f:Nat→Nat):Heap→List Nat→Heap→Heap
 |H,[],rest=>H++rest.map (renO f)
 |H,_::_,[]=>H
 |H,r::F,o::os=>putBack f (H.set r (renO f o)) F os
def freezeA (H:Heap):AV→AV×Heap
 | .msl r i n=>
  match H.at r with
  | .row s l=>(.sl s ((l.drop i).take n) false,H.set r (.fz s l))
  | .fz s l=>(.sl s ((l.drop i).take n) false,H)
  |_=>(.msl r i n,H)
 |a=>(a,H)
def freezeL (H:Heap):List AV→List AV×Heap
 |[]=>([],H)
 |a::l=>let(a,H):=freezeA H a;let(l,H):=freezeL H l;(a::l,H)
def freezeG (H:Heap):AV→AV×Heap
 | .agg l=>let(l,H):=freezeL H l;(.agg l,H)
 |a=>freezeA H a
def freezeM (H:Heap):List AV→List AV×Heap
 |[]=>([],H)
 |a::l=>let(a,H):=freezeG H a;let(l,H):=freezeM H l;(a::l,H)
def freezeV (H:Heap):AV→AV×Heap
 | .agg l=>let(l,H):=freezeL H l;(.agg l,H)
 | .tup l=>let(l,H):=freezeM H l;(.tup l,H)
 |a=>freezeA H a
def freezeW (H:Heap):List AV→List AV×Heap
 |[]=>([],H)
 |a::l=>let(a,H):=freezeV H a;let(l,H):=freezeW H l;(a::l,H)
def mostLen:Nat:=2147483648
def mostOf (b:Nat):Nat:=if b=56 then 3000000000000 else mostLen
def appendA {α:Type}(P:Program)(t:TypeId)(a x:AV)(H:Heap)(k:Kont α):Option α:=
 match P.underlying t with
 |some (.slice e)=>
  match shOf P 9 e,P.info? e,zeroT P e with
  |some s,some i,some z=>
   if s.width=i.size∧i.bytes≤16384∧i.bytes≠0∧0<i.size∧z.length=s.width then
    match content H (typed P t x) with
    |some ⟨s',xs'⟩=>
     if h:s'=s then
      let xs:List s.Den:=h▸xs'
      match typed P t a with
      | .sl s' l' c=>
       if h:s'=s then
        let l:List s.Den:=h▸l'
        cond c (match l with
         |[]=>cond (decide (xs.length≤mostOf i.bytes)) (k (.msl H.length 0 xs.length) (H++[.row s xs])) none
         |d::ds=>cond xs.isEmpty (k (.sl s (d::ds) true) H)
          (cond (decide ((d::ds).length+xs.length≤mostOf i.bytes)) (k (.msl H.length 0 ((d::ds).length+xs.length)) (H++[.row s ((d::ds)++xs)])) none)) none
       else none
      | .msl r j n=>
       match H.at r with
       | .row s' l'=>
        if h:s'=s then
         let l:List s.Den:=h▸l'
         if (refs x).contains r then none else
         cond (decide (n+xs.length≤mostOf i.bytes)) (k (.msl H.length 0 (n+xs.length)) (H.set r .gone++[.row s ((l.drop j).take n++xs)])) none
        else none
       |_=>none
      |_=>none
     else none
    |none=>none
   else none
  |_,_,_=>none
 |_=>none
def appendZ {α:Type}(P:Program)(t:TypeId)(a x:AV)(H:Heap)(k:Kont α):Option α:=
 match P.underlying t,x with
 |some (.slice e), .lit (.int _ n)=>
  match shOf P 9 e,P.info? e,zeroT P e with
  |some s,some i,some z=>
   match down s z with
   |some (d,[])=>
    if s.width=i.size∧i.bytes≤16384∧i.bytes≠0∧0<i.size then
     match typed P t a with
     | .sl s' [] c=>
      if s'=s then cond c (cond (decide (1≤n∧n≤(mostLen:Int))) (k (.msl H.length 0 n.toNat) (H++[.row s (List.replicate n.toNat d)])) none) none else none
     |_=>none
    else none
   |_=>none
  |_,_,_=>none
 |_,_=>none
def boundA:Option AV→Nat→Option Int
 |none,d=>some d
 |some (.lit (.int _ n)),_=>some n
 |_,_=>none
def cutA {α:Type}(n:Nat)(lo hi mx:Option AV)(k:Nat→Nat→Option Nat→Option α):Option α:=
 match boundA lo 0,boundA hi n,mx with
 |some l,some h,none=>cond (decide (0≤l∧l≤h∧h≤(n:Int))) (k l.toNat h.toNat none) none
 |some l,some h,some (.lit (.int _ m))=>if hi.isNone then none else cond (decide (0≤l∧l≤h∧h≤m∧m≤(n:Int))) (k l.toNat h.toNat (some m.toNat)) none
 |_,_,_=>none
def sliceA {α:Type}(P:Program)(t:TypeId)(a:AV)(lo hi mx:Option AV)(H:Heap)(k:Kont α):Option α:=
 match P.underlying t,a with
 |some .string, .lit (.string x)=>if mx.isSome then none else cutA x.size lo hi none fun l h _=>k (.lit (.string (x.extract l h))) H
 |some (.slice e), .sl s l c=>if some s.width=sizeT P e then cutA l.length lo hi mx fun i j m=>
   k (.sl s ((l.drop i).take (j-i)) (match m with|some m=>decide (m=j)|none=>c&&decide (j=l.length))) H else none
 |some (.slice e), .msl r i n=>
  match H.at r with
  | .row s _=>if some s.width=sizeT P e then cutA n lo hi mx fun l h _=>k (.msl r (i+l) (h-l)) H else none
  | .fz s _=>if some s.width=sizeT P e then cutA n lo hi mx fun l h _=>k (.msl r (i+l) (h-l)) H else none
  | .raw s _ _=>if some s.width=sizeT P e then cutA n lo hi mx fun l h _=>k (.msl r (i+l) (h-l)) H else none
  |_=>none
 |some (.array n e), .ptr r i off=>
  match H.at r with
  | .row s l=>
   match arrT P t with
   |some (s',m)=>if s'=s∧i=0∧off=0∧mx.isNone∧n=m then cond (decide (l.length=n)) (cutA n lo hi none fun a b _=>k (.msl r a (b-a)) H) none else none
   |none=>none
  |_=>none
 |_,_=>none
def makeSliceA {α:Type}(P:Program)(t:TypeId)(len cap:AV)(H:Heap)(k:Kont α):Option α:=
 match P.underlying t,len,cap with
 |some (.slice e), .lit (.int _ l), .lit (.int _ c)=>
  match shOf P 9 e,P.info? e,zeroT P e with
  |some s,some i,some z=>
   match down s z with
   |some (d,[])=>
    if s.width=i.size∧i.bytes≤16384∧0<i.size then
     cond (decide (0≤l∧l≤c∧c≤(mostLen:Int))) (k (.msl H.length 0 l.toNat) (H++[.row s (List.replicate l.toNat d)])) none
    else none
   |_=>none
  |_,_,_=>none
 |_,_,_=>none
def copyC {α:Type}(P:Program)(t:TypeId)(d:AV)(x:Option ((s:Sh)×List s.Den))(H:Heap)(k:Kont α):Option α:=
 match P.underlying t,d with
 |some (.slice e), .msl r i n=>
  match H.at r,x with
  | .raw s l m,some ⟨s',xs'⟩=>
   if h:s'=s then
    let xs:List s.Den:=h▸xs'
    if some s.width=sizeT P e∧0<s.width then
     cond (decide (i≤l.length)) (k (.lit (.int .i64 (min xs.length n:Nat))) (H.set r (.raw s (l.take i++xs.take n++l.drop (i+min xs.length n)) m))) none
    else none
   else none
  | .row s l,some ⟨s',xs'⟩=>
   if h:s'=s then
    let xs:List s.Den:=h▸xs'
    if some s.width=sizeT P e∧0<s.width then
     k (.lit (.int .i64 (min xs.length n:Nat))) (H.set r (.row s (l.take i++xs.take n++l.drop (i+min xs.length n))))
    else none
   else none
  |_,_=>none
 |_,_=>none
def copyA {α:Type}(P:Program)(t:TypeId)(d x:AV)(H:Heap)(k:Kont α):Option α:=
 match x with
 | .msl q j p=>
  match H.at q with
  | .raw s l _=>cond (decide (j+p≤l.length)) (copyC P t d (some ⟨s,(l.drop j).take p⟩) H k) none
  |_=>copyC P t d (content H x) H k
 |_=>copyC P t d (content H x) H k
def indexAddrA {α:Type}(P:Program)(t:TypeId)(a ix:AV)(H:Heap)(k:Kont α):Option α:=
 match P.underlying t,ix with
 |some (.slice e), .lit (.int _ i)=>
  match a with
  | .sl s l _=>if some s.width=sizeT P e then cond (decide (0≤i∧i<(l.length:Int))) (k (.pel s l i.toNat 0) H) none else none
  | .msl r j n=>
   match H.at r with
   | .row s _=>if some s.width=sizeT P e then cond (decide (0≤i∧i<(n:Int))) (k (.ptr r (j+i.toNat) 0) H) none else none
   | .fz s _=>if some s.width=sizeT P e then cond (decide (0≤i∧i<(n:Int))) (k (.ptr r (j+i.toNat) 0) H) none else none
   |_=>none
  |_=>none
 |some (.array n e), .lit (.int _ i)=>
  match a,sizeT P e with
  | .ptr r j off,some w=>
   match H.at r with
   | .row s l=>
    match arrT P t with
    |some (s',m)=>
     if s'=s then (if off=0 then cond (decide (0≤i∧i<(n:Int)∧j+i.toNat<l.length)) (k (.ptr r (j+i.toNat) 0) H) none else none)
     else cond (decide (0≤i∧i<(n:Int))) (k (.ptr r j (off+i.toNat*w)) H) none
    |none=>cond (decide (0≤i∧i<(n:Int))) (k (.ptr r j (off+i.toNat*w)) H) none
   |_=>cond (decide (0≤i∧i<(n:Int))) (k (.ptr r j (off+i.toNat*w)) H) none
  | .pel s l j off,some w=>
   if s.width=w∧off=0 then cond (decide (0≤i∧i<(n:Int)∧j+i.toNat<l.length)) (k (.pel s l (j+i.toNat) 0) H) none
   else cond (decide (0≤i∧i<(n:Int))) (k (.pel s l j (off+i.toNat*w)) H) none
  |_,_=>none
 |_,_=>none
def indexA {α:Type}(P:Program)(t:TypeId)(a ix:AV)(H:Heap)(k:Kont α):Option α:=
 match a,ix with
 | .lit (.string x), .lit (.int _ i)=>
  match P.underlying t with
  |some .string=>cond (decide (0≤i∧i<(x.size:Int))) (k (.lit (.int .u8 ((x.data.toList.getD i.toNat 0).toNat:Nat))) H) none
  |_=>none
 |_,_=>none
def fieldAddrA {α:Type}(P:Program)(t:TypeId)(a:AV)(f:Nat)(H:Heap)(k:Kont α):Option α:=
 match P.underlying t with
 |some (.struct fs)=>
  match fs[f]? with
  |some fd=>
   match sizeT P fd.type with
   |some n=>
    if n=0 then none else
    match a with
    | .ptr r i off=>k (.ptr r i (off+fd.offset)) H
    | .pel s l i off=>k (.pel s l i (off+fd.offset)) H
    |_=>none
   |none=>none
  |none=>none
 |_=>none
def fieldA {α:Type}(P:Program)(t:TypeId)(a:AV)(f:Nat)(H:Heap)(k:Kont α):Option α:=
 match P.underlying t,a with
 |some (.struct fs), .agg cs=>
  match fs[f]? with
  |some fd=>readA P fd.type cs fd.offset H k
  |none=>none
 |_,_=>none
def buildA {α:Type}(P:Program)(t:TypeId)(parts:List (Nat×AV))(H:Heap)(k:Kont α):Option α:=
 match P.underlying t,zeroT P t with
 |some (.struct fs),some z=>
  match fillA (fun i=>match fs[i]? with|some f=>(sizeT P f.type).map fun n=>(f.offset,n)|none=>none) z
    (parts.map fun p=>(p.1,match fs[p.1]? with|some f=>typed P f.type p.2|none=>p.2)) with
  |some cs=>if fs.all fun f=>(sizeT P f.type).isSome then k (.agg cs) H else none
  |none=>none
 |some (.array _ e),some z=>
  match sizeT P e with
  |some n=>
   match fillA (fun i=>some (i*n,n)) z (parts.map fun p=>(p.1,typed P e p.2)) with
   |some cs=>k (.agg cs) H
   |none=>none
  |none=>none
 |_,_=>none
def buildSliceA {α:Type}(P:Program)(t:TypeId)(n:Nat)(parts:List (Nat×AV))(H:Heap)(k:Kont α):Option α:=
 match P.underlying t with
 |some (.slice e)=>
  match sizeT P e,zeroT P e with
  |some w,some z=>
   if z.length=w∧n*w≤2^24∧0<w then
    match fillA (fun i=>some (i*w,w)) ((List.replicate n z).flatten) (parts.map fun p=>(p.1,typed P e p.2)) with
    |some cs=>
     match shOf P 9 e with
     |some s=>
      if s.width=w then
       match downAll s (chunks w n cs) with
       |some l=>k (.sl s l true) H
       |none=>none
      else none
     |none=>none
    |none=>none
   else none
  |_,_=>none
 |_=>none
abbrev Spec:=(α:Type)→List AV→Heap→Kont α→Option α
structure Env where
 /-- the functions that are called: number, whether slices are handed over for good, contract -/
 calls:FuncId→Option (Bool×Spec)
def evalA [Globals](s:List AV):Operand→AV
 | .tmp t=>s.getD t .any
 | .const v=>constA v
 | .global g=>match Globals.tab g with|some ⟨sh,l⟩=> .pel sh l 0 0|none=> .any
 | .func f=> .clo (.func f) [] []
def typedL (P:Program):List TypeId→List AV→List AV
 |t::ts,a::l=>typed P t a::typedL P ts l
 |_,l=>l
def plainV:AV→Bool
 | .lit _=>true
 | .agg l=>l.all fun| .lit _=>true|_=>false
 | .tup l=>l.all fun| .lit _=>true| .agg l=>l.all (fun| .lit _=>true|_=>false)|_=>false
 |_=>false
def callFn {α:Type}(P:Program)(E:Env)(f:FuncId)(ts:List TypeId)(args:List AV)(H:Heap)(k:Kont α):Option α:=
 match E.calls f with
 |none=>none
 |some (false,sp)=>sp α (typedL P ts args) H k
 |some (true,sp)=>
  let args:=typedL P ts args
  let(args',H'):=freezeW H args
  if (refsL args').isEmpty then sp α args' [] fun v H''=>match H'' with|[]=>if plainV v then k v H else if (refs v).isEmpty then k v H' else none|_::_=>none
  else none
def builtinA {α:Type}(P:Program)(b:Builtin)(ts:List TypeId)(args:List AV)(H:Heap)(k:Kont α):Option α:=
 match b,ts,args with
 | .len,t::_,[a]=>
  match P.underlying t,a with
  |some (.slice _), .sl _ l _=>k (.lit (.int .i64 (l.length:Nat))) H
  |some (.slice _), .msl _ _ n=>k (.lit (.int .i64 (n:Nat))) H
  |some .string, .lit (.string x)=>k (.lit (.int .i64 (x.size:Nat))) H
  |some (.array n _),_=>k (.lit (.int .i64 (n:Nat))) H
  |some (.map _ _), .mp r=>match H.at r with| .mapo _ _ l=>k (.lit (.int .i64 (l.length:Nat))) H|_=>none
  |_,_=>none
 | .append,[t,t2],[a,x]=>(match P.underlying t2 with|none=>none|some (.int _)=>appendZ P t a x H k|_=>appendA P t a x H k)
 | .cap,t::_,[a]=>
  match P.underlying t,a with
  |some (.slice _), .sl _ l x=>cond x (k (.lit (.int .i64 (l.length:Nat))) H) none
  |_,_=>none
 | .copy,t::_,[d,x]=>copyA P t d x H k
 | .delete,t::_,[m,key]=>mapDelA P t m key H k
 | .max,_,a::l=>(match l.foldlM mxA a with|some v=>k v H|none=>none)
 | .min,_,a::l=>(match l.foldlM mnA a with|some v=>k v H|none=>none)
 |_,_,_=>none
def callA {α:Type}(P:Program)(E:Env)(ρ:Operand→AV)(c:Call)(H:Heap)(k:Kont α):Option α:=
 let args:=c.args.toList.map ρ
 match c.callee with
 | .builtin b=>builtinA P b c.argTypes.toList args H k
 | .value f=>
  match ρ f with
  | .clo (.func g) first caps=>callFn P E g [] (first++(typedL P c.argTypes.toList args++caps)) H k
  |_=>none
 | .invoke _ _=>none
def opA {α:Type}(P:Program)(E:Env)(ρ:Operand→AV)(o:Oper)(H:Heap)(k:Kont α):Option α:=
 match o.op with
 | .move x| .assign x=>k (typed P o.type (ρ x)) H
 | .pick c a b=>
  match ρ c with
  | .lit (.bool t)=>cond t (k (typed P o.type (ρ a)) H) (k (typed P o.type (ρ b)) H)
  |_=>none
 | .alloc t=>allocA P t H k
 | .box t x=>match (typed P t (ρ x)).cells with|some cs=>k (.ptr H.length 0 0) (H++[.box cs])|none=>none
 | .build t ps=>buildA P t (ps.toList.map fun p=>(p.1,ρ p.2)) H k
 | .buildSlice t n ps=>buildSliceA P t n (ps.toList.map fun p=>(p.1,ρ p.2)) H k
 | .load t a=>loadA P t (ρ a) H k
 | .store t a x=>storeA P t (ρ a) (ρ x) H k
 | .nilCheck x=>
  match ρ x with
  | .ptr r i off=>k (.ptr r i off) H
  | .pel s l i off=>k (.pel s l i off) H
  | .clo (.func g) a b=>k (.clo (.func g) a b) H
  |_=>none
 | .binOp op t x y _=>binA P op t (ρ x) (ρ y) fun v=>k v H
 | .unOp op _ x=>unA op (ρ x) fun v=>k v H
 | .convert a b x=>(match P.underlying b with|some (.slice e)=>convN P a e (ρ x) H k|_=>convA P a b (ρ x) H k)
 | .makeFunc g a b=>k (.clo g (a.toList.map ρ) (b.toList.map ρ)) H
 | .makeSlice t l c=>makeSliceA P t (ρ l) (ρ c) H k
 | .slice t x lo hi mx=>sliceA P t (ρ x) (lo.map ρ) (hi.map ρ) (mx.map ρ) H k
 | .fieldAddr t x f=>fieldAddrA P t (ρ x) f H k
 | .field t x f=>fieldA P t (ρ x) f H k
 | .indexAddr t x i=>indexAddrA P t (ρ x) (ρ i) H k
 | .index t x i=>indexA P t (ρ x) (ρ i) H k
 | .extract x i=>match ρ x with| .tup l=>(match l[i]? with|some v=>k v H|none=>none)|_=>none
 | .call c=>callA P E ρ c H k
 | .makeMap t r=>makeMapA P t (r.map ρ) H k
 | .lookup t x i ok=>lookupA P t (ρ x) (ρ i) ok H k
 | .mapUpdate t m i x=>mapPutA P t (ρ m) (ρ i) (ρ x) H k
 | .insert t m i x=>mapPutA P t (ρ m) (ρ i) (ρ x) H k
 | .range t x=>rangeA P t (ρ x) H k
 | .next x s=>nextA (ρ x) s H k
 |_=>none
def Op.mut:Op→Bool
 | .move _| .assign _| .pick .. | .alloc _| .box .. | .build .. | .buildSlice .. | .load .. | .nilCheck _| .binOp .. | .unOp .. | .convert ..
 | .makeFunc .. | .makeSlice .. | .slice .. | .fieldAddr .. | .field .. | .indexAddr .. | .index .. | .extract .. | .makeMap .. | .lookup .. =>false
 | .call c=>(match c.callee with| .builtin .len| .builtin .cap| .builtin .max| .builtin .min=>false|_=>true)
 |_=>true
def Op.isCall:Op→Bool
 | .call c=>(match c.callee with| .builtin _=>false|_=>true)
 |_=>false
def opW {α:Type}(P:Program)(E:Env)(ρ:Operand→AV)(o:Oper)(H:Heap)(k:List Nat→AV→Heap→Option α):Option α:=
 let rs:=refsL (o.op.operands.toList.map ρ)
 let F:=reach H (H.length+1) (addNew [] rs)
 if closedB H F&&rs.all F.contains then
  opA P E (fun x=>ren F.idxOf (ρ x)) o (local_ H F) fun v H'=>
   if F.length≤H'.length then k F (ren (back H F) v) (putBack (back H F) H F H') else none
 else none
structure St where
 s:List AV
 h:Heap
def putS (s:List AV):Option Tmp→AV→List AV
 |some d,v=>s.set d v
 |none,_=>s
def skipV:AV:= .lit (.tuple #[])
def guardA {α:Type}(all:Array Oper)(o:Oper)(s:List AV)(yes no:List AV→Option α):Option α:=
 match o.guard with
 |none=>yes s
 |some (g,want)=>
  match (all[g]?).bind (·.dst) with
  |none=>none
  |some t=>
   match s[t]? with
   |some (.lit (.bool b))=>
    cond b (if want then yes (s.set t (.lit (.bool true))) else no (s.set t (.lit (.bool true))))
     (if want then no (s.set t (.lit (.bool false))) else yes (s.set t (.lit (.bool false))))
   |some (.lit (.tuple _))=>no s
   |_=>none
def evOps [Globals]{α:Type}(P:Program)(E:Env)(all:Array Oper):List Oper→St→(St→Option α)→Option α
 |[],st,k=>k st
 |o::rest,st,k=>
  guardA all o st.s
   (fun s=>
    if Op.isCall o.op then opW P E (evalA s) o st.h fun _ v H=>evOps P E all rest ⟨putS s o.dst v,H⟩ k
    else opA P E (evalA s) o st.h fun v H=>evOps P E all rest ⟨putS s o.dst v,H⟩ k)
   (fun s=>evOps P E all rest ⟨putS s o.dst skipV,st.h⟩ k)
structure Ent where
 F:List Nat
 m:Bool
 lo:Nat
 hi:Nat
def Op.blind:Op→Option Operand
 | .move x| .assign x=>some x
 |_=>none
def evD [Globals]{α:Type}(P:Program)(E:Env)(all:Array Oper):List Oper→St→List Ent→(St→List Ent→Option α)→Option α
 |[],st,log,k=>k st log
 |o::rest,st,log,k=>
  guardA all o st.s
   (fun s=>
    match Op.blind o.op with
    |some x=>evD P E all rest ⟨putS s o.dst (typed P o.type (evalA s x)),st.h⟩ (log++[⟨[],false,st.h.length,st.h.length⟩]) k
    |none=>opW P E (evalA s) o st.h fun F v H=>
      cond (!Op.mut o.op&&decide (H.length=st.h.length)) (evD P E all rest ⟨putS s o.dst v,st.h⟩ (log++[⟨F,false,st.h.length,st.h.length⟩]) k)
       (evD P E all rest ⟨putS s o.dst v,H⟩ (log++[⟨F,Op.mut o.op,st.h.length,H.length⟩]) k))
   (fun s=>evD P E all rest ⟨putS s o.dst skipV,st.h⟩ (log++[⟨[],false,st.h.length,st.h.length⟩]) k)
def maskOf (o:Oper)(acc:List Nat):Nat:=
 o.after.toList.foldl (fun s e=>if Region.binds .any e then s|||2^e.on|||acc.getD e.on 0 else s) 0
def ancs:List Oper→List Nat→List Nat
 |[],acc=>acc
 |o::os,acc=>ancs os (acc++[maskOf o acc])
def meets (a b:List Nat):Bool:=a.any b.contains
def swapOk (all:Array Oper)(x y:Oper)(a b:Ent):Bool:=
 x.apart all y&&(!(a.m||b.m)|| !meets a.F b.F)&&b.F.all (fun r=> !(decide (a.lo≤r)&&decide (r<a.hi)))&&a.F.all (fun r=> !(decide (b.lo≤r)&&decide (r<b.hi)))
def orderFrom (all:Array Oper)(o:Oper)(e:Ent)(i:Nat):List (Oper×Ent×Nat)→Bool
 |[]=>true
 |(p,f,m)::rest=>(m.testBit i||swapOk all o p e f)&&orderFrom all o e i rest
def orderOk (all:Array Oper):Nat→List (Oper×Ent×Nat)→Bool
 |_,[]=>true
 |i,(o,e,_)::rest=>o.after.toList.all (fun d=> !Region.binds .any d||decide (d.on<i))&&orderFrom all o e i rest&&orderOk all (i+1) rest
def calmL (log:List Ent):Bool:=log.all fun e=> !e.m&&decide (e.lo=e.hi)
def statFrom (all:Array Oper)(o:Oper)(i:Nat):List (Oper×Nat)→Bool
 |[]=>true
 |(p,m)::rest=>(m.testBit i||o.apart all p)&&statFrom all o i rest
def statOk (all:Array Oper):Nat→List (Oper×Nat)→Bool
 |_,[]=>true
 |i,(o,_)::rest=>o.after.toList.all (fun d=> !Region.binds .any d||decide (d.on<i))&&statFrom all o i rest&&statOk all (i+1) rest
def noteL (P:Program)(ρ:Operand→AV)(o:Oper)(H:Heap):Option (Nat×Nat×Value):=
 match o.op with
 | .load t a=>
  match ρ a with
  | .ptr r 0 j=>
   match H.at r with
   | .box cs=>
    match P.underlying t,sizeT P t,cs[j]? with
    |some (.int _),some _,some (.lit u)=>some (r,j,u)
    |some .bool,some _,some (.lit u)=>some (r,j,u)
    |_,_,_=>none
   |_=>none
  |_=>none
 |_=>none
def freeV (P:Program)(ρ:Operand→AV)(o:Oper)(H:Heap):Option AV:=
 match o.op with
 | .nilCheck x=>(match ρ x with| .ptr r i off=>some (.ptr r i off)|_=>none)
 | .fieldAddr t x f=>fieldAddrA P t (ρ x) f H fun v _=>some v
 |_=>none
structure Ent2 where
 e:Ent
 nt:Option (Nat×Nat×Value)
 post:Heap
def evD2 [Globals]{α:Type}(P:Program)(E:Env)(all:Array Oper):List Oper→St→List Ent2→(St→List Ent2→Option α)→Option α
 |[],st,log,k=>k st log
 |o::rest,st,log,k=>
  guardA all o st.s
   (fun s=>
    match Op.blind o.op with
    |some x=>evD2 P E all rest ⟨putS s o.dst (typed P o.type (evalA s x)),st.h⟩ (log++[⟨⟨[],false,st.h.length,st.h.length⟩,none,st.h⟩]) k
    |none=>
     match freeV P (evalA s) o st.h with
     |some v=>evD2 P E all rest ⟨putS s o.dst v,st.h⟩ (log++[⟨⟨[],false,st.h.length,st.h.length⟩,none,st.h⟩]) k
     |none=>
     match noteL P (evalA s) o st.h with
     |some n=>evD2 P E all rest ⟨putS s o.dst (.lit n.2.2),st.h⟩ (log++[⟨⟨[],false,st.h.length,st.h.length⟩,some n,st.h⟩]) k
     |none=>opW P E (evalA s) o st.h fun F v H=>
      cond (!Op.mut o.op&&decide (H.length=st.h.length)) (evD2 P E all rest ⟨putS s o.dst v,st.h⟩ (log++[⟨⟨F,false,st.h.length,st.h.length⟩,none,st.h⟩]) k)
       (evD2 P E all rest ⟨putS s o.dst v,H⟩ (log++[⟨⟨F,Op.mut o.op,st.h.length,H.length⟩,none,H⟩]) k))
   (fun s=>evD2 P E all rest ⟨putS s o.dst skipV,st.h⟩ (log++[⟨⟨[],false,st.h.length,st.h.length⟩,none,st.h⟩]) k)
def cellL (H:Heap)(r j:Nat):AV:=match H.at r with| .box cs=>cs.getD j .any|_=> .any
def sameK {α:Type}(a:AV)(u:Value)(k:Option α):Option α:=
 match a,u with
 | .lit (.int k1 n1), .int k2 n2=>if k1=k2 then cond (decide (n1=n2)) k none else none
 | .lit (.bool b1), .bool b2=>cond (decide (b1=b2)) k none
 |_,_=>none
def allK {α:Type}(r j:Nat)(u:Value):List Ent2→Option α→Option α
 |[],k=>k
 |e::es,k=>if e.e.m=true∧e.e.F.contains r=true then sameK (cellL e.post r j) u (allK r j u es k) else allK r j u es k
def notesK {α:Type}(H0:Heap)(full:List Ent2):List Ent2→Option α→Option α
 |[],k=>k
 |e::es,k=>
  match e.nt with
  |none=>notesK H0 full es k
  |some n=>if n.1<H0.length then sameK (cellL H0 n.1 n.2.1) n.2.2 (allK n.1 n.2.1 n.2.2 full (notesK H0 full es k)) else none
def evAlt [Globals]{α:Type}(P:Program)(E:Env)(ops:Array Oper)(st:St)(k:St→Option α):Option α:=
 evD2 P E ops ops.toList st [] fun st' log=>notesK st.h log log (if orderOk ops 0 (ops.toList.zip ((log.map (·.e)).zip (ancs ops.toList []))) then k st' else none)
def evRegion [Globals]{α:Type}(P:Program)(E:Env)(ops:Array Oper)(draw:Bool)(st:St)(k:St→Option α):Option α:=
 if draw then
  evD P E ops ops.toList st [] fun st' log=>
   cond (statOk ops 0 (ops.toList.zip (ancs ops.toList [])))
    (cond (calmL log) (k st') (if orderOk ops 0 (ops.toList.zip (log.zip (ancs ops.toList []))) then k st' else evAlt P E ops st k))
    (if orderOk ops 0 (ops.toList.zip (log.zip (ancs ops.toList []))) then k st' else evAlt P E ops st k)
 else evOps P E ops ops.toList st k
structure Norm where
 keep:List Nat
 own:List Nat
 frz:List Nat
def keepS (ks:List Nat):Nat→List AV→List AV
 |_,[]=>[]
 |i,a::l=>(if ks.contains i then a else .any)::keepS ks (i+1) l
def ownAll {α:Type}:List Nat→St→(St→Option α)→Option α
 |[],st,k=>k st
 |t::ts,st,k=>
  match st.s.getD t .any with
  | .sl s [] c=>cond c (ownAll ts ⟨st.s.set t (.msl st.h.length 0 0),st.h++[.row s []]⟩ k) none
  |_=>ownAll ts st k
def ownCells {α:Type}:List Nat→St→(St→Option α)→Option α
 |[],st,k=>k st
 |t::ts,st,k=>
  if t<1000000 then ownCells ts st k else
  match st.h.at ((t-1000000)/1000) with
  | .box cells=>
   match cells.getD ((t-1000000)%1000) .any with
   | .sl s [] c=>cond c (ownCells ts ⟨st.s,(st.h.set ((t-1000000)/1000) (.box (cells.set ((t-1000000)%1000) (.msl st.h.length 0 0))))++[.row s []]⟩ k) none
   |_=>ownCells ts st k
  |_=>ownCells ts st k
def frzAll:List Nat→St→St
 |[],st=>st
 |t::ts,st=>let(v,H):=freezeV st.h (st.s.getD t .any);frzAll ts ⟨st.s.set t v,H⟩
def gcA {α:Type}(n0:Nat)(s:List AV)(H:Heap)(k:List AV→Heap→Option α):Option α:=
 let F:=reach H (H.length+1) (addNew (List.range n0) (refsL s))
 if closedB H F&&(refsL s).all F.contains&&decide (F.take n0=List.range n0) then k (renL F.idxOf s) (local_ H F) else none
def normA {α:Type}(n0:Nat)(N:Norm)(st:St)(k:St→Option α):Option α:=
 ownAll N.own ⟨keepS N.keep 0 st.s,st.h⟩ fun st=>ownCells N.own st fun st=>let st:=frzAll N.frz st;gcA n0 st.s st.h fun s H=>k ⟨s,H⟩
abbrev CSpec:=(α:Type)→St→(Exit→St→Option α)→Option α
structure Hints where
 n0:Nat
 norm:List Nat→Option Norm
 sum:List Nat→Option CSpec
 jump:List Nat→Option CSpec:=fun _=>none
def evS {α:Type}(J:Nat→Option CSpec)(B:Nat→Code→St→(Exit→St→Option α)→Option α)(b:Code):Nat→Nat→Code→St→(Exit→St→Option α)→Option α
 |0,_,_,_,_=>none
 |n+1,p,c,st,k=>
  match J p with
  |some sp=>sp α st k
  |none=>
   B p c st fun e st'=>
    match e with
    | .goto l=>
     match findLabel b l with
     |some rest=>evS J B b n (l+1) rest st' k
     |none=>k (.goto l) st'
    |e=>k e st'
def ev [Globals]{α:Type}(P:Program)(E:Env)(h:Hints):Nat→List Nat→Code→St→(Exit→St→Option α)→Option α
 |0,_,_,_,_=>none
 |n+1,p,code,st,k=>
  match h.sum p with
  |some sp=>sp α st k
  |none=>
   match code with
   | .skip=>k .normal st
   | .label _=>k .normal st
   | .region _ ops draw=>evRegion P E ops draw st (k .normal)
   | .seq a b=>ev P E h n (0::p) a st fun e st'=>match e with| .normal=>ev P E h n (1::p) b st' k|e=>k e st'
   | .cond c x y=>
    match evalA st.s c with
    | .lit (.bool b)=>cond b (ev P E h n (0::p) x st k) (ev P E h n (1::p) y st k)
    |_=>none
   | .block id b=>ev P E h n (0::p) b st fun e st'=>match e with| .exit i=>if i=id then k .normal st' else k (.exit i) st'|e=>k e st'
   | .loop b=>
    match h.norm p with
    |none=>ev P E h n (0::p) b st fun e st'=>match e with| .normal=>ev P E h n p (.loop b) st' k|e=>k e st'
    |some N=>normA h.n0 N st fun st=>ev P E h n (0::p) b st fun e st'=>match e with| .normal=>ev P E h n p (.loop b) st' k|e=>k e st'
   | .exit i=>k (.exit i) st
   | .goto l=>k (.goto l) st
   | .ret=>k .ret st
   | .scope b=>evS (fun q=>h.jump (q::p)) (fun q c st k=>match h.norm (q::p) with|none=>ev P E h n (q::p) c st k|some N=>normA h.n0 N st fun st=>ev P E h n (q::p) c st k) b n 0 b st k
   | .rangeFunc .. =>none
   | .refuse _=>none
def resultA {α:Type}(P:Program)(st:St):List ResultVar→(List AV→Option α)→Option α
 |[],k=>k []
 | .tmp t::rest,k=>resultA P st rest fun l=>k (st.s.getD t .any::l)
 | .cell a t::rest,k=>loadA P t (st.s.getD a .any) st.h fun v _=>resultA P st rest fun l=>k (v::l)
def frzBoxes:Nat→Nat→Heap→Heap
 |0,_,H=>H
 |n+1,i,H=>
  match H.at i with
  | .box l=>let(l,H):=freezeL H l;frzBoxes n (i+1) (H.set i (.box l))
  |_=>frzBoxes n (i+1) H
def settleA {α:Type}(H:Heap)(a:AV)(k:Heap→Option α):Option α:=
 match a with
 | .msl r _ _=>
  match H.at r with
  | .raw s l n=>cond (decide (n≤l.length)) (k (H.set r (.row s l))) none
  |_=>k H
 |_=>k H
def finishA {α:Type}(P:Program)(fn:Func)(own:Bool)(n0:Nat)(st:St)(k:Kont α):Option α:=
 resultA P st fn.results.toList fun l=>
  let l:=typedL P fn.resultTypes.toList l
  let v:AV:=match l with|[a]=>a|l=> .tup l
  if own then gcA n0 [v] st.h fun s H=>match s with|[v]=>k v H|_=>none
  else settleA st.h v fun h=>
   let(v,H):=freezeV h v
   gcA n0 [v] (frzBoxes n0 0 H) fun s H=>match s with|[v]=>k v H|_=>none
def evFun [Globals]{α:Type}(P:Program)(E:Env)(h:Hints)(own:Bool)(fn:Func)(code:Code)(fuel:Nat)(args:List AV)(H:Heap)(k:Kont α):Option α:=
 ev P E h fuel [] code ⟨args++List.replicate (fn.ntmps-args.length) skipV,H⟩ fun e st=>
  match e with
  | .normal| .ret=>finishA P fn own H.length st k
  |_=>none
end Go.TX
