/- Functions that are stepped through anew at each call, so deep as is said. -/
import Derived.Test.YtgchjlbhmfbgaaaGreatDoorTxAB
namespace Go.TX
set_option linter.unusedSectionVars false
variable [Globals]
variable {P:Program}
def deepE (P:Program)(E:Env)(S:List (FuncId×Func×Bool))(fuel:Nat):Nat→Env
 |0=>E
 |n+1=>⟨fun g=>match S.find? (fun x=>Nat.beq x.1 g) with|none=>E.calls g|some x=>some (x.2.2,inl P (deepE P E S fuel n) (!x.2.2) x.2.1 fuel)⟩
def Has (P:Program)(x:FuncId×Func×Bool):Prop:=P.funcs[x.1]? =some x.2.1∧x.2.1.body.isSome=true∧(x.2.1.name== "runtime.NumGoroutine")=false
theorem deepE_ok {E:Env}(hE:E.OK P)(hmix:P.follows .mixedOrders=true){S:List (FuncId×Func×Bool)}(hS: ∀x∈S,Has P x)(fuel:Nat):(n:Nat)→(deepE P E S fuel n).OK P
 |0=>hE
 |n+1=>fun g b sp h=>by
  unfold deepE at h
  dsimp only at h
  split at h
  ·exact hE g b sp h
  ·rename_i x hx
   cases h
   have h1:=List.find?_some hx
   have h2:x.1=g:=Nat.eq_of_beq_eq_true h1
   subst h2
   obtain⟨e1,e2,e3⟩:=hS x (List.mem_of_find?_eq_some hx)
   exact inl_good (deepE_ok hE hmix hS fuel n) hmix e1 (body_of e2) e3 _ fuel
end Go.TX
