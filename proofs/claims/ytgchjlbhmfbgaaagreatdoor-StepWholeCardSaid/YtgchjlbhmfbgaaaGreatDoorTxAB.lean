/- Shorter forms: a function, a piece of code, a loop in one step each. -/
import Derived.Test.YtgchjlbhmfbgaaaGreatDoorTxW
namespace Go.TX
set_option linter.unusedSectionVars false
variable [Globals]
variable {P : Program}
theorem tre {α : Type} {a b c : α} (h2 : b = c) (h1 : a = b) : a = c := h1.trans h2
theorem gf {E : Env} (hE : E.OK P) (hmix : P.follows .mixedOrders = true) {f : FuncId} {fn : Func} {code : Code} (hf : P.funcs[f]? = some fn) (hb : fn.body = some code) (hname : (fn.name == "runtime.NumGoroutine") = false)
    (own : Bool) {A : List SD} {Hs : List HD} {sp : (α : Type) → DenS A → DenH Hs → Kont α → Option α} {h : Hints} (hh : h.OK P code) (fuel : Nat) (hn : h.n0 = Hs.length)
    (hs : ∀ (α : Type) (a : DenS A) (m : DenH Hs) (k : Kont α), evFun P E h own fn code fuel (mkS A a) (mkH Hs m) k = sp α a m k) : Good P f (specD A Hs sp) :=
  good_form hE hmix hf hb hname own fun α a m k r hr => ⟨h, fuel, hh, hn, (hs α a m k).trans hr⟩
/-- So many values of which nothing is known. -/
def an : Nat → List SD → List SD
  | 0, l => l
  | n + 1, l => .any :: an n l
def av : Nat → List AV → List AV
  | 0, l => l
  | n + 1, l => .any :: av n l
def un {l : List SD} : (n : Nat) → DenS l → DenS (an n l)
  | 0, d => d
  | n + 1, d => ((), un n d)
theorem tN {α X : Type} {Y Z : Option α} {b : Bool} {v w : Option X} {k : X → Option α} (h1 : Tr Y v k) (h2 : Tr Z w k) : Tr (cond b Y Z) (cond b v w) k := Tr.nd h1 h2
theorem tL {α X : Type} {x : X} {k : X → Option α} : Tr (k x) (some x) k := rfl
theorem tB {α X W : Type} {r : Option W} {Y : W → Option α} {v : W → Option X} {k : X → Option α} (h : ∀ x, Tr (Y x) (v x) k) : Tr (outOf r Y) (outOf r v) k := Tr.bd h
theorem pN {α D X : Type} {Y Z : Option α} {b : Bool} {v w : Option (D ⊕ X)} {next : D → Option α} {out : X → Option α} (h1 : Ps Y v next out) (h2 : Ps Z w next out) : Ps (cond b Y Z) (cond b v w) next out := Ps.nd h1 h2
theorem pO {α D X : Type} {next : D → Option α} {out : X → Option α} : Ps none none next out := rfl
def orE {X : Type} (x y : Option X) : Option X := match x with | some v => some v | none => y
end Go.TX
