/- Shorter forms: a function, a piece of code, a loop in one step each. -/
import Derived.Test.YtgchjlbhmfbgaaaGreatDoorTxW
namespace Go.TX
set_option linter.unusedSectionVars false
variable [Globals]
variable {P : Program}

theorem tre {α : Type} {a b c : α} (h2 : b = c) (h1 : a = b) : a = c := h1.trans h2

theorem gf {E : Env} (hE : E.OK P) (hmix : P.follows .mixedOrders = true) {f : FuncId} {fn : Func} {code : Code} (hf : P.funcs[f]? = some fn) (hb : fn.body = some code) (hname : (fn.name == "runtime.NumGoroutine") = false)
    (own : Bool) {A : List SD} {Hs : List HD} {sp : (α : Type) → DenS A → DenH Hs → Kont α → Option α} {h : Hints} (hh : h.OK P code) (fuel : Nat) (hn : h.n0 = Hs.length)
    (hs : ∀ (α : Type) (a : DenS A) (m : DenH Hs) (k : Kont α), evFun P E h own fn code fuel (mkS A a) (mkH Hs m) k = sp α a m k) : Good P f (specD A Hs sp) :=
  good_form hE hmix hf hb hname own fun α a m k r hr => ⟨h, fuel, hh, hn, (hs α a m k).trans hr⟩

theorem gw {E : Env} (hE : E.OK P) (hmix : P.follows .mixedOrders = true) {f : FuncId} {fn : Func} {code : Code} (hf : P.funcs[f]? = some fn) (hb : fn.body = some code) (hname : (fn.name == "runtime.NumGoroutine") = false)
    (own : Bool) {A : List SD} {Hs : List HD} {sp : (α : Type) → DenS A → DenH Hs → Kont α → Option α} {h : Hints} (hh : h.OK P code) (fuel : Nat) (hn : h.n0 = Hs.length)
    (hs : ∀ (α : Type) (a : DenS A) (m : DenH Hs) (k : Kont α), evFun P E h own fn code fuel (mkS A a) (mkH Hs m) (fun v H => k (weakF v) H) = sp α a m k) : Good P f (specD A Hs sp) :=
  good_form_weak hE hmix hf hb hname own h fuel hh hn fun α a m k _ hr => (hs α a m k).trans hr

/-- What a piece of code comes to, what goes on behind it left open. -/
def cS {D X : Type} (n0 : Nat) (N : Norm) (A : List SD) (Hs : List HD) (toD : DenS A → DenH Hs → D) (M : D → Option X) (f : (β : Type) → D → X → (Exit → St → β) → β) : CSpec := fun α st k =>
  reNorm n0 N A Hs st fun a m => outOf (M (toD a m)) fun x => f (Option α) (toD a m) x k

theorem onc {E : Env} (hE : E.OK P) (hmix : P.follows .mixedOrders = true) {root : Code} {h : Hints} (hh : h.OK P root) {p : List Nat} (hp : codeAt root p = some ((codeAt root p).getD .skip)) {N : Norm} (Nx : Exit → Norm) {A : List SD} {Hs : List HD}
    {D X : Type} {toD : DenS A → DenH Hs → D} (ofA : D → DenS A) (ofH : D → DenH Hs) (hA : ∀ a m, ofA (toD a m) = a) (hH : ∀ a m, ofH (toD a m) = m) {M : D → Option X} {f : (β : Type) → D → X → (Exit → St → β) → β}
    (hn : ∀ d x (β : Type) (k : Exit → St → β), f β d x k = k (f (Exit × St) d x Prod.mk).1 (f (Exit × St) d x Prod.mk).2) (fuel : Nat)
    (hev : ∀ (α : Type) (d : D) (k : Exit → St → Option α),
      ev P E h fuel p ((codeAt root p).getD .skip) ⟨mkS A (ofA d), mkH Hs (ofH d)⟩ (exitN h.n0 Nx k) = outOf (M d) fun x => f (Option α) d x k) :
    (h.add p (cS h.n0 N A Hs toD M f)).OK P root :=
  hh.add hp ((SumOK.once hE hmix hh hp (N := N) hA hH (M := M) (fin := fun d x => f (Exit × St) d x Prod.mk) fuel fun α d k => (hev α d k).trans (outOf_congr fun x => hn d x _ k)).mono fun α st k r hr => by
    refine Eq.trans (congrArg (reNorm h.n0 N A Hs st) ?_) hr
    funext a m
    exact outOf_congr fun x => (hn _ x _ k).symm)

theorem PassOf_congr {α D X : Type} {v : Option (D ⊕ X)} {next : D → Option α} {f g : X → Option α} (h : ∀ x, f x = g x) : PassOf v next f = PassOf v next g := by
  match v with
  | none => rfl
  | some (.inl _) => rfl
  | some (.inr x) => exact h x

theorem lop {E : Env} (hE : E.OK P) (hmix : P.follows .mixedOrders = true) {root : Code} {h : Hints} (hh : h.OK P root) {p : List Nat} (hp : codeAt root p = some (.loop ((codeAt root (0 :: p)).getD .skip))) {N : Norm} (Nx : Exit → Norm) {A : List SD} {Hs : List HD}
    {D X : Type} {toD : DenS A → DenH Hs → D} (ofA : D → DenS A) (ofH : D → DenH Hs) (hA : ∀ a m, ofA (toD a m) = a) (hH : ∀ a m, ofH (toD a m) = m) (pass : D → Option (D ⊕ X)) {f : (β : Type) → X → (Exit → St → β) → β}
    (hn : ∀ x (β : Type) (k : Exit → St → β), f β x k = k (f (Exit × St) x Prod.mk).1 (f (Exit × St) x Prod.mk).2) (fuel : Nat)
    (hev : ∀ (α : Type) (d : D) (next : D → Option α) (k : Exit → St → Option α),
      ev P E h fuel (0 :: p) ((codeAt root (0 :: p)).getD .skip) ⟨mkS A (ofA d), mkH Hs (ofH d)⟩ (passK h.n0 N A Hs Nx (fun a m => next (toD a m)) k) = PassOf (pass d) next fun x => f (Option α) x k) :
    (h.add p (cS h.n0 N A Hs toD (runs pass) fun β _ => f β)).OK P root :=
  hh.add hp ((SumOK.loop hE hmix hh hp hA hH (pass := pass) (fin := fun x => f (Exit × St) x Prod.mk) fuel (fun α d next k => (hev α d next k).trans (PassOf_congr fun x => hn x _ k)) (steps pass)).mono fun α st k r hr => by
    refine Eq.trans (congrArg (reNorm h.n0 N A Hs st) ?_) hr
    funext a m
    exact outOf_congr fun x => (hn x _ k).symm)

/-- So many values of which nothing is known. -/
def an : Nat → List SD → List SD
  | 0, l => l
  | n + 1, l => .any :: an n l
def av : Nat → List AV → List AV
  | 0, l => l
  | n + 1, l => .any :: av n l
def un {l : List SD} : (n : Nat) → DenS l → DenS (an n l)
  | 0, d => d
  | n + 1, d => ((), un n d)

end Go.TX
