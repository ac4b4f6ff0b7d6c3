/-
  No cell of these rows narrows 'for every input' (looked for: loops, veiled, ifaces, maps, wideKeys, modest, calm, conditions, laid).
  DERIVED. THE GIVEN ROWS OF THIS SEAT. 10 by the template 'for every input the law returns true; each argument reads behind the call as it read before'; 0 by the template 'total and deterministic' (their statements: YtnopacpjimllhaaTotals.lean).
  GIVEN WITH THE SEED: the statements are not yours to turn. If you find one false, say at which input.
  Laid BY PROGRAM, IN A SANDBOX (cutbox-rows.mjs): the forced cells as the released guide's own fill.sh prints them over the translation 4c413187547ef8ca… (all of the seat's roots in one cut). By AI agents, Wed Nov 11 2026. No macro, syntax, notation, axiom, sorry.
-/
import Derived.Test.YtnopacpjimllhaaChecked
import GoSem.Claim
import GoSem.ClaimJoined
import GoSem.ClaimMapViews
import Derived.JoinedTies
import Derived.KernelRfl
namespace Go.Proofs.Ytnopacpjimllhaa
/- THE CELL 'sum', in the pinned program and in every row, IS THE sha256 OF THE DUMP (.gsa) THAT YtnopacpjimllhaaProg.lean LOADS. Nothing in Lean hashes anything: it is a label: what it is worth is what the hold of that sum in a sandbox is worth. -/
noncomputable def Try.pinned : Pinned := { name := "ytnopacpjimllhaa", sum := "4c413187547ef8ca437a3062cf9f3f64c3230ab965865f7b5c30f2444893a098", checked := Try.checked }
namespace Rows
def none {H : Type} : Left H := { results := [], args := [] }

/-- 'tenterhooklaw21.HistOrder': WHATEVER THE INPUT: true; the input reads as it did. -/
def histOrderSpec : ChangeSpec := { name := "histOrder", fn := fun _ => fun
  | [d1, d2] => { results := [.lit (.bool true)], args := [d1, d2] }
  | _ => none }
def histOrderRow : OpenClaim := { program := "ytnopacpjimllhaa", sum := "4c413187547ef8ca437a3062cf9f3f64c3230ab965865f7b5c30f2444893a098", func := "tenterhook/tenterhooklaw21.HistOrder", spec := "histOrder", apart := false }
def HistOrderSaid : Prop := histOrderRow.holds Try.pinned (OpenSpec.ofChange histOrderSpec)

/-- ITS FALSE NEIGHBOUR: 'it returns false'. Refute it at one input. -/
def histOrderWrong : ChangeSpec := { name := "histOrder", fn := fun _ => fun
  | [d1, d2] => { results := [.lit (.bool false)], args := [d1, d2] }
  | _ => none }
def HistOrderWrongFalsely : Prop := histOrderRow.holds Try.pinned (OpenSpec.ofChange histOrderWrong)

/-- 'tenterhooklaw02.DblSums': WHATEVER THE INPUT: true; the input reads as it did. -/
def dblSumsSpec : ChangeSpec := { name := "dblSums", fn := fun _ => fun
  | [d1, d2, d3, d4, d5] => { results := [.lit (.bool true)], args := [d1, d2, d3, d4, d5] }
  | _ => none }
def dblSumsRow : OpenClaim := { program := "ytnopacpjimllhaa", sum := "4c413187547ef8ca437a3062cf9f3f64c3230ab965865f7b5c30f2444893a098", func := "tenterhook/tenterhooklaw02.DblSums", spec := "dblSums", inPlace := ["math/bits.Add64"], apart := false }
def DblSumsSaid : Prop := dblSumsRow.holds Try.pinned (OpenSpec.ofChange dblSumsSpec)

/-- ITS FALSE NEIGHBOUR: 'it returns false'. Refute it at one input. -/
def dblSumsWrong : ChangeSpec := { name := "dblSums", fn := fun _ => fun
  | [d1, d2, d3, d4, d5] => { results := [.lit (.bool false)], args := [d1, d2, d3, d4, d5] }
  | _ => none }
def DblSumsWrongFalsely : Prop := dblSumsRow.holds Try.pinned (OpenSpec.ofChange dblSumsWrong)

/-- 'tenterhooklaw02.DblOrder': WHATEVER THE INPUT: true; the input reads as it did. -/
def dblOrderSpec : ChangeSpec := { name := "dblOrder", fn := fun _ => fun
  | [d1, d2, d3, d4, d5] => { results := [.lit (.bool true)], args := [d1, d2, d3, d4, d5] }
  | _ => none }
def dblOrderRow : OpenClaim := { program := "ytnopacpjimllhaa", sum := "4c413187547ef8ca437a3062cf9f3f64c3230ab965865f7b5c30f2444893a098", func := "tenterhook/tenterhooklaw02.DblOrder", spec := "dblOrder", apart := false }
def DblOrderSaid : Prop := dblOrderRow.holds Try.pinned (OpenSpec.ofChange dblOrderSpec)

/-- ITS FALSE NEIGHBOUR: 'it returns false'. Refute it at one input. -/
def dblOrderWrong : ChangeSpec := { name := "dblOrder", fn := fun _ => fun
  | [d1, d2, d3, d4, d5] => { results := [.lit (.bool false)], args := [d1, d2, d3, d4, d5] }
  | _ => none }
def DblOrderWrongFalsely : Prop := dblOrderRow.holds Try.pinned (OpenSpec.ofChange dblOrderWrong)

/-- 'tenterhooklaw21.HistApart': WHATEVER THE INPUT: true; the input reads as it did. -/
def histApartSpec : ChangeSpec := { name := "histApart", fn := fun _ => fun
  | [d1, d2, d3, d4] => { results := [.lit (.bool true)], args := [d1, d2, d3, d4] }
  | _ => none }
def histApartRow : OpenClaim := { program := "ytnopacpjimllhaa", sum := "4c413187547ef8ca437a3062cf9f3f64c3230ab965865f7b5c30f2444893a098", func := "tenterhook/tenterhooklaw21.HistApart", spec := "histApart", apart := false }
def HistApartSaid : Prop := histApartRow.holds Try.pinned (OpenSpec.ofChange histApartSpec)

/-- ITS FALSE NEIGHBOUR: 'it returns false'. Refute it at one input. -/
def histApartWrong : ChangeSpec := { name := "histApart", fn := fun _ => fun
  | [d1, d2, d3, d4] => { results := [.lit (.bool false)], args := [d1, d2, d3, d4] }
  | _ => none }
def HistApartWrongFalsely : Prop := histApartRow.holds Try.pinned (OpenSpec.ofChange histApartWrong)

/-- 'tenterhooklaw02.DblProducts': WHATEVER THE INPUT: true; the input reads as it did. -/
def dblProductsSpec : ChangeSpec := { name := "dblProducts", fn := fun _ => fun
  | [d1, d2, d3] => { results := [.lit (.bool true)], args := [d1, d2, d3] }
  | _ => none }
def dblProductsRow : OpenClaim := { program := "ytnopacpjimllhaa", sum := "4c413187547ef8ca437a3062cf9f3f64c3230ab965865f7b5c30f2444893a098", func := "tenterhook/tenterhooklaw02.DblProducts", spec := "dblProducts", inPlace := ["math/bits.Add64"], apart := false }
def DblProductsSaid : Prop := dblProductsRow.holds Try.pinned (OpenSpec.ofChange dblProductsSpec)

/-- ITS FALSE NEIGHBOUR: 'it returns false'. Refute it at one input. -/
def dblProductsWrong : ChangeSpec := { name := "dblProducts", fn := fun _ => fun
  | [d1, d2, d3] => { results := [.lit (.bool false)], args := [d1, d2, d3] }
  | _ => none }
def DblProductsWrongFalsely : Prop := dblProductsRow.holds Try.pinned (OpenSpec.ofChange dblProductsWrong)

/-- 'tenterhooklaw02.DblIs': WHATEVER THE INPUT: true; the input reads as it did. -/
def dblIsSpec : ChangeSpec := { name := "dblIs", fn := fun _ => fun
  | [d1, d2, d3, d4] => { results := [.lit (.bool true)], args := [d1, d2, d3, d4] }
  | _ => none }
def dblIsRow : OpenClaim := { program := "ytnopacpjimllhaa", sum := "4c413187547ef8ca437a3062cf9f3f64c3230ab965865f7b5c30f2444893a098", func := "tenterhook/tenterhooklaw02.DblIs", spec := "dblIs", inPlace := ["math/bits.Add64"], apart := false }
def DblIsSaid : Prop := dblIsRow.holds Try.pinned (OpenSpec.ofChange dblIsSpec)

/-- ITS FALSE NEIGHBOUR: 'it returns false'. Refute it at one input. -/
def dblIsWrong : ChangeSpec := { name := "dblIs", fn := fun _ => fun
  | [d1, d2, d3, d4] => { results := [.lit (.bool false)], args := [d1, d2, d3, d4] }
  | _ => none }
def DblIsWrongFalsely : Prop := dblIsRow.holds Try.pinned (OpenSpec.ofChange dblIsWrong)

/-- 'tenterhooklaw02.DblFits': WHATEVER THE INPUT: true; the input reads as it did. -/
def dblFitsSpec : ChangeSpec := { name := "dblFits", fn := fun _ => fun
  | [d1, d2, d3] => { results := [.lit (.bool true)], args := [d1, d2, d3] }
  | _ => none }
def dblFitsRow : OpenClaim := { program := "ytnopacpjimllhaa", sum := "4c413187547ef8ca437a3062cf9f3f64c3230ab965865f7b5c30f2444893a098", func := "tenterhook/tenterhooklaw02.DblFits", spec := "dblFits", inPlace := ["math/bits.Add64"], apart := false }
def DblFitsSaid : Prop := dblFitsRow.holds Try.pinned (OpenSpec.ofChange dblFitsSpec)

/-- ITS FALSE NEIGHBOUR: 'it returns false'. Refute it at one input. -/
def dblFitsWrong : ChangeSpec := { name := "dblFits", fn := fun _ => fun
  | [d1, d2, d3] => { results := [.lit (.bool false)], args := [d1, d2, d3] }
  | _ => none }
def DblFitsWrongFalsely : Prop := dblFitsRow.holds Try.pinned (OpenSpec.ofChange dblFitsWrong)

/-- 'tenterhooklaw02.DblBack': WHATEVER THE INPUT: true; the input reads as it did. -/
def dblBackSpec : ChangeSpec := { name := "dblBack", fn := fun _ => fun
  | [d1, d2] => { results := [.lit (.bool true)], args := [d1, d2] }
  | _ => none }
def dblBackRow : OpenClaim := { program := "ytnopacpjimllhaa", sum := "4c413187547ef8ca437a3062cf9f3f64c3230ab965865f7b5c30f2444893a098", func := "tenterhook/tenterhooklaw02.DblBack", spec := "dblBack", inPlace := ["math/bits.Add64"], apart := false }
def DblBackSaid : Prop := dblBackRow.holds Try.pinned (OpenSpec.ofChange dblBackSpec)

/-- ITS FALSE NEIGHBOUR: 'it returns false'. Refute it at one input. -/
def dblBackWrong : ChangeSpec := { name := "dblBack", fn := fun _ => fun
  | [d1, d2] => { results := [.lit (.bool false)], args := [d1, d2] }
  | _ => none }
def DblBackWrongFalsely : Prop := dblBackRow.holds Try.pinned (OpenSpec.ofChange dblBackWrong)

/-- 'tenterhooklaw02.DblDivides': WHATEVER THE INPUT: true; the input reads as it did. -/
def dblDividesSpec : ChangeSpec := { name := "dblDivides", fn := fun _ => fun
  | [d1, d2, d3, d4] => { results := [.lit (.bool true)], args := [d1, d2, d3, d4] }
  | _ => none }
def dblDividesRow : OpenClaim := { program := "ytnopacpjimllhaa", sum := "4c413187547ef8ca437a3062cf9f3f64c3230ab965865f7b5c30f2444893a098", func := "tenterhook/tenterhooklaw02.DblDivides", spec := "dblDivides", inPlace := ["math/bits.Add64"], apart := false }
def DblDividesSaid : Prop := dblDividesRow.holds Try.pinned (OpenSpec.ofChange dblDividesSpec)

/-- ITS FALSE NEIGHBOUR: 'it returns false'. Refute it at one input. -/
def dblDividesWrong : ChangeSpec := { name := "dblDivides", fn := fun _ => fun
  | [d1, d2, d3, d4] => { results := [.lit (.bool false)], args := [d1, d2, d3, d4] }
  | _ => none }
def DblDividesWrongFalsely : Prop := dblDividesRow.holds Try.pinned (OpenSpec.ofChange dblDividesWrong)

/-- 'tenterhooklaw02.DblScales': WHATEVER THE INPUT: true; the input reads as it did. -/
def dblScalesSpec : ChangeSpec := { name := "dblScales", fn := fun _ => fun
  | [d1, d2, d3] => { results := [.lit (.bool true)], args := [d1, d2, d3] }
  | _ => none }
def dblScalesRow : OpenClaim := { program := "ytnopacpjimllhaa", sum := "4c413187547ef8ca437a3062cf9f3f64c3230ab965865f7b5c30f2444893a098", func := "tenterhook/tenterhooklaw02.DblScales", spec := "dblScales", inPlace := ["math/bits.Add64"], apart := false }
def DblScalesSaid : Prop := dblScalesRow.holds Try.pinned (OpenSpec.ofChange dblScalesSpec)

/-- ITS FALSE NEIGHBOUR: 'it returns false'. Refute it at one input. -/
def dblScalesWrong : ChangeSpec := { name := "dblScales", fn := fun _ => fun
  | [d1, d2, d3] => { results := [.lit (.bool false)], args := [d1, d2, d3] }
  | _ => none }
def DblScalesWrongFalsely : Prop := dblScalesRow.holds Try.pinned (OpenSpec.ofChange dblScalesWrong)

/- THE SECOND FORM. 'bulk': how many values and letters a reading holds, each counted each time it is reached (what is shared counts as often as it is met; a slice's spare places count too). A statement '..UptoSaid' is the law's where the arguments, and the package variables that the reading takes, are together of bulk at most 1048576: NARROWER than '..Said'. Prove '..Said' where nothing that the law and all that it calls make is longer than what came in: it says more and counts as full. Else prove '..UptoSaid'. A law counts once. -/
mutual
def uptoBulk {H : Type} : DataW H → Nat
  | .lit (.string bytes) => bytes.length + 1
  | .lit _ => 1
  | .nil => 1
  | .ptr d => uptoBulk d + 1
  | .slice elems spare => uptoBulkAll elems + uptoBulkAll spare + 1
  | .agg parts => uptoBulkAll parts + 1
  | .iface _ d => uptoBulk d + 1
  | .map entries => uptoBulkEntries entries + 1
  | .held _ => 1
def uptoBulkAll {H : Type} : List (DataW H) → Nat
  | [] => 0
  | d :: r => uptoBulk d + uptoBulkAll r
def uptoBulkEntries {H : Type} : List (Lit × DataW H) → Nat
  | [] => 0
  | x :: r => uptoBulkEntry x + uptoBulkEntries r
def uptoBulkEntry {H : Type} : Lit × DataW H → Nat
  | (.string bytes, d) => bytes.length + uptoBulk d + 1
  | (_, d) => uptoBulk d + 1
 end
def uptoSmall : (H : Type) → List (DataW H) → Bool := fun _ ds => decide (uptoBulkAll ds ≤ 1048576)
def OpenSpec.upto (s : _root_.Go.ChangeSpec) : _root_.Go.OpenSpec := { _root_.Go.OpenSpec.ofChange s with cond := some uptoSmall }

/-- 'tenterhooklaw21.HistOrder', WHERE WHAT IT READS IS OF BULK AT MOST 1048576: true; the input reads as it did. -/
def histOrderUptoRow : OpenClaim := { program := "ytnopacpjimllhaa", sum := "4c413187547ef8ca437a3062cf9f3f64c3230ab965865f7b5c30f2444893a098", func := "tenterhook/tenterhooklaw21.HistOrder", spec := "histOrder", apart := false, narrowed := true }
def HistOrderUptoSaid : Prop := histOrderUptoRow.holds Try.pinned (OpenSpec.upto histOrderSpec)

/-- 'tenterhooklaw02.DblSums', WHERE WHAT IT READS IS OF BULK AT MOST 1048576: true; the input reads as it did. -/
def dblSumsUptoRow : OpenClaim := { program := "ytnopacpjimllhaa", sum := "4c413187547ef8ca437a3062cf9f3f64c3230ab965865f7b5c30f2444893a098", func := "tenterhook/tenterhooklaw02.DblSums", spec := "dblSums", inPlace := ["math/bits.Add64"], apart := false, narrowed := true }
def DblSumsUptoSaid : Prop := dblSumsUptoRow.holds Try.pinned (OpenSpec.upto dblSumsSpec)

/-- 'tenterhooklaw02.DblOrder', WHERE WHAT IT READS IS OF BULK AT MOST 1048576: true; the input reads as it did. -/
def dblOrderUptoRow : OpenClaim := { program := "ytnopacpjimllhaa", sum := "4c413187547ef8ca437a3062cf9f3f64c3230ab965865f7b5c30f2444893a098", func := "tenterhook/tenterhooklaw02.DblOrder", spec := "dblOrder", apart := false, narrowed := true }
def DblOrderUptoSaid : Prop := dblOrderUptoRow.holds Try.pinned (OpenSpec.upto dblOrderSpec)

/-- 'tenterhooklaw21.HistApart', WHERE WHAT IT READS IS OF BULK AT MOST 1048576: true; the input reads as it did. -/
def histApartUptoRow : OpenClaim := { program := "ytnopacpjimllhaa", sum := "4c413187547ef8ca437a3062cf9f3f64c3230ab965865f7b5c30f2444893a098", func := "tenterhook/tenterhooklaw21.HistApart", spec := "histApart", apart := false, narrowed := true }
def HistApartUptoSaid : Prop := histApartUptoRow.holds Try.pinned (OpenSpec.upto histApartSpec)

/-- 'tenterhooklaw02.DblProducts', WHERE WHAT IT READS IS OF BULK AT MOST 1048576: true; the input reads as it did. -/
def dblProductsUptoRow : OpenClaim := { program := "ytnopacpjimllhaa", sum := "4c413187547ef8ca437a3062cf9f3f64c3230ab965865f7b5c30f2444893a098", func := "tenterhook/tenterhooklaw02.DblProducts", spec := "dblProducts", inPlace := ["math/bits.Add64"], apart := false, narrowed := true }
def DblProductsUptoSaid : Prop := dblProductsUptoRow.holds Try.pinned (OpenSpec.upto dblProductsSpec)

/-- 'tenterhooklaw02.DblIs', WHERE WHAT IT READS IS OF BULK AT MOST 1048576: true; the input reads as it did. -/
def dblIsUptoRow : OpenClaim := { program := "ytnopacpjimllhaa", sum := "4c413187547ef8ca437a3062cf9f3f64c3230ab965865f7b5c30f2444893a098", func := "tenterhook/tenterhooklaw02.DblIs", spec := "dblIs", inPlace := ["math/bits.Add64"], apart := false, narrowed := true }
def DblIsUptoSaid : Prop := dblIsUptoRow.holds Try.pinned (OpenSpec.upto dblIsSpec)

/-- 'tenterhooklaw02.DblFits', WHERE WHAT IT READS IS OF BULK AT MOST 1048576: true; the input reads as it did. -/
def dblFitsUptoRow : OpenClaim := { program := "ytnopacpjimllhaa", sum := "4c413187547ef8ca437a3062cf9f3f64c3230ab965865f7b5c30f2444893a098", func := "tenterhook/tenterhooklaw02.DblFits", spec := "dblFits", inPlace := ["math/bits.Add64"], apart := false, narrowed := true }
def DblFitsUptoSaid : Prop := dblFitsUptoRow.holds Try.pinned (OpenSpec.upto dblFitsSpec)

/-- 'tenterhooklaw02.DblBack', WHERE WHAT IT READS IS OF BULK AT MOST 1048576: true; the input reads as it did. -/
def dblBackUptoRow : OpenClaim := { program := "ytnopacpjimllhaa", sum := "4c413187547ef8ca437a3062cf9f3f64c3230ab965865f7b5c30f2444893a098", func := "tenterhook/tenterhooklaw02.DblBack", spec := "dblBack", inPlace := ["math/bits.Add64"], apart := false, narrowed := true }
def DblBackUptoSaid : Prop := dblBackUptoRow.holds Try.pinned (OpenSpec.upto dblBackSpec)

/-- 'tenterhooklaw02.DblDivides', WHERE WHAT IT READS IS OF BULK AT MOST 1048576: true; the input reads as it did. -/
def dblDividesUptoRow : OpenClaim := { program := "ytnopacpjimllhaa", sum := "4c413187547ef8ca437a3062cf9f3f64c3230ab965865f7b5c30f2444893a098", func := "tenterhook/tenterhooklaw02.DblDivides", spec := "dblDivides", inPlace := ["math/bits.Add64"], apart := false, narrowed := true }
def DblDividesUptoSaid : Prop := dblDividesUptoRow.holds Try.pinned (OpenSpec.upto dblDividesSpec)

/-- 'tenterhooklaw02.DblScales', WHERE WHAT IT READS IS OF BULK AT MOST 1048576: true; the input reads as it did. -/
def dblScalesUptoRow : OpenClaim := { program := "ytnopacpjimllhaa", sum := "4c413187547ef8ca437a3062cf9f3f64c3230ab965865f7b5c30f2444893a098", func := "tenterhook/tenterhooklaw02.DblScales", spec := "dblScales", inPlace := ["math/bits.Add64"], apart := false, narrowed := true }
def DblScalesUptoSaid : Prop := dblScalesUptoRow.holds Try.pinned (OpenSpec.upto dblScalesSpec)

end Rows
end Go.Proofs.Ytnopacpjimllhaa
