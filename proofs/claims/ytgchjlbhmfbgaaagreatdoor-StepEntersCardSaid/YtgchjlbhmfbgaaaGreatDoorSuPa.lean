/- Plain facts about tasks and states: what may be, what is the same, what is thrown. -/
import Derived.Test.YtgchjlbhmfbgaaaGreatDoorSuXB
import Derived.Test.YtgchjlbhmfbgaaaGreatDoorSuQ
namespace Go.Proofs.Dbl
open Go Go.TX Go.Proofs
set_option maxRecDepth 100000
set_option maxHeartbeats 0
set_option linter.unusedVariables false
set_option linter.unusedSimpArgs false
def PlaceP (th at_:Int):Prop:=0≤th∧th≤1000000∧0≤at_∧at_≤4095
instance (th at_:Int):Decidable (PlaceP th at_):=by unfold PlaceP;infer_instance
def AddrV (th at_:Int):Int:=if PlaceP th at_ then th*4096+at_ else -1
theorem Addr_eq (th at_:Int):dict_Addr th at_=some (AddrV th at_):=by
 unfold dict_Addr dict_Addr_t dict_within dict_within_t AddrV
 by_cases h1:0≤th
 ·rw[ct (by omega)]
  by_cases h2:th≤1000000
  ·rw[decide_eq_true h2]
   by_cases h3:0≤at_
   ·rw[ct (by omega)]
    by_cases h4:at_≤4095
    ·rw[decide_eq_true h4,if_pos (show PlaceP th at_ from⟨h1,h2,h3,h4⟩),wi,wi,W_of (x:=th*4096) ⟨by omega,by omega⟩,W_of ⟨by omega,by omega⟩]
     rfl
    ·rw[decide_eq_false h4,if_neg (by unfold PlaceP;omega)];rfl
   ·rw[cf (by omega),if_neg (by unfold PlaceP;omega)];rfl
  ·rw[decide_eq_false h2,if_neg (by unfold PlaceP;omega)];rfl
 ·rw[cf (by omega),if_neg (by unfold PlaceP;omega)];rfl
theorem stands_eq (h n:Int):ret_stands h n=some (decide (h=0∨3≤h∧h≤n)):=by
 unfold ret_stands ret_stands_t
 by_cases h0:h=0
 ·subst h0;rfl
 ·rw[show(h==0)=false by simpa using h0]
  simp only[cond_false]
  by_cases h3:3≤h
  ·rw[ct (by omega)];simp[h0,h3]
  ·rw[cf (by omega),decide_eq_false (by omega)]
def SaneP (D R:List Int)(th at_ H:Int):Prop:=D.length≤64∧R.length≤64∧PlaceP th at_∧(H=0∨3≤H∧H≤(R.length:Int))
instance (D R:List Int)(th at_ H:Int):Decidable (SaneP D R th at_ H):=by unfold SaneP;infer_instance
theorem Sane_eq (D R:List Int)(th at_ H:Int):ret_Sane D R th at_ H=some (decide (SaneP D R th at_ H)):=by
 have key: ∀b:Bool,(b=true↔SaneP D R th at_ H)→some b=some (decide (SaneP D R th at_ H)):=fun b h=>by
  congr 1
  rw[Bool.eq_iff_iff,h]
  simp
 unfold ret_Sane ret_Sane_t
 by_cases h1:D.length≤64
 ·rw[ct (by omega)]
  by_cases h2:R.length≤64
  ·rw[ct (by omega),Addr_eq,stands_eq]
   simp only[outOf_some]
   unfold AddrV
   by_cases h3:PlaceP th at_
   ·have h3':=h3
    unfold PlaceP at h3'
    rw[if_pos h3,ct (by omega)]
    exact key _ (by unfold SaneP;simp[h1,h2,h3])
   ·rw[if_neg h3,cf (by omega)]
    exact key _ (by unfold SaneP;simp[h3])
  ·rw[cf (by omega)]
   exact key _ (by unfold SaneP;simp[h2])
 ·rw[cf (by omega)]
  exact key _ (by unfold SaneP;simp[h1])
theorem saneT {D R:List Int}{th at_ H:Int}(h:SaneP D R th at_ H):ret_sane D R th at_ H=some (D,R,th,at_,H):=by
 unfold ret_sane ret_sane_t
 rw[Sane_eq,decide_eq_true h]
 rfl
theorem saneS {D R:List Int}{th at_ H:Int}(h:SaneP D R th at_ H)(M:List Int)(o:ByteArray)(me ti:Int)(hi:List (Int×Int×Int×Int)):step_sane D R th at_ H M o me ti hi=some (D,R,th,at_,H,M,o,me,ti,hi):=by
 unfold step_sane step_sane_t
 rw[Sane_eq,decide_eq_true h]
 rfl
theorem At_eq (n:Int): ∃v,dict_At n=some v:=by
 unfold dict_At dict_At_t
 by_cases h:n<0
 ·exact⟨_,ct h⟩
 ·rw[cf h]
  by_cases h:IntKind.wrap IntKind.i64 (Int.tdiv n 4096)>1000000
  ·exact⟨_,ct h⟩
  ·exact⟨_,cf h⟩
end Go.Proofs.Dbl
