import Derived.Test.YtgchjlbhmfbgaaaGreatDoorSuXD
namespace Go.Proofs.Dbl
open Go Go.TX Go.Proofs
set_option maxRecDepth 100000
set_option linter.unusedVariables false
set_option maxHeartbeats 0
noncomputable section
def SrEE1 : Env := SrDE7.add 131 false (inl Tryz.prog SrDE7 true Tryz.f131 200) |>.add 132 false (inl Tryz.prog SrDE7 true Tryz.f132 200) |>.add 133 false (inl Tryz.prog SrDE7 true Tryz.f133 200) |>.add 134 false (inl Tryz.prog SrDE7 true Tryz.f134 200) |>.add 141 false (inl Tryz.prog SrDE7 true Tryz.f141 200) |>.add 142 false (inl Tryz.prog SrDE7 true Tryz.f142 200) |>.add 135 false (inl Tryz.prog SrDE7 true Tryz.f135 200) |>.add 137 false (inl Tryz.prog SrDE7 true Tryz.f137 200) |>.add 138 false (inl Tryz.prog SrDE7 true Tryz.f138 200) |>.add 139 false (inl Tryz.prog SrDE7 true Tryz.f139 200) |>.add 144 false (inl Tryz.prog SrDE7 true Tryz.f144 200) |>.add 145 false (inl Tryz.prog SrDE7 true Tryz.f145 200) |>.add 146 false (inl Tryz.prog SrDE7 true Tryz.f146 200) |>.add 147 false (inl Tryz.prog SrDE7 true Tryz.f147 200) |>.add 148 false (inl Tryz.prog SrDE7 true Tryz.f148 200) |>.add 149 false (inl Tryz.prog SrDE7 true Tryz.f149 200) |>.add 150 false (inl Tryz.prog SrDE7 true Tryz.f150 200) |>.add 151 false (inl Tryz.prog SrDE7 true Tryz.f151 200) |>.add 152 false (inl Tryz.prog SrDE7 true Tryz.f152 200) |>.add 153 false (inl Tryz.prog SrDE7 true Tryz.f153 200) |>.add 155 false (inl Tryz.prog SrDE7 true Tryz.f155 200) |>.add 156 false (inl Tryz.prog SrDE7 true Tryz.f156 200) |>.add 157 false (inl Tryz.prog SrDE7 true Tryz.f157 200) |>.add 158 false (inl Tryz.prog SrDE7 true Tryz.f158 200) |>.add 162 false (inl Tryz.prog SrDE7 true Tryz.f162 200) |>.add 163 false (inl Tryz.prog SrDE7 true Tryz.f163 200) |>.add 164 false (inl Tryz.prog SrDE7 true Tryz.f164 200) |>.add 165 false (inl Tryz.prog SrDE7 true Tryz.f165 200) |>.add 167 false (inl Tryz.prog SrDE7 true Tryz.f167 200) |>.add 169 false (inl Tryz.prog SrDE7 true Tryz.f169 200) |>.add 170 false (inl Tryz.prog SrDE7 true Tryz.f170 200) |>.add 173 false (inl Tryz.prog SrDE7 true Tryz.f173 200) |>.add 175 false (inl Tryz.prog SrDE7 true Tryz.f175 200) |>.add 181 false (inl Tryz.prog SrDE7 true Tryz.f181 200) |>.add 183 false (inl Tryz.prog SrDE7 true Tryz.f183 200) |>.add 185 false (inl Tryz.prog SrDE7 true Tryz.f185 200)
theorem SrEE1_ok : SrEE1.OK Tryz.prog := ((((((((((((((((((((((((((((((((((((SrDE7_ok).add_ok (inl_good SrDE7_ok mixed Tryz.func131 (body_of rfl) (by kernel_rfl) true 200)).add_ok (inl_good SrDE7_ok mixed Tryz.func132 (body_of rfl) (by kernel_rfl) true 200)).add_ok (inl_good SrDE7_ok mixed Tryz.func133 (body_of rfl) (by kernel_rfl) true 200)).add_ok (inl_good SrDE7_ok mixed Tryz.func134 (body_of rfl) (by kernel_rfl) true 200)).add_ok (inl_good SrDE7_ok mixed Tryz.func141 (body_of rfl) (by kernel_rfl) true 200)).add_ok (inl_good SrDE7_ok mixed Tryz.func142 (body_of rfl) (by kernel_rfl) true 200)).add_ok (inl_good SrDE7_ok mixed Tryz.func135 (body_of rfl) (by kernel_rfl) true 200)).add_ok (inl_good SrDE7_ok mixed Tryz.func137 (body_of rfl) (by kernel_rfl) true 200)).add_ok (inl_good SrDE7_ok mixed Tryz.func138 (body_of rfl) (by kernel_rfl) true 200)).add_ok (inl_good SrDE7_ok mixed Tryz.func139 (body_of rfl) (by kernel_rfl) true 200)).add_ok (inl_good SrDE7_ok mixed Tryz.func144 (body_of rfl) (by kernel_rfl) true 200)).add_ok (inl_good SrDE7_ok mixed Tryz.func145 (body_of rfl) (by kernel_rfl) true 200)).add_ok (inl_good SrDE7_ok mixed Tryz.func146 (body_of rfl) (by kernel_rfl) true 200)).add_ok (inl_good SrDE7_ok mixed Tryz.func147 (body_of rfl) (by kernel_rfl) true 200)).add_ok (inl_good SrDE7_ok mixed Tryz.func148 (body_of rfl) (by kernel_rfl) true 200)).add_ok (inl_good SrDE7_ok mixed Tryz.func149 (body_of rfl) (by kernel_rfl) true 200)).add_ok (inl_good SrDE7_ok mixed Tryz.func150 (body_of rfl) (by kernel_rfl) true 200)).add_ok (inl_good SrDE7_ok mixed Tryz.func151 (body_of rfl) (by kernel_rfl) true 200)).add_ok (inl_good SrDE7_ok mixed Tryz.func152 (body_of rfl) (by kernel_rfl) true 200)).add_ok (inl_good SrDE7_ok mixed Tryz.func153 (body_of rfl) (by kernel_rfl) true 200)).add_ok (inl_good SrDE7_ok mixed Tryz.func155 (body_of rfl) (by kernel_rfl) true 200)).add_ok (inl_good SrDE7_ok mixed Tryz.func156 (body_of rfl) (by kernel_rfl) true 200)).add_ok (inl_good SrDE7_ok mixed Tryz.func157 (body_of rfl) (by kernel_rfl) true 200)).add_ok (inl_good SrDE7_ok mixed Tryz.func158 (body_of rfl) (by kernel_rfl) true 200)).add_ok (inl_good SrDE7_ok mixed Tryz.func162 (body_of rfl) (by kernel_rfl) true 200)).add_ok (inl_good SrDE7_ok mixed Tryz.func163 (body_of rfl) (by kernel_rfl) true 200)).add_ok (inl_good SrDE7_ok mixed Tryz.func164 (body_of rfl) (by kernel_rfl) true 200)).add_ok (inl_good SrDE7_ok mixed Tryz.func165 (body_of rfl) (by kernel_rfl) true 200)).add_ok (inl_good SrDE7_ok mixed Tryz.func167 (body_of rfl) (by kernel_rfl) true 200)).add_ok (inl_good SrDE7_ok mixed Tryz.func169 (body_of rfl) (by kernel_rfl) true 200)).add_ok (inl_good SrDE7_ok mixed Tryz.func170 (body_of rfl) (by kernel_rfl) true 200)).add_ok (inl_good SrDE7_ok mixed Tryz.func173 (body_of rfl) (by kernel_rfl) true 200)).add_ok (inl_good SrDE7_ok mixed Tryz.func175 (body_of rfl) (by kernel_rfl) true 200)).add_ok (inl_good SrDE7_ok mixed Tryz.func181 (body_of rfl) (by kernel_rfl) true 200)).add_ok (inl_good SrDE7_ok mixed Tryz.func183 (body_of rfl) (by kernel_rfl) true 200)).add_ok (inl_good SrDE7_ok mixed Tryz.func185 (body_of rfl) (by kernel_rfl) true 200)
def SrEE2 : Env := SrEE1.add 264 false (inl Tryz.prog SrEE1 true Tryz.f264 200) |>.add 267 false (inl Tryz.prog SrEE1 true Tryz.f267 200) |>.add 268 false (inl Tryz.prog SrEE1 true Tryz.f268 200) |>.add 270 false (inl Tryz.prog SrEE1 true Tryz.f270 200)
theorem SrEE2_ok : SrEE2.OK Tryz.prog := ((((SrEE1_ok).add_ok (inl_good SrEE1_ok mixed Tryz.func264 (body_of rfl) (by kernel_rfl) true 200)).add_ok (inl_good SrEE1_ok mixed Tryz.func267 (body_of rfl) (by kernel_rfl) true 200)).add_ok (inl_good SrEE1_ok mixed Tryz.func268 (body_of rfl) (by kernel_rfl) true 200)).add_ok (inl_good SrEE1_ok mixed Tryz.func270 (body_of rfl) (by kernel_rfl) true 200)
def SrEE3 : Env := SrEE2.add 260 false (inl Tryz.prog SrEE2 true Tryz.f260 200) |>.add 261 false (inl Tryz.prog SrEE2 true Tryz.f261 200)
theorem SrEE3_ok : SrEE3.OK Tryz.prog := ((SrEE2_ok).add_ok (inl_good SrEE2_ok mixed Tryz.func260 (body_of rfl) (by kernel_rfl) true 200)).add_ok (inl_good SrEE2_ok mixed Tryz.func261 (body_of rfl) (by kernel_rfl) true 200)
def SrEE4 : Env := SrEE3.add 143 false (inl Tryz.prog SrEE3 true Tryz.f143 200) |>.add 136 false (inl Tryz.prog SrEE3 true Tryz.f136 200) |>.add 140 false (inl Tryz.prog SrEE3 true Tryz.f140 200) |>.add 172 false (inl Tryz.prog SrEE3 true Tryz.f172 200)
theorem SrEE4_ok : SrEE4.OK Tryz.prog := ((((SrEE3_ok).add_ok (inl_good SrEE3_ok mixed Tryz.func143 (body_of rfl) (by kernel_rfl) true 200)).add_ok (inl_good SrEE3_ok mixed Tryz.func136 (body_of rfl) (by kernel_rfl) true 200)).add_ok (inl_good SrEE3_ok mixed Tryz.func140 (body_of rfl) (by kernel_rfl) true 200)).add_ok (inl_good SrEE3_ok mixed Tryz.func172 (body_of rfl) (by kernel_rfl) true 200)
def SrEE5 : Env := SrEE4.add 161 false (inl Tryz.prog SrEE4 true Tryz.f161 200) |>.add 177 false (inl Tryz.prog SrEE4 true Tryz.f177 200)
theorem SrEE5_ok : SrEE5.OK Tryz.prog := ((SrEE4_ok).add_ok (inl_good SrEE4_ok mixed Tryz.func161 (body_of rfl) (by kernel_rfl) true 200)).add_ok (inl_good SrEE4_ok mixed Tryz.func177 (body_of rfl) (by kernel_rfl) true 200)
def SrEE6 : Env := SrEE5.add 68 false (inl Tryz.prog SrEE5 true Tryz.f68 200) |>.add 69 false (inl Tryz.prog SrEE5 true Tryz.f69 200) |>.add 70 false (inl Tryz.prog SrEE5 true Tryz.f70 200) |>.add 71 false (inl Tryz.prog SrEE5 true Tryz.f71 200)
theorem SrEE6_ok : SrEE6.OK Tryz.prog := ((((SrEE5_ok).add_ok (inl_good SrEE5_ok mixed Tryz.func68 (body_of rfl) (by kernel_rfl) true 200)).add_ok (inl_good SrEE5_ok mixed Tryz.func69 (body_of rfl) (by kernel_rfl) true 200)).add_ok (inl_good SrEE5_ok mixed Tryz.func70 (body_of rfl) (by kernel_rfl) true 200)).add_ok (inl_good SrEE5_ok mixed Tryz.func71 (body_of rfl) (by kernel_rfl) true 200)
def SrEE7 : Env := SrEE6.add 48 false (inl Tryz.prog SrEE6 true Tryz.f48 200) |>.add 49 false (inl Tryz.prog SrEE6 true Tryz.f49 200)
theorem SrEE7_ok : SrEE7.OK Tryz.prog := ((SrEE6_ok).add_ok (inl_good SrEE6_ok mixed Tryz.func48 (body_of rfl) (by kernel_rfl) true 200)).add_ok (inl_good SrEE6_ok mixed Tryz.func49 (body_of rfl) (by kernel_rfl) true 200)
end
end Go.Proofs.Dbl

namespace Go.Proofs.Dbl
open Go Go.TX Go.Proofs
set_option maxRecDepth 100000
set_option linter.unusedVariables false
set_option maxHeartbeats 0
noncomputable section
abbrev Do_18_R : Type := ((List Int) × Int)
def Do_18_t {γ : Type} (a1 : (List Int)) (k : Do_18_R → Option γ) : Option γ := cond (decide ((↑(List.length a1) : Int) < (1 : Int))) (k (a1, (-4 : Int))) (cond (decide ((↑(List.length a1) : Int) > (64 : Int))) (k (a1, (-3 : Int))) (outOf (stk_Permute a1 (1 : Int) (List.take (2 : Nat) (List.drop (0 : Nat) [(0 : Int), (0 : Int)])) (64 : Int)) fun x1 => cond (x1.2 != (0 : Int)) (k (a1, x1.2)) (k (x1.1, (0 : Int)))))
def Do_18 (a1 : (List Int)) : Option Do_18_R := Do_18_t a1 some
abbrev Do_19_R : Type := ((List Int) × Int)
def Do_19_t {γ : Type} (a1 : (List Int)) (k : Do_19_R → Option γ) : Option γ := cond (decide ((↑(List.length a1) : Int) < (1 : Int))) (k (a1, (-4 : Int))) (cond (decide ((↑(List.length a1) : Int) > (64 : Int))) (k (a1, (-3 : Int))) (outOf (stk_Permute a1 (1 : Int) (List.take (0 : Nat) (List.drop (0 : Nat) [])) (64 : Int)) fun x1 => cond (x1.2 != (0 : Int)) (k (a1, x1.2)) (k (x1.1, (0 : Int)))))
def Do_19 (a1 : (List Int)) : Option Do_19_R := Do_19_t a1 some
abbrev Do_20_R : Type := ((List Int) × Int)
def Do_20_t {γ : Type} (a1 : (List Int)) (k : Do_20_R → Option γ) : Option γ := cond (decide ((↑(List.length a1) : Int) < (2 : Int))) (k (a1, (-4 : Int))) (cond (decide ((↑(List.length a1) : Int) > (64 : Int))) (k (a1, (-3 : Int))) (outOf (stk_Permute a1 (2 : Int) (List.take (2 : Nat) (List.drop (0 : Nat) [(1 : Int), (0 : Int)])) (64 : Int)) fun x1 => cond (x1.2 != (0 : Int)) (k (a1, x1.2)) (k (x1.1, (0 : Int)))))
def Do_20 (a1 : (List Int)) : Option Do_20_R := Do_20_t a1 some
abbrev Do_21_R : Type := ((List Int) × Int)
def Do_21_t {γ : Type} (a1 : (List Int)) (k : Do_21_R → Option γ) : Option γ := cond (decide ((↑(List.length a1) : Int) < (2 : Int))) (k (a1, (-4 : Int))) (cond (decide ((↑(List.length a1) : Int) > (64 : Int))) (k (a1, (-3 : Int))) (outOf (stk_Permute a1 (2 : Int) (List.take (3 : Nat) (List.drop (0 : Nat) [(0 : Int), (1 : Int), (0 : Int)])) (64 : Int)) fun x1 => cond (x1.2 != (0 : Int)) (k (a1, x1.2)) (k (x1.1, (0 : Int)))))
def Do_21 (a1 : (List Int)) : Option Do_21_R := Do_21_t a1 some
abbrev Do_22_R : Type := ((List Int) × Int)
def Do_22_t {γ : Type} (a1 : (List Int)) (k : Do_22_R → Option γ) : Option γ := cond (decide ((↑(List.length a1) : Int) < (3 : Int))) (k (a1, (-4 : Int))) (cond (decide ((↑(List.length a1) : Int) > (64 : Int))) (k (a1, (-3 : Int))) (outOf (stk_Permute a1 (3 : Int) (List.take (3 : Nat) (List.drop (0 : Nat) [(1 : Int), (2 : Int), (0 : Int)])) (64 : Int)) fun x1 => cond (x1.2 != (0 : Int)) (k (a1, x1.2)) (k (x1.1, (0 : Int)))))
def Do_22 (a1 : (List Int)) : Option Do_22_R := Do_22_t a1 some
abbrev Do_23_R : Type := ((List Int) × Int)
def Do_23_t {γ : Type} (a1 : (List Int)) (k : Do_23_R → Option γ) : Option γ := cond (decide ((↑(List.length a1) : Int) < (2 : Int))) (k (a1, (-4 : Int))) (cond (decide ((↑(List.length a1) : Int) > (64 : Int))) (k (a1, (-3 : Int))) (outOf (stk_Permute a1 (2 : Int) (List.take (1 : Nat) (List.drop (0 : Nat) [(1 : Int)])) (64 : Int)) fun x1 => cond (x1.2 != (0 : Int)) (k (a1, x1.2)) (k (x1.1, (0 : Int)))))
def Do_23 (a1 : (List Int)) : Option Do_23_R := Do_23_t a1 some
abbrev Do_24_R : Type := ((List Int) × Int)
def Do_24_t {γ : Type} (a1 : (List Int)) (k : Do_24_R → Option γ) : Option γ := cond (decide ((↑(List.length a1) : Int) < (2 : Int))) (k (a1, (-4 : Int))) (cond (decide ((↑(List.length a1) : Int) > (64 : Int))) (k (a1, (-3 : Int))) (outOf (stk_Permute a1 (2 : Int) (List.take (3 : Nat) (List.drop (0 : Nat) [(1 : Int), (0 : Int), (1 : Int)])) (64 : Int)) fun x1 => cond (x1.2 != (0 : Int)) (k (a1, x1.2)) (k (x1.1, (0 : Int)))))
def Do_24 (a1 : (List Int)) : Option Do_24_R := Do_24_t a1 some
abbrev Do_25_R : Type := ((List Int) × Int)
def Do_25_t {γ : Type} (a1 : (List Int)) (k : Do_25_R → Option γ) : Option γ := cond (decide ((↑(List.length a1) : Int) < (2 : Int))) (k (a1, (-4 : Int))) (cond (decide ((↑(List.length a1) : Int) > (64 : Int))) (k (a1, (-3 : Int))) (outOf (stk_Permute a1 (2 : Int) (List.take (4 : Nat) (List.drop (0 : Nat) [(0 : Int), (1 : Int), (0 : Int), (1 : Int)])) (64 : Int)) fun x1 => cond (x1.2 != (0 : Int)) (k (a1, x1.2)) (k (x1.1, (0 : Int)))))
def Do_25 (a1 : (List Int)) : Option Do_25_R := Do_25_t a1 some
abbrev Do_26_R : Type := ((List Int) × Int)
def Do_26_t {γ : Type} (a1 : (List Int)) (k : Do_26_R → Option γ) : Option γ := cond (decide ((↑(List.length a1) : Int) < (2 : Int))) (k (a1, (-4 : Int))) (cond (decide ((↑(List.length a1) : Int) > (64 : Int))) (k (a1, (-3 : Int))) (outOf (stk_Permute a1 (2 : Int) (List.take (0 : Nat) (List.drop (0 : Nat) [])) (64 : Int)) fun x1 => cond (x1.2 != (0 : Int)) (k (a1, x1.2)) (k (x1.1, (0 : Int)))))
def Do_26 (a1 : (List Int)) : Option Do_26_R := Do_26_t a1 some
abbrev Do_27_R : Type := ((List Int) × Int)
def Do_27_t {γ : Type} (a1 : (List Int)) (k : Do_27_R → Option γ) : Option γ := cond (decide ((↑(List.length a1) : Int) < (4 : Int))) (k (a1, (-4 : Int))) (cond (decide ((↑(List.length a1) : Int) > (64 : Int))) (k (a1, (-3 : Int))) (outOf (stk_Permute a1 (4 : Int) (List.take (4 : Nat) (List.drop (0 : Nat) [(2 : Int), (3 : Int), (0 : Int), (1 : Int)])) (64 : Int)) fun x1 => cond (x1.2 != (0 : Int)) (k (a1, x1.2)) (k (x1.1, (0 : Int)))))
def Do_27 (a1 : (List Int)) : Option Do_27_R := Do_27_t a1 some
abbrev Do_28_R : Type := ((List Int) × Int)
def Do_28_t {γ : Type} (a1 : (List Int)) (k : Do_28_R → Option γ) : Option γ := cond (decide ((↑(List.length a1) : Int) < (4 : Int))) (k (a1, (-4 : Int))) (cond (decide ((↑(List.length a1) : Int) > (64 : Int))) (k (a1, (-3 : Int))) (outOf (stk_Permute a1 (4 : Int) (List.take (6 : Nat) (List.drop (0 : Nat) [(0 : Int), (1 : Int), (2 : Int), (3 : Int), (0 : Int), (1 : Int)])) (64 : Int)) fun x1 => cond (x1.2 != (0 : Int)) (k (a1, x1.2)) (k (x1.1, (0 : Int)))))
def Do_28 (a1 : (List Int)) : Option Do_28_R := Do_28_t a1 some
abbrev Do_29_R : Type := ((List Int) × Int)
def Do_29_t {γ : Type} (a1 : (List Int)) (k : Do_29_R → Option γ) : Option γ := cond (decide ((↑(List.length a1) : Int) < (1 : Int))) (k (a1, (-4 : Int))) (cond (decide ((↑(List.length a1) : Int) > (64 : Int))) (k (a1, (-3 : Int))) (outOf (stk_Pick a1 (0 : Int)) fun x1 => cond (x1.1 == (0 : Int)) (k (a1, (0 : Int))) (outOf (stk_Push a1 (64 : Int) [x1.1]) fun x2 => cond (x2.2 != (0 : Int)) (k (a1, x2.2)) (k (x2.1, (0 : Int))))))
def Do_29 (a1 : (List Int)) : Option Do_29_R := Do_29_t a1 some
abbrev Do_30_R : Type := ((List Int) × Int)
def Do_30_t {γ : Type} (a1 : (List Int)) (k : Do_30_R → Option γ) : Option γ := cond (decide ((↑(List.length a1) : Int) < (1 : Int))) (k (a1, (-4 : Int))) (cond (decide ((↑(List.length a1) : Int) > (64 : Int))) (k (a1, (-3 : Int))) (outOf (stk_Pop a1 (1 : Int)) fun x1 => cond (decide ((0 : Int) ≤ (0 : Int) ∧ (0 : Int) < (↑(List.length x1.2.1) : Int))) (outOf (stk_Pick x1.1 (List.getD x1.2.1 (0 : Nat) (0 : Int))) fun x2 => cond (x2.2 != (0 : Int)) (cond (x2.2 != (0 : Int)) (k (a1, x2.2)) (k (a1, (0 : Int)))) (outOf (stk_Push x1.1 (64 : Int) [x2.1]) fun x3 => cond (x3.2 != (0 : Int)) (k (a1, x3.2)) (k (x3.1, (0 : Int))))) (none)))
def Do_30 (a1 : (List Int)) : Option Do_30_R := Do_30_t a1 some
abbrev Do_31_R : Type := ((List Int) × Int)
def Do_31_t {γ : Type} (a1 : (List Int)) (k : Do_31_R → Option γ) : Option γ := cond (decide ((↑(List.length a1) : Int) < (1 : Int))) (k (a1, (-4 : Int))) (cond (decide ((↑(List.length a1) : Int) > (64 : Int))) (k (a1, (-3 : Int))) (outOf (stk_Pop a1 (1 : Int)) fun x1 => cond (decide ((0 : Int) ≤ (0 : Int) ∧ (0 : Int) < (↑(List.length x1.2.1) : Int))) (outOf (stk_Roll x1.1 (List.getD x1.2.1 (0 : Nat) (0 : Int))) fun x2 => cond (x2.2 != (0 : Int)) (k (a1, x2.2)) (k (x2.1, (0 : Int)))) (none)))
def Do_31 (a1 : (List Int)) : Option Do_31_R := Do_31_t a1 some
abbrev Do_32_R : Type := ((List Int) × Int)
def Do_32_t {γ : Type} (a1 : (List Int)) (k : Do_32_R → Option γ) : Option γ := cond (decide ((↑(List.length a1) : Int) < (0 : Int))) (k (a1, (-4 : Int))) (cond (decide ((↑(List.length a1) : Int) > (64 : Int))) (k (a1, (-3 : Int))) (outOf (stk_Push a1 (64 : Int) [(↑(List.length a1) : Int)]) fun x1 => cond (x1.2 != (0 : Int)) (k (a1, x1.2)) (k (x1.1, (0 : Int)))))
def Do_32 (a1 : (List Int)) : Option Do_32_R := Do_32_t a1 some
abbrev Do_33_R : Type := ((List Int) × Int)
def Do_33_t {γ : Type} (a1 : (List Int)) (k : Do_33_R → Option γ) : Option γ := cond (decide ((↑(List.length a1) : Int) < (2 : Int))) (k (a1, (-4 : Int))) (cond (decide ((↑(List.length a1) : Int) > (64 : Int))) (k (a1, (-3 : Int))) (outOf (stk_Pop a1 (2 : Int)) fun x1 => cond (decide ((0 : Int) ≤ (0 : Int) ∧ (0 : Int) < (↑(List.length x1.2.1) : Int))) (cond (decide ((0 : Int) ≤ (1 : Int) ∧ (1 : Int) < (↑(List.length x1.2.1) : Int))) (outOf (stk_Push x1.1 (64 : Int) [IntKind.wrap .i64 (List.getD x1.2.1 (0 : Nat) (0 : Int) + List.getD x1.2.1 (1 : Nat) (0 : Int))]) fun x2 => cond (x2.2 != (0 : Int)) (cond (x2.2 != (0 : Int)) (k (a1, x2.2)) (k (a1, (0 : Int)))) (k (x2.1, (0 : Int)))) (none)) (none)))
def Do_33 (a1 : (List Int)) : Option Do_33_R := Do_33_t a1 some
abbrev Do_34_R : Type := ((List Int) × Int)
def Do_34_t {γ : Type} (a1 : (List Int)) (k : Do_34_R → Option γ) : Option γ := cond (decide ((↑(List.length a1) : Int) < (2 : Int))) (k (a1, (-4 : Int))) (cond (decide ((↑(List.length a1) : Int) > (64 : Int))) (k (a1, (-3 : Int))) (outOf (stk_Pop a1 (2 : Int)) fun x1 => cond (decide ((0 : Int) ≤ (0 : Int) ∧ (0 : Int) < (↑(List.length x1.2.1) : Int))) (cond (decide ((0 : Int) ≤ (1 : Int) ∧ (1 : Int) < (↑(List.length x1.2.1) : Int))) (outOf (stk_Push x1.1 (64 : Int) [IntKind.wrap .i64 (List.getD x1.2.1 (0 : Nat) (0 : Int) - List.getD x1.2.1 (1 : Nat) (0 : Int))]) fun x2 => cond (x2.2 != (0 : Int)) (cond (x2.2 != (0 : Int)) (k (a1, x2.2)) (k (a1, (0 : Int)))) (k (x2.1, (0 : Int)))) (none)) (none)))
def Do_34 (a1 : (List Int)) : Option Do_34_R := Do_34_t a1 some
abbrev Do_35_R : Type := ((List Int) × Int)
def Do_35_t {γ : Type} (a1 : (List Int)) (k : Do_35_R → Option γ) : Option γ := cond (decide ((↑(List.length a1) : Int) < (2 : Int))) (k (a1, (-4 : Int))) (cond (decide ((↑(List.length a1) : Int) > (64 : Int))) (k (a1, (-3 : Int))) (outOf (stk_Pop a1 (2 : Int)) fun x1 => cond (decide ((0 : Int) ≤ (0 : Int) ∧ (0 : Int) < (↑(List.length x1.2.1) : Int))) (cond (decide ((0 : Int) ≤ (1 : Int) ∧ (1 : Int) < (↑(List.length x1.2.1) : Int))) (outOf (stk_Push x1.1 (64 : Int) [IntKind.wrap .i64 (List.getD x1.2.1 (0 : Nat) (0 : Int) * List.getD x1.2.1 (1 : Nat) (0 : Int))]) fun x2 => cond (x2.2 != (0 : Int)) (cond (x2.2 != (0 : Int)) (k (a1, x2.2)) (k (a1, (0 : Int)))) (k (x2.1, (0 : Int)))) (none)) (none)))
def Do_35 (a1 : (List Int)) : Option Do_35_R := Do_35_t a1 some
abbrev Do_36_R : Type := ((List Int) × Int)
def Do_36_t {γ : Type} (a1 : (List Int)) (k : Do_36_R → Option γ) : Option γ := cond (decide ((↑(List.length a1) : Int) < (2 : Int))) (k (a1, (-4 : Int))) (cond (decide ((↑(List.length a1) : Int) > (64 : Int))) (k (a1, (-3 : Int))) (outOf (stk_Pop a1 (2 : Int)) fun x1 => cond (decide ((0 : Int) ≤ (0 : Int) ∧ (0 : Int) < (↑(List.length x1.2.1) : Int))) (cond (decide ((0 : Int) ≤ (1 : Int) ∧ (1 : Int) < (↑(List.length x1.2.1) : Int))) (outOf (cell_Floor (List.getD x1.2.1 (0 : Nat) (0 : Int)) (List.getD x1.2.1 (1 : Nat) (0 : Int))) fun x2 => outOf (stk_Push x1.1 (64 : Int) (List.take (1 : Nat) (List.drop (0 : Nat) [List.getD [x2.2.1, x2.1] (1 : Nat) (0 : Int)]))) fun x3 => cond (x3.2 != (0 : Int)) (cond (x3.2 != (0 : Int)) (k (a1, x3.2)) (k (a1, (0 : Int)))) (cond (x2.2.2 != (0 : Int)) (k (a1, x2.2.2)) (k (x3.1, (0 : Int))))) (none)) (none)))
def Do_36 (a1 : (List Int)) : Option Do_36_R := Do_36_t a1 some
abbrev Do_37_R : Type := ((List Int) × Int)
def Do_37_t {γ : Type} (a1 : (List Int)) (k : Do_37_R → Option γ) : Option γ := cond (decide ((↑(List.length a1) : Int) < (2 : Int))) (k (a1, (-4 : Int))) (cond (decide ((↑(List.length a1) : Int) > (64 : Int))) (k (a1, (-3 : Int))) (outOf (stk_Pop a1 (2 : Int)) fun x1 => cond (decide ((0 : Int) ≤ (0 : Int) ∧ (0 : Int) < (↑(List.length x1.2.1) : Int))) (cond (decide ((0 : Int) ≤ (1 : Int) ∧ (1 : Int) < (↑(List.length x1.2.1) : Int))) (outOf (cell_Floor (List.getD x1.2.1 (0 : Nat) (0 : Int)) (List.getD x1.2.1 (1 : Nat) (0 : Int))) fun x2 => outOf (stk_Push x1.1 (64 : Int) (List.take (1 : Nat) (List.drop (0 : Nat) [List.getD [x2.2.1, x2.1] (0 : Nat) (0 : Int)]))) fun x3 => cond (x3.2 != (0 : Int)) (cond (x3.2 != (0 : Int)) (k (a1, x3.2)) (k (a1, (0 : Int)))) (cond (x2.2.2 != (0 : Int)) (k (a1, x2.2.2)) (k (x3.1, (0 : Int))))) (none)) (none)))
def Do_37 (a1 : (List Int)) : Option Do_37_R := Do_37_t a1 some
abbrev Do_38_R : Type := ((List Int) × Int)
def Do_38_t {γ : Type} (a1 : (List Int)) (k : Do_38_R → Option γ) : Option γ := cond (decide ((↑(List.length a1) : Int) < (2 : Int))) (k (a1, (-4 : Int))) (cond (decide ((↑(List.length a1) : Int) > (64 : Int))) (k (a1, (-3 : Int))) (outOf (stk_Pop a1 (2 : Int)) fun x1 => cond (decide ((0 : Int) ≤ (0 : Int) ∧ (0 : Int) < (↑(List.length x1.2.1) : Int))) (cond (decide ((0 : Int) ≤ (1 : Int) ∧ (1 : Int) < (↑(List.length x1.2.1) : Int))) (outOf (cell_Floor (List.getD x1.2.1 (0 : Nat) (0 : Int)) (List.getD x1.2.1 (1 : Nat) (0 : Int))) fun x2 => outOf (stk_Push x1.1 (64 : Int) (List.take (2 : Nat) (List.drop (0 : Nat) (List.take (1 : Nat) (List.drop (0 : Nat) [List.getD [x2.2.1, x2.1] (0 : Nat) (0 : Int)]) ++ [List.getD [x2.2.1, x2.1] (1 : Nat) (0 : Int)])))) fun x3 => cond (x3.2 != (0 : Int)) (cond (x3.2 != (0 : Int)) (k (a1, x3.2)) (k (a1, (0 : Int)))) (cond (x2.2.2 != (0 : Int)) (k (a1, x2.2.2)) (k (x3.1, (0 : Int))))) (none)) (none)))
def Do_38 (a1 : (List Int)) : Option Do_38_R := Do_38_t a1 some
abbrev Do_39_R : Type := ((List Int) × Int)
def Do_39_t {γ : Type} (a1 : (List Int)) (k : Do_39_R → Option γ) : Option γ := cond (decide ((↑(List.length a1) : Int) < (3 : Int))) (k (a1, (-4 : Int))) (cond (decide ((↑(List.length a1) : Int) > (64 : Int))) (k (a1, (-3 : Int))) (outOf (stk_Pop a1 (3 : Int)) fun x1 => cond (decide ((0 : Int) ≤ (0 : Int) ∧ (0 : Int) < (↑(List.length x1.2.1) : Int))) (cond (decide ((0 : Int) ≤ (1 : Int) ∧ (1 : Int) < (↑(List.length x1.2.1) : Int))) (cond (decide ((0 : Int) ≤ (2 : Int) ∧ (2 : Int) < (↑(List.length x1.2.1) : Int))) (outOf (dbl_Scale (List.getD x1.2.1 (0 : Nat) (0 : Int)) (List.getD x1.2.1 (1 : Nat) (0 : Int)) (List.getD x1.2.1 (2 : Nat) (0 : Int))) fun x2 => outOf (stk_Push x1.1 (64 : Int) (List.take (1 : Nat) (List.drop (0 : Nat) [List.getD [x2.1, x2.2.1] (1 : Nat) (0 : Int)]))) fun x3 => cond (x3.2 != (0 : Int)) (cond (x3.2 != (0 : Int)) (k (a1, x3.2)) (k (a1, (0 : Int)))) (cond (x2.2.2 != (0 : Int)) (k (a1, x2.2.2)) (k (x3.1, (0 : Int))))) (none)) (none)) (none)))
def Do_39 (a1 : (List Int)) : Option Do_39_R := Do_39_t a1 some
abbrev Do_40_R : Type := ((List Int) × Int)
def Do_40_t {γ : Type} (a1 : (List Int)) (k : Do_40_R → Option γ) : Option γ := cond (decide ((↑(List.length a1) : Int) < (3 : Int))) (k (a1, (-4 : Int))) (cond (decide ((↑(List.length a1) : Int) > (64 : Int))) (k (a1, (-3 : Int))) (outOf (stk_Pop a1 (3 : Int)) fun x1 => cond (decide ((0 : Int) ≤ (0 : Int) ∧ (0 : Int) < (↑(List.length x1.2.1) : Int))) (cond (decide ((0 : Int) ≤ (1 : Int) ∧ (1 : Int) < (↑(List.length x1.2.1) : Int))) (cond (decide ((0 : Int) ≤ (2 : Int) ∧ (2 : Int) < (↑(List.length x1.2.1) : Int))) (outOf (dbl_Scale (List.getD x1.2.1 (0 : Nat) (0 : Int)) (List.getD x1.2.1 (1 : Nat) (0 : Int)) (List.getD x1.2.1 (2 : Nat) (0 : Int))) fun x2 => outOf (stk_Push x1.1 (64 : Int) (List.take (2 : Nat) (List.drop (0 : Nat) (List.take (1 : Nat) (List.drop (0 : Nat) [List.getD [x2.1, x2.2.1] (0 : Nat) (0 : Int)]) ++ [List.getD [x2.1, x2.2.1] (1 : Nat) (0 : Int)])))) fun x3 => cond (x3.2 != (0 : Int)) (cond (x3.2 != (0 : Int)) (k (a1, x3.2)) (k (a1, (0 : Int)))) (cond (x2.2.2 != (0 : Int)) (k (a1, x2.2.2)) (k (x3.1, (0 : Int))))) (none)) (none)) (none)))
def Do_40 (a1 : (List Int)) : Option Do_40_R := Do_40_t a1 some
abbrev Do_41_R : Type := ((List Int) × Int)
def Do_41_t {γ : Type} (a1 : (List Int)) (k : Do_41_R → Option γ) : Option γ := cond (decide ((↑(List.length a1) : Int) < (1 : Int))) (k (a1, (-4 : Int))) (cond (decide ((↑(List.length a1) : Int) > (64 : Int))) (k (a1, (-3 : Int))) (outOf (stk_Pop a1 (1 : Int)) fun x1 => cond (decide ((0 : Int) ≤ (0 : Int) ∧ (0 : Int) < (↑(List.length x1.2.1) : Int))) (outOf (stk_Push x1.1 (64 : Int) [IntKind.wrap .i64 (List.getD x1.2.1 (0 : Nat) (0 : Int) + (1 : Int))]) fun x2 => cond (x2.2 != (0 : Int)) (cond (x2.2 != (0 : Int)) (k (a1, x2.2)) (k (a1, (0 : Int)))) (k (x2.1, (0 : Int)))) (none)))
def Do_41 (a1 : (List Int)) : Option Do_41_R := Do_41_t a1 some
end
end Go.Proofs.Dbl

namespace Go.Proofs.Dbl
open Go Go.TX Go.Proofs
set_option maxRecDepth 100000
set_option linter.unusedVariables false
set_option maxHeartbeats 0
noncomputable section
abbrev Do_42_R : Type := ((List Int) × Int)
def Do_42_t {γ : Type} (a1 : (List Int)) (k : Do_42_R → Option γ) : Option γ := cond (decide ((↑(List.length a1) : Int) < (1 : Int))) (k (a1, (-4 : Int))) (cond (decide ((↑(List.length a1) : Int) > (64 : Int))) (k (a1, (-3 : Int))) (outOf (stk_Pop a1 (1 : Int)) fun x1 => cond (decide ((0 : Int) ≤ (0 : Int) ∧ (0 : Int) < (↑(List.length x1.2.1) : Int))) (outOf (stk_Push x1.1 (64 : Int) [IntKind.wrap .i64 (List.getD x1.2.1 (0 : Nat) (0 : Int) - (1 : Int))]) fun x2 => cond (x2.2 != (0 : Int)) (cond (x2.2 != (0 : Int)) (k (a1, x2.2)) (k (a1, (0 : Int)))) (k (x2.1, (0 : Int)))) (none)))
def Do_42 (a1 : (List Int)) : Option Do_42_R := Do_42_t a1 some
abbrev Do_43_R : Type := ((List Int) × Int)
def Do_43_t {γ : Type} (a1 : (List Int)) (k : Do_43_R → Option γ) : Option γ := cond (decide ((↑(List.length a1) : Int) < (1 : Int))) (k (a1, (-4 : Int))) (cond (decide ((↑(List.length a1) : Int) > (64 : Int))) (k (a1, (-3 : Int))) (outOf (stk_Pop a1 (1 : Int)) fun x1 => cond (decide ((0 : Int) ≤ (0 : Int) ∧ (0 : Int) < (↑(List.length x1.2.1) : Int))) (outOf (stk_Push x1.1 (64 : Int) [IntKind.wrap .i64 (List.getD x1.2.1 (0 : Nat) (0 : Int) * (2 : Int))]) fun x2 => cond (x2.2 != (0 : Int)) (cond (x2.2 != (0 : Int)) (k (a1, x2.2)) (k (a1, (0 : Int)))) (k (x2.1, (0 : Int)))) (none)))
def Do_43 (a1 : (List Int)) : Option Do_43_R := Do_43_t a1 some
abbrev Do_44_R : Type := ((List Int) × Int)
def Do_44_t {γ : Type} (a1 : (List Int)) (k : Do_44_R → Option γ) : Option γ := cond (decide ((↑(List.length a1) : Int) < (1 : Int))) (k (a1, (-4 : Int))) (cond (decide ((↑(List.length a1) : Int) > (64 : Int))) (k (a1, (-3 : Int))) (outOf (stk_Pop a1 (1 : Int)) fun x1 => cond (decide ((0 : Int) ≤ (0 : Int) ∧ (0 : Int) < (↑(List.length x1.2.1) : Int))) (outOf (stk_Push x1.1 (64 : Int) [Int.fdiv (List.getD x1.2.1 (0 : Nat) (0 : Int)) (2 : Int)]) fun x2 => cond (x2.2 != (0 : Int)) (cond (x2.2 != (0 : Int)) (k (a1, x2.2)) (k (a1, (0 : Int)))) (k (x2.1, (0 : Int)))) (none)))
def Do_44 (a1 : (List Int)) : Option Do_44_R := Do_44_t a1 some
abbrev Do_45_R : Type := ((List Int) × Int)
def Do_45_t {γ : Type} (a1 : (List Int)) (k : Do_45_R → Option γ) : Option γ := cond (decide ((↑(List.length a1) : Int) < (1 : Int))) (k (a1, (-4 : Int))) (cond (decide ((↑(List.length a1) : Int) > (64 : Int))) (k (a1, (-3 : Int))) (outOf (stk_Pop a1 (1 : Int)) fun x1 => cond (decide ((0 : Int) ≤ (0 : Int) ∧ (0 : Int) < (↑(List.length x1.2.1) : Int))) (outOf (stk_Push x1.1 (64 : Int) [IntKind.wrap .i64 ((0 : Int) - List.getD x1.2.1 (0 : Nat) (0 : Int))]) fun x2 => cond (x2.2 != (0 : Int)) (cond (x2.2 != (0 : Int)) (k (a1, x2.2)) (k (a1, (0 : Int)))) (k (x2.1, (0 : Int)))) (none)))
def Do_45 (a1 : (List Int)) : Option Do_45_R := Do_45_t a1 some
abbrev Do_46_R : Type := ((List Int) × Int)
def Do_46_t {γ : Type} (a1 : (List Int)) (k : Do_46_R → Option γ) : Option γ := cond (decide ((↑(List.length a1) : Int) < (1 : Int))) (k (a1, (-4 : Int))) (cond (decide ((↑(List.length a1) : Int) > (64 : Int))) (k (a1, (-3 : Int))) (outOf (stk_Pop a1 (1 : Int)) fun x1 => cond (decide ((0 : Int) ≤ (0 : Int) ∧ (0 : Int) < (↑(List.length x1.2.1) : Int))) (outOf (stk_Push x1.1 (64 : Int) [if IntKind.wrap .i64 ((0 : Int) - List.getD x1.2.1 (0 : Nat) (0 : Int)) > List.getD x1.2.1 (0 : Nat) (0 : Int) then IntKind.wrap .i64 ((0 : Int) - List.getD x1.2.1 (0 : Nat) (0 : Int)) else List.getD x1.2.1 (0 : Nat) (0 : Int)]) fun x2 => cond (x2.2 != (0 : Int)) (cond (x2.2 != (0 : Int)) (k (a1, x2.2)) (k (a1, (0 : Int)))) (k (x2.1, (0 : Int)))) (none)))
def Do_46 (a1 : (List Int)) : Option Do_46_R := Do_46_t a1 some
abbrev Do_47_R : Type := ((List Int) × Int)
def Do_47_t {γ : Type} (a1 : (List Int)) (k : Do_47_R → Option γ) : Option γ := cond (decide ((↑(List.length a1) : Int) < (2 : Int))) (k (a1, (-4 : Int))) (cond (decide ((↑(List.length a1) : Int) > (64 : Int))) (k (a1, (-3 : Int))) (outOf (stk_Pop a1 (2 : Int)) fun x1 => cond (decide ((0 : Int) ≤ (0 : Int) ∧ (0 : Int) < (↑(List.length x1.2.1) : Int))) (cond (decide ((0 : Int) ≤ (1 : Int) ∧ (1 : Int) < (↑(List.length x1.2.1) : Int))) (outOf (stk_Push x1.1 (64 : Int) [if List.getD x1.2.1 (1 : Nat) (0 : Int) < List.getD x1.2.1 (0 : Nat) (0 : Int) then List.getD x1.2.1 (1 : Nat) (0 : Int) else List.getD x1.2.1 (0 : Nat) (0 : Int)]) fun x2 => cond (x2.2 != (0 : Int)) (cond (x2.2 != (0 : Int)) (k (a1, x2.2)) (k (a1, (0 : Int)))) (k (x2.1, (0 : Int)))) (none)) (none)))
def Do_47 (a1 : (List Int)) : Option Do_47_R := Do_47_t a1 some
abbrev Do_48_R : Type := ((List Int) × Int)
def Do_48_t {γ : Type} (a1 : (List Int)) (k : Do_48_R → Option γ) : Option γ := cond (decide ((↑(List.length a1) : Int) < (2 : Int))) (k (a1, (-4 : Int))) (cond (decide ((↑(List.length a1) : Int) > (64 : Int))) (k (a1, (-3 : Int))) (outOf (stk_Pop a1 (2 : Int)) fun x1 => cond (decide ((0 : Int) ≤ (0 : Int) ∧ (0 : Int) < (↑(List.length x1.2.1) : Int))) (cond (decide ((0 : Int) ≤ (1 : Int) ∧ (1 : Int) < (↑(List.length x1.2.1) : Int))) (outOf (stk_Push x1.1 (64 : Int) [if List.getD x1.2.1 (1 : Nat) (0 : Int) > List.getD x1.2.1 (0 : Nat) (0 : Int) then List.getD x1.2.1 (1 : Nat) (0 : Int) else List.getD x1.2.1 (0 : Nat) (0 : Int)]) fun x2 => cond (x2.2 != (0 : Int)) (cond (x2.2 != (0 : Int)) (k (a1, x2.2)) (k (a1, (0 : Int)))) (k (x2.1, (0 : Int)))) (none)) (none)))
def Do_48 (a1 : (List Int)) : Option Do_48_R := Do_48_t a1 some
abbrev Do_49_R : Type := ((List Int) × Int)
def Do_49_t {γ : Type} (a1 : (List Int)) (k : Do_49_R → Option γ) : Option γ := cond (decide ((↑(List.length a1) : Int) < (2 : Int))) (k (a1, (-4 : Int))) (cond (decide ((↑(List.length a1) : Int) > (64 : Int))) (k (a1, (-3 : Int))) (outOf (stk_Pop a1 (2 : Int)) fun x1 => cond (decide ((0 : Int) ≤ (0 : Int) ∧ (0 : Int) < (↑(List.length x1.2.1) : Int))) (cond (decide ((0 : Int) ≤ (1 : Int) ∧ (1 : Int) < (↑(List.length x1.2.1) : Int))) (outOf (stk_Push x1.1 (64 : Int) [ibits BinOp.and IntKind.i64 (List.getD x1.2.1 (0 : Nat) (0 : Int)) (List.getD x1.2.1 (1 : Nat) (0 : Int))]) fun x2 => cond (x2.2 != (0 : Int)) (cond (x2.2 != (0 : Int)) (k (a1, x2.2)) (k (a1, (0 : Int)))) (k (x2.1, (0 : Int)))) (none)) (none)))
def Do_49 (a1 : (List Int)) : Option Do_49_R := Do_49_t a1 some
abbrev Do_50_R : Type := ((List Int) × Int)
def Do_50_t {γ : Type} (a1 : (List Int)) (k : Do_50_R → Option γ) : Option γ := cond (decide ((↑(List.length a1) : Int) < (2 : Int))) (k (a1, (-4 : Int))) (cond (decide ((↑(List.length a1) : Int) > (64 : Int))) (k (a1, (-3 : Int))) (outOf (stk_Pop a1 (2 : Int)) fun x1 => cond (decide ((0 : Int) ≤ (0 : Int) ∧ (0 : Int) < (↑(List.length x1.2.1) : Int))) (cond (decide ((0 : Int) ≤ (1 : Int) ∧ (1 : Int) < (↑(List.length x1.2.1) : Int))) (outOf (stk_Push x1.1 (64 : Int) [ibits BinOp.or IntKind.i64 (List.getD x1.2.1 (0 : Nat) (0 : Int)) (List.getD x1.2.1 (1 : Nat) (0 : Int))]) fun x2 => cond (x2.2 != (0 : Int)) (cond (x2.2 != (0 : Int)) (k (a1, x2.2)) (k (a1, (0 : Int)))) (k (x2.1, (0 : Int)))) (none)) (none)))
def Do_50 (a1 : (List Int)) : Option Do_50_R := Do_50_t a1 some
abbrev Do_51_R : Type := ((List Int) × Int)
def Do_51_t {γ : Type} (a1 : (List Int)) (k : Do_51_R → Option γ) : Option γ := cond (decide ((↑(List.length a1) : Int) < (2 : Int))) (k (a1, (-4 : Int))) (cond (decide ((↑(List.length a1) : Int) > (64 : Int))) (k (a1, (-3 : Int))) (outOf (stk_Pop a1 (2 : Int)) fun x1 => cond (decide ((0 : Int) ≤ (0 : Int) ∧ (0 : Int) < (↑(List.length x1.2.1) : Int))) (cond (decide ((0 : Int) ≤ (1 : Int) ∧ (1 : Int) < (↑(List.length x1.2.1) : Int))) (outOf (stk_Push x1.1 (64 : Int) [ibits BinOp.xor IntKind.i64 (List.getD x1.2.1 (0 : Nat) (0 : Int)) (List.getD x1.2.1 (1 : Nat) (0 : Int))]) fun x2 => cond (x2.2 != (0 : Int)) (cond (x2.2 != (0 : Int)) (k (a1, x2.2)) (k (a1, (0 : Int)))) (k (x2.1, (0 : Int)))) (none)) (none)))
def Do_51 (a1 : (List Int)) : Option Do_51_R := Do_51_t a1 some
abbrev Do_52_R : Type := ((List Int) × Int)
def Do_52_t {γ : Type} (a1 : (List Int)) (k : Do_52_R → Option γ) : Option γ := cond (decide ((↑(List.length a1) : Int) < (1 : Int))) (k (a1, (-4 : Int))) (cond (decide ((↑(List.length a1) : Int) > (64 : Int))) (k (a1, (-3 : Int))) (outOf (stk_Pop a1 (1 : Int)) fun x1 => cond (decide ((0 : Int) ≤ (0 : Int) ∧ (0 : Int) < (↑(List.length x1.2.1) : Int))) (outOf (stk_Push x1.1 (64 : Int) [ibits BinOp.xor IntKind.i64 (-1 : Int) (List.getD x1.2.1 (0 : Nat) (0 : Int))]) fun x2 => cond (x2.2 != (0 : Int)) (cond (x2.2 != (0 : Int)) (k (a1, x2.2)) (k (a1, (0 : Int)))) (k (x2.1, (0 : Int)))) (none)))
def Do_52 (a1 : (List Int)) : Option Do_52_R := Do_52_t a1 some
abbrev Do_53_R : Type := ((List Int) × Int)
def Do_53_t {γ : Type} (a1 : (List Int)) (k : Do_53_R → Option γ) : Option γ := cond (decide ((↑(List.length a1) : Int) < (2 : Int))) (k (a1, (-4 : Int))) (cond (decide ((↑(List.length a1) : Int) > (64 : Int))) (k (a1, (-3 : Int))) (outOf (stk_Pop a1 (2 : Int)) fun x1 => cond (decide ((0 : Int) ≤ (0 : Int) ∧ (0 : Int) < (↑(List.length x1.2.1) : Int))) (cond (decide ((0 : Int) ≤ (1 : Int) ∧ (1 : Int) < (↑(List.length x1.2.1) : Int))) (outOf (cell_Shl (List.getD x1.2.1 (0 : Nat) (0 : Int)) (List.getD x1.2.1 (1 : Nat) (0 : Int))) fun x2 => outOf (stk_Push x1.1 (64 : Int) [x2]) fun x3 => cond (x3.2 != (0 : Int)) (cond (x3.2 != (0 : Int)) (k (a1, x3.2)) (k (a1, (0 : Int)))) (k (x3.1, (0 : Int)))) (none)) (none)))
def Do_53 (a1 : (List Int)) : Option Do_53_R := Do_53_t a1 some
abbrev Do_54_R : Type := ((List Int) × Int)
def Do_54_t {γ : Type} (a1 : (List Int)) (k : Do_54_R → Option γ) : Option γ := cond (decide ((↑(List.length a1) : Int) < (2 : Int))) (k (a1, (-4 : Int))) (cond (decide ((↑(List.length a1) : Int) > (64 : Int))) (k (a1, (-3 : Int))) (outOf (stk_Pop a1 (2 : Int)) fun x1 => cond (decide ((0 : Int) ≤ (0 : Int) ∧ (0 : Int) < (↑(List.length x1.2.1) : Int))) (cond (decide ((0 : Int) ≤ (1 : Int) ∧ (1 : Int) < (↑(List.length x1.2.1) : Int))) (outOf (cell_Shr (List.getD x1.2.1 (0 : Nat) (0 : Int)) (List.getD x1.2.1 (1 : Nat) (0 : Int))) fun x2 => outOf (stk_Push x1.1 (64 : Int) [x2]) fun x3 => cond (x3.2 != (0 : Int)) (cond (x3.2 != (0 : Int)) (k (a1, x3.2)) (k (a1, (0 : Int)))) (k (x3.1, (0 : Int)))) (none)) (none)))
def Do_54 (a1 : (List Int)) : Option Do_54_R := Do_54_t a1 some
abbrev Do_55_R : Type := ((List Int) × Int)
def Do_55_t {γ : Type} (a1 : (List Int)) (k : Do_55_R → Option γ) : Option γ := cond (decide ((↑(List.length a1) : Int) < (2 : Int))) (k (a1, (-4 : Int))) (cond (decide ((↑(List.length a1) : Int) > (64 : Int))) (k (a1, (-3 : Int))) (outOf (stk_Pop a1 (2 : Int)) fun x1 => cond (decide ((0 : Int) ≤ (0 : Int) ∧ (0 : Int) < (↑(List.length x1.2.1) : Int))) (cond (decide ((0 : Int) ≤ (1 : Int) ∧ (1 : Int) < (↑(List.length x1.2.1) : Int))) (outOf (cell_Flag (List.getD x1.2.1 (0 : Nat) (0 : Int) == List.getD x1.2.1 (1 : Nat) (0 : Int))) fun x2 => outOf (stk_Push x1.1 (64 : Int) [x2]) fun x3 => cond (x3.2 != (0 : Int)) (cond (x3.2 != (0 : Int)) (k (a1, x3.2)) (k (a1, (0 : Int)))) (k (x3.1, (0 : Int)))) (none)) (none)))
def Do_55 (a1 : (List Int)) : Option Do_55_R := Do_55_t a1 some
abbrev Do_56_R : Type := ((List Int) × Int)
def Do_56_t {γ : Type} (a1 : (List Int)) (k : Do_56_R → Option γ) : Option γ := cond (decide ((↑(List.length a1) : Int) < (2 : Int))) (k (a1, (-4 : Int))) (cond (decide ((↑(List.length a1) : Int) > (64 : Int))) (k (a1, (-3 : Int))) (outOf (stk_Pop a1 (2 : Int)) fun x1 => cond (decide ((0 : Int) ≤ (0 : Int) ∧ (0 : Int) < (↑(List.length x1.2.1) : Int))) (cond (decide ((0 : Int) ≤ (1 : Int) ∧ (1 : Int) < (↑(List.length x1.2.1) : Int))) (outOf (cell_Flag (List.getD x1.2.1 (0 : Nat) (0 : Int) != List.getD x1.2.1 (1 : Nat) (0 : Int))) fun x2 => outOf (stk_Push x1.1 (64 : Int) [x2]) fun x3 => cond (x3.2 != (0 : Int)) (cond (x3.2 != (0 : Int)) (k (a1, x3.2)) (k (a1, (0 : Int)))) (k (x3.1, (0 : Int)))) (none)) (none)))
def Do_56 (a1 : (List Int)) : Option Do_56_R := Do_56_t a1 some
abbrev Do_57_R : Type := ((List Int) × Int)
def Do_57_t {γ : Type} (a1 : (List Int)) (k : Do_57_R → Option γ) : Option γ := cond (decide ((↑(List.length a1) : Int) < (2 : Int))) (k (a1, (-4 : Int))) (cond (decide ((↑(List.length a1) : Int) > (64 : Int))) (k (a1, (-3 : Int))) (outOf (stk_Pop a1 (2 : Int)) fun x1 => cond (decide ((0 : Int) ≤ (0 : Int) ∧ (0 : Int) < (↑(List.length x1.2.1) : Int))) (cond (decide ((0 : Int) ≤ (1 : Int) ∧ (1 : Int) < (↑(List.length x1.2.1) : Int))) (outOf (cell_Flag (decide (List.getD x1.2.1 (0 : Nat) (0 : Int) < List.getD x1.2.1 (1 : Nat) (0 : Int)))) fun x2 => outOf (stk_Push x1.1 (64 : Int) [x2]) fun x3 => cond (x3.2 != (0 : Int)) (cond (x3.2 != (0 : Int)) (k (a1, x3.2)) (k (a1, (0 : Int)))) (k (x3.1, (0 : Int)))) (none)) (none)))
def Do_57 (a1 : (List Int)) : Option Do_57_R := Do_57_t a1 some
abbrev Do_58_R : Type := ((List Int) × Int)
def Do_58_t {γ : Type} (a1 : (List Int)) (k : Do_58_R → Option γ) : Option γ := cond (decide ((↑(List.length a1) : Int) < (2 : Int))) (k (a1, (-4 : Int))) (cond (decide ((↑(List.length a1) : Int) > (64 : Int))) (k (a1, (-3 : Int))) (outOf (stk_Pop a1 (2 : Int)) fun x1 => cond (decide ((0 : Int) ≤ (0 : Int) ∧ (0 : Int) < (↑(List.length x1.2.1) : Int))) (cond (decide ((0 : Int) ≤ (1 : Int) ∧ (1 : Int) < (↑(List.length x1.2.1) : Int))) (outOf (cell_Flag (decide (List.getD x1.2.1 (0 : Nat) (0 : Int) > List.getD x1.2.1 (1 : Nat) (0 : Int)))) fun x2 => outOf (stk_Push x1.1 (64 : Int) [x2]) fun x3 => cond (x3.2 != (0 : Int)) (cond (x3.2 != (0 : Int)) (k (a1, x3.2)) (k (a1, (0 : Int)))) (k (x3.1, (0 : Int)))) (none)) (none)))
def Do_58 (a1 : (List Int)) : Option Do_58_R := Do_58_t a1 some
abbrev Do_59_R : Type := ((List Int) × Int)
def Do_59_t {γ : Type} (a1 : (List Int)) (k : Do_59_R → Option γ) : Option γ := cond (decide ((↑(List.length a1) : Int) < (2 : Int))) (k (a1, (-4 : Int))) (cond (decide ((↑(List.length a1) : Int) > (64 : Int))) (k (a1, (-3 : Int))) (outOf (stk_Pop a1 (2 : Int)) fun x1 => cond (decide ((0 : Int) ≤ (0 : Int) ∧ (0 : Int) < (↑(List.length x1.2.1) : Int))) (cond (decide ((0 : Int) ≤ (1 : Int) ∧ (1 : Int) < (↑(List.length x1.2.1) : Int))) (outOf (cell_Flag (cell_Ult (List.getD x1.2.1 (0 : Nat) (0 : Int)) (List.getD x1.2.1 (1 : Nat) (0 : Int)))) fun x2 => outOf (stk_Push x1.1 (64 : Int) [x2]) fun x3 => cond (x3.2 != (0 : Int)) (cond (x3.2 != (0 : Int)) (k (a1, x3.2)) (k (a1, (0 : Int)))) (k (x3.1, (0 : Int)))) (none)) (none)))
def Do_59 (a1 : (List Int)) : Option Do_59_R := Do_59_t a1 some
abbrev Do_60_R : Type := ((List Int) × Int)
def Do_60_t {γ : Type} (a1 : (List Int)) (k : Do_60_R → Option γ) : Option γ := cond (decide ((↑(List.length a1) : Int) < (1 : Int))) (k (a1, (-4 : Int))) (cond (decide ((↑(List.length a1) : Int) > (64 : Int))) (k (a1, (-3 : Int))) (outOf (stk_Pop a1 (1 : Int)) fun x1 => cond (decide ((0 : Int) ≤ (0 : Int) ∧ (0 : Int) < (↑(List.length x1.2.1) : Int))) (outOf (cell_Flag (List.getD x1.2.1 (0 : Nat) (0 : Int) == (0 : Int))) fun x2 => outOf (stk_Push x1.1 (64 : Int) [x2]) fun x3 => cond (x3.2 != (0 : Int)) (cond (x3.2 != (0 : Int)) (k (a1, x3.2)) (k (a1, (0 : Int)))) (k (x3.1, (0 : Int)))) (none)))
def Do_60 (a1 : (List Int)) : Option Do_60_R := Do_60_t a1 some
abbrev Do_61_R : Type := ((List Int) × Int)
def Do_61_t {γ : Type} (a1 : (List Int)) (k : Do_61_R → Option γ) : Option γ := cond (decide ((↑(List.length a1) : Int) < (1 : Int))) (k (a1, (-4 : Int))) (cond (decide ((↑(List.length a1) : Int) > (64 : Int))) (k (a1, (-3 : Int))) (outOf (stk_Pop a1 (1 : Int)) fun x1 => cond (decide ((0 : Int) ≤ (0 : Int) ∧ (0 : Int) < (↑(List.length x1.2.1) : Int))) (outOf (cell_Flag (decide (List.getD x1.2.1 (0 : Nat) (0 : Int) < (0 : Int)))) fun x2 => outOf (stk_Push x1.1 (64 : Int) [x2]) fun x3 => cond (x3.2 != (0 : Int)) (cond (x3.2 != (0 : Int)) (k (a1, x3.2)) (k (a1, (0 : Int)))) (k (x3.1, (0 : Int)))) (none)))
def Do_61 (a1 : (List Int)) : Option Do_61_R := Do_61_t a1 some
end
end Go.Proofs.Dbl

namespace Go.Proofs.Dbl
open Go Go.TX Go.Proofs
set_option maxRecDepth 100000
set_option linter.unusedVariables false
set_option maxHeartbeats 0
noncomputable section
abbrev Do_62_R : Type := ((List Int) × Int)
def Do_62_t {γ : Type} (a1 : (List Int)) (k : Do_62_R → Option γ) : Option γ := cond (decide ((↑(List.length a1) : Int) < (3 : Int))) (k (a1, (-4 : Int))) (cond (decide ((↑(List.length a1) : Int) > (64 : Int))) (k (a1, (-3 : Int))) (outOf (stk_Pop a1 (3 : Int)) fun x1 => cond (decide ((0 : Int) ≤ (0 : Int) ∧ (0 : Int) < (↑(List.length x1.2.1) : Int))) (cond (decide ((0 : Int) ≤ (1 : Int) ∧ (1 : Int) < (↑(List.length x1.2.1) : Int))) (cond (decide ((0 : Int) ≤ (2 : Int) ∧ (2 : Int) < (↑(List.length x1.2.1) : Int))) (outOf (cell_Flag (cell_Within (List.getD x1.2.1 (0 : Nat) (0 : Int)) (List.getD x1.2.1 (1 : Nat) (0 : Int)) (List.getD x1.2.1 (2 : Nat) (0 : Int)))) fun x2 => outOf (stk_Push x1.1 (64 : Int) [x2]) fun x3 => cond (x3.2 != (0 : Int)) (cond (x3.2 != (0 : Int)) (k (a1, x3.2)) (k (a1, (0 : Int)))) (k (x3.1, (0 : Int)))) (none)) (none)) (none)))
def Do_62 (a1 : (List Int)) : Option Do_62_R := Do_62_t a1 some
abbrev Do_63_R : Type := ((List Int) × Int)
def Do_63_t {γ : Type} (a1 : (List Int)) (k : Do_63_R → Option γ) : Option γ := cond (decide ((↑(List.length a1) : Int) < (2 : Int))) (k (a1, (-4 : Int))) (cond (decide ((↑(List.length a1) : Int) > (64 : Int))) (k (a1, (-3 : Int))) (outOf (stk_Pop a1 (2 : Int)) fun x1 => cond (decide ((0 : Int) ≤ (0 : Int) ∧ (0 : Int) < (↑(List.length x1.2.1) : Int))) (cond (decide ((0 : Int) ≤ (1 : Int) ∧ (1 : Int) < (↑(List.length x1.2.1) : Int))) (outOf (stk_Push x1.1 (64 : Int) [Prod.fst (dbl_UMul (List.getD x1.2.1 (0 : Nat) (0 : Int)) (List.getD x1.2.1 (1 : Nat) (0 : Int))), Prod.snd (dbl_UMul (List.getD x1.2.1 (0 : Nat) (0 : Int)) (List.getD x1.2.1 (1 : Nat) (0 : Int)))]) fun x2 => cond (x2.2 != (0 : Int)) (cond (x2.2 != (0 : Int)) (k (a1, x2.2)) (k (a1, (0 : Int)))) (k (x2.1, (0 : Int)))) (none)) (none)))
def Do_63 (a1 : (List Int)) : Option Do_63_R := Do_63_t a1 some
abbrev Do_64_R : Type := ((List Int) × Int)
def Do_64_t {γ : Type} (a1 : (List Int)) (k : Do_64_R → Option γ) : Option γ := cond (decide ((↑(List.length a1) : Int) < (2 : Int))) (k (a1, (-4 : Int))) (cond (decide ((↑(List.length a1) : Int) > (64 : Int))) (k (a1, (-3 : Int))) (outOf (stk_Pop a1 (2 : Int)) fun x1 => cond (decide ((0 : Int) ≤ (0 : Int) ∧ (0 : Int) < (↑(List.length x1.2.1) : Int))) (cond (decide ((0 : Int) ≤ (1 : Int) ∧ (1 : Int) < (↑(List.length x1.2.1) : Int))) (outOf (dbl_Mul (List.getD x1.2.1 (0 : Nat) (0 : Int)) (List.getD x1.2.1 (1 : Nat) (0 : Int))) fun x2 => outOf (stk_Push x1.1 (64 : Int) [x2.1, x2.2]) fun x3 => cond (x3.2 != (0 : Int)) (cond (x3.2 != (0 : Int)) (k (a1, x3.2)) (k (a1, (0 : Int)))) (k (x3.1, (0 : Int)))) (none)) (none)))
def Do_64 (a1 : (List Int)) : Option Do_64_R := Do_64_t a1 some
abbrev Do_65_R : Type := ((List Int) × Int)
def Do_65_t {γ : Type} (a1 : (List Int)) (k : Do_65_R → Option γ) : Option γ := cond (decide ((↑(List.length a1) : Int) < (3 : Int))) (k (a1, (-4 : Int))) (cond (decide ((↑(List.length a1) : Int) > (64 : Int))) (k (a1, (-3 : Int))) (outOf (stk_Pop a1 (3 : Int)) fun x1 => cond (decide ((0 : Int) ≤ (0 : Int) ∧ (0 : Int) < (↑(List.length x1.2.1) : Int))) (cond (decide ((0 : Int) ≤ (1 : Int) ∧ (1 : Int) < (↑(List.length x1.2.1) : Int))) (cond (decide ((0 : Int) ≤ (2 : Int) ∧ (2 : Int) < (↑(List.length x1.2.1) : Int))) (outOf (dbl_UMod (List.getD x1.2.1 (0 : Nat) (0 : Int)) (List.getD x1.2.1 (1 : Nat) (0 : Int)) (List.getD x1.2.1 (2 : Nat) (0 : Int))) fun x2 => outOf (stk_Push x1.1 (64 : Int) (List.take (2 : Nat) (List.drop (0 : Nat) (List.take (1 : Nat) (List.drop (0 : Nat) [List.getD [x2.1, x2.2.1] (0 : Nat) (0 : Int)]) ++ [List.getD [x2.1, x2.2.1] (1 : Nat) (0 : Int)])))) fun x3 => cond (x3.2 != (0 : Int)) (cond (x3.2 != (0 : Int)) (k (a1, x3.2)) (k (a1, (0 : Int)))) (cond (x2.2.2 != (0 : Int)) (k (a1, x2.2.2)) (k (x3.1, (0 : Int))))) (none)) (none)) (none)))
def Do_65 (a1 : (List Int)) : Option Do_65_R := Do_65_t a1 some
abbrev Do_66_R : Type := ((List Int) × Int)
def Do_66_t {γ : Type} (a1 : (List Int)) (k : Do_66_R → Option γ) : Option γ := cond (decide ((↑(List.length a1) : Int) < (3 : Int))) (k (a1, (-4 : Int))) (cond (decide ((↑(List.length a1) : Int) > (64 : Int))) (k (a1, (-3 : Int))) (outOf (stk_Pop a1 (3 : Int)) fun x1 => cond (decide ((0 : Int) ≤ (0 : Int) ∧ (0 : Int) < (↑(List.length x1.2.1) : Int))) (cond (decide ((0 : Int) ≤ (1 : Int) ∧ (1 : Int) < (↑(List.length x1.2.1) : Int))) (cond (decide ((0 : Int) ≤ (2 : Int) ∧ (2 : Int) < (↑(List.length x1.2.1) : Int))) (outOf (dbl_Floor (List.getD x1.2.1 (0 : Nat) (0 : Int)) (List.getD x1.2.1 (1 : Nat) (0 : Int)) (List.getD x1.2.1 (2 : Nat) (0 : Int))) fun x2 => outOf (stk_Push x1.1 (64 : Int) (List.take (2 : Nat) (List.drop (0 : Nat) (List.take (1 : Nat) (List.drop (0 : Nat) [List.getD [x2.1, x2.2.1] (0 : Nat) (0 : Int)]) ++ [List.getD [x2.1, x2.2.1] (1 : Nat) (0 : Int)])))) fun x3 => cond (x3.2 != (0 : Int)) (cond (x3.2 != (0 : Int)) (k (a1, x3.2)) (k (a1, (0 : Int)))) (cond (x2.2.2 != (0 : Int)) (k (a1, x2.2.2)) (k (x3.1, (0 : Int))))) (none)) (none)) (none)))
def Do_66 (a1 : (List Int)) : Option Do_66_R := Do_66_t a1 some
abbrev Do_67_R : Type := ((List Int) × Int)
def Do_67_t {γ : Type} (a1 : (List Int)) (k : Do_67_R → Option γ) : Option γ := cond (decide ((↑(List.length a1) : Int) < (3 : Int))) (k (a1, (-4 : Int))) (cond (decide ((↑(List.length a1) : Int) > (64 : Int))) (k (a1, (-3 : Int))) (outOf (stk_Pop a1 (3 : Int)) fun x1 => cond (decide ((0 : Int) ≤ (0 : Int) ∧ (0 : Int) < (↑(List.length x1.2.1) : Int))) (cond (decide ((0 : Int) ≤ (1 : Int) ∧ (1 : Int) < (↑(List.length x1.2.1) : Int))) (cond (decide ((0 : Int) ≤ (2 : Int) ∧ (2 : Int) < (↑(List.length x1.2.1) : Int))) (outOf (dbl_Symm (List.getD x1.2.1 (0 : Nat) (0 : Int)) (List.getD x1.2.1 (1 : Nat) (0 : Int)) (List.getD x1.2.1 (2 : Nat) (0 : Int))) fun x2 => outOf (stk_Push x1.1 (64 : Int) (List.take (2 : Nat) (List.drop (0 : Nat) (List.take (1 : Nat) (List.drop (0 : Nat) [List.getD [x2.1, x2.2.1] (0 : Nat) (0 : Int)]) ++ [List.getD [x2.1, x2.2.1] (1 : Nat) (0 : Int)])))) fun x3 => cond (x3.2 != (0 : Int)) (cond (x3.2 != (0 : Int)) (k (a1, x3.2)) (k (a1, (0 : Int)))) (cond (x2.2.2 != (0 : Int)) (k (a1, x2.2.2)) (k (x3.1, (0 : Int))))) (none)) (none)) (none)))
def Do_67 (a1 : (List Int)) : Option Do_67_R := Do_67_t a1 some
abbrev Do_68_R : Type := ((List Int) × Int)
def Do_68_t {γ : Type} (a1 : (List Int)) (k : Do_68_R → Option γ) : Option γ := cond (decide ((↑(List.length a1) : Int) < (1 : Int))) (k (a1, (-4 : Int))) (cond (decide ((↑(List.length a1) : Int) > (64 : Int))) (k (a1, (-3 : Int))) (outOf (stk_Pop a1 (1 : Int)) fun x1 => cond (decide ((0 : Int) ≤ (0 : Int) ∧ (0 : Int) < (↑(List.length x1.2.1) : Int))) (outOf (stk_Push x1.1 (64 : Int) [Prod.fst (dbl_Of (List.getD x1.2.1 (0 : Nat) (0 : Int))), Prod.snd (dbl_Of (List.getD x1.2.1 (0 : Nat) (0 : Int)))]) fun x2 => cond (x2.2 != (0 : Int)) (cond (x2.2 != (0 : Int)) (k (a1, x2.2)) (k (a1, (0 : Int)))) (k (x2.1, (0 : Int)))) (none)))
def Do_68 (a1 : (List Int)) : Option Do_68_R := Do_68_t a1 some
abbrev Do_69_R : Type := ((List Int) × Int)
def Do_69_t {γ : Type} (a1 : (List Int)) (k : Do_69_R → Option γ) : Option γ := cond (decide ((↑(List.length a1) : Int) < (4 : Int))) (k (a1, (-4 : Int))) (cond (decide ((↑(List.length a1) : Int) > (64 : Int))) (k (a1, (-3 : Int))) (outOf (stk_Pop a1 (4 : Int)) fun x1 => cond (decide ((0 : Int) ≤ (0 : Int) ∧ (0 : Int) < (↑(List.length x1.2.1) : Int))) (cond (decide ((0 : Int) ≤ (1 : Int) ∧ (1 : Int) < (↑(List.length x1.2.1) : Int))) (cond (decide ((0 : Int) ≤ (2 : Int) ∧ (2 : Int) < (↑(List.length x1.2.1) : Int))) (cond (decide ((0 : Int) ≤ (3 : Int) ∧ (3 : Int) < (↑(List.length x1.2.1) : Int))) (outOf (dbl_Add (List.getD x1.2.1 (0 : Nat) (0 : Int)) (List.getD x1.2.1 (1 : Nat) (0 : Int)) (List.getD x1.2.1 (2 : Nat) (0 : Int)) (List.getD x1.2.1 (3 : Nat) (0 : Int))) fun x2 => outOf (stk_Push x1.1 (64 : Int) [x2.1, x2.2]) fun x3 => cond (x3.2 != (0 : Int)) (cond (x3.2 != (0 : Int)) (k (a1, x3.2)) (k (a1, (0 : Int)))) (k (x3.1, (0 : Int)))) (none)) (none)) (none)) (none)))
def Do_69 (a1 : (List Int)) : Option Do_69_R := Do_69_t a1 some
abbrev Do_70_R : Type := ((List Int) × Int)
def Do_70_t {γ : Type} (a1 : (List Int)) (k : Do_70_R → Option γ) : Option γ := cond (decide ((↑(List.length a1) : Int) < (2 : Int))) (k (a1, (-4 : Int))) (cond (decide ((↑(List.length a1) : Int) > (64 : Int))) (k (a1, (-3 : Int))) (outOf (stk_Pop a1 (2 : Int)) fun x1 => cond (decide ((0 : Int) ≤ (0 : Int) ∧ (0 : Int) < (↑(List.length x1.2.1) : Int))) (cond (decide ((0 : Int) ≤ (1 : Int) ∧ (1 : Int) < (↑(List.length x1.2.1) : Int))) (outOf (dbl_Neg (List.getD x1.2.1 (0 : Nat) (0 : Int)) (List.getD x1.2.1 (1 : Nat) (0 : Int))) fun x2 => outOf (stk_Push x1.1 (64 : Int) [x2.1, x2.2]) fun x3 => cond (x3.2 != (0 : Int)) (cond (x3.2 != (0 : Int)) (k (a1, x3.2)) (k (a1, (0 : Int)))) (k (x3.1, (0 : Int)))) (none)) (none)))
def Do_70 (a1 : (List Int)) : Option Do_70_R := Do_70_t a1 some
abbrev Do_71_R : Type := ((List Int) × Int)
def Do_71_t {γ : Type} (a1 : (List Int)) (k : Do_71_R → Option γ) : Option γ := cond (decide ((↑(List.length a1) : Int) < (1 : Int))) (k (a1, (-4 : Int))) (cond (decide ((↑(List.length a1) : Int) > (64 : Int))) (k (a1, (-3 : Int))) (outOf (stk_Pop a1 (1 : Int)) fun x1 => cond (decide ((0 : Int) ≤ (0 : Int) ∧ (0 : Int) < (↑(List.length x1.2.1) : Int))) (outOf (stk_Push x1.1 (64 : Int) [IntKind.wrap .i64 (List.getD x1.2.1 (0 : Nat) (0 : Int) * (8 : Int))]) fun x2 => cond (x2.2 != (0 : Int)) (cond (x2.2 != (0 : Int)) (k (a1, x2.2)) (k (a1, (0 : Int)))) (k (x2.1, (0 : Int)))) (none)))
def Do_71 (a1 : (List Int)) : Option Do_71_R := Do_71_t a1 some
abbrev Do_72_R : Type := ((List Int) × Int)
def Do_72_t {γ : Type} (a1 : (List Int)) (k : Do_72_R → Option γ) : Option γ := cond (decide ((↑(List.length a1) : Int) < (1 : Int))) (k (a1, (-4 : Int))) (cond (decide ((↑(List.length a1) : Int) > (64 : Int))) (k (a1, (-3 : Int))) (outOf (stk_Pop a1 (1 : Int)) fun x1 => cond (decide ((0 : Int) ≤ (0 : Int) ∧ (0 : Int) < (↑(List.length x1.2.1) : Int))) (outOf (stk_Push x1.1 (64 : Int) [IntKind.wrap .i64 (List.getD x1.2.1 (0 : Nat) (0 : Int) + (8 : Int))]) fun x2 => cond (x2.2 != (0 : Int)) (cond (x2.2 != (0 : Int)) (k (a1, x2.2)) (k (a1, (0 : Int)))) (k (x2.1, (0 : Int)))) (none)))
def Do_72 (a1 : (List Int)) : Option Do_72_R := Do_72_t a1 some
abbrev Do_73_R : Type := ((List Int) × Int)
def Do_73_t {γ : Type} (a1 : (List Int)) (k : Do_73_R → Option γ) : Option γ := cond (decide ((↑(List.length a1) : Int) < (1 : Int))) (k (a1, (-4 : Int))) (cond (decide ((↑(List.length a1) : Int) > (64 : Int))) (k (a1, (-3 : Int))) (outOf (stk_Pop a1 (1 : Int)) fun x1 => cond (decide ((0 : Int) ≤ (0 : Int) ∧ (0 : Int) < (↑(List.length x1.2.1) : Int))) (outOf (stk_Push x1.1 (64 : Int) [IntKind.wrap .i64 (List.getD x1.2.1 (0 : Nat) (0 : Int) + (1 : Int))]) fun x2 => cond (x2.2 != (0 : Int)) (cond (x2.2 != (0 : Int)) (k (a1, x2.2)) (k (a1, (0 : Int)))) (k (x2.1, (0 : Int)))) (none)))
def Do_73 (a1 : (List Int)) : Option Do_73_R := Do_73_t a1 some
abbrev Do_74_R : Type := ((List Int) × Int)
def Do_74_t {γ : Type} (a1 : (List Int)) (k : Do_74_R → Option γ) : Option γ := cond (decide ((↑(List.length a1) : Int) < (1 : Int))) (k (a1, (-4 : Int))) (cond (decide ((↑(List.length a1) : Int) > (64 : Int))) (k (a1, (-3 : Int))) (outOf (stk_Pop a1 (1 : Int)) fun x1 => cond (decide ((0 : Int) ≤ (0 : Int) ∧ (0 : Int) < (↑(List.length x1.2.1) : Int))) (outOf (stk_Push x1.1 (64 : Int) [cell_Aligned (List.getD x1.2.1 (0 : Nat) (0 : Int))]) fun x2 => cond (x2.2 != (0 : Int)) (cond (x2.2 != (0 : Int)) (k (a1, x2.2)) (k (a1, (0 : Int)))) (k (x2.1, (0 : Int)))) (none)))
def Do_74 (a1 : (List Int)) : Option Do_74_R := Do_74_t a1 some
end
end Go.Proofs.Dbl

namespace Go.Proofs.Dbl
open Go Go.TX Go.Proofs
set_option maxRecDepth 100000
set_option linter.unusedVariables false
set_option maxHeartbeats 0
noncomputable section
def Do_tab (n : Nat) (d : List Int) : Option (List Int × Int) :=
  match n with
  | 18 => Do_18 d
  | 19 => Do_19 d
  | 20 => Do_20 d
  | 21 => Do_21 d
  | 22 => Do_22 d
  | 23 => Do_23 d
  | 24 => Do_24 d
  | 25 => Do_25 d
  | 26 => Do_26 d
  | 27 => Do_27 d
  | 28 => Do_28 d
  | 29 => Do_29 d
  | 30 => Do_30 d
  | 31 => Do_31 d
  | 32 => Do_32 d
  | 33 => Do_33 d
  | 34 => Do_34 d
  | 35 => Do_35 d
  | 36 => Do_36 d
  | 37 => Do_37 d
  | 38 => Do_38 d
  | 39 => Do_39 d
  | 40 => Do_40 d
  | 41 => Do_41 d
  | 42 => Do_42 d
  | 43 => Do_43 d
  | 44 => Do_44 d
  | 45 => Do_45 d
  | 46 => Do_46 d
  | 47 => Do_47 d
  | 48 => Do_48 d
  | 49 => Do_49 d
  | 50 => Do_50 d
  | 51 => Do_51 d
  | 52 => Do_52 d
  | 53 => Do_53 d
  | 54 => Do_54 d
  | 55 => Do_55 d
  | 56 => Do_56 d
  | 57 => Do_57 d
  | 58 => Do_58 d
  | 59 => Do_59 d
  | 60 => Do_60 d
  | 61 => Do_61 d
  | 62 => Do_62 d
  | 63 => Do_63 d
  | 64 => Do_64 d
  | 65 => Do_65 d
  | 66 => Do_66 d
  | 67 => Do_67 d
  | 68 => Do_68 d
  | 69 => Do_69 d
  | 70 => Do_70 d
  | 71 => Do_71 d
  | 72 => Do_72 d
  | 73 => Do_73 d
  | 74 => Do_74 d
  | _ => none
def pure_Do (o : Int) (d : List Int) : Option (List Int × Int) := if 18 ≤ o ∧ o ≤ 74 then Do_tab o.toNat d else outOf (op_Group o) fun g => cond (g != (1 : Int)) (some (d, (-21 : Int))) none
def pure_Do_sp : TX.Spec := specD [.val (.int .i64), .val (.sl (.int .i64))] [] fun _ a m k => match a, m with | ⟨a0, a1, _⟩, _ => outOf (pure_Do a0 a1) fun v => k (.tup [.sl (.int .i64) v.1 false, .lit (.int .i64 v.2)]) []
def SuE3 : Env := SrEE7.add 26 true pure_Do_sp
theorem SuE3_ok : SuE3.OK Tryz.prog := SrEE7_ok.add_ok pure_Do_good
end
end Go.Proofs.Dbl
