import Derived.Test.YtgchjlbhmfbgaaaGreatDoorSuXD
namespace Go.Proofs.Dbl
open Go Go.TX Go.Proofs
set_option maxRecDepth 100000
set_option linter.unusedVariables false
set_option maxHeartbeats 0
noncomputable section
def SrEE1:Env:=SrDE7.add 131 false (inl Tryz.prog SrDE7 true Tryz.f131 200) |>.add 132 false (inl Tryz.prog SrDE7 true Tryz.f132 200) |>.add 133 false (inl Tryz.prog SrDE7 true Tryz.f133 200) |>.add 134 false (inl Tryz.prog SrDE7 true Tryz.f134 200) |>.add 141 false (inl Tryz.prog SrDE7 true Tryz.f141 200) |>.add 142 false (inl Tryz.prog SrDE7 true Tryz.f142 200) |>.add 135 false (inl Tryz.prog SrDE7 true Tryz.f135 200) |>.add 137 false (inl Tryz.prog SrDE7 true Tryz.f137 200) |>.add 138 false (inl Tryz.prog SrDE7 true Tryz.f138 200) |>.add 139 false (inl Tryz.prog SrDE7 true Tryz.f139 200) |>.add 144 false (inl Tryz.prog SrDE7 true Tryz.f144 200) |>.add 145 false (inl Tryz.prog SrDE7 true Tryz.f145 200) |>.add 146 false (inl Tryz.prog SrDE7 true Tryz.f146 200) |>.add 147 false (inl Tryz.prog SrDE7 true Tryz.f147 200) |>.add 148 false (inl Tryz.prog SrDE7 true Tryz.f148 200) |>.add 149 false (inl Tryz.prog SrDE7 true Tryz.f149 200) |>.add 150 false (inl Tryz.prog SrDE7 true Tryz.f150 200) |>.add 151 false (inl Tryz.prog SrDE7 true Tryz.f151 200) |>.add 152 false (inl Tryz.prog SrDE7 true Tryz.f152 200) |>.add 153 false (inl Tryz.prog SrDE7 true Tryz.f153 200) |>.add 155 false (inl Tryz.prog SrDE7 true Tryz.f155 200) |>.add 156 false (inl Tryz.prog SrDE7 true Tryz.f156 200) |>.add 157 false (inl Tryz.prog SrDE7 true Tryz.f157 200) |>.add 158 false (inl Tryz.prog SrDE7 true Tryz.f158 200) |>.add 162 false (inl Tryz.prog SrDE7 true Tryz.f162 200) |>.add 163 false (inl Tryz.prog SrDE7 true Tryz.f163 200) |>.add 164 false (inl Tryz.prog SrDE7 true Tryz.f164 200) |>.add 165 false (inl Tryz.prog SrDE7 true Tryz.f165 200) |>.add 167 false (inl Tryz.prog SrDE7 true Tryz.f167 200) |>.add 169 false (inl Tryz.prog SrDE7 true Tryz.f169 200) |>.add 170 false (inl Tryz.prog SrDE7 true Tryz.f170 200) |>.add 173 false (inl Tryz.prog SrDE7 true Tryz.f173 200) |>.add 175 false (inl Tryz.prog SrDE7 true Tryz.f175 200) |>.add 181 false (inl Tryz.prog SrDE7 true Tryz.f181 200) |>.add 183 false (inl Tryz.prog SrDE7 true Tryz.f183 200) |>.add 185 false (inl Tryz.prog SrDE7 true Tryz.f185 200)
theorem SrEE1_ok:SrEE1.OK Tryz.prog:=((((((((((((((((((((((((((((((((((((SrDE7_ok).add_ok (inl_good SrDE7_ok mixed Tryz.func131 (body_of rfl) (by kernel_rfl) true 200)).add_ok (inl_good SrDE7_ok mixed Tryz.func132 (body_of rfl) (by kernel_rfl) true 200)).add_ok (inl_good SrDE7_ok mixed Tryz.func133 (body_of rfl) (by kernel_rfl) true 200)).add_ok (inl_good SrDE7_ok mixed Tryz.func134 (body_of rfl) (by kernel_rfl) true 200)).add_ok (inl_good SrDE7_ok mixed Tryz.func141 (body_of rfl) (by kernel_rfl) true 200)).add_ok (inl_good SrDE7_ok mixed Tryz.func142 (body_of rfl) (by kernel_rfl) true 200)).add_ok (inl_good SrDE7_ok mixed Tryz.func135 (body_of rfl) (by kernel_rfl) true 200)).add_ok (inl_good SrDE7_ok mixed Tryz.func137 (body_of rfl) (by kernel_rfl) true 200)).add_ok (inl_good SrDE7_ok mixed Tryz.func138 (body_of rfl) (by kernel_rfl) true 200)).add_ok (inl_good SrDE7_ok mixed Tryz.func139 (body_of rfl) (by kernel_rfl) true 200)).add_ok (inl_good SrDE7_ok mixed Tryz.func144 (body_of rfl) (by kernel_rfl) true 200)).add_ok (inl_good SrDE7_ok mixed Tryz.func145 (body_of rfl) (by kernel_rfl) true 200)).add_ok (inl_good SrDE7_ok mixed Tryz.func146 (body_of rfl) (by kernel_rfl) true 200)).add_ok (inl_good SrDE7_ok mixed Tryz.func147 (body_of rfl) (by kernel_rfl) true 200)).add_ok (inl_good SrDE7_ok mixed Tryz.func148 (body_of rfl) (by kernel_rfl) true 200)).add_ok (inl_good SrDE7_ok mixed Tryz.func149 (body_of rfl) (by kernel_rfl) true 200)).add_ok (inl_good SrDE7_ok mixed Tryz.func150 (body_of rfl) (by kernel_rfl) true 200)).add_ok (inl_good SrDE7_ok mixed Tryz.func151 (body_of rfl) (by kernel_rfl) true 200)).add_ok (inl_good SrDE7_ok mixed Tryz.func152 (body_of rfl) (by kernel_rfl) true 200)).add_ok (inl_good SrDE7_ok mixed Tryz.func153 (body_of rfl) (by kernel_rfl) true 200)).add_ok (inl_good SrDE7_ok mixed Tryz.func155 (body_of rfl) (by kernel_rfl) true 200)).add_ok (inl_good SrDE7_ok mixed Tryz.func156 (body_of rfl) (by kernel_rfl) true 200)).add_ok (inl_good SrDE7_ok mixed Tryz.func157 (body_of rfl) (by kernel_rfl) true 200)).add_ok (inl_good SrDE7_ok mixed Tryz.func158 (body_of rfl) (by kernel_rfl) true 200)).add_ok (inl_good SrDE7_ok mixed Tryz.func162 (body_of rfl) (by kernel_rfl) true 200)).add_ok (inl_good SrDE7_ok mixed Tryz.func163 (body_of rfl) (by kernel_rfl) true 200)).add_ok (inl_good SrDE7_ok mixed Tryz.func164 (body_of rfl) (by kernel_rfl) true 200)).add_ok (inl_good SrDE7_ok mixed Tryz.func165 (body_of rfl) (by kernel_rfl) true 200)).add_ok (inl_good SrDE7_ok mixed Tryz.func167 (body_of rfl) (by kernel_rfl) true 200)).add_ok (inl_good SrDE7_ok mixed Tryz.func169 (body_of rfl) (by kernel_rfl) true 200)).add_ok (inl_good SrDE7_ok mixed Tryz.func170 (body_of rfl) (by kernel_rfl) true 200)).add_ok (inl_good SrDE7_ok mixed Tryz.func173 (body_of rfl) (by kernel_rfl) true 200)).add_ok (inl_good SrDE7_ok mixed Tryz.func175 (body_of rfl) (by kernel_rfl) true 200)).add_ok (inl_good SrDE7_ok mixed Tryz.func181 (body_of rfl) (by kernel_rfl) true 200)).add_ok (inl_good SrDE7_ok mixed Tryz.func183 (body_of rfl) (by kernel_rfl) true 200)).add_ok (inl_good SrDE7_ok mixed Tryz.func185 (body_of rfl) (by kernel_rfl) true 200)
def SrEE2:Env:=SrEE1.add 264 false (inl Tryz.prog SrEE1 true Tryz.f264 200) |>.add 267 false (inl Tryz.prog SrEE1 true Tryz.f267 200) |>.add 268 false (inl Tryz.prog SrEE1 true Tryz.f268 200) |>.add 270 false (inl Tryz.prog SrEE1 true Tryz.f270 200)
theorem SrEE2_ok:SrEE2.OK Tryz.prog:=((((SrEE1_ok).add_ok (inl_good SrEE1_ok mixed Tryz.func264 (body_of rfl) (by kernel_rfl) true 200)).add_ok (inl_good SrEE1_ok mixed Tryz.func267 (body_of rfl) (by kernel_rfl) true 200)).add_ok (inl_good SrEE1_ok mixed Tryz.func268 (body_of rfl) (by kernel_rfl) true 200)).add_ok (inl_good SrEE1_ok mixed Tryz.func270 (body_of rfl) (by kernel_rfl) true 200)
def SrEE3:Env:=SrEE2.add 260 false (inl Tryz.prog SrEE2 true Tryz.f260 200) |>.add 261 false (inl Tryz.prog SrEE2 true Tryz.f261 200)
theorem SrEE3_ok:SrEE3.OK Tryz.prog:=((SrEE2_ok).add_ok (inl_good SrEE2_ok mixed Tryz.func260 (body_of rfl) (by kernel_rfl) true 200)).add_ok (inl_good SrEE2_ok mixed Tryz.func261 (body_of rfl) (by kernel_rfl) true 200)
def SrEE4:Env:=SrEE3.add 143 false (inl Tryz.prog SrEE3 true Tryz.f143 200) |>.add 136 false (inl Tryz.prog SrEE3 true Tryz.f136 200) |>.add 140 false (inl Tryz.prog SrEE3 true Tryz.f140 200) |>.add 172 false (inl Tryz.prog SrEE3 true Tryz.f172 200)
theorem SrEE4_ok:SrEE4.OK Tryz.prog:=((((SrEE3_ok).add_ok (inl_good SrEE3_ok mixed Tryz.func143 (body_of rfl) (by kernel_rfl) true 200)).add_ok (inl_good SrEE3_ok mixed Tryz.func136 (body_of rfl) (by kernel_rfl) true 200)).add_ok (inl_good SrEE3_ok mixed Tryz.func140 (body_of rfl) (by kernel_rfl) true 200)).add_ok (inl_good SrEE3_ok mixed Tryz.func172 (body_of rfl) (by kernel_rfl) true 200)
def SrEE5:Env:=SrEE4.add 161 false (inl Tryz.prog SrEE4 true Tryz.f161 200) |>.add 177 false (inl Tryz.prog SrEE4 true Tryz.f177 200)
theorem SrEE5_ok:SrEE5.OK Tryz.prog:=((SrEE4_ok).add_ok (inl_good SrEE4_ok mixed Tryz.func161 (body_of rfl) (by kernel_rfl) true 200)).add_ok (inl_good SrEE4_ok mixed Tryz.func177 (body_of rfl) (by kernel_rfl) true 200)
def SrEE6:Env:=SrEE5.add 68 false (inl Tryz.prog SrEE5 true Tryz.f68 200) |>.add 69 false (inl Tryz.prog SrEE5 true Tryz.f69 200) |>.add 70 false (inl Tryz.prog SrEE5 true Tryz.f70 200) |>.add 71 false (inl Tryz.prog SrEE5 true Tryz.f71 200)
theorem SrEE6_ok:SrEE6.OK Tryz.prog:=((((SrEE5_ok).add_ok (inl_good SrEE5_ok mixed Tryz.func68 (body_of rfl) (by kernel_rfl) true 200)).add_ok (inl_good SrEE5_ok mixed Tryz.func69 (body_of rfl) (by kernel_rfl) true 200)).add_ok (inl_good SrEE5_ok mixed Tryz.func70 (body_of rfl) (by kernel_rfl) true 200)).add_ok (inl_good SrEE5_ok mixed Tryz.func71 (body_of rfl) (by kernel_rfl) true 200)
def SrEE7:Env:=SrEE6.add 48 false (inl Tryz.prog SrEE6 true Tryz.f48 200) |>.add 49 false (inl Tryz.prog SrEE6 true Tryz.f49 200)
theorem SrEE7_ok:SrEE7.OK Tryz.prog:=((SrEE6_ok).add_ok (inl_good SrEE6_ok mixed Tryz.func48 (body_of rfl) (by kernel_rfl) true 200)).add_ok (inl_good SrEE6_ok mixed Tryz.func49 (body_of rfl) (by kernel_rfl) true 200)
end
end Go.Proofs.Dbl
namespace Go.Proofs.Dbl
open Go Go.TX Go.Proofs
set_option maxRecDepth 100000
set_option linter.unusedVariables false
set_option maxHeartbeats 0
noncomputable section
def Do_18_h0:Hints:=Hints.nil 0
theorem Do_18_h0_ok:Do_18_h0.OK Tryz.prog (bodyOf Tryz.f26):=Hints.nil_ok
abbrev Do_18_R:Type:=((List Int)×Int)
def Do_18_t {γ:Type}(a1:(List Int))(k:Do_18_R→Option γ):Option γ:=cond (decide ((↑(List.length a1):Int)<(1:Int))) (k (a1,(-4:Int))) (cond (decide ((↑(List.length a1):Int)>(64:Int))) (k (a1,(-3:Int))) (outOf (stk_Permute a1 (1:Int) (List.take (2:Nat) (List.drop (0:Nat) [(0:Int),(0:Int)])) (64:Int)) fun x1=>cond (x1.2 != (0:Int)) (k (a1,x1.2)) (k (x1.1,(0:Int)))))
def Do_18 (a1:(List Int)):Option Do_18_R:=Do_18_t a1 some
theorem Do_18_t_eq {γ:Type}(a1:(List Int))(k:Do_18_R→Option γ):Do_18_t a1 k=outOf (Do_18 a1) k:=by
 delta Do_18 Do_18_t;exact(tN tL (tN tL (tB fun x1=>(tN tL tL))))
theorem Do_18_ev {α:Type}(a1:(List Int))(k:Kont α):evFun Tryz.prog SrEE7 (Do_18_h0) false Tryz.f26 (bodyOf Tryz.f26) 200 (mkS [.val (.int .i64), .val (.sl (.int .i64))] ((18:Int),a1,())) (mkH [] ()) (fun v H=>k (weakF v) H)=outOf (Do_18 a1) fun v=>k (.tup [.sl (.int .i64) v.1 false, .lit (.int .i64 v.2)]) []:=
 (show _=Do_18_t a1 (fun v=>k (.tup [.sl (.int .i64) v.1 false, .lit (.int .i64 v.2)]) []) from by kernel_rfl).trans (Do_18_t_eq a1 _)
def Do_19_h0:Hints:=Hints.nil 0
theorem Do_19_h0_ok:Do_19_h0.OK Tryz.prog (bodyOf Tryz.f26):=Hints.nil_ok
abbrev Do_19_R:Type:=((List Int)×Int)
def Do_19_t {γ:Type}(a1:(List Int))(k:Do_19_R→Option γ):Option γ:=cond (decide ((↑(List.length a1):Int)<(1:Int))) (k (a1,(-4:Int))) (cond (decide ((↑(List.length a1):Int)>(64:Int))) (k (a1,(-3:Int))) (outOf (stk_Permute a1 (1:Int) (List.take (0:Nat) (List.drop (0:Nat) [])) (64:Int)) fun x1=>cond (x1.2 != (0:Int)) (k (a1,x1.2)) (k (x1.1,(0:Int)))))
def Do_19 (a1:(List Int)):Option Do_19_R:=Do_19_t a1 some
theorem Do_19_t_eq {γ:Type}(a1:(List Int))(k:Do_19_R→Option γ):Do_19_t a1 k=outOf (Do_19 a1) k:=by
 delta Do_19 Do_19_t;exact(tN tL (tN tL (tB fun x1=>(tN tL tL))))
theorem Do_19_ev {α:Type}(a1:(List Int))(k:Kont α):evFun Tryz.prog SrEE7 (Do_19_h0) false Tryz.f26 (bodyOf Tryz.f26) 200 (mkS [.val (.int .i64), .val (.sl (.int .i64))] ((19:Int),a1,())) (mkH [] ()) (fun v H=>k (weakF v) H)=outOf (Do_19 a1) fun v=>k (.tup [.sl (.int .i64) v.1 false, .lit (.int .i64 v.2)]) []:=
 (show _=Do_19_t a1 (fun v=>k (.tup [.sl (.int .i64) v.1 false, .lit (.int .i64 v.2)]) []) from by kernel_rfl).trans (Do_19_t_eq a1 _)
def Do_20_h0:Hints:=Hints.nil 0
theorem Do_20_h0_ok:Do_20_h0.OK Tryz.prog (bodyOf Tryz.f26):=Hints.nil_ok
abbrev Do_20_R:Type:=((List Int)×Int)
def Do_20_t {γ:Type}(a1:(List Int))(k:Do_20_R→Option γ):Option γ:=cond (decide ((↑(List.length a1):Int)<(2:Int))) (k (a1,(-4:Int))) (cond (decide ((↑(List.length a1):Int)>(64:Int))) (k (a1,(-3:Int))) (outOf (stk_Permute a1 (2:Int) (List.take (2:Nat) (List.drop (0:Nat) [(1:Int),(0:Int)])) (64:Int)) fun x1=>cond (x1.2 != (0:Int)) (k (a1,x1.2)) (k (x1.1,(0:Int)))))
def Do_20 (a1:(List Int)):Option Do_20_R:=Do_20_t a1 some
theorem Do_20_t_eq {γ:Type}(a1:(List Int))(k:Do_20_R→Option γ):Do_20_t a1 k=outOf (Do_20 a1) k:=by
 delta Do_20 Do_20_t;exact(tN tL (tN tL (tB fun x1=>(tN tL tL))))
theorem Do_20_ev {α:Type}(a1:(List Int))(k:Kont α):evFun Tryz.prog SrEE7 (Do_20_h0) false Tryz.f26 (bodyOf Tryz.f26) 200 (mkS [.val (.int .i64), .val (.sl (.int .i64))] ((20:Int),a1,())) (mkH [] ()) (fun v H=>k (weakF v) H)=outOf (Do_20 a1) fun v=>k (.tup [.sl (.int .i64) v.1 false, .lit (.int .i64 v.2)]) []:=
 (show _=Do_20_t a1 (fun v=>k (.tup [.sl (.int .i64) v.1 false, .lit (.int .i64 v.2)]) []) from by kernel_rfl).trans (Do_20_t_eq a1 _)
def Do_21_h0:Hints:=Hints.nil 0
theorem Do_21_h0_ok:Do_21_h0.OK Tryz.prog (bodyOf Tryz.f26):=Hints.nil_ok
abbrev Do_21_R:Type:=((List Int)×Int)
def Do_21_t {γ:Type}(a1:(List Int))(k:Do_21_R→Option γ):Option γ:=cond (decide ((↑(List.length a1):Int)<(2:Int))) (k (a1,(-4:Int))) (cond (decide ((↑(List.length a1):Int)>(64:Int))) (k (a1,(-3:Int))) (outOf (stk_Permute a1 (2:Int) (List.take (3:Nat) (List.drop (0:Nat) [(0:Int),(1:Int),(0:Int)])) (64:Int)) fun x1=>cond (x1.2 != (0:Int)) (k (a1,x1.2)) (k (x1.1,(0:Int)))))
def Do_21 (a1:(List Int)):Option Do_21_R:=Do_21_t a1 some
theorem Do_21_t_eq {γ:Type}(a1:(List Int))(k:Do_21_R→Option γ):Do_21_t a1 k=outOf (Do_21 a1) k:=by
 delta Do_21 Do_21_t;exact(tN tL (tN tL (tB fun x1=>(tN tL tL))))
theorem Do_21_ev {α:Type}(a1:(List Int))(k:Kont α):evFun Tryz.prog SrEE7 (Do_21_h0) false Tryz.f26 (bodyOf Tryz.f26) 200 (mkS [.val (.int .i64), .val (.sl (.int .i64))] ((21:Int),a1,())) (mkH [] ()) (fun v H=>k (weakF v) H)=outOf (Do_21 a1) fun v=>k (.tup [.sl (.int .i64) v.1 false, .lit (.int .i64 v.2)]) []:=
 (show _=Do_21_t a1 (fun v=>k (.tup [.sl (.int .i64) v.1 false, .lit (.int .i64 v.2)]) []) from by kernel_rfl).trans (Do_21_t_eq a1 _)
def Do_22_h0:Hints:=Hints.nil 0
theorem Do_22_h0_ok:Do_22_h0.OK Tryz.prog (bodyOf Tryz.f26):=Hints.nil_ok
abbrev Do_22_R:Type:=((List Int)×Int)
def Do_22_t {γ:Type}(a1:(List Int))(k:Do_22_R→Option γ):Option γ:=cond (decide ((↑(List.length a1):Int)<(3:Int))) (k (a1,(-4:Int))) (cond (decide ((↑(List.length a1):Int)>(64:Int))) (k (a1,(-3:Int))) (outOf (stk_Permute a1 (3:Int) (List.take (3:Nat) (List.drop (0:Nat) [(1:Int),(2:Int),(0:Int)])) (64:Int)) fun x1=>cond (x1.2 != (0:Int)) (k (a1,x1.2)) (k (x1.1,(0:Int)))))
def Do_22 (a1:(List Int)):Option Do_22_R:=Do_22_t a1 some
theorem Do_22_t_eq {γ:Type}(a1:(List Int))(k:Do_22_R→Option γ):Do_22_t a1 k=outOf (Do_22 a1) k:=by
 delta Do_22 Do_22_t;exact(tN tL (tN tL (tB fun x1=>(tN tL tL))))
theorem Do_22_ev {α:Type}(a1:(List Int))(k:Kont α):evFun Tryz.prog SrEE7 (Do_22_h0) false Tryz.f26 (bodyOf Tryz.f26) 200 (mkS [.val (.int .i64), .val (.sl (.int .i64))] ((22:Int),a1,())) (mkH [] ()) (fun v H=>k (weakF v) H)=outOf (Do_22 a1) fun v=>k (.tup [.sl (.int .i64) v.1 false, .lit (.int .i64 v.2)]) []:=
 (show _=Do_22_t a1 (fun v=>k (.tup [.sl (.int .i64) v.1 false, .lit (.int .i64 v.2)]) []) from by kernel_rfl).trans (Do_22_t_eq a1 _)
def Do_23_h0:Hints:=Hints.nil 0
theorem Do_23_h0_ok:Do_23_h0.OK Tryz.prog (bodyOf Tryz.f26):=Hints.nil_ok
abbrev Do_23_R:Type:=((List Int)×Int)
def Do_23_t {γ:Type}(a1:(List Int))(k:Do_23_R→Option γ):Option γ:=cond (decide ((↑(List.length a1):Int)<(2:Int))) (k (a1,(-4:Int))) (cond (decide ((↑(List.length a1):Int)>(64:Int))) (k (a1,(-3:Int))) (outOf (stk_Permute a1 (2:Int) (List.take (1:Nat) (List.drop (0:Nat) [(1:Int)])) (64:Int)) fun x1=>cond (x1.2 != (0:Int)) (k (a1,x1.2)) (k (x1.1,(0:Int)))))
def Do_23 (a1:(List Int)):Option Do_23_R:=Do_23_t a1 some
theorem Do_23_t_eq {γ:Type}(a1:(List Int))(k:Do_23_R→Option γ):Do_23_t a1 k=outOf (Do_23 a1) k:=by
 delta Do_23 Do_23_t;exact(tN tL (tN tL (tB fun x1=>(tN tL tL))))
theorem Do_23_ev {α:Type}(a1:(List Int))(k:Kont α):evFun Tryz.prog SrEE7 (Do_23_h0) false Tryz.f26 (bodyOf Tryz.f26) 200 (mkS [.val (.int .i64), .val (.sl (.int .i64))] ((23:Int),a1,())) (mkH [] ()) (fun v H=>k (weakF v) H)=outOf (Do_23 a1) fun v=>k (.tup [.sl (.int .i64) v.1 false, .lit (.int .i64 v.2)]) []:=
 (show _=Do_23_t a1 (fun v=>k (.tup [.sl (.int .i64) v.1 false, .lit (.int .i64 v.2)]) []) from by kernel_rfl).trans (Do_23_t_eq a1 _)
def Do_24_h0:Hints:=Hints.nil 0
theorem Do_24_h0_ok:Do_24_h0.OK Tryz.prog (bodyOf Tryz.f26):=Hints.nil_ok
abbrev Do_24_R:Type:=((List Int)×Int)
def Do_24_t {γ:Type}(a1:(List Int))(k:Do_24_R→Option γ):Option γ:=cond (decide ((↑(List.length a1):Int)<(2:Int))) (k (a1,(-4:Int))) (cond (decide ((↑(List.length a1):Int)>(64:Int))) (k (a1,(-3:Int))) (outOf (stk_Permute a1 (2:Int) (List.take (3:Nat) (List.drop (0:Nat) [(1:Int),(0:Int),(1:Int)])) (64:Int)) fun x1=>cond (x1.2 != (0:Int)) (k (a1,x1.2)) (k (x1.1,(0:Int)))))
def Do_24 (a1:(List Int)):Option Do_24_R:=Do_24_t a1 some
theorem Do_24_t_eq {γ:Type}(a1:(List Int))(k:Do_24_R→Option γ):Do_24_t a1 k=outOf (Do_24 a1) k:=by
 delta Do_24 Do_24_t;exact(tN tL (tN tL (tB fun x1=>(tN tL tL))))
theorem Do_24_ev {α:Type}(a1:(List Int))(k:Kont α):evFun Tryz.prog SrEE7 (Do_24_h0) false Tryz.f26 (bodyOf Tryz.f26) 200 (mkS [.val (.int .i64), .val (.sl (.int .i64))] ((24:Int),a1,())) (mkH [] ()) (fun v H=>k (weakF v) H)=outOf (Do_24 a1) fun v=>k (.tup [.sl (.int .i64) v.1 false, .lit (.int .i64 v.2)]) []:=
 (show _=Do_24_t a1 (fun v=>k (.tup [.sl (.int .i64) v.1 false, .lit (.int .i64 v.2)]) []) from by kernel_rfl).trans (Do_24_t_eq a1 _)
def Do_25_h0:Hints:=Hints.nil 0
theorem Do_25_h0_ok:Do_25_h0.OK Tryz.prog (bodyOf Tryz.f26):=Hints.nil_ok
abbrev Do_25_R:Type:=((List Int)×Int)
def Do_25_t {γ:Type}(a1:(List Int))(k:Do_25_R→Option γ):Option γ:=cond (decide ((↑(List.length a1):Int)<(2:Int))) (k (a1,(-4:Int))) (cond (decide ((↑(List.length a1):Int)>(64:Int))) (k (a1,(-3:Int))) (outOf (stk_Permute a1 (2:Int) (List.take (4:Nat) (List.drop (0:Nat) [(0:Int),(1:Int),(0:Int),(1:Int)])) (64:Int)) fun x1=>cond (x1.2 != (0:Int)) (k (a1,x1.2)) (k (x1.1,(0:Int)))))
def Do_25 (a1:(List Int)):Option Do_25_R:=Do_25_t a1 some
theorem Do_25_t_eq {γ:Type}(a1:(List Int))(k:Do_25_R→Option γ):Do_25_t a1 k=outOf (Do_25 a1) k:=by
 delta Do_25 Do_25_t;exact(tN tL (tN tL (tB fun x1=>(tN tL tL))))
theorem Do_25_ev {α:Type}(a1:(List Int))(k:Kont α):evFun Tryz.prog SrEE7 (Do_25_h0) false Tryz.f26 (bodyOf Tryz.f26) 200 (mkS [.val (.int .i64), .val (.sl (.int .i64))] ((25:Int),a1,())) (mkH [] ()) (fun v H=>k (weakF v) H)=outOf (Do_25 a1) fun v=>k (.tup [.sl (.int .i64) v.1 false, .lit (.int .i64 v.2)]) []:=
 (show _=Do_25_t a1 (fun v=>k (.tup [.sl (.int .i64) v.1 false, .lit (.int .i64 v.2)]) []) from by kernel_rfl).trans (Do_25_t_eq a1 _)
def Do_26_h0:Hints:=Hints.nil 0
theorem Do_26_h0_ok:Do_26_h0.OK Tryz.prog (bodyOf Tryz.f26):=Hints.nil_ok
abbrev Do_26_R:Type:=((List Int)×Int)
def Do_26_t {γ:Type}(a1:(List Int))(k:Do_26_R→Option γ):Option γ:=cond (decide ((↑(List.length a1):Int)<(2:Int))) (k (a1,(-4:Int))) (cond (decide ((↑(List.length a1):Int)>(64:Int))) (k (a1,(-3:Int))) (outOf (stk_Permute a1 (2:Int) (List.take (0:Nat) (List.drop (0:Nat) [])) (64:Int)) fun x1=>cond (x1.2 != (0:Int)) (k (a1,x1.2)) (k (x1.1,(0:Int)))))
def Do_26 (a1:(List Int)):Option Do_26_R:=Do_26_t a1 some
theorem Do_26_t_eq {γ:Type}(a1:(List Int))(k:Do_26_R→Option γ):Do_26_t a1 k=outOf (Do_26 a1) k:=by
 delta Do_26 Do_26_t;exact(tN tL (tN tL (tB fun x1=>(tN tL tL))))
theorem Do_26_ev {α:Type}(a1:(List Int))(k:Kont α):evFun Tryz.prog SrEE7 (Do_26_h0) false Tryz.f26 (bodyOf Tryz.f26) 200 (mkS [.val (.int .i64), .val (.sl (.int .i64))] ((26:Int),a1,())) (mkH [] ()) (fun v H=>k (weakF v) H)=outOf (Do_26 a1) fun v=>k (.tup [.sl (.int .i64) v.1 false, .lit (.int .i64 v.2)]) []:=
 (show _=Do_26_t a1 (fun v=>k (.tup [.sl (.int .i64) v.1 false, .lit (.int .i64 v.2)]) []) from by kernel_rfl).trans (Do_26_t_eq a1 _)
def Do_27_h0:Hints:=Hints.nil 0
theorem Do_27_h0_ok:Do_27_h0.OK Tryz.prog (bodyOf Tryz.f26):=Hints.nil_ok
abbrev Do_27_R:Type:=((List Int)×Int)
def Do_27_t {γ:Type}(a1:(List Int))(k:Do_27_R→Option γ):Option γ:=cond (decide ((↑(List.length a1):Int)<(4:Int))) (k (a1,(-4:Int))) (cond (decide ((↑(List.length a1):Int)>(64:Int))) (k (a1,(-3:Int))) (outOf (stk_Permute a1 (4:Int) (List.take (4:Nat) (List.drop (0:Nat) [(2:Int),(3:Int),(0:Int),(1:Int)])) (64:Int)) fun x1=>cond (x1.2 != (0:Int)) (k (a1,x1.2)) (k (x1.1,(0:Int)))))
def Do_27 (a1:(List Int)):Option Do_27_R:=Do_27_t a1 some
theorem Do_27_t_eq {γ:Type}(a1:(List Int))(k:Do_27_R→Option γ):Do_27_t a1 k=outOf (Do_27 a1) k:=by
 delta Do_27 Do_27_t;exact(tN tL (tN tL (tB fun x1=>(tN tL tL))))
theorem Do_27_ev {α:Type}(a1:(List Int))(k:Kont α):evFun Tryz.prog SrEE7 (Do_27_h0) false Tryz.f26 (bodyOf Tryz.f26) 200 (mkS [.val (.int .i64), .val (.sl (.int .i64))] ((27:Int),a1,())) (mkH [] ()) (fun v H=>k (weakF v) H)=outOf (Do_27 a1) fun v=>k (.tup [.sl (.int .i64) v.1 false, .lit (.int .i64 v.2)]) []:=
 (show _=Do_27_t a1 (fun v=>k (.tup [.sl (.int .i64) v.1 false, .lit (.int .i64 v.2)]) []) from by kernel_rfl).trans (Do_27_t_eq a1 _)
def Do_28_h0:Hints:=Hints.nil 0
theorem Do_28_h0_ok:Do_28_h0.OK Tryz.prog (bodyOf Tryz.f26):=Hints.nil_ok
abbrev Do_28_R:Type:=((List Int)×Int)
def Do_28_t {γ:Type}(a1:(List Int))(k:Do_28_R→Option γ):Option γ:=cond (decide ((↑(List.length a1):Int)<(4:Int))) (k (a1,(-4:Int))) (cond (decide ((↑(List.length a1):Int)>(64:Int))) (k (a1,(-3:Int))) (outOf (stk_Permute a1 (4:Int) (List.take (6:Nat) (List.drop (0:Nat) [(0:Int),(1:Int),(2:Int),(3:Int),(0:Int),(1:Int)])) (64:Int)) fun x1=>cond (x1.2 != (0:Int)) (k (a1,x1.2)) (k (x1.1,(0:Int)))))
def Do_28 (a1:(List Int)):Option Do_28_R:=Do_28_t a1 some
theorem Do_28_t_eq {γ:Type}(a1:(List Int))(k:Do_28_R→Option γ):Do_28_t a1 k=outOf (Do_28 a1) k:=by
 delta Do_28 Do_28_t;exact(tN tL (tN tL (tB fun x1=>(tN tL tL))))
theorem Do_28_ev {α:Type}(a1:(List Int))(k:Kont α):evFun Tryz.prog SrEE7 (Do_28_h0) false Tryz.f26 (bodyOf Tryz.f26) 200 (mkS [.val (.int .i64), .val (.sl (.int .i64))] ((28:Int),a1,())) (mkH [] ()) (fun v H=>k (weakF v) H)=outOf (Do_28 a1) fun v=>k (.tup [.sl (.int .i64) v.1 false, .lit (.int .i64 v.2)]) []:=
 (show _=Do_28_t a1 (fun v=>k (.tup [.sl (.int .i64) v.1 false, .lit (.int .i64 v.2)]) []) from by kernel_rfl).trans (Do_28_t_eq a1 _)
def Do_29_h0:Hints:=Hints.nil 0
theorem Do_29_h0_ok:Do_29_h0.OK Tryz.prog (bodyOf Tryz.f26):=Hints.nil_ok
abbrev Do_29_R:Type:=((List Int)×Int)
def Do_29_t {γ:Type}(a1:(List Int))(k:Do_29_R→Option γ):Option γ:=cond (decide ((↑(List.length a1):Int)<(1:Int))) (k (a1,(-4:Int))) (cond (decide ((↑(List.length a1):Int)>(64:Int))) (k (a1,(-3:Int))) (outOf (stk_Pick a1 (0:Int)) fun x1=>cond (x1.1==(0:Int)) (k (a1,(0:Int))) (outOf (stk_Push a1 (64:Int) [x1.1]) fun x2=>cond (x2.2 != (0:Int)) (k (a1,x2.2)) (k (x2.1,(0:Int))))))
def Do_29 (a1:(List Int)):Option Do_29_R:=Do_29_t a1 some
theorem Do_29_t_eq {γ:Type}(a1:(List Int))(k:Do_29_R→Option γ):Do_29_t a1 k=outOf (Do_29 a1) k:=by
 delta Do_29 Do_29_t;exact(tN tL (tN tL (tB fun x1=>(tN tL (tB fun x2=>(tN tL tL))))))
theorem Do_29_ev {α:Type}(a1:(List Int))(k:Kont α):evFun Tryz.prog SrEE7 (Do_29_h0) false Tryz.f26 (bodyOf Tryz.f26) 200 (mkS [.val (.int .i64), .val (.sl (.int .i64))] ((29:Int),a1,())) (mkH [] ()) (fun v H=>k (weakF v) H)=outOf (Do_29 a1) fun v=>k (.tup [.sl (.int .i64) v.1 false, .lit (.int .i64 v.2)]) []:=
 (show _=Do_29_t a1 (fun v=>k (.tup [.sl (.int .i64) v.1 false, .lit (.int .i64 v.2)]) []) from by kernel_rfl).trans (Do_29_t_eq a1 _)
def Do_30_h0:Hints:=Hints.nil 0
theorem Do_30_h0_ok:Do_30_h0.OK Tryz.prog (bodyOf Tryz.f26):=Hints.nil_ok
abbrev Do_30_R:Type:=((List Int)×Int)
def Do_30_t {γ:Type}(a1:(List Int))(k:Do_30_R→Option γ):Option γ:=cond (decide ((↑(List.length a1):Int)<(1:Int))) (k (a1,(-4:Int))) (cond (decide ((↑(List.length a1):Int)>(64:Int))) (k (a1,(-3:Int))) (outOf (stk_Pop a1 (1:Int)) fun x1=>cond (decide ((0:Int)≤0∧(0:Int)< ↑(List.length x1.2.1))) (outOf (stk_Pick x1.1 (List.getD x1.2.1 (0:Nat) (0:Int))) fun x2=>cond (x2.2 != (0:Int)) (cond (x2.2 != (0:Int)) (k (a1,x2.2)) (k (a1,(0:Int)))) (outOf (stk_Push x1.1 (64:Int) [x2.1]) fun x3=>cond (x3.2 != (0:Int)) (k (a1,x3.2)) (k (x3.1,(0:Int))))) (none)))
def Do_30 (a1:(List Int)):Option Do_30_R:=Do_30_t a1 some
theorem Do_30_t_eq {γ:Type}(a1:(List Int))(k:Do_30_R→Option γ):Do_30_t a1 k=outOf (Do_30 a1) k:=by
 delta Do_30 Do_30_t;exact(tN tL (tN tL (tB fun x1=>(tN (tB fun x2=>(tN (tN tL tL) (tB fun x3=>(tN tL tL)))) tO))))
theorem Do_30_ev {α:Type}(a1:(List Int))(k:Kont α):evFun Tryz.prog SrEE7 (Do_30_h0) false Tryz.f26 (bodyOf Tryz.f26) 200 (mkS [.val (.int .i64), .val (.sl (.int .i64))] ((30:Int),a1,())) (mkH [] ()) (fun v H=>k (weakF v) H)=outOf (Do_30 a1) fun v=>k (.tup [.sl (.int .i64) v.1 false, .lit (.int .i64 v.2)]) []:=
 (show _=Do_30_t a1 (fun v=>k (.tup [.sl (.int .i64) v.1 false, .lit (.int .i64 v.2)]) []) from by kernel_rfl).trans (Do_30_t_eq a1 _)
def Do_31_h0:Hints:=Hints.nil 0
theorem Do_31_h0_ok:Do_31_h0.OK Tryz.prog (bodyOf Tryz.f26):=Hints.nil_ok
abbrev Do_31_R:Type:=((List Int)×Int)
def Do_31_t {γ:Type}(a1:(List Int))(k:Do_31_R→Option γ):Option γ:=cond (decide ((↑(List.length a1):Int)<(1:Int))) (k (a1,(-4:Int))) (cond (decide ((↑(List.length a1):Int)>(64:Int))) (k (a1,(-3:Int))) (outOf (stk_Pop a1 (1:Int)) fun x1=>cond (decide ((0:Int)≤0∧(0:Int)< ↑(List.length x1.2.1))) (outOf (stk_Roll x1.1 (List.getD x1.2.1 (0:Nat) (0:Int))) fun x2=>cond (x2.2 != (0:Int)) (k (a1,x2.2)) (k (x2.1,(0:Int)))) (none)))
def Do_31 (a1:(List Int)):Option Do_31_R:=Do_31_t a1 some
theorem Do_31_t_eq {γ:Type}(a1:(List Int))(k:Do_31_R→Option γ):Do_31_t a1 k=outOf (Do_31 a1) k:=by
 delta Do_31 Do_31_t;exact(tN tL (tN tL (tB fun x1=>(tN (tB fun x2=>(tN tL tL)) tO))))
theorem Do_31_ev {α:Type}(a1:(List Int))(k:Kont α):evFun Tryz.prog SrEE7 (Do_31_h0) false Tryz.f26 (bodyOf Tryz.f26) 200 (mkS [.val (.int .i64), .val (.sl (.int .i64))] ((31:Int),a1,())) (mkH [] ()) (fun v H=>k (weakF v) H)=outOf (Do_31 a1) fun v=>k (.tup [.sl (.int .i64) v.1 false, .lit (.int .i64 v.2)]) []:=
 (show _=Do_31_t a1 (fun v=>k (.tup [.sl (.int .i64) v.1 false, .lit (.int .i64 v.2)]) []) from by kernel_rfl).trans (Do_31_t_eq a1 _)
def Do_32_h0:Hints:=Hints.nil 0
theorem Do_32_h0_ok:Do_32_h0.OK Tryz.prog (bodyOf Tryz.f26):=Hints.nil_ok
abbrev Do_32_R:Type:=((List Int)×Int)
def Do_32_t {γ:Type}(a1:(List Int))(k:Do_32_R→Option γ):Option γ:=cond (decide ((↑(List.length a1):Int)<(0:Int))) (k (a1,(-4:Int))) (cond (decide ((↑(List.length a1):Int)>(64:Int))) (k (a1,(-3:Int))) (outOf (stk_Push a1 (64:Int) [(↑(List.length a1):Int)]) fun x1=>cond (x1.2 != (0:Int)) (k (a1,x1.2)) (k (x1.1,(0:Int)))))
def Do_32 (a1:(List Int)):Option Do_32_R:=Do_32_t a1 some
theorem Do_32_t_eq {γ:Type}(a1:(List Int))(k:Do_32_R→Option γ):Do_32_t a1 k=outOf (Do_32 a1) k:=by
 delta Do_32 Do_32_t;exact(tN tL (tN tL (tB fun x1=>(tN tL tL))))
theorem Do_32_ev {α:Type}(a1:(List Int))(k:Kont α):evFun Tryz.prog SrEE7 (Do_32_h0) false Tryz.f26 (bodyOf Tryz.f26) 200 (mkS [.val (.int .i64), .val (.sl (.int .i64))] ((32:Int),a1,())) (mkH [] ()) (fun v H=>k (weakF v) H)=outOf (Do_32 a1) fun v=>k (.tup [.sl (.int .i64) v.1 false, .lit (.int .i64 v.2)]) []:=
 (show _=Do_32_t a1 (fun v=>k (.tup [.sl (.int .i64) v.1 false, .lit (.int .i64 v.2)]) []) from by kernel_rfl).trans (Do_32_t_eq a1 _)
def Do_33_h0:Hints:=Hints.nil 0
theorem Do_33_h0_ok:Do_33_h0.OK Tryz.prog (bodyOf Tryz.f26):=Hints.nil_ok
abbrev Do_33_R:Type:=((List Int)×Int)
def Do_33_t {γ:Type}(a1:(List Int))(k:Do_33_R→Option γ):Option γ:=cond (decide ((↑(List.length a1):Int)<(2:Int))) (k (a1,(-4:Int))) (cond (decide ((↑(List.length a1):Int)>(64:Int))) (k (a1,(-3:Int))) (outOf (stk_Pop a1 (2:Int)) fun x1=>cond (decide ((0:Int)≤0∧(0:Int)< ↑(List.length x1.2.1))) (cond (decide ((0:Int)≤1∧(1:Int)< ↑(List.length x1.2.1))) (outOf (stk_Push x1.1 (64:Int) [IntKind.wrap .i64 (List.getD x1.2.1 (0:Nat) (0:Int)+List.getD x1.2.1 (1:Nat) (0:Int))]) fun x2=>cond (x2.2 != (0:Int)) (cond (x2.2 != (0:Int)) (k (a1,x2.2)) (k (a1,(0:Int)))) (k (x2.1,(0:Int)))) (none)) (none)))
def Do_33 (a1:(List Int)):Option Do_33_R:=Do_33_t a1 some
theorem Do_33_t_eq {γ:Type}(a1:(List Int))(k:Do_33_R→Option γ):Do_33_t a1 k=outOf (Do_33 a1) k:=by
 delta Do_33 Do_33_t;exact(tN tL (tN tL (tB fun x1=>(tN (tN (tB fun x2=>(tN (tN tL tL) tL)) tO) tO))))
theorem Do_33_ev {α:Type}(a1:(List Int))(k:Kont α):evFun Tryz.prog SrEE7 (Do_33_h0) false Tryz.f26 (bodyOf Tryz.f26) 200 (mkS [.val (.int .i64), .val (.sl (.int .i64))] ((33:Int),a1,())) (mkH [] ()) (fun v H=>k (weakF v) H)=outOf (Do_33 a1) fun v=>k (.tup [.sl (.int .i64) v.1 false, .lit (.int .i64 v.2)]) []:=
 (show _=Do_33_t a1 (fun v=>k (.tup [.sl (.int .i64) v.1 false, .lit (.int .i64 v.2)]) []) from by kernel_rfl).trans (Do_33_t_eq a1 _)
def Do_34_h0:Hints:=Hints.nil 0
theorem Do_34_h0_ok:Do_34_h0.OK Tryz.prog (bodyOf Tryz.f26):=Hints.nil_ok
abbrev Do_34_R:Type:=((List Int)×Int)
def Do_34_t {γ:Type}(a1:(List Int))(k:Do_34_R→Option γ):Option γ:=cond (decide ((↑(List.length a1):Int)<(2:Int))) (k (a1,(-4:Int))) (cond (decide ((↑(List.length a1):Int)>(64:Int))) (k (a1,(-3:Int))) (outOf (stk_Pop a1 (2:Int)) fun x1=>cond (decide ((0:Int)≤0∧(0:Int)< ↑(List.length x1.2.1))) (cond (decide ((0:Int)≤1∧(1:Int)< ↑(List.length x1.2.1))) (outOf (stk_Push x1.1 (64:Int) [IntKind.wrap .i64 (List.getD x1.2.1 (0:Nat) (0:Int)-List.getD x1.2.1 (1:Nat) (0:Int))]) fun x2=>cond (x2.2 != (0:Int)) (cond (x2.2 != (0:Int)) (k (a1,x2.2)) (k (a1,(0:Int)))) (k (x2.1,(0:Int)))) (none)) (none)))
def Do_34 (a1:(List Int)):Option Do_34_R:=Do_34_t a1 some
theorem Do_34_t_eq {γ:Type}(a1:(List Int))(k:Do_34_R→Option γ):Do_34_t a1 k=outOf (Do_34 a1) k:=by
 delta Do_34 Do_34_t;exact(tN tL (tN tL (tB fun x1=>(tN (tN (tB fun x2=>(tN (tN tL tL) tL)) tO) tO))))
theorem Do_34_ev {α:Type}(a1:(List Int))(k:Kont α):evFun Tryz.prog SrEE7 (Do_34_h0) false Tryz.f26 (bodyOf Tryz.f26) 200 (mkS [.val (.int .i64), .val (.sl (.int .i64))] ((34:Int),a1,())) (mkH [] ()) (fun v H=>k (weakF v) H)=outOf (Do_34 a1) fun v=>k (.tup [.sl (.int .i64) v.1 false, .lit (.int .i64 v.2)]) []:=
 (show _=Do_34_t a1 (fun v=>k (.tup [.sl (.int .i64) v.1 false, .lit (.int .i64 v.2)]) []) from by kernel_rfl).trans (Do_34_t_eq a1 _)
def Do_35_h0:Hints:=Hints.nil 0
theorem Do_35_h0_ok:Do_35_h0.OK Tryz.prog (bodyOf Tryz.f26):=Hints.nil_ok
abbrev Do_35_R:Type:=((List Int)×Int)
def Do_35_t {γ:Type}(a1:(List Int))(k:Do_35_R→Option γ):Option γ:=cond (decide ((↑(List.length a1):Int)<(2:Int))) (k (a1,(-4:Int))) (cond (decide ((↑(List.length a1):Int)>(64:Int))) (k (a1,(-3:Int))) (outOf (stk_Pop a1 (2:Int)) fun x1=>cond (decide ((0:Int)≤0∧(0:Int)< ↑(List.length x1.2.1))) (cond (decide ((0:Int)≤1∧(1:Int)< ↑(List.length x1.2.1))) (outOf (stk_Push x1.1 (64:Int) [IntKind.wrap .i64 (List.getD x1.2.1 (0:Nat) (0:Int)*List.getD x1.2.1 (1:Nat) (0:Int))]) fun x2=>cond (x2.2 != (0:Int)) (cond (x2.2 != (0:Int)) (k (a1,x2.2)) (k (a1,(0:Int)))) (k (x2.1,(0:Int)))) (none)) (none)))
def Do_35 (a1:(List Int)):Option Do_35_R:=Do_35_t a1 some
theorem Do_35_t_eq {γ:Type}(a1:(List Int))(k:Do_35_R→Option γ):Do_35_t a1 k=outOf (Do_35 a1) k:=by
 delta Do_35 Do_35_t;exact(tN tL (tN tL (tB fun x1=>(tN (tN (tB fun x2=>(tN (tN tL tL) tL)) tO) tO))))
theorem Do_35_ev {α:Type}(a1:(List Int))(k:Kont α):evFun Tryz.prog SrEE7 (Do_35_h0) false Tryz.f26 (bodyOf Tryz.f26) 200 (mkS [.val (.int .i64), .val (.sl (.int .i64))] ((35:Int),a1,())) (mkH [] ()) (fun v H=>k (weakF v) H)=outOf (Do_35 a1) fun v=>k (.tup [.sl (.int .i64) v.1 false, .lit (.int .i64 v.2)]) []:=
 (show _=Do_35_t a1 (fun v=>k (.tup [.sl (.int .i64) v.1 false, .lit (.int .i64 v.2)]) []) from by kernel_rfl).trans (Do_35_t_eq a1 _)
def Do_36_h0:Hints:=Hints.nil 0
theorem Do_36_h0_ok:Do_36_h0.OK Tryz.prog (bodyOf Tryz.f26):=Hints.nil_ok
abbrev Do_36_R:Type:=((List Int)×Int)
def Do_36_t {γ:Type}(a1:(List Int))(k:Do_36_R→Option γ):Option γ:=cond (decide ((↑(List.length a1):Int)<(2:Int))) (k (a1,(-4:Int))) (cond (decide ((↑(List.length a1):Int)>(64:Int))) (k (a1,(-3:Int))) (outOf (stk_Pop a1 (2:Int)) fun x1=>cond (decide ((0:Int)≤0∧(0:Int)< ↑(List.length x1.2.1))) (cond (decide ((0:Int)≤1∧(1:Int)< ↑(List.length x1.2.1))) (outOf (cell_Floor (List.getD x1.2.1 (0:Nat) (0:Int)) (List.getD x1.2.1 (1:Nat) (0:Int))) fun x2=>outOf (stk_Push x1.1 (64:Int) (List.take (1:Nat) (List.drop (0:Nat) [List.getD [x2.2.1,x2.1] (1:Nat) (0:Int)]))) fun x3=>cond (x3.2 != (0:Int)) (cond (x3.2 != (0:Int)) (k (a1,x3.2)) (k (a1,(0:Int)))) (cond (x2.2.2 != (0:Int)) (k (a1,x2.2.2)) (k (x3.1,(0:Int))))) (none)) (none)))
def Do_36 (a1:(List Int)):Option Do_36_R:=Do_36_t a1 some
theorem Do_36_t_eq {γ:Type}(a1:(List Int))(k:Do_36_R→Option γ):Do_36_t a1 k=outOf (Do_36 a1) k:=by
 delta Do_36 Do_36_t;exact(tN tL (tN tL (tB fun x1=>(tN (tN (tB fun x2=>(tB fun x3=>(tN (tN tL tL) (tN tL tL)))) tO) tO))))
theorem Do_36_ev {α:Type}(a1:(List Int))(k:Kont α):evFun Tryz.prog SrEE7 (Do_36_h0) false Tryz.f26 (bodyOf Tryz.f26) 200 (mkS [.val (.int .i64), .val (.sl (.int .i64))] ((36:Int),a1,())) (mkH [] ()) (fun v H=>k (weakF v) H)=outOf (Do_36 a1) fun v=>k (.tup [.sl (.int .i64) v.1 false, .lit (.int .i64 v.2)]) []:=
 (show _=Do_36_t a1 (fun v=>k (.tup [.sl (.int .i64) v.1 false, .lit (.int .i64 v.2)]) []) from by kernel_rfl).trans (Do_36_t_eq a1 _)
def Do_37_h0:Hints:=Hints.nil 0
theorem Do_37_h0_ok:Do_37_h0.OK Tryz.prog (bodyOf Tryz.f26):=Hints.nil_ok
abbrev Do_37_R:Type:=((List Int)×Int)
def Do_37_t {γ:Type}(a1:(List Int))(k:Do_37_R→Option γ):Option γ:=cond (decide ((↑(List.length a1):Int)<(2:Int))) (k (a1,(-4:Int))) (cond (decide ((↑(List.length a1):Int)>(64:Int))) (k (a1,(-3:Int))) (outOf (stk_Pop a1 (2:Int)) fun x1=>cond (decide ((0:Int)≤0∧(0:Int)< ↑(List.length x1.2.1))) (cond (decide ((0:Int)≤1∧(1:Int)< ↑(List.length x1.2.1))) (outOf (cell_Floor (List.getD x1.2.1 (0:Nat) (0:Int)) (List.getD x1.2.1 (1:Nat) (0:Int))) fun x2=>outOf (stk_Push x1.1 (64:Int) (List.take (1:Nat) (List.drop (0:Nat) [List.getD [x2.2.1,x2.1] (0:Nat) (0:Int)]))) fun x3=>cond (x3.2 != (0:Int)) (cond (x3.2 != (0:Int)) (k (a1,x3.2)) (k (a1,(0:Int)))) (cond (x2.2.2 != (0:Int)) (k (a1,x2.2.2)) (k (x3.1,(0:Int))))) (none)) (none)))
def Do_37 (a1:(List Int)):Option Do_37_R:=Do_37_t a1 some
theorem Do_37_t_eq {γ:Type}(a1:(List Int))(k:Do_37_R→Option γ):Do_37_t a1 k=outOf (Do_37 a1) k:=by
 delta Do_37 Do_37_t;exact(tN tL (tN tL (tB fun x1=>(tN (tN (tB fun x2=>(tB fun x3=>(tN (tN tL tL) (tN tL tL)))) tO) tO))))
theorem Do_37_ev {α:Type}(a1:(List Int))(k:Kont α):evFun Tryz.prog SrEE7 (Do_37_h0) false Tryz.f26 (bodyOf Tryz.f26) 200 (mkS [.val (.int .i64), .val (.sl (.int .i64))] ((37:Int),a1,())) (mkH [] ()) (fun v H=>k (weakF v) H)=outOf (Do_37 a1) fun v=>k (.tup [.sl (.int .i64) v.1 false, .lit (.int .i64 v.2)]) []:=
 (show _=Do_37_t a1 (fun v=>k (.tup [.sl (.int .i64) v.1 false, .lit (.int .i64 v.2)]) []) from by kernel_rfl).trans (Do_37_t_eq a1 _)
def Do_38_h0:Hints:=Hints.nil 0
theorem Do_38_h0_ok:Do_38_h0.OK Tryz.prog (bodyOf Tryz.f26):=Hints.nil_ok
abbrev Do_38_R:Type:=((List Int)×Int)
def Do_38_t {γ:Type}(a1:(List Int))(k:Do_38_R→Option γ):Option γ:=cond (decide ((↑(List.length a1):Int)<(2:Int))) (k (a1,(-4:Int))) (cond (decide ((↑(List.length a1):Int)>(64:Int))) (k (a1,(-3:Int))) (outOf (stk_Pop a1 (2:Int)) fun x1=>cond (decide ((0:Int)≤0∧(0:Int)< ↑(List.length x1.2.1))) (cond (decide ((0:Int)≤1∧(1:Int)< ↑(List.length x1.2.1))) (outOf (cell_Floor (List.getD x1.2.1 (0:Nat) (0:Int)) (List.getD x1.2.1 (1:Nat) (0:Int))) fun x2=>outOf (stk_Push x1.1 (64:Int) (List.take (2:Nat) (List.drop (0:Nat) (List.take (1:Nat) (List.drop (0:Nat) [List.getD [x2.2.1,x2.1] (0:Nat) (0:Int)])++[List.getD [x2.2.1,x2.1] (1:Nat) (0:Int)])))) fun x3=>cond (x3.2 != (0:Int)) (cond (x3.2 != (0:Int)) (k (a1,x3.2)) (k (a1,(0:Int)))) (cond (x2.2.2 != (0:Int)) (k (a1,x2.2.2)) (k (x3.1,(0:Int))))) (none)) (none)))
def Do_38 (a1:(List Int)):Option Do_38_R:=Do_38_t a1 some
theorem Do_38_t_eq {γ:Type}(a1:(List Int))(k:Do_38_R→Option γ):Do_38_t a1 k=outOf (Do_38 a1) k:=by
 delta Do_38 Do_38_t;exact(tN tL (tN tL (tB fun x1=>(tN (tN (tB fun x2=>(tB fun x3=>(tN (tN tL tL) (tN tL tL)))) tO) tO))))
theorem Do_38_ev {α:Type}(a1:(List Int))(k:Kont α):evFun Tryz.prog SrEE7 (Do_38_h0) false Tryz.f26 (bodyOf Tryz.f26) 200 (mkS [.val (.int .i64), .val (.sl (.int .i64))] ((38:Int),a1,())) (mkH [] ()) (fun v H=>k (weakF v) H)=outOf (Do_38 a1) fun v=>k (.tup [.sl (.int .i64) v.1 false, .lit (.int .i64 v.2)]) []:=
 (show _=Do_38_t a1 (fun v=>k (.tup [.sl (.int .i64) v.1 false, .lit (.int .i64 v.2)]) []) from by kernel_rfl).trans (Do_38_t_eq a1 _)
def Do_39_h0:Hints:=Hints.nil 0
theorem Do_39_h0_ok:Do_39_h0.OK Tryz.prog (bodyOf Tryz.f26):=Hints.nil_ok
abbrev Do_39_R:Type:=((List Int)×Int)
def Do_39_t {γ:Type}(a1:(List Int))(k:Do_39_R→Option γ):Option γ:=cond (decide ((↑(List.length a1):Int)<(3:Int))) (k (a1,(-4:Int))) (cond (decide ((↑(List.length a1):Int)>(64:Int))) (k (a1,(-3:Int))) (outOf (stk_Pop a1 (3:Int)) fun x1=>cond (decide ((0:Int)≤0∧(0:Int)< ↑(List.length x1.2.1))) (cond (decide ((0:Int)≤1∧(1:Int)< ↑(List.length x1.2.1))) (cond (decide ((0:Int)≤2∧(2:Int)< ↑(List.length x1.2.1))) (outOf (dbl_Scale (List.getD x1.2.1 (0:Nat) (0:Int)) (List.getD x1.2.1 (1:Nat) (0:Int)) (List.getD x1.2.1 (2:Nat) (0:Int))) fun x2=>outOf (stk_Push x1.1 (64:Int) (List.take (1:Nat) (List.drop (0:Nat) [List.getD [x2.1,x2.2.1] (1:Nat) (0:Int)]))) fun x3=>cond (x3.2 != (0:Int)) (cond (x3.2 != (0:Int)) (k (a1,x3.2)) (k (a1,(0:Int)))) (cond (x2.2.2 != (0:Int)) (k (a1,x2.2.2)) (k (x3.1,(0:Int))))) (none)) (none)) (none)))
def Do_39 (a1:(List Int)):Option Do_39_R:=Do_39_t a1 some
theorem Do_39_t_eq {γ:Type}(a1:(List Int))(k:Do_39_R→Option γ):Do_39_t a1 k=outOf (Do_39 a1) k:=by
 delta Do_39 Do_39_t;exact(tN tL (tN tL (tB fun x1=>(tN (tN (tN (tB fun x2=>(tB fun x3=>(tN (tN tL tL) (tN tL tL)))) tO) tO) tO))))
theorem Do_39_ev {α:Type}(a1:(List Int))(k:Kont α):evFun Tryz.prog SrEE7 (Do_39_h0) false Tryz.f26 (bodyOf Tryz.f26) 200 (mkS [.val (.int .i64), .val (.sl (.int .i64))] ((39:Int),a1,())) (mkH [] ()) (fun v H=>k (weakF v) H)=outOf (Do_39 a1) fun v=>k (.tup [.sl (.int .i64) v.1 false, .lit (.int .i64 v.2)]) []:=
 (show _=Do_39_t a1 (fun v=>k (.tup [.sl (.int .i64) v.1 false, .lit (.int .i64 v.2)]) []) from by kernel_rfl).trans (Do_39_t_eq a1 _)
def Do_40_h0:Hints:=Hints.nil 0
theorem Do_40_h0_ok:Do_40_h0.OK Tryz.prog (bodyOf Tryz.f26):=Hints.nil_ok
abbrev Do_40_R:Type:=((List Int)×Int)
def Do_40_t {γ:Type}(a1:(List Int))(k:Do_40_R→Option γ):Option γ:=cond (decide ((↑(List.length a1):Int)<(3:Int))) (k (a1,(-4:Int))) (cond (decide ((↑(List.length a1):Int)>(64:Int))) (k (a1,(-3:Int))) (outOf (stk_Pop a1 (3:Int)) fun x1=>cond (decide ((0:Int)≤0∧(0:Int)< ↑(List.length x1.2.1))) (cond (decide ((0:Int)≤1∧(1:Int)< ↑(List.length x1.2.1))) (cond (decide ((0:Int)≤2∧(2:Int)< ↑(List.length x1.2.1))) (outOf (dbl_Scale (List.getD x1.2.1 (0:Nat) (0:Int)) (List.getD x1.2.1 (1:Nat) (0:Int)) (List.getD x1.2.1 (2:Nat) (0:Int))) fun x2=>outOf (stk_Push x1.1 (64:Int) (List.take (2:Nat) (List.drop (0:Nat) (List.take (1:Nat) (List.drop (0:Nat) [List.getD [x2.1,x2.2.1] (0:Nat) (0:Int)])++[List.getD [x2.1,x2.2.1] (1:Nat) (0:Int)])))) fun x3=>cond (x3.2 != (0:Int)) (cond (x3.2 != (0:Int)) (k (a1,x3.2)) (k (a1,(0:Int)))) (cond (x2.2.2 != (0:Int)) (k (a1,x2.2.2)) (k (x3.1,(0:Int))))) (none)) (none)) (none)))
def Do_40 (a1:(List Int)):Option Do_40_R:=Do_40_t a1 some
theorem Do_40_t_eq {γ:Type}(a1:(List Int))(k:Do_40_R→Option γ):Do_40_t a1 k=outOf (Do_40 a1) k:=by
 delta Do_40 Do_40_t;exact(tN tL (tN tL (tB fun x1=>(tN (tN (tN (tB fun x2=>(tB fun x3=>(tN (tN tL tL) (tN tL tL)))) tO) tO) tO))))
theorem Do_40_ev {α:Type}(a1:(List Int))(k:Kont α):evFun Tryz.prog SrEE7 (Do_40_h0) false Tryz.f26 (bodyOf Tryz.f26) 200 (mkS [.val (.int .i64), .val (.sl (.int .i64))] ((40:Int),a1,())) (mkH [] ()) (fun v H=>k (weakF v) H)=outOf (Do_40 a1) fun v=>k (.tup [.sl (.int .i64) v.1 false, .lit (.int .i64 v.2)]) []:=
 (show _=Do_40_t a1 (fun v=>k (.tup [.sl (.int .i64) v.1 false, .lit (.int .i64 v.2)]) []) from by kernel_rfl).trans (Do_40_t_eq a1 _)
def Do_41_h0:Hints:=Hints.nil 0
theorem Do_41_h0_ok:Do_41_h0.OK Tryz.prog (bodyOf Tryz.f26):=Hints.nil_ok
abbrev Do_41_R:Type:=((List Int)×Int)
def Do_41_t {γ:Type}(a1:(List Int))(k:Do_41_R→Option γ):Option γ:=cond (decide ((↑(List.length a1):Int)<(1:Int))) (k (a1,(-4:Int))) (cond (decide ((↑(List.length a1):Int)>(64:Int))) (k (a1,(-3:Int))) (outOf (stk_Pop a1 (1:Int)) fun x1=>cond (decide ((0:Int)≤0∧(0:Int)< ↑(List.length x1.2.1))) (outOf (stk_Push x1.1 (64:Int) [IntKind.wrap .i64 (List.getD x1.2.1 (0:Nat) (0:Int)+(1:Int))]) fun x2=>cond (x2.2 != (0:Int)) (cond (x2.2 != (0:Int)) (k (a1,x2.2)) (k (a1,(0:Int)))) (k (x2.1,(0:Int)))) (none)))
def Do_41 (a1:(List Int)):Option Do_41_R:=Do_41_t a1 some
theorem Do_41_t_eq {γ:Type}(a1:(List Int))(k:Do_41_R→Option γ):Do_41_t a1 k=outOf (Do_41 a1) k:=by
 delta Do_41 Do_41_t;exact(tN tL (tN tL (tB fun x1=>(tN (tB fun x2=>(tN (tN tL tL) tL)) tO))))
theorem Do_41_ev {α:Type}(a1:(List Int))(k:Kont α):evFun Tryz.prog SrEE7 (Do_41_h0) false Tryz.f26 (bodyOf Tryz.f26) 200 (mkS [.val (.int .i64), .val (.sl (.int .i64))] ((41:Int),a1,())) (mkH [] ()) (fun v H=>k (weakF v) H)=outOf (Do_41 a1) fun v=>k (.tup [.sl (.int .i64) v.1 false, .lit (.int .i64 v.2)]) []:=
 (show _=Do_41_t a1 (fun v=>k (.tup [.sl (.int .i64) v.1 false, .lit (.int .i64 v.2)]) []) from by kernel_rfl).trans (Do_41_t_eq a1 _)
end
end Go.Proofs.Dbl
namespace Go.Proofs.Dbl
open Go Go.TX Go.Proofs
set_option maxRecDepth 100000
set_option linter.unusedVariables false
set_option maxHeartbeats 0
noncomputable section
def Do_42_h0:Hints:=Hints.nil 0
theorem Do_42_h0_ok:Do_42_h0.OK Tryz.prog (bodyOf Tryz.f26):=Hints.nil_ok
abbrev Do_42_R:Type:=((List Int)×Int)
def Do_42_t {γ:Type}(a1:(List Int))(k:Do_42_R→Option γ):Option γ:=cond (decide ((↑(List.length a1):Int)<(1:Int))) (k (a1,(-4:Int))) (cond (decide ((↑(List.length a1):Int)>(64:Int))) (k (a1,(-3:Int))) (outOf (stk_Pop a1 (1:Int)) fun x1=>cond (decide ((0:Int)≤0∧(0:Int)< ↑(List.length x1.2.1))) (outOf (stk_Push x1.1 (64:Int) [IntKind.wrap .i64 (List.getD x1.2.1 (0:Nat) (0:Int)-(1:Int))]) fun x2=>cond (x2.2 != (0:Int)) (cond (x2.2 != (0:Int)) (k (a1,x2.2)) (k (a1,(0:Int)))) (k (x2.1,(0:Int)))) (none)))
def Do_42 (a1:(List Int)):Option Do_42_R:=Do_42_t a1 some
theorem Do_42_t_eq {γ:Type}(a1:(List Int))(k:Do_42_R→Option γ):Do_42_t a1 k=outOf (Do_42 a1) k:=by
 delta Do_42 Do_42_t;exact(tN tL (tN tL (tB fun x1=>(tN (tB fun x2=>(tN (tN tL tL) tL)) tO))))
theorem Do_42_ev {α:Type}(a1:(List Int))(k:Kont α):evFun Tryz.prog SrEE7 (Do_42_h0) false Tryz.f26 (bodyOf Tryz.f26) 200 (mkS [.val (.int .i64), .val (.sl (.int .i64))] ((42:Int),a1,())) (mkH [] ()) (fun v H=>k (weakF v) H)=outOf (Do_42 a1) fun v=>k (.tup [.sl (.int .i64) v.1 false, .lit (.int .i64 v.2)]) []:=
 (show _=Do_42_t a1 (fun v=>k (.tup [.sl (.int .i64) v.1 false, .lit (.int .i64 v.2)]) []) from by kernel_rfl).trans (Do_42_t_eq a1 _)
def Do_43_h0:Hints:=Hints.nil 0
theorem Do_43_h0_ok:Do_43_h0.OK Tryz.prog (bodyOf Tryz.f26):=Hints.nil_ok
abbrev Do_43_R:Type:=((List Int)×Int)
def Do_43_t {γ:Type}(a1:(List Int))(k:Do_43_R→Option γ):Option γ:=cond (decide ((↑(List.length a1):Int)<(1:Int))) (k (a1,(-4:Int))) (cond (decide ((↑(List.length a1):Int)>(64:Int))) (k (a1,(-3:Int))) (outOf (stk_Pop a1 (1:Int)) fun x1=>cond (decide ((0:Int)≤0∧(0:Int)< ↑(List.length x1.2.1))) (outOf (stk_Push x1.1 (64:Int) [IntKind.wrap .i64 (List.getD x1.2.1 (0:Nat) (0:Int)*(2:Int))]) fun x2=>cond (x2.2 != (0:Int)) (cond (x2.2 != (0:Int)) (k (a1,x2.2)) (k (a1,(0:Int)))) (k (x2.1,(0:Int)))) (none)))
def Do_43 (a1:(List Int)):Option Do_43_R:=Do_43_t a1 some
theorem Do_43_t_eq {γ:Type}(a1:(List Int))(k:Do_43_R→Option γ):Do_43_t a1 k=outOf (Do_43 a1) k:=by
 delta Do_43 Do_43_t;exact(tN tL (tN tL (tB fun x1=>(tN (tB fun x2=>(tN (tN tL tL) tL)) tO))))
theorem Do_43_ev {α:Type}(a1:(List Int))(k:Kont α):evFun Tryz.prog SrEE7 (Do_43_h0) false Tryz.f26 (bodyOf Tryz.f26) 200 (mkS [.val (.int .i64), .val (.sl (.int .i64))] ((43:Int),a1,())) (mkH [] ()) (fun v H=>k (weakF v) H)=outOf (Do_43 a1) fun v=>k (.tup [.sl (.int .i64) v.1 false, .lit (.int .i64 v.2)]) []:=
 (show _=Do_43_t a1 (fun v=>k (.tup [.sl (.int .i64) v.1 false, .lit (.int .i64 v.2)]) []) from by kernel_rfl).trans (Do_43_t_eq a1 _)
def Do_44_h0:Hints:=Hints.nil 0
theorem Do_44_h0_ok:Do_44_h0.OK Tryz.prog (bodyOf Tryz.f26):=Hints.nil_ok
abbrev Do_44_R:Type:=((List Int)×Int)
def Do_44_t {γ:Type}(a1:(List Int))(k:Do_44_R→Option γ):Option γ:=cond (decide ((↑(List.length a1):Int)<(1:Int))) (k (a1,(-4:Int))) (cond (decide ((↑(List.length a1):Int)>(64:Int))) (k (a1,(-3:Int))) (outOf (stk_Pop a1 (1:Int)) fun x1=>cond (decide ((0:Int)≤0∧(0:Int)< ↑(List.length x1.2.1))) (outOf (stk_Push x1.1 (64:Int) [Int.fdiv (List.getD x1.2.1 (0:Nat) (0:Int)) (2:Int)]) fun x2=>cond (x2.2 != (0:Int)) (cond (x2.2 != (0:Int)) (k (a1,x2.2)) (k (a1,(0:Int)))) (k (x2.1,(0:Int)))) (none)))
def Do_44 (a1:(List Int)):Option Do_44_R:=Do_44_t a1 some
theorem Do_44_t_eq {γ:Type}(a1:(List Int))(k:Do_44_R→Option γ):Do_44_t a1 k=outOf (Do_44 a1) k:=by
 delta Do_44 Do_44_t;exact(tN tL (tN tL (tB fun x1=>(tN (tB fun x2=>(tN (tN tL tL) tL)) tO))))
theorem Do_44_ev {α:Type}(a1:(List Int))(k:Kont α):evFun Tryz.prog SrEE7 (Do_44_h0) false Tryz.f26 (bodyOf Tryz.f26) 200 (mkS [.val (.int .i64), .val (.sl (.int .i64))] ((44:Int),a1,())) (mkH [] ()) (fun v H=>k (weakF v) H)=outOf (Do_44 a1) fun v=>k (.tup [.sl (.int .i64) v.1 false, .lit (.int .i64 v.2)]) []:=
 (show _=Do_44_t a1 (fun v=>k (.tup [.sl (.int .i64) v.1 false, .lit (.int .i64 v.2)]) []) from by kernel_rfl).trans (Do_44_t_eq a1 _)
def Do_45_h0:Hints:=Hints.nil 0
theorem Do_45_h0_ok:Do_45_h0.OK Tryz.prog (bodyOf Tryz.f26):=Hints.nil_ok
abbrev Do_45_R:Type:=((List Int)×Int)
def Do_45_t {γ:Type}(a1:(List Int))(k:Do_45_R→Option γ):Option γ:=cond (decide ((↑(List.length a1):Int)<(1:Int))) (k (a1,(-4:Int))) (cond (decide ((↑(List.length a1):Int)>(64:Int))) (k (a1,(-3:Int))) (outOf (stk_Pop a1 (1:Int)) fun x1=>cond (decide ((0:Int)≤0∧(0:Int)< ↑(List.length x1.2.1))) (outOf (stk_Push x1.1 (64:Int) [IntKind.wrap .i64 ((0:Int)-List.getD x1.2.1 (0:Nat) (0:Int))]) fun x2=>cond (x2.2 != (0:Int)) (cond (x2.2 != (0:Int)) (k (a1,x2.2)) (k (a1,(0:Int)))) (k (x2.1,(0:Int)))) (none)))
def Do_45 (a1:(List Int)):Option Do_45_R:=Do_45_t a1 some
theorem Do_45_t_eq {γ:Type}(a1:(List Int))(k:Do_45_R→Option γ):Do_45_t a1 k=outOf (Do_45 a1) k:=by
 delta Do_45 Do_45_t;exact(tN tL (tN tL (tB fun x1=>(tN (tB fun x2=>(tN (tN tL tL) tL)) tO))))
theorem Do_45_ev {α:Type}(a1:(List Int))(k:Kont α):evFun Tryz.prog SrEE7 (Do_45_h0) false Tryz.f26 (bodyOf Tryz.f26) 200 (mkS [.val (.int .i64), .val (.sl (.int .i64))] ((45:Int),a1,())) (mkH [] ()) (fun v H=>k (weakF v) H)=outOf (Do_45 a1) fun v=>k (.tup [.sl (.int .i64) v.1 false, .lit (.int .i64 v.2)]) []:=
 (show _=Do_45_t a1 (fun v=>k (.tup [.sl (.int .i64) v.1 false, .lit (.int .i64 v.2)]) []) from by kernel_rfl).trans (Do_45_t_eq a1 _)
def Do_46_h0:Hints:=Hints.nil 0
theorem Do_46_h0_ok:Do_46_h0.OK Tryz.prog (bodyOf Tryz.f26):=Hints.nil_ok
abbrev Do_46_R:Type:=((List Int)×Int)
def Do_46_t {γ:Type}(a1:(List Int))(k:Do_46_R→Option γ):Option γ:=cond (decide ((↑(List.length a1):Int)<(1:Int))) (k (a1,(-4:Int))) (cond (decide ((↑(List.length a1):Int)>(64:Int))) (k (a1,(-3:Int))) (outOf (stk_Pop a1 (1:Int)) fun x1=>cond (decide ((0:Int)≤0∧(0:Int)< ↑(List.length x1.2.1))) (outOf (stk_Push x1.1 (64:Int) [if IntKind.wrap .i64 ((0:Int)-List.getD x1.2.1 (0:Nat) (0:Int))>List.getD x1.2.1 (0:Nat) (0:Int) then IntKind.wrap .i64 ((0:Int)-List.getD x1.2.1 (0:Nat) (0:Int)) else List.getD x1.2.1 (0:Nat) (0:Int)]) fun x2=>cond (x2.2 != (0:Int)) (cond (x2.2 != (0:Int)) (k (a1,x2.2)) (k (a1,(0:Int)))) (k (x2.1,(0:Int)))) (none)))
def Do_46 (a1:(List Int)):Option Do_46_R:=Do_46_t a1 some
theorem Do_46_t_eq {γ:Type}(a1:(List Int))(k:Do_46_R→Option γ):Do_46_t a1 k=outOf (Do_46 a1) k:=by
 delta Do_46 Do_46_t;exact(tN tL (tN tL (tB fun x1=>(tN (tB fun x2=>(tN (tN tL tL) tL)) tO))))
theorem Do_46_ev {α:Type}(a1:(List Int))(k:Kont α):evFun Tryz.prog SrEE7 (Do_46_h0) false Tryz.f26 (bodyOf Tryz.f26) 200 (mkS [.val (.int .i64), .val (.sl (.int .i64))] ((46:Int),a1,())) (mkH [] ()) (fun v H=>k (weakF v) H)=outOf (Do_46 a1) fun v=>k (.tup [.sl (.int .i64) v.1 false, .lit (.int .i64 v.2)]) []:=
 (show _=Do_46_t a1 (fun v=>k (.tup [.sl (.int .i64) v.1 false, .lit (.int .i64 v.2)]) []) from by kernel_rfl).trans (Do_46_t_eq a1 _)
def Do_47_h0:Hints:=Hints.nil 0
theorem Do_47_h0_ok:Do_47_h0.OK Tryz.prog (bodyOf Tryz.f26):=Hints.nil_ok
abbrev Do_47_R:Type:=((List Int)×Int)
def Do_47_t {γ:Type}(a1:(List Int))(k:Do_47_R→Option γ):Option γ:=cond (decide ((↑(List.length a1):Int)<(2:Int))) (k (a1,(-4:Int))) (cond (decide ((↑(List.length a1):Int)>(64:Int))) (k (a1,(-3:Int))) (outOf (stk_Pop a1 (2:Int)) fun x1=>cond (decide ((0:Int)≤0∧(0:Int)< ↑(List.length x1.2.1))) (cond (decide ((0:Int)≤1∧(1:Int)< ↑(List.length x1.2.1))) (outOf (stk_Push x1.1 (64:Int) [if List.getD x1.2.1 (1:Nat) (0:Int)<List.getD x1.2.1 (0:Nat) (0:Int) then List.getD x1.2.1 (1:Nat) (0:Int) else List.getD x1.2.1 (0:Nat) (0:Int)]) fun x2=>cond (x2.2 != (0:Int)) (cond (x2.2 != (0:Int)) (k (a1,x2.2)) (k (a1,(0:Int)))) (k (x2.1,(0:Int)))) (none)) (none)))
def Do_47 (a1:(List Int)):Option Do_47_R:=Do_47_t a1 some
theorem Do_47_t_eq {γ:Type}(a1:(List Int))(k:Do_47_R→Option γ):Do_47_t a1 k=outOf (Do_47 a1) k:=by
 delta Do_47 Do_47_t;exact(tN tL (tN tL (tB fun x1=>(tN (tN (tB fun x2=>(tN (tN tL tL) tL)) tO) tO))))
theorem Do_47_ev {α:Type}(a1:(List Int))(k:Kont α):evFun Tryz.prog SrEE7 (Do_47_h0) false Tryz.f26 (bodyOf Tryz.f26) 200 (mkS [.val (.int .i64), .val (.sl (.int .i64))] ((47:Int),a1,())) (mkH [] ()) (fun v H=>k (weakF v) H)=outOf (Do_47 a1) fun v=>k (.tup [.sl (.int .i64) v.1 false, .lit (.int .i64 v.2)]) []:=
 (show _=Do_47_t a1 (fun v=>k (.tup [.sl (.int .i64) v.1 false, .lit (.int .i64 v.2)]) []) from by kernel_rfl).trans (Do_47_t_eq a1 _)
def Do_48_h0:Hints:=Hints.nil 0
theorem Do_48_h0_ok:Do_48_h0.OK Tryz.prog (bodyOf Tryz.f26):=Hints.nil_ok
abbrev Do_48_R:Type:=((List Int)×Int)
def Do_48_t {γ:Type}(a1:(List Int))(k:Do_48_R→Option γ):Option γ:=cond (decide ((↑(List.length a1):Int)<(2:Int))) (k (a1,(-4:Int))) (cond (decide ((↑(List.length a1):Int)>(64:Int))) (k (a1,(-3:Int))) (outOf (stk_Pop a1 (2:Int)) fun x1=>cond (decide ((0:Int)≤0∧(0:Int)< ↑(List.length x1.2.1))) (cond (decide ((0:Int)≤1∧(1:Int)< ↑(List.length x1.2.1))) (outOf (stk_Push x1.1 (64:Int) [if List.getD x1.2.1 (1:Nat) (0:Int)>List.getD x1.2.1 (0:Nat) (0:Int) then List.getD x1.2.1 (1:Nat) (0:Int) else List.getD x1.2.1 (0:Nat) (0:Int)]) fun x2=>cond (x2.2 != (0:Int)) (cond (x2.2 != (0:Int)) (k (a1,x2.2)) (k (a1,(0:Int)))) (k (x2.1,(0:Int)))) (none)) (none)))
def Do_48 (a1:(List Int)):Option Do_48_R:=Do_48_t a1 some
theorem Do_48_t_eq {γ:Type}(a1:(List Int))(k:Do_48_R→Option γ):Do_48_t a1 k=outOf (Do_48 a1) k:=by
 delta Do_48 Do_48_t;exact(tN tL (tN tL (tB fun x1=>(tN (tN (tB fun x2=>(tN (tN tL tL) tL)) tO) tO))))
theorem Do_48_ev {α:Type}(a1:(List Int))(k:Kont α):evFun Tryz.prog SrEE7 (Do_48_h0) false Tryz.f26 (bodyOf Tryz.f26) 200 (mkS [.val (.int .i64), .val (.sl (.int .i64))] ((48:Int),a1,())) (mkH [] ()) (fun v H=>k (weakF v) H)=outOf (Do_48 a1) fun v=>k (.tup [.sl (.int .i64) v.1 false, .lit (.int .i64 v.2)]) []:=
 (show _=Do_48_t a1 (fun v=>k (.tup [.sl (.int .i64) v.1 false, .lit (.int .i64 v.2)]) []) from by kernel_rfl).trans (Do_48_t_eq a1 _)
def Do_49_h0:Hints:=Hints.nil 0
theorem Do_49_h0_ok:Do_49_h0.OK Tryz.prog (bodyOf Tryz.f26):=Hints.nil_ok
abbrev Do_49_R:Type:=((List Int)×Int)
def Do_49_t {γ:Type}(a1:(List Int))(k:Do_49_R→Option γ):Option γ:=cond (decide ((↑(List.length a1):Int)<(2:Int))) (k (a1,(-4:Int))) (cond (decide ((↑(List.length a1):Int)>(64:Int))) (k (a1,(-3:Int))) (outOf (stk_Pop a1 (2:Int)) fun x1=>cond (decide ((0:Int)≤0∧(0:Int)< ↑(List.length x1.2.1))) (cond (decide ((0:Int)≤1∧(1:Int)< ↑(List.length x1.2.1))) (outOf (stk_Push x1.1 (64:Int) [ibits BinOp.and IntKind.i64 (List.getD x1.2.1 (0:Nat) (0:Int)) (List.getD x1.2.1 (1:Nat) (0:Int))]) fun x2=>cond (x2.2 != (0:Int)) (cond (x2.2 != (0:Int)) (k (a1,x2.2)) (k (a1,(0:Int)))) (k (x2.1,(0:Int)))) (none)) (none)))
def Do_49 (a1:(List Int)):Option Do_49_R:=Do_49_t a1 some
theorem Do_49_t_eq {γ:Type}(a1:(List Int))(k:Do_49_R→Option γ):Do_49_t a1 k=outOf (Do_49 a1) k:=by
 delta Do_49 Do_49_t;exact(tN tL (tN tL (tB fun x1=>(tN (tN (tB fun x2=>(tN (tN tL tL) tL)) tO) tO))))
theorem Do_49_ev {α:Type}(a1:(List Int))(k:Kont α):evFun Tryz.prog SrEE7 (Do_49_h0) false Tryz.f26 (bodyOf Tryz.f26) 200 (mkS [.val (.int .i64), .val (.sl (.int .i64))] ((49:Int),a1,())) (mkH [] ()) (fun v H=>k (weakF v) H)=outOf (Do_49 a1) fun v=>k (.tup [.sl (.int .i64) v.1 false, .lit (.int .i64 v.2)]) []:=
 (show _=Do_49_t a1 (fun v=>k (.tup [.sl (.int .i64) v.1 false, .lit (.int .i64 v.2)]) []) from by kernel_rfl).trans (Do_49_t_eq a1 _)
def Do_50_h0:Hints:=Hints.nil 0
theorem Do_50_h0_ok:Do_50_h0.OK Tryz.prog (bodyOf Tryz.f26):=Hints.nil_ok
abbrev Do_50_R:Type:=((List Int)×Int)
def Do_50_t {γ:Type}(a1:(List Int))(k:Do_50_R→Option γ):Option γ:=cond (decide ((↑(List.length a1):Int)<(2:Int))) (k (a1,(-4:Int))) (cond (decide ((↑(List.length a1):Int)>(64:Int))) (k (a1,(-3:Int))) (outOf (stk_Pop a1 (2:Int)) fun x1=>cond (decide ((0:Int)≤0∧(0:Int)< ↑(List.length x1.2.1))) (cond (decide ((0:Int)≤1∧(1:Int)< ↑(List.length x1.2.1))) (outOf (stk_Push x1.1 (64:Int) [ibits BinOp.or IntKind.i64 (List.getD x1.2.1 (0:Nat) (0:Int)) (List.getD x1.2.1 (1:Nat) (0:Int))]) fun x2=>cond (x2.2 != (0:Int)) (cond (x2.2 != (0:Int)) (k (a1,x2.2)) (k (a1,(0:Int)))) (k (x2.1,(0:Int)))) (none)) (none)))
def Do_50 (a1:(List Int)):Option Do_50_R:=Do_50_t a1 some
theorem Do_50_t_eq {γ:Type}(a1:(List Int))(k:Do_50_R→Option γ):Do_50_t a1 k=outOf (Do_50 a1) k:=by
 delta Do_50 Do_50_t;exact(tN tL (tN tL (tB fun x1=>(tN (tN (tB fun x2=>(tN (tN tL tL) tL)) tO) tO))))
theorem Do_50_ev {α:Type}(a1:(List Int))(k:Kont α):evFun Tryz.prog SrEE7 (Do_50_h0) false Tryz.f26 (bodyOf Tryz.f26) 200 (mkS [.val (.int .i64), .val (.sl (.int .i64))] ((50:Int),a1,())) (mkH [] ()) (fun v H=>k (weakF v) H)=outOf (Do_50 a1) fun v=>k (.tup [.sl (.int .i64) v.1 false, .lit (.int .i64 v.2)]) []:=
 (show _=Do_50_t a1 (fun v=>k (.tup [.sl (.int .i64) v.1 false, .lit (.int .i64 v.2)]) []) from by kernel_rfl).trans (Do_50_t_eq a1 _)
def Do_51_h0:Hints:=Hints.nil 0
theorem Do_51_h0_ok:Do_51_h0.OK Tryz.prog (bodyOf Tryz.f26):=Hints.nil_ok
abbrev Do_51_R:Type:=((List Int)×Int)
def Do_51_t {γ:Type}(a1:(List Int))(k:Do_51_R→Option γ):Option γ:=cond (decide ((↑(List.length a1):Int)<(2:Int))) (k (a1,(-4:Int))) (cond (decide ((↑(List.length a1):Int)>(64:Int))) (k (a1,(-3:Int))) (outOf (stk_Pop a1 (2:Int)) fun x1=>cond (decide ((0:Int)≤0∧(0:Int)< ↑(List.length x1.2.1))) (cond (decide ((0:Int)≤1∧(1:Int)< ↑(List.length x1.2.1))) (outOf (stk_Push x1.1 (64:Int) [ibits BinOp.xor IntKind.i64 (List.getD x1.2.1 (0:Nat) (0:Int)) (List.getD x1.2.1 (1:Nat) (0:Int))]) fun x2=>cond (x2.2 != (0:Int)) (cond (x2.2 != (0:Int)) (k (a1,x2.2)) (k (a1,(0:Int)))) (k (x2.1,(0:Int)))) (none)) (none)))
def Do_51 (a1:(List Int)):Option Do_51_R:=Do_51_t a1 some
theorem Do_51_t_eq {γ:Type}(a1:(List Int))(k:Do_51_R→Option γ):Do_51_t a1 k=outOf (Do_51 a1) k:=by
 delta Do_51 Do_51_t;exact(tN tL (tN tL (tB fun x1=>(tN (tN (tB fun x2=>(tN (tN tL tL) tL)) tO) tO))))
theorem Do_51_ev {α:Type}(a1:(List Int))(k:Kont α):evFun Tryz.prog SrEE7 (Do_51_h0) false Tryz.f26 (bodyOf Tryz.f26) 200 (mkS [.val (.int .i64), .val (.sl (.int .i64))] ((51:Int),a1,())) (mkH [] ()) (fun v H=>k (weakF v) H)=outOf (Do_51 a1) fun v=>k (.tup [.sl (.int .i64) v.1 false, .lit (.int .i64 v.2)]) []:=
 (show _=Do_51_t a1 (fun v=>k (.tup [.sl (.int .i64) v.1 false, .lit (.int .i64 v.2)]) []) from by kernel_rfl).trans (Do_51_t_eq a1 _)
def Do_52_h0:Hints:=Hints.nil 0
theorem Do_52_h0_ok:Do_52_h0.OK Tryz.prog (bodyOf Tryz.f26):=Hints.nil_ok
abbrev Do_52_R:Type:=((List Int)×Int)
def Do_52_t {γ:Type}(a1:(List Int))(k:Do_52_R→Option γ):Option γ:=cond (decide ((↑(List.length a1):Int)<(1:Int))) (k (a1,(-4:Int))) (cond (decide ((↑(List.length a1):Int)>(64:Int))) (k (a1,(-3:Int))) (outOf (stk_Pop a1 (1:Int)) fun x1=>cond (decide ((0:Int)≤0∧(0:Int)< ↑(List.length x1.2.1))) (outOf (stk_Push x1.1 (64:Int) [ibits BinOp.xor IntKind.i64 (-1:Int) (List.getD x1.2.1 (0:Nat) (0:Int))]) fun x2=>cond (x2.2 != (0:Int)) (cond (x2.2 != (0:Int)) (k (a1,x2.2)) (k (a1,(0:Int)))) (k (x2.1,(0:Int)))) (none)))
def Do_52 (a1:(List Int)):Option Do_52_R:=Do_52_t a1 some
theorem Do_52_t_eq {γ:Type}(a1:(List Int))(k:Do_52_R→Option γ):Do_52_t a1 k=outOf (Do_52 a1) k:=by
 delta Do_52 Do_52_t;exact(tN tL (tN tL (tB fun x1=>(tN (tB fun x2=>(tN (tN tL tL) tL)) tO))))
theorem Do_52_ev {α:Type}(a1:(List Int))(k:Kont α):evFun Tryz.prog SrEE7 (Do_52_h0) false Tryz.f26 (bodyOf Tryz.f26) 200 (mkS [.val (.int .i64), .val (.sl (.int .i64))] ((52:Int),a1,())) (mkH [] ()) (fun v H=>k (weakF v) H)=outOf (Do_52 a1) fun v=>k (.tup [.sl (.int .i64) v.1 false, .lit (.int .i64 v.2)]) []:=
 (show _=Do_52_t a1 (fun v=>k (.tup [.sl (.int .i64) v.1 false, .lit (.int .i64 v.2)]) []) from by kernel_rfl).trans (Do_52_t_eq a1 _)
def Do_53_h0:Hints:=Hints.nil 0
theorem Do_53_h0_ok:Do_53_h0.OK Tryz.prog (bodyOf Tryz.f26):=Hints.nil_ok
abbrev Do_53_R:Type:=((List Int)×Int)
def Do_53_t {γ:Type}(a1:(List Int))(k:Do_53_R→Option γ):Option γ:=cond (decide ((↑(List.length a1):Int)<(2:Int))) (k (a1,(-4:Int))) (cond (decide ((↑(List.length a1):Int)>(64:Int))) (k (a1,(-3:Int))) (outOf (stk_Pop a1 (2:Int)) fun x1=>cond (decide ((0:Int)≤0∧(0:Int)< ↑(List.length x1.2.1))) (cond (decide ((0:Int)≤1∧(1:Int)< ↑(List.length x1.2.1))) (outOf (cell_Shl (List.getD x1.2.1 (0:Nat) (0:Int)) (List.getD x1.2.1 (1:Nat) (0:Int))) fun x2=>outOf (stk_Push x1.1 (64:Int) [x2]) fun x3=>cond (x3.2 != (0:Int)) (cond (x3.2 != (0:Int)) (k (a1,x3.2)) (k (a1,(0:Int)))) (k (x3.1,(0:Int)))) (none)) (none)))
def Do_53 (a1:(List Int)):Option Do_53_R:=Do_53_t a1 some
theorem Do_53_t_eq {γ:Type}(a1:(List Int))(k:Do_53_R→Option γ):Do_53_t a1 k=outOf (Do_53 a1) k:=by
 delta Do_53 Do_53_t;exact(tN tL (tN tL (tB fun x1=>(tN (tN (tB fun x2=>(tB fun x3=>(tN (tN tL tL) tL))) tO) tO))))
theorem Do_53_ev {α:Type}(a1:(List Int))(k:Kont α):evFun Tryz.prog SrEE7 (Do_53_h0) false Tryz.f26 (bodyOf Tryz.f26) 200 (mkS [.val (.int .i64), .val (.sl (.int .i64))] ((53:Int),a1,())) (mkH [] ()) (fun v H=>k (weakF v) H)=outOf (Do_53 a1) fun v=>k (.tup [.sl (.int .i64) v.1 false, .lit (.int .i64 v.2)]) []:=
 (show _=Do_53_t a1 (fun v=>k (.tup [.sl (.int .i64) v.1 false, .lit (.int .i64 v.2)]) []) from by kernel_rfl).trans (Do_53_t_eq a1 _)
def Do_54_h0:Hints:=Hints.nil 0
theorem Do_54_h0_ok:Do_54_h0.OK Tryz.prog (bodyOf Tryz.f26):=Hints.nil_ok
abbrev Do_54_R:Type:=((List Int)×Int)
def Do_54_t {γ:Type}(a1:(List Int))(k:Do_54_R→Option γ):Option γ:=cond (decide ((↑(List.length a1):Int)<(2:Int))) (k (a1,(-4:Int))) (cond (decide ((↑(List.length a1):Int)>(64:Int))) (k (a1,(-3:Int))) (outOf (stk_Pop a1 (2:Int)) fun x1=>cond (decide ((0:Int)≤0∧(0:Int)< ↑(List.length x1.2.1))) (cond (decide ((0:Int)≤1∧(1:Int)< ↑(List.length x1.2.1))) (outOf (cell_Shr (List.getD x1.2.1 (0:Nat) (0:Int)) (List.getD x1.2.1 (1:Nat) (0:Int))) fun x2=>outOf (stk_Push x1.1 (64:Int) [x2]) fun x3=>cond (x3.2 != (0:Int)) (cond (x3.2 != (0:Int)) (k (a1,x3.2)) (k (a1,(0:Int)))) (k (x3.1,(0:Int)))) (none)) (none)))
def Do_54 (a1:(List Int)):Option Do_54_R:=Do_54_t a1 some
theorem Do_54_t_eq {γ:Type}(a1:(List Int))(k:Do_54_R→Option γ):Do_54_t a1 k=outOf (Do_54 a1) k:=by
 delta Do_54 Do_54_t;exact(tN tL (tN tL (tB fun x1=>(tN (tN (tB fun x2=>(tB fun x3=>(tN (tN tL tL) tL))) tO) tO))))
theorem Do_54_ev {α:Type}(a1:(List Int))(k:Kont α):evFun Tryz.prog SrEE7 (Do_54_h0) false Tryz.f26 (bodyOf Tryz.f26) 200 (mkS [.val (.int .i64), .val (.sl (.int .i64))] ((54:Int),a1,())) (mkH [] ()) (fun v H=>k (weakF v) H)=outOf (Do_54 a1) fun v=>k (.tup [.sl (.int .i64) v.1 false, .lit (.int .i64 v.2)]) []:=
 (show _=Do_54_t a1 (fun v=>k (.tup [.sl (.int .i64) v.1 false, .lit (.int .i64 v.2)]) []) from by kernel_rfl).trans (Do_54_t_eq a1 _)
def Do_55_h0:Hints:=Hints.nil 0
theorem Do_55_h0_ok:Do_55_h0.OK Tryz.prog (bodyOf Tryz.f26):=Hints.nil_ok
abbrev Do_55_R:Type:=((List Int)×Int)
def Do_55_t {γ:Type}(a1:(List Int))(k:Do_55_R→Option γ):Option γ:=cond (decide ((↑(List.length a1):Int)<(2:Int))) (k (a1,(-4:Int))) (cond (decide ((↑(List.length a1):Int)>(64:Int))) (k (a1,(-3:Int))) (outOf (stk_Pop a1 (2:Int)) fun x1=>cond (decide ((0:Int)≤0∧(0:Int)< ↑(List.length x1.2.1))) (cond (decide ((0:Int)≤1∧(1:Int)< ↑(List.length x1.2.1))) (outOf (cell_Flag (List.getD x1.2.1 (0:Nat) (0:Int)==List.getD x1.2.1 (1:Nat) (0:Int))) fun x2=>outOf (stk_Push x1.1 (64:Int) [x2]) fun x3=>cond (x3.2 != (0:Int)) (cond (x3.2 != (0:Int)) (k (a1,x3.2)) (k (a1,(0:Int)))) (k (x3.1,(0:Int)))) (none)) (none)))
def Do_55 (a1:(List Int)):Option Do_55_R:=Do_55_t a1 some
theorem Do_55_t_eq {γ:Type}(a1:(List Int))(k:Do_55_R→Option γ):Do_55_t a1 k=outOf (Do_55 a1) k:=by
 delta Do_55 Do_55_t;exact(tN tL (tN tL (tB fun x1=>(tN (tN (tB fun x2=>(tB fun x3=>(tN (tN tL tL) tL))) tO) tO))))
theorem Do_55_ev {α:Type}(a1:(List Int))(k:Kont α):evFun Tryz.prog SrEE7 (Do_55_h0) false Tryz.f26 (bodyOf Tryz.f26) 200 (mkS [.val (.int .i64), .val (.sl (.int .i64))] ((55:Int),a1,())) (mkH [] ()) (fun v H=>k (weakF v) H)=outOf (Do_55 a1) fun v=>k (.tup [.sl (.int .i64) v.1 false, .lit (.int .i64 v.2)]) []:=
 (show _=Do_55_t a1 (fun v=>k (.tup [.sl (.int .i64) v.1 false, .lit (.int .i64 v.2)]) []) from by kernel_rfl).trans (Do_55_t_eq a1 _)
def Do_56_h0:Hints:=Hints.nil 0
theorem Do_56_h0_ok:Do_56_h0.OK Tryz.prog (bodyOf Tryz.f26):=Hints.nil_ok
abbrev Do_56_R:Type:=((List Int)×Int)
def Do_56_t {γ:Type}(a1:(List Int))(k:Do_56_R→Option γ):Option γ:=cond (decide ((↑(List.length a1):Int)<(2:Int))) (k (a1,(-4:Int))) (cond (decide ((↑(List.length a1):Int)>(64:Int))) (k (a1,(-3:Int))) (outOf (stk_Pop a1 (2:Int)) fun x1=>cond (decide ((0:Int)≤0∧(0:Int)< ↑(List.length x1.2.1))) (cond (decide ((0:Int)≤1∧(1:Int)< ↑(List.length x1.2.1))) (outOf (cell_Flag (List.getD x1.2.1 (0:Nat) (0:Int) != List.getD x1.2.1 (1:Nat) (0:Int))) fun x2=>outOf (stk_Push x1.1 (64:Int) [x2]) fun x3=>cond (x3.2 != (0:Int)) (cond (x3.2 != (0:Int)) (k (a1,x3.2)) (k (a1,(0:Int)))) (k (x3.1,(0:Int)))) (none)) (none)))
def Do_56 (a1:(List Int)):Option Do_56_R:=Do_56_t a1 some
theorem Do_56_t_eq {γ:Type}(a1:(List Int))(k:Do_56_R→Option γ):Do_56_t a1 k=outOf (Do_56 a1) k:=by
 delta Do_56 Do_56_t;exact(tN tL (tN tL (tB fun x1=>(tN (tN (tB fun x2=>(tB fun x3=>(tN (tN tL tL) tL))) tO) tO))))
theorem Do_56_ev {α:Type}(a1:(List Int))(k:Kont α):evFun Tryz.prog SrEE7 (Do_56_h0) false Tryz.f26 (bodyOf Tryz.f26) 200 (mkS [.val (.int .i64), .val (.sl (.int .i64))] ((56:Int),a1,())) (mkH [] ()) (fun v H=>k (weakF v) H)=outOf (Do_56 a1) fun v=>k (.tup [.sl (.int .i64) v.1 false, .lit (.int .i64 v.2)]) []:=
 (show _=Do_56_t a1 (fun v=>k (.tup [.sl (.int .i64) v.1 false, .lit (.int .i64 v.2)]) []) from by kernel_rfl).trans (Do_56_t_eq a1 _)
def Do_57_h0:Hints:=Hints.nil 0
theorem Do_57_h0_ok:Do_57_h0.OK Tryz.prog (bodyOf Tryz.f26):=Hints.nil_ok
abbrev Do_57_R:Type:=((List Int)×Int)
def Do_57_t {γ:Type}(a1:(List Int))(k:Do_57_R→Option γ):Option γ:=cond (decide ((↑(List.length a1):Int)<(2:Int))) (k (a1,(-4:Int))) (cond (decide ((↑(List.length a1):Int)>(64:Int))) (k (a1,(-3:Int))) (outOf (stk_Pop a1 (2:Int)) fun x1=>cond (decide ((0:Int)≤0∧(0:Int)< ↑(List.length x1.2.1))) (cond (decide ((0:Int)≤1∧(1:Int)< ↑(List.length x1.2.1))) (outOf (cell_Flag (decide (List.getD x1.2.1 (0:Nat) (0:Int)<List.getD x1.2.1 (1:Nat) (0:Int)))) fun x2=>outOf (stk_Push x1.1 (64:Int) [x2]) fun x3=>cond (x3.2 != (0:Int)) (cond (x3.2 != (0:Int)) (k (a1,x3.2)) (k (a1,(0:Int)))) (k (x3.1,(0:Int)))) (none)) (none)))
def Do_57 (a1:(List Int)):Option Do_57_R:=Do_57_t a1 some
theorem Do_57_t_eq {γ:Type}(a1:(List Int))(k:Do_57_R→Option γ):Do_57_t a1 k=outOf (Do_57 a1) k:=by
 delta Do_57 Do_57_t;exact(tN tL (tN tL (tB fun x1=>(tN (tN (tB fun x2=>(tB fun x3=>(tN (tN tL tL) tL))) tO) tO))))
theorem Do_57_ev {α:Type}(a1:(List Int))(k:Kont α):evFun Tryz.prog SrEE7 (Do_57_h0) false Tryz.f26 (bodyOf Tryz.f26) 200 (mkS [.val (.int .i64), .val (.sl (.int .i64))] ((57:Int),a1,())) (mkH [] ()) (fun v H=>k (weakF v) H)=outOf (Do_57 a1) fun v=>k (.tup [.sl (.int .i64) v.1 false, .lit (.int .i64 v.2)]) []:=
 (show _=Do_57_t a1 (fun v=>k (.tup [.sl (.int .i64) v.1 false, .lit (.int .i64 v.2)]) []) from by kernel_rfl).trans (Do_57_t_eq a1 _)
def Do_58_h0:Hints:=Hints.nil 0
theorem Do_58_h0_ok:Do_58_h0.OK Tryz.prog (bodyOf Tryz.f26):=Hints.nil_ok
abbrev Do_58_R:Type:=((List Int)×Int)
def Do_58_t {γ:Type}(a1:(List Int))(k:Do_58_R→Option γ):Option γ:=cond (decide ((↑(List.length a1):Int)<(2:Int))) (k (a1,(-4:Int))) (cond (decide ((↑(List.length a1):Int)>(64:Int))) (k (a1,(-3:Int))) (outOf (stk_Pop a1 (2:Int)) fun x1=>cond (decide ((0:Int)≤0∧(0:Int)< ↑(List.length x1.2.1))) (cond (decide ((0:Int)≤1∧(1:Int)< ↑(List.length x1.2.1))) (outOf (cell_Flag (decide (List.getD x1.2.1 (0:Nat) (0:Int)>List.getD x1.2.1 (1:Nat) (0:Int)))) fun x2=>outOf (stk_Push x1.1 (64:Int) [x2]) fun x3=>cond (x3.2 != (0:Int)) (cond (x3.2 != (0:Int)) (k (a1,x3.2)) (k (a1,(0:Int)))) (k (x3.1,(0:Int)))) (none)) (none)))
def Do_58 (a1:(List Int)):Option Do_58_R:=Do_58_t a1 some
theorem Do_58_t_eq {γ:Type}(a1:(List Int))(k:Do_58_R→Option γ):Do_58_t a1 k=outOf (Do_58 a1) k:=by
 delta Do_58 Do_58_t;exact(tN tL (tN tL (tB fun x1=>(tN (tN (tB fun x2=>(tB fun x3=>(tN (tN tL tL) tL))) tO) tO))))
theorem Do_58_ev {α:Type}(a1:(List Int))(k:Kont α):evFun Tryz.prog SrEE7 (Do_58_h0) false Tryz.f26 (bodyOf Tryz.f26) 200 (mkS [.val (.int .i64), .val (.sl (.int .i64))] ((58:Int),a1,())) (mkH [] ()) (fun v H=>k (weakF v) H)=outOf (Do_58 a1) fun v=>k (.tup [.sl (.int .i64) v.1 false, .lit (.int .i64 v.2)]) []:=
 (show _=Do_58_t a1 (fun v=>k (.tup [.sl (.int .i64) v.1 false, .lit (.int .i64 v.2)]) []) from by kernel_rfl).trans (Do_58_t_eq a1 _)
def Do_59_h0:Hints:=Hints.nil 0
theorem Do_59_h0_ok:Do_59_h0.OK Tryz.prog (bodyOf Tryz.f26):=Hints.nil_ok
abbrev Do_59_R:Type:=((List Int)×Int)
def Do_59_t {γ:Type}(a1:(List Int))(k:Do_59_R→Option γ):Option γ:=cond (decide ((↑(List.length a1):Int)<(2:Int))) (k (a1,(-4:Int))) (cond (decide ((↑(List.length a1):Int)>(64:Int))) (k (a1,(-3:Int))) (outOf (stk_Pop a1 (2:Int)) fun x1=>cond (decide ((0:Int)≤0∧(0:Int)< ↑(List.length x1.2.1))) (cond (decide ((0:Int)≤1∧(1:Int)< ↑(List.length x1.2.1))) (outOf (cell_Flag (cell_Ult (List.getD x1.2.1 (0:Nat) (0:Int)) (List.getD x1.2.1 (1:Nat) (0:Int)))) fun x2=>outOf (stk_Push x1.1 (64:Int) [x2]) fun x3=>cond (x3.2 != (0:Int)) (cond (x3.2 != (0:Int)) (k (a1,x3.2)) (k (a1,(0:Int)))) (k (x3.1,(0:Int)))) (none)) (none)))
def Do_59 (a1:(List Int)):Option Do_59_R:=Do_59_t a1 some
theorem Do_59_t_eq {γ:Type}(a1:(List Int))(k:Do_59_R→Option γ):Do_59_t a1 k=outOf (Do_59 a1) k:=by
 delta Do_59 Do_59_t;exact(tN tL (tN tL (tB fun x1=>(tN (tN (tB fun x2=>(tB fun x3=>(tN (tN tL tL) tL))) tO) tO))))
theorem Do_59_ev {α:Type}(a1:(List Int))(k:Kont α):evFun Tryz.prog SrEE7 (Do_59_h0) false Tryz.f26 (bodyOf Tryz.f26) 200 (mkS [.val (.int .i64), .val (.sl (.int .i64))] ((59:Int),a1,())) (mkH [] ()) (fun v H=>k (weakF v) H)=outOf (Do_59 a1) fun v=>k (.tup [.sl (.int .i64) v.1 false, .lit (.int .i64 v.2)]) []:=
 (show _=Do_59_t a1 (fun v=>k (.tup [.sl (.int .i64) v.1 false, .lit (.int .i64 v.2)]) []) from by kernel_rfl).trans (Do_59_t_eq a1 _)
def Do_60_h0:Hints:=Hints.nil 0
theorem Do_60_h0_ok:Do_60_h0.OK Tryz.prog (bodyOf Tryz.f26):=Hints.nil_ok
abbrev Do_60_R:Type:=((List Int)×Int)
def Do_60_t {γ:Type}(a1:(List Int))(k:Do_60_R→Option γ):Option γ:=cond (decide ((↑(List.length a1):Int)<(1:Int))) (k (a1,(-4:Int))) (cond (decide ((↑(List.length a1):Int)>(64:Int))) (k (a1,(-3:Int))) (outOf (stk_Pop a1 (1:Int)) fun x1=>cond (decide ((0:Int)≤0∧(0:Int)< ↑(List.length x1.2.1))) (outOf (cell_Flag (List.getD x1.2.1 (0:Nat) (0:Int)==(0:Int))) fun x2=>outOf (stk_Push x1.1 (64:Int) [x2]) fun x3=>cond (x3.2 != (0:Int)) (cond (x3.2 != (0:Int)) (k (a1,x3.2)) (k (a1,(0:Int)))) (k (x3.1,(0:Int)))) (none)))
def Do_60 (a1:(List Int)):Option Do_60_R:=Do_60_t a1 some
theorem Do_60_t_eq {γ:Type}(a1:(List Int))(k:Do_60_R→Option γ):Do_60_t a1 k=outOf (Do_60 a1) k:=by
 delta Do_60 Do_60_t;exact(tN tL (tN tL (tB fun x1=>(tN (tB fun x2=>(tB fun x3=>(tN (tN tL tL) tL))) tO))))
theorem Do_60_ev {α:Type}(a1:(List Int))(k:Kont α):evFun Tryz.prog SrEE7 (Do_60_h0) false Tryz.f26 (bodyOf Tryz.f26) 200 (mkS [.val (.int .i64), .val (.sl (.int .i64))] ((60:Int),a1,())) (mkH [] ()) (fun v H=>k (weakF v) H)=outOf (Do_60 a1) fun v=>k (.tup [.sl (.int .i64) v.1 false, .lit (.int .i64 v.2)]) []:=
 (show _=Do_60_t a1 (fun v=>k (.tup [.sl (.int .i64) v.1 false, .lit (.int .i64 v.2)]) []) from by kernel_rfl).trans (Do_60_t_eq a1 _)
def Do_61_h0:Hints:=Hints.nil 0
theorem Do_61_h0_ok:Do_61_h0.OK Tryz.prog (bodyOf Tryz.f26):=Hints.nil_ok
abbrev Do_61_R:Type:=((List Int)×Int)
def Do_61_t {γ:Type}(a1:(List Int))(k:Do_61_R→Option γ):Option γ:=cond (decide ((↑(List.length a1):Int)<(1:Int))) (k (a1,(-4:Int))) (cond (decide ((↑(List.length a1):Int)>(64:Int))) (k (a1,(-3:Int))) (outOf (stk_Pop a1 (1:Int)) fun x1=>cond (decide ((0:Int)≤0∧(0:Int)< ↑(List.length x1.2.1))) (outOf (cell_Flag (decide (List.getD x1.2.1 (0:Nat) (0:Int)<(0:Int)))) fun x2=>outOf (stk_Push x1.1 (64:Int) [x2]) fun x3=>cond (x3.2 != (0:Int)) (cond (x3.2 != (0:Int)) (k (a1,x3.2)) (k (a1,(0:Int)))) (k (x3.1,(0:Int)))) (none)))
def Do_61 (a1:(List Int)):Option Do_61_R:=Do_61_t a1 some
theorem Do_61_t_eq {γ:Type}(a1:(List Int))(k:Do_61_R→Option γ):Do_61_t a1 k=outOf (Do_61 a1) k:=by
 delta Do_61 Do_61_t;exact(tN tL (tN tL (tB fun x1=>(tN (tB fun x2=>(tB fun x3=>(tN (tN tL tL) tL))) tO))))
theorem Do_61_ev {α:Type}(a1:(List Int))(k:Kont α):evFun Tryz.prog SrEE7 (Do_61_h0) false Tryz.f26 (bodyOf Tryz.f26) 200 (mkS [.val (.int .i64), .val (.sl (.int .i64))] ((61:Int),a1,())) (mkH [] ()) (fun v H=>k (weakF v) H)=outOf (Do_61 a1) fun v=>k (.tup [.sl (.int .i64) v.1 false, .lit (.int .i64 v.2)]) []:=
 (show _=Do_61_t a1 (fun v=>k (.tup [.sl (.int .i64) v.1 false, .lit (.int .i64 v.2)]) []) from by kernel_rfl).trans (Do_61_t_eq a1 _)
end
end Go.Proofs.Dbl
namespace Go.Proofs.Dbl
open Go Go.TX Go.Proofs
set_option maxRecDepth 100000
set_option linter.unusedVariables false
set_option maxHeartbeats 0
noncomputable section
def Do_62_h0:Hints:=Hints.nil 0
theorem Do_62_h0_ok:Do_62_h0.OK Tryz.prog (bodyOf Tryz.f26):=Hints.nil_ok
abbrev Do_62_R:Type:=((List Int)×Int)
def Do_62_t {γ:Type}(a1:(List Int))(k:Do_62_R→Option γ):Option γ:=cond (decide ((↑(List.length a1):Int)<(3:Int))) (k (a1,(-4:Int))) (cond (decide ((↑(List.length a1):Int)>(64:Int))) (k (a1,(-3:Int))) (outOf (stk_Pop a1 (3:Int)) fun x1=>cond (decide ((0:Int)≤0∧(0:Int)< ↑(List.length x1.2.1))) (cond (decide ((0:Int)≤1∧(1:Int)< ↑(List.length x1.2.1))) (cond (decide ((0:Int)≤2∧(2:Int)< ↑(List.length x1.2.1))) (outOf (cell_Flag (cell_Within (List.getD x1.2.1 (0:Nat) (0:Int)) (List.getD x1.2.1 (1:Nat) (0:Int)) (List.getD x1.2.1 (2:Nat) (0:Int)))) fun x2=>outOf (stk_Push x1.1 (64:Int) [x2]) fun x3=>cond (x3.2 != (0:Int)) (cond (x3.2 != (0:Int)) (k (a1,x3.2)) (k (a1,(0:Int)))) (k (x3.1,(0:Int)))) (none)) (none)) (none)))
def Do_62 (a1:(List Int)):Option Do_62_R:=Do_62_t a1 some
theorem Do_62_t_eq {γ:Type}(a1:(List Int))(k:Do_62_R→Option γ):Do_62_t a1 k=outOf (Do_62 a1) k:=by
 delta Do_62 Do_62_t;exact(tN tL (tN tL (tB fun x1=>(tN (tN (tN (tB fun x2=>(tB fun x3=>(tN (tN tL tL) tL))) tO) tO) tO))))
theorem Do_62_ev {α:Type}(a1:(List Int))(k:Kont α):evFun Tryz.prog SrEE7 (Do_62_h0) false Tryz.f26 (bodyOf Tryz.f26) 200 (mkS [.val (.int .i64), .val (.sl (.int .i64))] ((62:Int),a1,())) (mkH [] ()) (fun v H=>k (weakF v) H)=outOf (Do_62 a1) fun v=>k (.tup [.sl (.int .i64) v.1 false, .lit (.int .i64 v.2)]) []:=
 (show _=Do_62_t a1 (fun v=>k (.tup [.sl (.int .i64) v.1 false, .lit (.int .i64 v.2)]) []) from by kernel_rfl).trans (Do_62_t_eq a1 _)
def Do_63_h0:Hints:=Hints.nil 0
theorem Do_63_h0_ok:Do_63_h0.OK Tryz.prog (bodyOf Tryz.f26):=Hints.nil_ok
abbrev Do_63_R:Type:=((List Int)×Int)
def Do_63_t {γ:Type}(a1:(List Int))(k:Do_63_R→Option γ):Option γ:=cond (decide ((↑(List.length a1):Int)<(2:Int))) (k (a1,(-4:Int))) (cond (decide ((↑(List.length a1):Int)>(64:Int))) (k (a1,(-3:Int))) (outOf (stk_Pop a1 (2:Int)) fun x1=>cond (decide ((0:Int)≤0∧(0:Int)< ↑(List.length x1.2.1))) (cond (decide ((0:Int)≤1∧(1:Int)< ↑(List.length x1.2.1))) (outOf (stk_Push x1.1 (64:Int) [(dbl_UMul (List.getD x1.2.1 (0:Nat) (0:Int)) (List.getD x1.2.1 (1:Nat) (0:Int))).1,(dbl_UMul (List.getD x1.2.1 (0:Nat) (0:Int)) (List.getD x1.2.1 (1:Nat) (0:Int))).2]) fun x2=>cond (x2.2 != (0:Int)) (cond (x2.2 != (0:Int)) (k (a1,x2.2)) (k (a1,(0:Int)))) (k (x2.1,(0:Int)))) (none)) (none)))
def Do_63 (a1:(List Int)):Option Do_63_R:=Do_63_t a1 some
theorem Do_63_t_eq {γ:Type}(a1:(List Int))(k:Do_63_R→Option γ):Do_63_t a1 k=outOf (Do_63 a1) k:=by
 delta Do_63 Do_63_t;exact(tN tL (tN tL (tB fun x1=>(tN (tN (tB fun x2=>(tN (tN tL tL) tL)) tO) tO))))
theorem Do_63_ev {α:Type}(a1:(List Int))(k:Kont α):evFun Tryz.prog SrEE7 (Do_63_h0) false Tryz.f26 (bodyOf Tryz.f26) 200 (mkS [.val (.int .i64), .val (.sl (.int .i64))] ((63:Int),a1,())) (mkH [] ()) (fun v H=>k (weakF v) H)=outOf (Do_63 a1) fun v=>k (.tup [.sl (.int .i64) v.1 false, .lit (.int .i64 v.2)]) []:=
 (show _=Do_63_t a1 (fun v=>k (.tup [.sl (.int .i64) v.1 false, .lit (.int .i64 v.2)]) []) from by kernel_rfl).trans (Do_63_t_eq a1 _)
def Do_64_h0:Hints:=Hints.nil 0
theorem Do_64_h0_ok:Do_64_h0.OK Tryz.prog (bodyOf Tryz.f26):=Hints.nil_ok
abbrev Do_64_R:Type:=((List Int)×Int)
def Do_64_t {γ:Type}(a1:(List Int))(k:Do_64_R→Option γ):Option γ:=cond (decide ((↑(List.length a1):Int)<(2:Int))) (k (a1,(-4:Int))) (cond (decide ((↑(List.length a1):Int)>(64:Int))) (k (a1,(-3:Int))) (outOf (stk_Pop a1 (2:Int)) fun x1=>cond (decide ((0:Int)≤0∧(0:Int)< ↑(List.length x1.2.1))) (cond (decide ((0:Int)≤1∧(1:Int)< ↑(List.length x1.2.1))) (outOf (dbl_Mul (List.getD x1.2.1 (0:Nat) (0:Int)) (List.getD x1.2.1 (1:Nat) (0:Int))) fun x2=>outOf (stk_Push x1.1 (64:Int) [x2.1,x2.2]) fun x3=>cond (x3.2 != (0:Int)) (cond (x3.2 != (0:Int)) (k (a1,x3.2)) (k (a1,(0:Int)))) (k (x3.1,(0:Int)))) (none)) (none)))
def Do_64 (a1:(List Int)):Option Do_64_R:=Do_64_t a1 some
theorem Do_64_t_eq {γ:Type}(a1:(List Int))(k:Do_64_R→Option γ):Do_64_t a1 k=outOf (Do_64 a1) k:=by
 delta Do_64 Do_64_t;exact(tN tL (tN tL (tB fun x1=>(tN (tN (tB fun x2=>(tB fun x3=>(tN (tN tL tL) tL))) tO) tO))))
theorem Do_64_ev {α:Type}(a1:(List Int))(k:Kont α):evFun Tryz.prog SrEE7 (Do_64_h0) false Tryz.f26 (bodyOf Tryz.f26) 200 (mkS [.val (.int .i64), .val (.sl (.int .i64))] ((64:Int),a1,())) (mkH [] ()) (fun v H=>k (weakF v) H)=outOf (Do_64 a1) fun v=>k (.tup [.sl (.int .i64) v.1 false, .lit (.int .i64 v.2)]) []:=
 (show _=Do_64_t a1 (fun v=>k (.tup [.sl (.int .i64) v.1 false, .lit (.int .i64 v.2)]) []) from by kernel_rfl).trans (Do_64_t_eq a1 _)
def Do_65_h0:Hints:=Hints.nil 0
theorem Do_65_h0_ok:Do_65_h0.OK Tryz.prog (bodyOf Tryz.f26):=Hints.nil_ok
abbrev Do_65_R:Type:=((List Int)×Int)
def Do_65_t {γ:Type}(a1:(List Int))(k:Do_65_R→Option γ):Option γ:=cond (decide ((↑(List.length a1):Int)<(3:Int))) (k (a1,(-4:Int))) (cond (decide ((↑(List.length a1):Int)>(64:Int))) (k (a1,(-3:Int))) (outOf (stk_Pop a1 (3:Int)) fun x1=>cond (decide ((0:Int)≤0∧(0:Int)< ↑(List.length x1.2.1))) (cond (decide ((0:Int)≤1∧(1:Int)< ↑(List.length x1.2.1))) (cond (decide ((0:Int)≤2∧(2:Int)< ↑(List.length x1.2.1))) (outOf (dbl_UMod (List.getD x1.2.1 (0:Nat) (0:Int)) (List.getD x1.2.1 (1:Nat) (0:Int)) (List.getD x1.2.1 (2:Nat) (0:Int))) fun x2=>outOf (stk_Push x1.1 (64:Int) (List.take (2:Nat) (List.drop (0:Nat) (List.take (1:Nat) (List.drop (0:Nat) [List.getD [x2.1,x2.2.1] (0:Nat) (0:Int)])++[List.getD [x2.1,x2.2.1] (1:Nat) (0:Int)])))) fun x3=>cond (x3.2 != (0:Int)) (cond (x3.2 != (0:Int)) (k (a1,x3.2)) (k (a1,(0:Int)))) (cond (x2.2.2 != (0:Int)) (k (a1,x2.2.2)) (k (x3.1,(0:Int))))) (none)) (none)) (none)))
def Do_65 (a1:(List Int)):Option Do_65_R:=Do_65_t a1 some
theorem Do_65_t_eq {γ:Type}(a1:(List Int))(k:Do_65_R→Option γ):Do_65_t a1 k=outOf (Do_65 a1) k:=by
 delta Do_65 Do_65_t;exact(tN tL (tN tL (tB fun x1=>(tN (tN (tN (tB fun x2=>(tB fun x3=>(tN (tN tL tL) (tN tL tL)))) tO) tO) tO))))
theorem Do_65_ev {α:Type}(a1:(List Int))(k:Kont α):evFun Tryz.prog SrEE7 (Do_65_h0) false Tryz.f26 (bodyOf Tryz.f26) 200 (mkS [.val (.int .i64), .val (.sl (.int .i64))] ((65:Int),a1,())) (mkH [] ()) (fun v H=>k (weakF v) H)=outOf (Do_65 a1) fun v=>k (.tup [.sl (.int .i64) v.1 false, .lit (.int .i64 v.2)]) []:=
 (show _=Do_65_t a1 (fun v=>k (.tup [.sl (.int .i64) v.1 false, .lit (.int .i64 v.2)]) []) from by kernel_rfl).trans (Do_65_t_eq a1 _)
def Do_66_h0:Hints:=Hints.nil 0
theorem Do_66_h0_ok:Do_66_h0.OK Tryz.prog (bodyOf Tryz.f26):=Hints.nil_ok
abbrev Do_66_R:Type:=((List Int)×Int)
def Do_66_t {γ:Type}(a1:(List Int))(k:Do_66_R→Option γ):Option γ:=cond (decide ((↑(List.length a1):Int)<(3:Int))) (k (a1,(-4:Int))) (cond (decide ((↑(List.length a1):Int)>(64:Int))) (k (a1,(-3:Int))) (outOf (stk_Pop a1 (3:Int)) fun x1=>cond (decide ((0:Int)≤0∧(0:Int)< ↑(List.length x1.2.1))) (cond (decide ((0:Int)≤1∧(1:Int)< ↑(List.length x1.2.1))) (cond (decide ((0:Int)≤2∧(2:Int)< ↑(List.length x1.2.1))) (outOf (dbl_Floor (List.getD x1.2.1 (0:Nat) (0:Int)) (List.getD x1.2.1 (1:Nat) (0:Int)) (List.getD x1.2.1 (2:Nat) (0:Int))) fun x2=>outOf (stk_Push x1.1 (64:Int) (List.take (2:Nat) (List.drop (0:Nat) (List.take (1:Nat) (List.drop (0:Nat) [List.getD [x2.1,x2.2.1] (0:Nat) (0:Int)])++[List.getD [x2.1,x2.2.1] (1:Nat) (0:Int)])))) fun x3=>cond (x3.2 != (0:Int)) (cond (x3.2 != (0:Int)) (k (a1,x3.2)) (k (a1,(0:Int)))) (cond (x2.2.2 != (0:Int)) (k (a1,x2.2.2)) (k (x3.1,(0:Int))))) (none)) (none)) (none)))
def Do_66 (a1:(List Int)):Option Do_66_R:=Do_66_t a1 some
theorem Do_66_t_eq {γ:Type}(a1:(List Int))(k:Do_66_R→Option γ):Do_66_t a1 k=outOf (Do_66 a1) k:=by
 delta Do_66 Do_66_t;exact(tN tL (tN tL (tB fun x1=>(tN (tN (tN (tB fun x2=>(tB fun x3=>(tN (tN tL tL) (tN tL tL)))) tO) tO) tO))))
theorem Do_66_ev {α:Type}(a1:(List Int))(k:Kont α):evFun Tryz.prog SrEE7 (Do_66_h0) false Tryz.f26 (bodyOf Tryz.f26) 200 (mkS [.val (.int .i64), .val (.sl (.int .i64))] ((66:Int),a1,())) (mkH [] ()) (fun v H=>k (weakF v) H)=outOf (Do_66 a1) fun v=>k (.tup [.sl (.int .i64) v.1 false, .lit (.int .i64 v.2)]) []:=
 (show _=Do_66_t a1 (fun v=>k (.tup [.sl (.int .i64) v.1 false, .lit (.int .i64 v.2)]) []) from by kernel_rfl).trans (Do_66_t_eq a1 _)
def Do_67_h0:Hints:=Hints.nil 0
theorem Do_67_h0_ok:Do_67_h0.OK Tryz.prog (bodyOf Tryz.f26):=Hints.nil_ok
abbrev Do_67_R:Type:=((List Int)×Int)
def Do_67_t {γ:Type}(a1:(List Int))(k:Do_67_R→Option γ):Option γ:=cond (decide ((↑(List.length a1):Int)<(3:Int))) (k (a1,(-4:Int))) (cond (decide ((↑(List.length a1):Int)>(64:Int))) (k (a1,(-3:Int))) (outOf (stk_Pop a1 (3:Int)) fun x1=>cond (decide ((0:Int)≤0∧(0:Int)< ↑(List.length x1.2.1))) (cond (decide ((0:Int)≤1∧(1:Int)< ↑(List.length x1.2.1))) (cond (decide ((0:Int)≤2∧(2:Int)< ↑(List.length x1.2.1))) (outOf (dbl_Symm (List.getD x1.2.1 (0:Nat) (0:Int)) (List.getD x1.2.1 (1:Nat) (0:Int)) (List.getD x1.2.1 (2:Nat) (0:Int))) fun x2=>outOf (stk_Push x1.1 (64:Int) (List.take (2:Nat) (List.drop (0:Nat) (List.take (1:Nat) (List.drop (0:Nat) [List.getD [x2.1,x2.2.1] (0:Nat) (0:Int)])++[List.getD [x2.1,x2.2.1] (1:Nat) (0:Int)])))) fun x3=>cond (x3.2 != (0:Int)) (cond (x3.2 != (0:Int)) (k (a1,x3.2)) (k (a1,(0:Int)))) (cond (x2.2.2 != (0:Int)) (k (a1,x2.2.2)) (k (x3.1,(0:Int))))) (none)) (none)) (none)))
def Do_67 (a1:(List Int)):Option Do_67_R:=Do_67_t a1 some
theorem Do_67_t_eq {γ:Type}(a1:(List Int))(k:Do_67_R→Option γ):Do_67_t a1 k=outOf (Do_67 a1) k:=by
 delta Do_67 Do_67_t;exact(tN tL (tN tL (tB fun x1=>(tN (tN (tN (tB fun x2=>(tB fun x3=>(tN (tN tL tL) (tN tL tL)))) tO) tO) tO))))
theorem Do_67_ev {α:Type}(a1:(List Int))(k:Kont α):evFun Tryz.prog SrEE7 (Do_67_h0) false Tryz.f26 (bodyOf Tryz.f26) 200 (mkS [.val (.int .i64), .val (.sl (.int .i64))] ((67:Int),a1,())) (mkH [] ()) (fun v H=>k (weakF v) H)=outOf (Do_67 a1) fun v=>k (.tup [.sl (.int .i64) v.1 false, .lit (.int .i64 v.2)]) []:=
 (show _=Do_67_t a1 (fun v=>k (.tup [.sl (.int .i64) v.1 false, .lit (.int .i64 v.2)]) []) from by kernel_rfl).trans (Do_67_t_eq a1 _)
def Do_68_h0:Hints:=Hints.nil 0
theorem Do_68_h0_ok:Do_68_h0.OK Tryz.prog (bodyOf Tryz.f26):=Hints.nil_ok
abbrev Do_68_R:Type:=((List Int)×Int)
def Do_68_t {γ:Type}(a1:(List Int))(k:Do_68_R→Option γ):Option γ:=cond (decide ((↑(List.length a1):Int)<(1:Int))) (k (a1,(-4:Int))) (cond (decide ((↑(List.length a1):Int)>(64:Int))) (k (a1,(-3:Int))) (outOf (stk_Pop a1 (1:Int)) fun x1=>cond (decide ((0:Int)≤0∧(0:Int)< ↑(List.length x1.2.1))) (outOf (stk_Push x1.1 (64:Int) [(dbl_Of (List.getD x1.2.1 (0:Nat) (0:Int))).1,(dbl_Of (List.getD x1.2.1 (0:Nat) (0:Int))).2]) fun x2=>cond (x2.2 != (0:Int)) (cond (x2.2 != (0:Int)) (k (a1,x2.2)) (k (a1,(0:Int)))) (k (x2.1,(0:Int)))) (none)))
def Do_68 (a1:(List Int)):Option Do_68_R:=Do_68_t a1 some
theorem Do_68_t_eq {γ:Type}(a1:(List Int))(k:Do_68_R→Option γ):Do_68_t a1 k=outOf (Do_68 a1) k:=by
 delta Do_68 Do_68_t;exact(tN tL (tN tL (tB fun x1=>(tN (tB fun x2=>(tN (tN tL tL) tL)) tO))))
theorem Do_68_ev {α:Type}(a1:(List Int))(k:Kont α):evFun Tryz.prog SrEE7 (Do_68_h0) false Tryz.f26 (bodyOf Tryz.f26) 200 (mkS [.val (.int .i64), .val (.sl (.int .i64))] ((68:Int),a1,())) (mkH [] ()) (fun v H=>k (weakF v) H)=outOf (Do_68 a1) fun v=>k (.tup [.sl (.int .i64) v.1 false, .lit (.int .i64 v.2)]) []:=
 (show _=Do_68_t a1 (fun v=>k (.tup [.sl (.int .i64) v.1 false, .lit (.int .i64 v.2)]) []) from by kernel_rfl).trans (Do_68_t_eq a1 _)
def Do_69_h0:Hints:=Hints.nil 0
theorem Do_69_h0_ok:Do_69_h0.OK Tryz.prog (bodyOf Tryz.f26):=Hints.nil_ok
abbrev Do_69_R:Type:=((List Int)×Int)
def Do_69_t {γ:Type}(a1:(List Int))(k:Do_69_R→Option γ):Option γ:=cond (decide ((↑(List.length a1):Int)<(4:Int))) (k (a1,(-4:Int))) (cond (decide ((↑(List.length a1):Int)>(64:Int))) (k (a1,(-3:Int))) (outOf (stk_Pop a1 (4:Int)) fun x1=>cond (decide ((0:Int)≤0∧(0:Int)< ↑(List.length x1.2.1))) (cond (decide ((0:Int)≤1∧(1:Int)< ↑(List.length x1.2.1))) (cond (decide ((0:Int)≤2∧(2:Int)< ↑(List.length x1.2.1))) (cond (decide ((0:Int)≤3∧(3:Int)< ↑(List.length x1.2.1))) (outOf (dbl_Add (List.getD x1.2.1 (0:Nat) (0:Int)) (List.getD x1.2.1 (1:Nat) (0:Int)) (List.getD x1.2.1 (2:Nat) (0:Int)) (List.getD x1.2.1 (3:Nat) (0:Int))) fun x2=>outOf (stk_Push x1.1 (64:Int) [x2.1,x2.2]) fun x3=>cond (x3.2 != (0:Int)) (cond (x3.2 != (0:Int)) (k (a1,x3.2)) (k (a1,(0:Int)))) (k (x3.1,(0:Int)))) (none)) (none)) (none)) (none)))
def Do_69 (a1:(List Int)):Option Do_69_R:=Do_69_t a1 some
theorem Do_69_t_eq {γ:Type}(a1:(List Int))(k:Do_69_R→Option γ):Do_69_t a1 k=outOf (Do_69 a1) k:=by
 delta Do_69 Do_69_t;exact(tN tL (tN tL (tB fun x1=>(tN (tN (tN (tN (tB fun x2=>(tB fun x3=>(tN (tN tL tL) tL))) tO) tO) tO) tO))))
theorem Do_69_ev {α:Type}(a1:(List Int))(k:Kont α):evFun Tryz.prog SrEE7 (Do_69_h0) false Tryz.f26 (bodyOf Tryz.f26) 200 (mkS [.val (.int .i64), .val (.sl (.int .i64))] ((69:Int),a1,())) (mkH [] ()) (fun v H=>k (weakF v) H)=outOf (Do_69 a1) fun v=>k (.tup [.sl (.int .i64) v.1 false, .lit (.int .i64 v.2)]) []:=
 (show _=Do_69_t a1 (fun v=>k (.tup [.sl (.int .i64) v.1 false, .lit (.int .i64 v.2)]) []) from by kernel_rfl).trans (Do_69_t_eq a1 _)
def Do_70_h0:Hints:=Hints.nil 0
theorem Do_70_h0_ok:Do_70_h0.OK Tryz.prog (bodyOf Tryz.f26):=Hints.nil_ok
abbrev Do_70_R:Type:=((List Int)×Int)
def Do_70_t {γ:Type}(a1:(List Int))(k:Do_70_R→Option γ):Option γ:=cond (decide ((↑(List.length a1):Int)<(2:Int))) (k (a1,(-4:Int))) (cond (decide ((↑(List.length a1):Int)>(64:Int))) (k (a1,(-3:Int))) (outOf (stk_Pop a1 (2:Int)) fun x1=>cond (decide ((0:Int)≤0∧(0:Int)< ↑(List.length x1.2.1))) (cond (decide ((0:Int)≤1∧(1:Int)< ↑(List.length x1.2.1))) (outOf (dbl_Neg (List.getD x1.2.1 (0:Nat) (0:Int)) (List.getD x1.2.1 (1:Nat) (0:Int))) fun x2=>outOf (stk_Push x1.1 (64:Int) [x2.1,x2.2]) fun x3=>cond (x3.2 != (0:Int)) (cond (x3.2 != (0:Int)) (k (a1,x3.2)) (k (a1,(0:Int)))) (k (x3.1,(0:Int)))) (none)) (none)))
def Do_70 (a1:(List Int)):Option Do_70_R:=Do_70_t a1 some
theorem Do_70_t_eq {γ:Type}(a1:(List Int))(k:Do_70_R→Option γ):Do_70_t a1 k=outOf (Do_70 a1) k:=by
 delta Do_70 Do_70_t;exact(tN tL (tN tL (tB fun x1=>(tN (tN (tB fun x2=>(tB fun x3=>(tN (tN tL tL) tL))) tO) tO))))
theorem Do_70_ev {α:Type}(a1:(List Int))(k:Kont α):evFun Tryz.prog SrEE7 (Do_70_h0) false Tryz.f26 (bodyOf Tryz.f26) 200 (mkS [.val (.int .i64), .val (.sl (.int .i64))] ((70:Int),a1,())) (mkH [] ()) (fun v H=>k (weakF v) H)=outOf (Do_70 a1) fun v=>k (.tup [.sl (.int .i64) v.1 false, .lit (.int .i64 v.2)]) []:=
 (show _=Do_70_t a1 (fun v=>k (.tup [.sl (.int .i64) v.1 false, .lit (.int .i64 v.2)]) []) from by kernel_rfl).trans (Do_70_t_eq a1 _)
def Do_71_h0:Hints:=Hints.nil 0
theorem Do_71_h0_ok:Do_71_h0.OK Tryz.prog (bodyOf Tryz.f26):=Hints.nil_ok
abbrev Do_71_R:Type:=((List Int)×Int)
def Do_71_t {γ:Type}(a1:(List Int))(k:Do_71_R→Option γ):Option γ:=cond (decide ((↑(List.length a1):Int)<(1:Int))) (k (a1,(-4:Int))) (cond (decide ((↑(List.length a1):Int)>(64:Int))) (k (a1,(-3:Int))) (outOf (stk_Pop a1 (1:Int)) fun x1=>cond (decide ((0:Int)≤0∧(0:Int)< ↑(List.length x1.2.1))) (outOf (stk_Push x1.1 (64:Int) [IntKind.wrap .i64 (List.getD x1.2.1 (0:Nat) (0:Int)*(8:Int))]) fun x2=>cond (x2.2 != (0:Int)) (cond (x2.2 != (0:Int)) (k (a1,x2.2)) (k (a1,(0:Int)))) (k (x2.1,(0:Int)))) (none)))
def Do_71 (a1:(List Int)):Option Do_71_R:=Do_71_t a1 some
theorem Do_71_t_eq {γ:Type}(a1:(List Int))(k:Do_71_R→Option γ):Do_71_t a1 k=outOf (Do_71 a1) k:=by
 delta Do_71 Do_71_t;exact(tN tL (tN tL (tB fun x1=>(tN (tB fun x2=>(tN (tN tL tL) tL)) tO))))
theorem Do_71_ev {α:Type}(a1:(List Int))(k:Kont α):evFun Tryz.prog SrEE7 (Do_71_h0) false Tryz.f26 (bodyOf Tryz.f26) 200 (mkS [.val (.int .i64), .val (.sl (.int .i64))] ((71:Int),a1,())) (mkH [] ()) (fun v H=>k (weakF v) H)=outOf (Do_71 a1) fun v=>k (.tup [.sl (.int .i64) v.1 false, .lit (.int .i64 v.2)]) []:=
 (show _=Do_71_t a1 (fun v=>k (.tup [.sl (.int .i64) v.1 false, .lit (.int .i64 v.2)]) []) from by kernel_rfl).trans (Do_71_t_eq a1 _)
def Do_72_h0:Hints:=Hints.nil 0
theorem Do_72_h0_ok:Do_72_h0.OK Tryz.prog (bodyOf Tryz.f26):=Hints.nil_ok
abbrev Do_72_R:Type:=((List Int)×Int)
def Do_72_t {γ:Type}(a1:(List Int))(k:Do_72_R→Option γ):Option γ:=cond (decide ((↑(List.length a1):Int)<(1:Int))) (k (a1,(-4:Int))) (cond (decide ((↑(List.length a1):Int)>(64:Int))) (k (a1,(-3:Int))) (outOf (stk_Pop a1 (1:Int)) fun x1=>cond (decide ((0:Int)≤0∧(0:Int)< ↑(List.length x1.2.1))) (outOf (stk_Push x1.1 (64:Int) [IntKind.wrap .i64 (List.getD x1.2.1 (0:Nat) (0:Int)+(8:Int))]) fun x2=>cond (x2.2 != (0:Int)) (cond (x2.2 != (0:Int)) (k (a1,x2.2)) (k (a1,(0:Int)))) (k (x2.1,(0:Int)))) (none)))
def Do_72 (a1:(List Int)):Option Do_72_R:=Do_72_t a1 some
theorem Do_72_t_eq {γ:Type}(a1:(List Int))(k:Do_72_R→Option γ):Do_72_t a1 k=outOf (Do_72 a1) k:=by
 delta Do_72 Do_72_t;exact(tN tL (tN tL (tB fun x1=>(tN (tB fun x2=>(tN (tN tL tL) tL)) tO))))
theorem Do_72_ev {α:Type}(a1:(List Int))(k:Kont α):evFun Tryz.prog SrEE7 (Do_72_h0) false Tryz.f26 (bodyOf Tryz.f26) 200 (mkS [.val (.int .i64), .val (.sl (.int .i64))] ((72:Int),a1,())) (mkH [] ()) (fun v H=>k (weakF v) H)=outOf (Do_72 a1) fun v=>k (.tup [.sl (.int .i64) v.1 false, .lit (.int .i64 v.2)]) []:=
 (show _=Do_72_t a1 (fun v=>k (.tup [.sl (.int .i64) v.1 false, .lit (.int .i64 v.2)]) []) from by kernel_rfl).trans (Do_72_t_eq a1 _)
def Do_73_h0:Hints:=Hints.nil 0
theorem Do_73_h0_ok:Do_73_h0.OK Tryz.prog (bodyOf Tryz.f26):=Hints.nil_ok
abbrev Do_73_R:Type:=((List Int)×Int)
def Do_73_t {γ:Type}(a1:(List Int))(k:Do_73_R→Option γ):Option γ:=cond (decide ((↑(List.length a1):Int)<(1:Int))) (k (a1,(-4:Int))) (cond (decide ((↑(List.length a1):Int)>(64:Int))) (k (a1,(-3:Int))) (outOf (stk_Pop a1 (1:Int)) fun x1=>cond (decide ((0:Int)≤0∧(0:Int)< ↑(List.length x1.2.1))) (outOf (stk_Push x1.1 (64:Int) [IntKind.wrap .i64 (List.getD x1.2.1 (0:Nat) (0:Int)+(1:Int))]) fun x2=>cond (x2.2 != (0:Int)) (cond (x2.2 != (0:Int)) (k (a1,x2.2)) (k (a1,(0:Int)))) (k (x2.1,(0:Int)))) (none)))
def Do_73 (a1:(List Int)):Option Do_73_R:=Do_73_t a1 some
theorem Do_73_t_eq {γ:Type}(a1:(List Int))(k:Do_73_R→Option γ):Do_73_t a1 k=outOf (Do_73 a1) k:=by
 delta Do_73 Do_73_t;exact(tN tL (tN tL (tB fun x1=>(tN (tB fun x2=>(tN (tN tL tL) tL)) tO))))
theorem Do_73_ev {α:Type}(a1:(List Int))(k:Kont α):evFun Tryz.prog SrEE7 (Do_73_h0) false Tryz.f26 (bodyOf Tryz.f26) 200 (mkS [.val (.int .i64), .val (.sl (.int .i64))] ((73:Int),a1,())) (mkH [] ()) (fun v H=>k (weakF v) H)=outOf (Do_73 a1) fun v=>k (.tup [.sl (.int .i64) v.1 false, .lit (.int .i64 v.2)]) []:=
 (show _=Do_73_t a1 (fun v=>k (.tup [.sl (.int .i64) v.1 false, .lit (.int .i64 v.2)]) []) from by kernel_rfl).trans (Do_73_t_eq a1 _)
def Do_74_h0:Hints:=Hints.nil 0
theorem Do_74_h0_ok:Do_74_h0.OK Tryz.prog (bodyOf Tryz.f26):=Hints.nil_ok
abbrev Do_74_R:Type:=((List Int)×Int)
def Do_74_t {γ:Type}(a1:(List Int))(k:Do_74_R→Option γ):Option γ:=cond (decide ((↑(List.length a1):Int)<(1:Int))) (k (a1,(-4:Int))) (cond (decide ((↑(List.length a1):Int)>(64:Int))) (k (a1,(-3:Int))) (outOf (stk_Pop a1 (1:Int)) fun x1=>cond (decide ((0:Int)≤0∧(0:Int)< ↑(List.length x1.2.1))) (outOf (stk_Push x1.1 (64:Int) [cell_Aligned (List.getD x1.2.1 (0:Nat) (0:Int))]) fun x2=>cond (x2.2 != (0:Int)) (cond (x2.2 != (0:Int)) (k (a1,x2.2)) (k (a1,(0:Int)))) (k (x2.1,(0:Int)))) (none)))
def Do_74 (a1:(List Int)):Option Do_74_R:=Do_74_t a1 some
theorem Do_74_t_eq {γ:Type}(a1:(List Int))(k:Do_74_R→Option γ):Do_74_t a1 k=outOf (Do_74 a1) k:=by
 delta Do_74 Do_74_t;exact(tN tL (tN tL (tB fun x1=>(tN (tB fun x2=>(tN (tN tL tL) tL)) tO))))
theorem Do_74_ev {α:Type}(a1:(List Int))(k:Kont α):evFun Tryz.prog SrEE7 (Do_74_h0) false Tryz.f26 (bodyOf Tryz.f26) 200 (mkS [.val (.int .i64), .val (.sl (.int .i64))] ((74:Int),a1,())) (mkH [] ()) (fun v H=>k (weakF v) H)=outOf (Do_74 a1) fun v=>k (.tup [.sl (.int .i64) v.1 false, .lit (.int .i64 v.2)]) []:=
 (show _=Do_74_t a1 (fun v=>k (.tup [.sl (.int .i64) v.1 false, .lit (.int .i64 v.2)]) []) from by kernel_rfl).trans (Do_74_t_eq a1 _)
end
end Go.Proofs.Dbl
namespace Go.Proofs.Dbl
open Go Go.TX Go.Proofs
set_option maxRecDepth 100000
set_option linter.unusedVariables false
set_option maxHeartbeats 0
noncomputable section
def Do_tab (n:Nat)(d:List Int):Option (List Int×Int):=
 match n with
 |18=>Do_18 d
 |19=>Do_19 d
 |20=>Do_20 d
 |21=>Do_21 d
 |22=>Do_22 d
 |23=>Do_23 d
 |24=>Do_24 d
 |25=>Do_25 d
 |26=>Do_26 d
 |27=>Do_27 d
 |28=>Do_28 d
 |29=>Do_29 d
 |30=>Do_30 d
 |31=>Do_31 d
 |32=>Do_32 d
 |33=>Do_33 d
 |34=>Do_34 d
 |35=>Do_35 d
 |36=>Do_36 d
 |37=>Do_37 d
 |38=>Do_38 d
 |39=>Do_39 d
 |40=>Do_40 d
 |41=>Do_41 d
 |42=>Do_42 d
 |43=>Do_43 d
 |44=>Do_44 d
 |45=>Do_45 d
 |46=>Do_46 d
 |47=>Do_47 d
 |48=>Do_48 d
 |49=>Do_49 d
 |50=>Do_50 d
 |51=>Do_51 d
 |52=>Do_52 d
 |53=>Do_53 d
 |54=>Do_54 d
 |55=>Do_55 d
 |56=>Do_56 d
 |57=>Do_57 d
 |58=>Do_58 d
 |59=>Do_59 d
 |60=>Do_60 d
 |61=>Do_61 d
 |62=>Do_62 d
 |63=>Do_63 d
 |64=>Do_64 d
 |65=>Do_65 d
 |66=>Do_66 d
 |67=>Do_67 d
 |68=>Do_68 d
 |69=>Do_69 d
 |70=>Do_70 d
 |71=>Do_71 d
 |72=>Do_72 d
 |73=>Do_73 d
 |74=>Do_74 d
 |_=>none
def pure_Do (o:Int)(d:List Int):Option (List Int×Int):=if 18≤o∧o≤74 then Do_tab o.toNat d else outOf (op_Group o) fun g=>cond (g != (1:Int)) (some (d,(-21:Int))) none
def pure_Do_sp:TX.Spec:=specD [.val (.int .i64), .val (.sl (.int .i64))] [] fun _ a m k=>match a,m with|⟨a0,a1,_⟩,_=>outOf (pure_Do a0 a1) fun v=>k (.tup [.sl (.int .i64) v.1 false, .lit (.int .i64 v.2)]) []
theorem Do_tab_ev {α:Type}(d:List Int)(k:Kont α): ∀n:Nat,18≤n→n≤74→ ∃(h:Hints) (fuel:Nat),h.OK Tryz.prog (bodyOf Tryz.f26)∧h.n0=0∧
  evFun Tryz.prog SrEE7 h false Tryz.f26 (bodyOf Tryz.f26) fuel (mkS [.val (.int .i64), .val (.sl (.int .i64))] ((n:Int),d,())) (mkH [] ()) (fun v H=>k (weakF v) H)=outOf (Do_tab n d) fun v=>k (.tup [.sl (.int .i64) v.1 false, .lit (.int .i64 v.2)]) []
 |18,_,_=>⟨Do_18_h0,200,Do_18_h0_ok,rfl,Do_18_ev d k⟩
 |19,_,_=>⟨Do_19_h0,200,Do_19_h0_ok,rfl,Do_19_ev d k⟩
 |20,_,_=>⟨Do_20_h0,200,Do_20_h0_ok,rfl,Do_20_ev d k⟩
 |21,_,_=>⟨Do_21_h0,200,Do_21_h0_ok,rfl,Do_21_ev d k⟩
 |22,_,_=>⟨Do_22_h0,200,Do_22_h0_ok,rfl,Do_22_ev d k⟩
 |23,_,_=>⟨Do_23_h0,200,Do_23_h0_ok,rfl,Do_23_ev d k⟩
 |24,_,_=>⟨Do_24_h0,200,Do_24_h0_ok,rfl,Do_24_ev d k⟩
 |25,_,_=>⟨Do_25_h0,200,Do_25_h0_ok,rfl,Do_25_ev d k⟩
 |26,_,_=>⟨Do_26_h0,200,Do_26_h0_ok,rfl,Do_26_ev d k⟩
 |27,_,_=>⟨Do_27_h0,200,Do_27_h0_ok,rfl,Do_27_ev d k⟩
 |28,_,_=>⟨Do_28_h0,200,Do_28_h0_ok,rfl,Do_28_ev d k⟩
 |29,_,_=>⟨Do_29_h0,200,Do_29_h0_ok,rfl,Do_29_ev d k⟩
 |30,_,_=>⟨Do_30_h0,200,Do_30_h0_ok,rfl,Do_30_ev d k⟩
 |31,_,_=>⟨Do_31_h0,200,Do_31_h0_ok,rfl,Do_31_ev d k⟩
 |32,_,_=>⟨Do_32_h0,200,Do_32_h0_ok,rfl,Do_32_ev d k⟩
 |33,_,_=>⟨Do_33_h0,200,Do_33_h0_ok,rfl,Do_33_ev d k⟩
 |34,_,_=>⟨Do_34_h0,200,Do_34_h0_ok,rfl,Do_34_ev d k⟩
 |35,_,_=>⟨Do_35_h0,200,Do_35_h0_ok,rfl,Do_35_ev d k⟩
 |36,_,_=>⟨Do_36_h0,200,Do_36_h0_ok,rfl,Do_36_ev d k⟩
 |37,_,_=>⟨Do_37_h0,200,Do_37_h0_ok,rfl,Do_37_ev d k⟩
 |38,_,_=>⟨Do_38_h0,200,Do_38_h0_ok,rfl,Do_38_ev d k⟩
 |39,_,_=>⟨Do_39_h0,200,Do_39_h0_ok,rfl,Do_39_ev d k⟩
 |40,_,_=>⟨Do_40_h0,200,Do_40_h0_ok,rfl,Do_40_ev d k⟩
 |41,_,_=>⟨Do_41_h0,200,Do_41_h0_ok,rfl,Do_41_ev d k⟩
 |42,_,_=>⟨Do_42_h0,200,Do_42_h0_ok,rfl,Do_42_ev d k⟩
 |43,_,_=>⟨Do_43_h0,200,Do_43_h0_ok,rfl,Do_43_ev d k⟩
 |44,_,_=>⟨Do_44_h0,200,Do_44_h0_ok,rfl,Do_44_ev d k⟩
 |45,_,_=>⟨Do_45_h0,200,Do_45_h0_ok,rfl,Do_45_ev d k⟩
 |46,_,_=>⟨Do_46_h0,200,Do_46_h0_ok,rfl,Do_46_ev d k⟩
 |47,_,_=>⟨Do_47_h0,200,Do_47_h0_ok,rfl,Do_47_ev d k⟩
 |48,_,_=>⟨Do_48_h0,200,Do_48_h0_ok,rfl,Do_48_ev d k⟩
 |49,_,_=>⟨Do_49_h0,200,Do_49_h0_ok,rfl,Do_49_ev d k⟩
 |50,_,_=>⟨Do_50_h0,200,Do_50_h0_ok,rfl,Do_50_ev d k⟩
 |51,_,_=>⟨Do_51_h0,200,Do_51_h0_ok,rfl,Do_51_ev d k⟩
 |52,_,_=>⟨Do_52_h0,200,Do_52_h0_ok,rfl,Do_52_ev d k⟩
 |53,_,_=>⟨Do_53_h0,200,Do_53_h0_ok,rfl,Do_53_ev d k⟩
 |54,_,_=>⟨Do_54_h0,200,Do_54_h0_ok,rfl,Do_54_ev d k⟩
 |55,_,_=>⟨Do_55_h0,200,Do_55_h0_ok,rfl,Do_55_ev d k⟩
 |56,_,_=>⟨Do_56_h0,200,Do_56_h0_ok,rfl,Do_56_ev d k⟩
 |57,_,_=>⟨Do_57_h0,200,Do_57_h0_ok,rfl,Do_57_ev d k⟩
 |58,_,_=>⟨Do_58_h0,200,Do_58_h0_ok,rfl,Do_58_ev d k⟩
 |59,_,_=>⟨Do_59_h0,200,Do_59_h0_ok,rfl,Do_59_ev d k⟩
 |60,_,_=>⟨Do_60_h0,200,Do_60_h0_ok,rfl,Do_60_ev d k⟩
 |61,_,_=>⟨Do_61_h0,200,Do_61_h0_ok,rfl,Do_61_ev d k⟩
 |62,_,_=>⟨Do_62_h0,200,Do_62_h0_ok,rfl,Do_62_ev d k⟩
 |63,_,_=>⟨Do_63_h0,200,Do_63_h0_ok,rfl,Do_63_ev d k⟩
 |64,_,_=>⟨Do_64_h0,200,Do_64_h0_ok,rfl,Do_64_ev d k⟩
 |65,_,_=>⟨Do_65_h0,200,Do_65_h0_ok,rfl,Do_65_ev d k⟩
 |66,_,_=>⟨Do_66_h0,200,Do_66_h0_ok,rfl,Do_66_ev d k⟩
 |67,_,_=>⟨Do_67_h0,200,Do_67_h0_ok,rfl,Do_67_ev d k⟩
 |68,_,_=>⟨Do_68_h0,200,Do_68_h0_ok,rfl,Do_68_ev d k⟩
 |69,_,_=>⟨Do_69_h0,200,Do_69_h0_ok,rfl,Do_69_ev d k⟩
 |70,_,_=>⟨Do_70_h0,200,Do_70_h0_ok,rfl,Do_70_ev d k⟩
 |71,_,_=>⟨Do_71_h0,200,Do_71_h0_ok,rfl,Do_71_ev d k⟩
 |72,_,_=>⟨Do_72_h0,200,Do_72_h0_ok,rfl,Do_72_ev d k⟩
 |73,_,_=>⟨Do_73_h0,200,Do_73_h0_ok,rfl,Do_73_ev d k⟩
 |74,_,_=>⟨Do_74_h0,200,Do_74_h0_ok,rfl,Do_74_ev d k⟩
 |0,h,_|1,h,_|2,h,_|3,h,_|4,h,_|5,h,_|6,h,_|7,h,_|8,h,_|9,h,_|10,h,_|11,h,_|12,h,_|13,h,_|14,h,_|15,h,_|16,h,_|17,h,_=>by omega
 |n+75,_,h=>by omega
def Do_hd:Hints:=(Hints.nil 0).add [1,1] noSp
theorem Do_hd_ok:Do_hd.OK Tryz.prog (bodyOf Tryz.f26):=Hints.nil_ok.add (show codeAt (bodyOf Tryz.f26) [1,1]=some ((codeAt (bodyOf Tryz.f26) [1,1]).getD .skip) from by kernel_rfl) noSp_ok
theorem Do_el_ev {α:Type}(o:Int)(d:List Int)(k:Kont α):evFun Tryz.prog SrEE7 Do_hd false Tryz.f26 (bodyOf Tryz.f26) 200 (mkS [.val (.int .i64), .val (.sl (.int .i64))] (o,d,())) (mkH [] ()) (fun v H=>k (weakF v) H)=
  outOf (op_Group o) fun g=>cond (g != (1:Int)) (k (.tup [.sl (.int .i64) d false, .lit (.int .i64 (-21))]) []) none:=by kernel_rfl
theorem pure_Do_ev {α:Type}(o:Int)(d:List Int)(k:Kont α)(r:α)(h:outOf (pure_Do o d) (fun v=>k (.tup [.sl (.int .i64) v.1 false, .lit (.int .i64 v.2)]) [])=some r):
  ∃(h:Hints) (fuel:Nat),h.OK Tryz.prog (bodyOf Tryz.f26)∧h.n0=0∧evFun Tryz.prog SrEE7 h false Tryz.f26 (bodyOf Tryz.f26) fuel (mkS [.val (.int .i64), .val (.sl (.int .i64))] (o,d,())) (mkH [] ()) (fun v H=>k (weakF v) H)=some r:=by
 unfold pure_Do at h
 by_cases g:18≤o∧o≤74
 ·rw[if_pos g] at h
  obtain⟨h1,f1,g1,g2,g3⟩:=Do_tab_ev d k o.toNat (by omega) (by omega)
  rw[Int.toNat_of_nonneg (by omega)] at g3
  exact⟨h1,f1,g1,g2,g3.trans h⟩
 ·rw[if_neg g] at h
  refine⟨Do_hd,200,Do_hd_ok,rfl,(Do_el_ev o d k).trans ?_⟩
  cases hg:op_Group o with
  |none=>rw[hg] at h;cases h
  |some x=>
   rw[hg] at h
   show cond (x != (1:Int)) (k (.tup [.sl (.int .i64) d false, .lit (.int .i64 (-21))]) []) none=some r
   change outOf (cond (x != (1:Int)) (some (d,(-21:Int))) none) (fun v=>k (.tup [.sl (.int .i64) v.1 false, .lit (.int .i64 v.2)]) [])=some r at h
   cases hx:(x != (1:Int))
   ·rw[hx] at h;cases h
   ·rw[hx] at h;exact h
theorem pure_Do_good:TX.Good Tryz.prog 26 pure_Do_sp:=good_form_weak2 SrEE7_ok mixed Tryz.func26 (body_of rfl) (by kernel_rfl) false fun α a m k r h=>by
 obtain⟨o,d,_⟩:=a
 exact pure_Do_ev o d k r h
noncomputable def SuE3:Env:=SrEE7.add 26 true pure_Do_sp
theorem SuE3_ok:SuE3.OK Tryz.prog:=(SrEE7_ok).add_ok pure_Do_good
end
end Go.Proofs.Dbl
