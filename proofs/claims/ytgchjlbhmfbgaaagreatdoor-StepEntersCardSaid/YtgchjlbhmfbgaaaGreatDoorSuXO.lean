import Derived.Test.YtgchjlbhmfbgaaaGreatDoorSuXN
namespace Go.Proofs.Dbl
open Go Go.TX Go.Proofs
set_option maxRecDepth 100000
set_option linter.unusedVariables false
set_option maxHeartbeats 0
noncomputable section
def op_names:(List ByteArray):=([bytesOf [40,76,73,84,41],bytesOf [40,66,82,65,78,67,72,41],bytesOf [40,48,66,82,65,78,67,72,41],bytesOf [40,67,65,76,76,41],bytesOf [69,88,73,84],bytesOf [40,68,79,41],bytesOf [40,63,68,79,41],bytesOf [40,76,79,79,80,41],bytesOf [40,43,76,79,79,80,41],bytesOf [85,78,76,79,79,80],bytesOf [73],bytesOf [74],bytesOf [62,82],bytesOf [82,62],bytesOf [82,64],bytesOf [69,88,69,67,85,84,69],bytesOf [67,65,84,67,72],bytesOf [84,72,82,79,87],bytesOf [68,85,80],bytesOf [68,82,79,80],bytesOf [83,87,65,80],bytesOf [79,86,69,82],bytesOf [82,79,84],bytesOf [78,73,80],bytesOf [84,85,67,75],bytesOf [50,68,85,80],bytesOf [50,68,82,79,80],bytesOf [50,83,87,65,80],bytesOf [50,79,86,69,82],bytesOf [63,68,85,80],bytesOf [80,73,67,75],bytesOf [82,79,76,76],bytesOf [68,69,80,84,72],bytesOf [43],bytesOf [45],bytesOf [42],bytesOf [47],bytesOf [77,79,68],bytesOf [47,77,79,68],bytesOf [42,47],bytesOf [42,47,77,79,68],bytesOf [49,43],bytesOf [49,45],bytesOf [50,42],bytesOf [50,47],bytesOf [78,69,71,65,84,69],bytesOf [65,66,83],bytesOf [77,73,78],bytesOf [77,65,88],bytesOf [65,78,68],bytesOf [79,82],bytesOf [88,79,82],bytesOf [73,78,86,69,82,84],bytesOf [76,83,72,73,70,84],bytesOf [82,83,72,73,70,84],bytesOf [61],bytesOf [60,62],bytesOf [60],bytesOf [62],bytesOf [85,60],bytesOf [48,61],bytesOf [48,60],bytesOf [87,73,84,72,73,78],bytesOf [85,77,42],bytesOf [77,42],bytesOf [85,77,47,77,79,68],bytesOf [70,77,47,77,79,68],bytesOf [83,77,47,82,69,77],bytesOf [83,62,68],bytesOf [68,43],bytesOf [68,78,69,71,65,84,69],bytesOf [67,69,76,76,83],bytesOf [67,69,76,76,43],bytesOf [67,72,65,82,43],bytesOf [65,76,73,71,78,69,68],bytesOf [64],bytesOf [33],bytesOf [67,64],bytesOf [67,33],bytesOf [43,33],bytesOf [70,73,76,76],bytesOf [77,79,86,69],bytesOf [67,65,83],bytesOf [69,77,73,84],bytesOf [84,89,80,69],bytesOf [46],bytesOf [85,46],bytesOf [67,82],bytesOf [83,80,65,67,69],bytesOf [60,35],bytesOf [35],bytesOf [35,83],bytesOf [72,79,76,68],bytesOf [83,73,71,78],bytesOf [35,62],bytesOf [66,65,83,69],bytesOf [68,69,67,73,77,65,76],bytesOf [72,69,88],bytesOf [77,69],bytesOf [84,73,67,75,83],bytesOf [80,65,85,83,69],bytesOf [83,76,69,69,80],bytesOf [66,89,69],bytesOf [78,79,84,69],bytesOf [67,82,69,65,84,69],bytesOf [40,68,79,69,83,41],bytesOf [72,69,82,69],bytesOf [65,76,76,79,84],bytesOf [44],bytesOf [67,79,77,80,73,76,69,44],bytesOf [73,77,77,69,68,73,65,84,69]])
def op_names_sp:TX.Spec:=specD [] [] fun _ a m k=>match a,m with|_,_=>k (.sl .str op_names true) []
theorem op_names_good:TX.Good Tryz.prog 397 op_names_sp:=gf SrNE7_ok mixed Tryz.func397 (body_of rfl) (by kernel_rfl) false (Hints.nil_ok (n0:=0)) 60 rfl fun α _ _ k=>by kernel_rfl
def dict_sized_t {γ:Type}(a0:ByteArray)(k:Bool→Option γ):Option γ:=cond (!ByteArray.toList a0==ByteArray.toList (bytesOf [])) (k (decide ((↑(ByteArray.size a0):Int)≤(31:Int)))) (k (false))
def dict_sized (a0:ByteArray):Option Bool:=dict_sized_t a0 some
def dict_sized_sp:TX.Spec:=specD [.val .str] [] fun _ a m k=>match a,m with|⟨a0,_⟩,_=>outOf (dict_sized a0) fun v=>k (.lit (.bool v)) []
theorem dict_sized_good:TX.Good Tryz.prog 366 dict_sized_sp:=gf SrNE7_ok mixed Tryz.func366 (body_of rfl) (by kernel_rfl) false (Hints.nil_ok (n0:=0)) 60 rfl fun α ⟨a0,_⟩ _ k=>tre ((show ∀k:Bool→Option α,dict_sized_t a0 k=outOf (dict_sized a0) k from fun k=>by delta dict_sized dict_sized_t;exact(tN tL tL)) _) (by kernel_rfl)
def scan_capital_t {γ:Type}(a0:Int)(k:Int→Option γ):Option γ:=cond (decide (a0≥(97:Int))) (cond (decide (a0≤(122:Int))) (k (IntKind.wrap IntKind.u8 (IntKind.wrap IntKind.u8 (a0-(97:Int))+(65:Int)))) (k (a0))) (k (a0))
def scan_capital (a0:Int):Option Int:=scan_capital_t a0 some
def scan_capital_sp:TX.Spec:=specD [.val (.int .u8)] [] fun _ a m k=>match a,m with|⟨a0,_⟩,_=>outOf (scan_capital a0) fun v=>k (.lit (.int .u8 v)) []
theorem scan_capital_good:TX.Good Tryz.prog 385 scan_capital_sp:=gf SrNE7_ok mixed Tryz.func385 (body_of rfl) (by kernel_rfl) false (Hints.nil_ok (n0:=0)) 60 rfl fun α ⟨a0,_⟩ _ k=>tre ((show ∀k:Int→Option α,scan_capital_t a0 k=outOf (scan_capital a0) k from fun k=>by delta scan_capital scan_capital_t;exact(tN (tN tL tL) tL)) _) (by kernel_rfl)
def hasPre0_t {γ:Type}(a0:ByteArray)(a1:ByteArray)(k:Bool→Option γ):Option γ:=cond (decide ((↑(ByteArray.size a0):Int)≥(↑(ByteArray.size a1):Int))) (cond (decide ((0:Int)≤(0:Int)∧(0:Int)≤(↑(ByteArray.size a1):Int)∧(↑(ByteArray.size a1):Int)≤(↑(ByteArray.size a0):Int))) (k (ByteArray.toList (ByteArray.extract a0 (0:Nat) (Int.toNat (↑(ByteArray.size a1):Int)))==ByteArray.toList a1)) (none)) (k (false))
def hasPre0 (a0:ByteArray)(a1:ByteArray):Option Bool:=hasPre0_t a0 a1 some
def hasPre0_sp:TX.Spec:=specD [.val .str, .val .str] [] fun _ a m k=>match a,m with|⟨a0,a1,_⟩,_=>outOf (hasPre0 a0 a1) fun v=>k (.lit (.bool v)) []
theorem hasPre0_good:TX.Good Tryz.prog 396 hasPre0_sp:=gf SrNE7_ok mixed Tryz.func396 (body_of rfl) (by kernel_rfl) false (Hints.nil_ok (n0:=0)) 60 rfl fun α ⟨a0,a1,_⟩ _ k=>tre ((show ∀k:Bool→Option α,hasPre0_t a0 a1 k=outOf (hasPre0 a0 a1) k from fun k=>by delta hasPre0 hasPre0_t;exact(tN (tN tL tO) tL)) _) (by kernel_rfl)
def dict_named1 (a0:Int):Bool:=(decide (a0≤(32:Int)))
def dict_named1_sp:TX.Spec:=specD [.val (.int .u8)] [] fun _ a m k=>match a,m with|⟨a0,_⟩,_=>k (.lit (.bool (dict_named1 a0))) []
theorem dict_named1_good:TX.Good Tryz.prog 369 dict_named1_sp:=gf SrNE7_ok mixed Tryz.func369 (body_of rfl) (by kernel_rfl) false (Hints.nil_ok (n0:=0)) 60 rfl fun α ⟨a0,_⟩ _ k=>by kernel_rfl
noncomputable def SrOE1:Env:=SrNE7.add 397 true op_names_sp |>.add 366 true dict_sized_sp |>.add 385 true scan_capital_sp |>.add 396 true hasPre0_sp |>.add 369 true dict_named1_sp
theorem SrOE1_ok:SrOE1.OK Tryz.prog:=(((((SrNE7_ok).add_ok op_names_good).add_ok dict_sized_good).add_ok scan_capital_good).add_ok hasPre0_good).add_ok dict_named1_good
def scan_Upper_h0:Hints:=Hints.nil 0
theorem scan_Upper_h0_ok:scan_Upper_h0.OK Tryz.prog (bodyOf Tryz.f367):=Hints.nil_ok
def scan_Upper_L1_A:List SD:=an 3 ((.rowz 0)::an 4 ((.rowz 0)::(.val (.int .i64))::(.val (.int .i64))::an 12 []))
def scan_Upper_L1_H:List HD:=[.row (.int .u8)]
abbrev scan_Upper_L1_D:Type:=Nat×Nat×Int×Int×(List Int)
def scan_Upper_L1_to (a:DenS scan_Upper_L1_A)(m:DenH scan_Upper_L1_H):scan_Upper_L1_D:=(a.2.2.2.1,a.2.2.2.2.2.2.2.2.1,a.2.2.2.2.2.2.2.2.2.1,a.2.2.2.2.2.2.2.2.2.2.1,m.1)
def scan_Upper_L1_ofA (d:scan_Upper_L1_D):DenS scan_Upper_L1_A:=match d with|(s3_n,s8_n,s9,s10,m0)=>un 3 (s3_n,un 4 (s8_n,s9,s10,un 12 ()))
def scan_Upper_L1_ofH (d:scan_Upper_L1_D):DenH scan_Upper_L1_H:=match d with|(s3_n,s8_n,s9,s10,m0)=>(m0,())
def scan_Upper_L1_N:Norm:=(⟨[3,8,9,10],[],[]⟩:Go.TX.Norm)
def scan_Upper_L1_X:Exit→Norm:=fun e=>match e with| .exit 0=>⟨[3],[],[]⟩|_=>⟨[],[],[]⟩
abbrev scan_Upper_L1_R:Type:=(Nat×(List Int))
def scan_Upper_L1_f (β:Type)(v:scan_Upper_L1_R)(k:Exit→St→β):β:=k (.exit 0) ⟨av 3 ((.msl 0 0 v.1)::av 19 []),[.row (.int .u8) v.2]⟩
def scan_Upper_L1_t {γ:Type}(s3_n:Nat)(s8_n:Nat)(s9:Int)(s10:Int)(m0:(List Int))(next:scan_Upper_L1_D→Option γ)(out:scan_Upper_L1_R→Option γ):Option γ:=cond (decide (s10<s9)) (cond (decide ((0:Int)≤s10∧s10<(↑s8_n:Int))) (outOf (scan_capital (List.getD m0 ((0:Nat)+Int.toNat s10) (0:Int))) fun x1=>cond (decide ((0:Int)≤s10∧s10<(↑s3_n:Int))) (next (s3_n,s8_n,s9,IntKind.wrap .i64 (s10+(1:Int)),List.set m0 ((0:Nat)+Int.toNat s10) x1)) (none)) (none)) (out (s3_n,m0))
def scan_Upper_L1_pass (d:scan_Upper_L1_D):Option (scan_Upper_L1_D ⊕ scan_Upper_L1_R):=scan_Upper_L1_t d.1 d.2.1 d.2.2.1 d.2.2.2.1 d.2.2.2.2 (fun d=>some (.inl d)) (fun x=>some (.inr x))
def scan_Upper_L1 (d:scan_Upper_L1_D):Option scan_Upper_L1_R:=runs scan_Upper_L1_pass d
def scan_Upper_L1_sp:CSpec:=cS 0 scan_Upper_L1_N scan_Upper_L1_A scan_Upper_L1_H scan_Upper_L1_to (runs scan_Upper_L1_pass) fun β _=>scan_Upper_L1_f β
def scan_Upper_L1_h:Hints:=scan_Upper_h0.add [0,1,0,1,1] scan_Upper_L1_sp
theorem scan_Upper_L1_h_ok:scan_Upper_L1_h.OK Tryz.prog (bodyOf Tryz.f367):=lop SrOE1_ok mixed scan_Upper_h0_ok (p:=[0,1,0,1,1]) (by kernel_rfl) scan_Upper_L1_X scan_Upper_L1_ofA scan_Upper_L1_ofH (fun _ _=>rfl) (fun _ _=>rfl) scan_Upper_L1_pass (fun x β k=>rfl) 60 fun α ⟨s3_n,s8_n,s9,s10,m0⟩ next k=>tre ((show ∀u:scan_Upper_L1_R→Option α,scan_Upper_L1_t s3_n s8_n s9 s10 m0 next u=PassOf (scan_Upper_L1_pass ⟨s3_n,s8_n,s9,s10,m0⟩) next u from fun u=>by delta scan_Upper_L1_pass scan_Upper_L1_t;exact(pN (pN (pB fun x1=>(pN pX pO)) pO) pU)) _) (by kernel_rfl)
def scan_Upper_t {γ:Type}(a0:ByteArray)(k:ByteArray→Option γ):Option γ:=outOf (scan_Upper_L1 (ByteArray.size a0,ByteArray.size a0,(↑(ByteArray.size a0):Int),(0:Int),bytesI a0)) fun x2=>k (strOf (List.take x2.1 (List.drop (0:Nat) x2.2)))
def scan_Upper (a0:ByteArray):Option ByteArray:=scan_Upper_t a0 some
def scan_Upper_sp:TX.Spec:=specD [.val .str] [] fun _ a m k=>match a,m with|⟨a0,_⟩,_=>outOf (scan_Upper a0) fun v=>k (.lit (.string v)) []
theorem scan_Upper_good:TX.Good Tryz.prog 367 scan_Upper_sp:=gf SrOE1_ok mixed Tryz.func367 (body_of rfl) (by kernel_rfl) false scan_Upper_L1_h_ok 60 rfl fun α ⟨a0,_⟩ _ k=>tre ((show ∀k:ByteArray→Option α,scan_Upper_t a0 k=outOf (scan_Upper a0) k from fun k=>by delta scan_Upper scan_Upper_t;exact(tB fun x2=>tL)) _) (by kernel_rfl)
def hasPre1_t {γ:Type}(a0:ByteArray)(a1:ByteArray)(k:Bool→Option γ):Option γ:=outOf (hasPre0 a0 a1) fun x1=>k (x1)
def hasPre1 (a0:ByteArray)(a1:ByteArray):Option Bool:=hasPre1_t a0 a1 some
def hasPre1_sp:TX.Spec:=specD [.val .str, .val .str] [] fun _ a m k=>match a,m with|⟨a0,a1,_⟩,_=>outOf (hasPre1 a0 a1) fun v=>k (.lit (.bool v)) []
theorem hasPre1_good:TX.Good Tryz.prog 387 hasPre1_sp:=gf SrOE1_ok mixed Tryz.func387 (body_of rfl) (by kernel_rfl) false (Hints.nil_ok (n0:=0)) 60 rfl fun α ⟨a0,a1,_⟩ _ k=>tre ((show ∀k:Bool→Option α,hasPre1_t a0 a1 k=outOf (hasPre1 a0 a1) k from fun k=>by delta hasPre1 hasPre1_t;exact(tB fun x1=>tL)) _) (by kernel_rfl)
def op_Name_t {γ:Type}(a0:Int)(k:ByteArray→Option γ):Option γ:=outOf (op_in a0) fun x1=>cond (!x1) (k (bytesOf [])) (cond (decide ((0:Int)≤a0∧a0<(111:Int))) (k (List.getD op_names (Int.toNat a0) (bytesOf []))) (none))
def op_Name (a0:Int):Option ByteArray:=op_Name_t a0 some
def op_Name_sp:TX.Spec:=specD [.val (.int .i64)] [] fun _ a m k=>match a,m with|⟨a0,_⟩,_=>outOf (op_Name a0) fun v=>k (.lit (.string v)) []
theorem op_Name_good:TX.Good Tryz.prog 388 op_Name_sp:=gf SrOE1_ok mixed Tryz.func388 (body_of rfl) (by kernel_rfl) false (Hints.nil_ok (n0:=0)) 60 rfl fun α ⟨a0,_⟩ _ k=>tre ((show ∀k:ByteArray→Option α,op_Name_t a0 k=outOf (op_Name a0) k from fun k=>by delta op_Name op_Name_t;exact(tB fun x1=>(tN tL (tN tL tO)))) _) (by kernel_rfl)
def indexF_h0:Hints:=Hints.nil 0
theorem indexF_h0_ok:indexF_h0.OK Tryz.prog (bodyOf Tryz.f386):=Hints.nil_ok
def indexF_L1_A:List SD:=(.val (.sl (.int .u8)))::(.fn 369)::an 5 ((.val (.int .i64))::(.val (.int .i64))::an 10 [])
def indexF_L1_H:List HD:=[]
abbrev indexF_L1_D:Type:=(List Int)×Int×Int
def indexF_L1_to (a:DenS indexF_L1_A)(m:DenH indexF_L1_H):indexF_L1_D:=(a.1,a.2.2.2.2.2.2.2.1,a.2.2.2.2.2.2.2.2.1)
def indexF_L1_ofA (d:indexF_L1_D):DenS indexF_L1_A:=match d with|(s0,s7,s8)=>(s0,un 6 (s7,s8,un 10 ()))
def indexF_L1_ofH (d:indexF_L1_D):DenH indexF_L1_H:=match d with|(s0,s7,s8)=>()
def indexF_L1_N:Norm:=(⟨[0,1,7,8],[],[]⟩:Go.TX.Norm)
def indexF_L1_X:Exit→Norm:=fun e=>match e with| .exit 0=>⟨[],[],[]⟩| .ret=>⟨[4],[],[]⟩|_=>⟨[],[],[]⟩
abbrev indexF_L1_R:Type:=((Int) ⊕ (Unit))
def indexF_L1_f (β:Type)(v:indexF_L1_R)(k:Exit→St→β):β:=sumOf v (fun v=>k .ret ⟨av 4 ((.lit (.int .i64 v))::av 14 []),[]⟩) (fun v=>k (.exit 0) ⟨av 19 [],[]⟩)
def indexF_L1_t {γ:Type}(s0:(List Int))(s7:Int)(s8:Int)(next:indexF_L1_D→Option γ)(out:indexF_L1_R→Option γ):Option γ:=cond (decide (s8<s7)) (cond (decide ((0:Int)≤s8∧s8<(↑(List.length s0):Int))) (cond (dict_named1 (List.getD s0 (Int.toNat s8) (0:Int))) (out (.inl (s8))) (next (s0,s7,IntKind.wrap .i64 (s8+(1:Int))))) (none)) (out (.inr ()))
def indexF_L1_pass (d:indexF_L1_D):Option (indexF_L1_D ⊕ indexF_L1_R):=indexF_L1_t d.1 d.2.1 d.2.2 (fun d=>some (.inl d)) (fun x=>some (.inr x))
def indexF_L1 (d:indexF_L1_D):Option indexF_L1_R:=runs indexF_L1_pass d
def indexF_L1_sp:CSpec:=cS 0 indexF_L1_N indexF_L1_A indexF_L1_H indexF_L1_to (runs indexF_L1_pass) fun β _=>indexF_L1_f β
def indexF_L1_h:Hints:=indexF_h0.add [0,1,0,1] indexF_L1_sp
theorem indexF_L1_h_ok:indexF_L1_h.OK Tryz.prog (bodyOf Tryz.f386):=lop SrOE1_ok mixed indexF_h0_ok (p:=[0,1,0,1]) (by kernel_rfl) indexF_L1_X indexF_L1_ofA indexF_L1_ofH (fun _ _=>rfl) (fun _ _=>rfl) indexF_L1_pass (fun x β k=>by rcases x with x|x<;>rfl) 60 fun α ⟨s0,s7,s8⟩ next k=>tre ((show ∀u:indexF_L1_R→Option α,indexF_L1_t s0 s7 s8 next u=PassOf (indexF_L1_pass ⟨s0,s7,s8⟩) next u from fun u=>by delta indexF_L1_pass indexF_L1_t;exact(pN (pN (pN pU pX) pO) pU)) _) (by kernel_rfl)
def indexF_t {γ:Type}(a0:(List Int))(k:Int→Option γ):Option γ:=outOf (indexF_L1 (a0,(↑(List.length a0):Int),(0:Int))) fun x1=>sumOf x1 (fun x2=>k (x2)) (fun x3=>k ((-1:Int)))
def indexF (a0:(List Int)):Option Int:=indexF_t a0 some
def indexF_sp:TX.Spec:=specD [.val (.sl (.int .u8)), .fn 369] [] fun _ a m k=>match a,m with|⟨a0,_,_⟩,_=>outOf (indexF a0) fun v=>k (.lit (.int .i64 v)) []
theorem indexF_good:TX.Good Tryz.prog 386 indexF_sp:=gf SrOE1_ok mixed Tryz.func386 (body_of rfl) (by kernel_rfl) false indexF_L1_h_ok 60 rfl fun α ⟨a0,_,_⟩ _ k=>tre ((show ∀k:Int→Option α,indexF_t a0 k=outOf (indexF a0) k from fun k=>by delta indexF indexF_t;exact(tB fun x1=>(tC (fun x2=>tL) (fun x3=>tL)))) _) (by kernel_rfl)
noncomputable def SrOE2:Env:=SrOE1.add 367 true scan_Upper_sp |>.add 387 true hasPre1_sp |>.add 388 true op_Name_sp |>.add 386 true indexF_sp
theorem SrOE2_ok:SrOE2.OK Tryz.prog:=((((SrOE1_ok).add_ok scan_Upper_good).add_ok hasPre1_good).add_ok op_Name_good).add_ok indexF_good
def containsF_t {γ:Type}(a0:(List Int))(k:Bool→Option γ):Option γ:=outOf (indexF a0) fun x1=>k (decide (x1≥(0:Int)))
def containsF (a0:(List Int)):Option Bool:=containsF_t a0 some
def containsF_sp:TX.Spec:=specD [.val (.sl (.int .u8)), .fn 369] [] fun _ a m k=>match a,m with|⟨a0,_,_⟩,_=>outOf (containsF a0) fun v=>k (.lit (.bool v)) []
theorem containsF_good:TX.Good Tryz.prog 368 containsF_sp:=gf SrOE2_ok mixed Tryz.func368 (body_of rfl) (by kernel_rfl) false (Hints.nil_ok (n0:=0)) 60 rfl fun α ⟨a0,_,_⟩ _ k=>tre ((show ∀k:Bool→Option α,containsF_t a0 k=outOf (containsF a0) k from fun k=>by delta containsF containsF_t;exact(tB fun x1=>tL)) _) (by kernel_rfl)
def op_Hidden_t {γ:Type}(a0:Int)(k:Bool→Option γ):Option γ:=outOf (op_Name a0) fun x1=>outOf (hasPre1 x1 (bytesOf [40])) fun x2=>k (x2)
def op_Hidden (a0:Int):Option Bool:=op_Hidden_t a0 some
def op_Hidden_sp:TX.Spec:=specD [.val (.int .i64)] [] fun _ a m k=>match a,m with|⟨a0,_⟩,_=>outOf (op_Hidden a0) fun v=>k (.lit (.bool v)) []
theorem op_Hidden_good:TX.Good Tryz.prog 370 op_Hidden_sp:=gf SrOE2_ok mixed Tryz.func370 (body_of rfl) (by kernel_rfl) false (Hints.nil_ok (n0:=0)) 60 rfl fun α ⟨a0,_⟩ _ k=>tre ((show ∀k:Bool→Option α,op_Hidden_t a0 k=outOf (op_Hidden a0) k from fun k=>by delta op_Hidden op_Hidden_t;exact(tB fun x1=>(tB fun x2=>tL))) _) (by kernel_rfl)
noncomputable def SrOE3:Env:=SrOE2.add 368 true containsF_sp |>.add 370 true op_Hidden_sp
theorem SrOE3_ok:SrOE3.OK Tryz.prog:=((SrOE2_ok).add_ok containsF_good).add_ok op_Hidden_good
def dict_named_t {γ:Type}(a0:ByteArray)(k:Bool→Option γ):Option γ:=outOf (dict_sized a0) fun x1=>cond x1 (outOf (scan_Upper a0) fun x2=>cond (ByteArray.toList x2==ByteArray.toList a0) (outOf (containsF (List.take (ByteArray.size a0) (List.drop (0:Nat) (bytesI a0)))) fun x3=>k (!x3)) (k (false))) (k (false))
def dict_named (a0:ByteArray):Option Bool:=dict_named_t a0 some
def dict_named_sp:TX.Spec:=specD [.val .str] [] fun _ a m k=>match a,m with|⟨a0,_⟩,_=>outOf (dict_named a0) fun v=>k (.lit (.bool v)) []
theorem dict_named_good:TX.Good Tryz.prog 341 dict_named_sp:=gf SrOE3_ok mixed Tryz.func341 (body_of rfl) (by kernel_rfl) false (Hints.nil_ok (n0:=0)) 60 rfl fun α ⟨a0,_⟩ _ k=>tre ((show ∀k:Bool→Option α,dict_named_t a0 k=outOf (dict_named a0) k from fun k=>by delta dict_named dict_named_t;exact(tB fun x1=>(tN (tB fun x2=>(tN (tB fun x3=>tL) tL)) tL))) _) (by kernel_rfl)
def dict_visible_t {γ:Type}(a0:Int)(k:Bool→Option γ):Option γ:=outOf (dict_within a0 (110:Int)) fun x1=>cond x1 (outOf (op_Hidden a0) fun x2=>k (!x2)) (k (false))
def dict_visible (a0:Int):Option Bool:=dict_visible_t a0 some
def dict_visible_sp:TX.Spec:=specD [.val (.int .i64)] [] fun _ a m k=>match a,m with|⟨a0,_⟩,_=>outOf (dict_visible a0) fun v=>k (.lit (.bool v)) []
theorem dict_visible_good:TX.Good Tryz.prog 342 dict_visible_sp:=gf SrOE3_ok mixed Tryz.func342 (body_of rfl) (by kernel_rfl) false (Hints.nil_ok (n0:=0)) 60 rfl fun α ⟨a0,_⟩ _ k=>tre ((show ∀k:Bool→Option α,dict_visible_t a0 k=outOf (dict_visible a0) k from fun k=>by delta dict_visible dict_visible_t;exact(tB fun x1=>(tN (tB fun x2=>tL) tL))) _) (by kernel_rfl)
noncomputable def SrOE4:Env:=SrOE3.add 341 true dict_named_sp |>.add 342 true dict_visible_sp
theorem SrOE4_ok:SrOE4.OK Tryz.prog:=((SrOE3_ok).add_ok dict_named_good).add_ok dict_visible_good
def dict_Sane_t {γ:Type}(a0_0:ByteArray)(a0_1:Bool)(a0_2:Int)(a0_3:Int)(a0_4:Int)(a0_5:Int)(k:Bool→Option γ):Option γ:=outOf (dict_named a0_0) fun x1=>cond (!x1) (k (false)) (cond (a0_2==(0:Int)) (outOf (dict_visible a0_3) fun x2=>cond x2 (k (a0_4==(0:Int)&&(a0_5==(0:Int)&&true))) (k (false))) (cond (a0_2==(1:Int)) (cond (a0_2==(1:Int)) (outOf (dict_Addr a0_4 a0_5) fun x3=>k (decide (x3≥(0:Int)))) (cond (a0_2==(2:Int)) (k (true)) (k (a0_2==(3:Int))))) (cond (a0_2==(4:Int)) (outOf (dict_Addr a0_4 a0_5) fun x4=>k (decide (x4≥(0:Int)))) (cond (a0_2==(2:Int)) (k (true)) (k (a0_2==(3:Int)))))))
def dict_Sane (a0_0:ByteArray)(a0_1:Bool)(a0_2:Int)(a0_3:Int)(a0_4:Int)(a0_5:Int):Option Bool:=dict_Sane_t a0_0 a0_1 a0_2 a0_3 a0_4 a0_5 some
def dict_Sane_sp:TX.Spec:=specD [.agg (.pair .str (.pair .bool (.pair (.int .i64) (.pair (.int .i64) (.pair (.int .i64) (.int .i64))))))] [] fun _ a m k=>match a,m with|⟨⟨a0_0,a0_1,a0_2,a0_3,a0_4,a0_5⟩,_⟩,_=>outOf (dict_Sane a0_0 a0_1 a0_2 a0_3 a0_4 a0_5) fun v=>k (.lit (.bool v)) []
theorem dict_Sane_good:TX.Good Tryz.prog 307 dict_Sane_sp:=gf SrOE4_ok mixed Tryz.func307 (body_of rfl) (by kernel_rfl) false (Hints.nil_ok (n0:=0)) 60 rfl fun α ⟨⟨a0_0,a0_1,a0_2,a0_3,a0_4,a0_5⟩,_⟩ _ k=>tre ((show ∀k:Bool→Option α,dict_Sane_t a0_0 a0_1 a0_2 a0_3 a0_4 a0_5 k=outOf (dict_Sane a0_0 a0_1 a0_2 a0_3 a0_4 a0_5) k from fun k=>by delta dict_Sane dict_Sane_t;exact(tB fun x1=>(tN tL (tN (tB fun x2=>(tN tL tL)) (tN (tN (tB fun x3=>tL) (tN tL tL)) (tN (tB fun x4=>tL) (tN tL tL))))))) _) (by kernel_rfl)
noncomputable def SrOE5:Env:=SrOE4.add 307 true dict_Sane_sp
theorem SrOE5_ok:SrOE5.OK Tryz.prog:=(SrOE4_ok).add_ok dict_Sane_good
end
end Go.Proofs.Dbl
