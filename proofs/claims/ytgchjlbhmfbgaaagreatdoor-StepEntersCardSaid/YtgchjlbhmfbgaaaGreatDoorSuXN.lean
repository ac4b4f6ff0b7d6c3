import Derived.Test.YtgchjlbhmfbgaaaGreatDoorSuXS
import Derived.Test.YtgchjlbhmfbgaaaGreatDoorSuCm
namespace Go.Proofs.Dbl
open Go Go.TX Go.Proofs
set_option maxRecDepth 100000
set_option linter.unusedVariables false
set_option maxHeartbeats 0
noncomputable section
abbrev bytes_Clone0_R:Type:=(Nat×(List Int))
def bytes_Clone0_t {γ:Type}(a0:(List Int))(k:bytes_Clone0_R→Option γ):Option γ:=cond (List.isEmpty a0) (none) (cond (decide (List.length a0≤(2147483648:Nat))) (k (List.length a0,a0)) (none))
def bytes_Clone0 (a0:(List Int)):Option bytes_Clone0_R:=bytes_Clone0_t a0 some
def bytes_Clone0_sp:TX.Spec:=specD [.val (.sl (.int .u8))] [] fun _ a m k=>match a,m with|⟨a0,_⟩,_=>outOf (bytes_Clone0 a0) fun v=>k (.msl 0 0 v.1) [.row (.int .u8) v.2]
theorem bytes_Clone0_good:TX.Good Tryz.prog 318 bytes_Clone0_sp:=gf SrME3_ok mixed Tryz.func318 (body_of rfl) (by kernel_rfl) true (Hints.nil_ok (n0:=0)) 60 rfl fun α ⟨a0,_⟩ _ k=>tre ((show ∀k:bytes_Clone0_R→Option α,bytes_Clone0_t a0 k=outOf (bytes_Clone0 a0) k from fun k=>by delta bytes_Clone0 bytes_Clone0_t;exact(tN tO (tN tL tO))) _) (by kernel_rfl)
def bytes_Clone_sp:TX.Spec:=cloneO_sp (.int .u8)
theorem bytes_Clone_good:TX.Good Tryz.prog 318 bytes_Clone_sp:=cloneO_good Tryz.func318 (body_of rfl) (by kernel_rfl) clone318_0 (F:=bytes_Clone0) (fun l h1 h2=>by cases l with|nil=>exact absurd rfl h1|cons x l=>(unfold bytes_Clone0 bytes_Clone0_t;rw[show List.isEmpty (x::l)=false from rfl,show decide ((x::l).length≤2147483648)=true from decide_eq_true h2];rfl)) bytes_Clone0_good
abbrev ev_Clone0_R:Type:=(Nat×(List (Int×(Int×(Int×Int)))))
def ev_Clone0_t {γ:Type}(a0:(List ((Int×(Int×(Int×Int))))))(k:ev_Clone0_R→Option γ):Option γ:=cond (List.isEmpty a0) (none) (cond (decide (List.length a0≤(2147483648:Nat))) (k (List.length a0,a0)) (none))
def ev_Clone0 (a0:(List ((Int×(Int×(Int×Int)))))):Option ev_Clone0_R:=ev_Clone0_t a0 some
def ev_Clone0_sp:TX.Spec:=specD [.val (.sl (.pair (.int .i64) (.pair (.int .i64) (.pair (.int .i64) (.int .i64)))))] [] fun _ a m k=>match a,m with|⟨a0,_⟩,_=>outOf (ev_Clone0 a0) fun v=>k (.msl 0 0 v.1) [.row (.pair (.int .i64) (.pair (.int .i64) (.pair (.int .i64) (.int .i64)))) v.2]
theorem ev_Clone0_good:TX.Good Tryz.prog 258 ev_Clone0_sp:=gf SrME3_ok mixed Tryz.func258 (body_of rfl) (by kernel_rfl) true (Hints.nil_ok (n0:=0)) 60 rfl fun α ⟨a0,_⟩ _ k=>tre ((show ∀k:ev_Clone0_R→Option α,ev_Clone0_t a0 k=outOf (ev_Clone0 a0) k from fun k=>by delta ev_Clone0 ev_Clone0_t;exact(tN tO (tN tL tO))) _) (by kernel_rfl)
def ev_Clone_sp:TX.Spec:=cloneO_sp (.pair (.int .i64) (.pair (.int .i64) (.pair (.int .i64) (.int .i64))))
theorem ev_Clone_good:TX.Good Tryz.prog 258 ev_Clone_sp:=cloneO_good Tryz.func258 (body_of rfl) (by kernel_rfl) clone258_0 (F:=ev_Clone0) (fun l h1 h2=>by cases l with|nil=>exact absurd rfl h1|cons x l=>(unfold ev_Clone0 ev_Clone0_t;rw[show List.isEmpty (x::l)=false from rfl,show decide ((x::l).length≤2147483648)=true from decide_eq_true h2];rfl)) ev_Clone0_good
noncomputable def SuE5:Env:=SrME3.add 318 false bytes_Clone_sp |>.add 258 false ev_Clone_sp
theorem SuE5_ok:SuE5.OK Tryz.prog:=((SrME3_ok).add_ok bytes_Clone_good).add_ok ev_Clone_good
abbrev mem_span_R:Type:=((List Int)×Bool)
def mem_span_t {γ:Type}(a0:(List Int))(a1:Int)(a2:Int)(k:mem_span_R→Option γ):Option γ:=cond (decide (a1<(0:Int))) (k ([],false)) (cond (decide (a2<(0:Int))) (k ([],false)) (cond (decide (a1>(↑(List.length a0):Int))) (k ([],false)) (cond (decide (a2>IntKind.wrap .i64 ((↑(List.length a0):Int)-a1))) (k ([],false)) (cond (decide ((0:Int)≤a1∧a1≤IntKind.wrap .i64 (a1+a2)∧IntKind.wrap .i64 (a1+a2)≤IntKind.wrap .i64 (a1+a2)∧IntKind.wrap .i64 (a1+a2)≤(↑(List.length a0):Int))) (k (List.take (Int.toNat (IntKind.wrap .i64 (a1+a2))-Int.toNat a1) (List.drop (Int.toNat a1) a0),true)) (none)))))
def mem_span (a0:(List Int))(a1:Int)(a2:Int):Option mem_span_R:=mem_span_t a0 a1 a2 some
def mem_span_sp:TX.Spec:=specD [.val (.sl (.int .u8)), .val (.int .i64), .val (.int .i64)] [] fun _ a m k=>match a,m with|⟨a0,a1,a2,_⟩,_=>outOf (mem_span a0 a1 a2) fun v=>k (.tup [.sl (.int .u8) v.1 false, .lit (.bool v.2)]) []
theorem mem_span_good:TX.Good Tryz.prog 243 mem_span_sp:=gw SuE5_ok mixed Tryz.func243 (body_of rfl) (by kernel_rfl) false (Hints.nil_ok (n0:=0)) 60 rfl fun α ⟨a0,a1,a2,_⟩ _ k=>tre ((show ∀k:mem_span_R→Option α,mem_span_t a0 a1 a2 k=outOf (mem_span a0 a1 a2) k from fun k=>by delta mem_span mem_span_t;exact(tN tL (tN tL (tN tL (tN tL (tN tL tO)))))) _) (by kernel_rfl)
def bits_Mul (a0:Int)(a1:Int):Int×Int:=(Prod.fst (mul64 a0 a1),Prod.snd (mul64 a0 a1))
def bits_Mul_sp:TX.Spec:=specD [.val (.int .u64), .val (.int .u64)] [] fun _ a m k=>match a,m with|⟨a0,a1,_⟩,_=>k (.tup [.lit (.int .u64 ((bits_Mul a0 a1).1)), .lit (.int .u64 ((bits_Mul a0 a1).2))]) []
theorem bits_Mul_good:TX.Good Tryz.prog 343 bits_Mul_sp:=gf SuE5_ok mixed Tryz.func343 (body_of rfl) (by kernel_rfl) false (Hints.nil_ok (n0:=0)) 60 rfl fun α ⟨a0,a1,_⟩ _ k=>by kernel_rfl
def mem_word_h0:Hints:=Hints.nil 0
theorem mem_word_h0_ok:mem_word_h0.OK Tryz.prog (bodyOf Tryz.f257):=Hints.nil_ok
def mem_word_L1_A:List SD:=(.val (.int .i64)):: .any:: .any::(.loc 0 0 0):: .any::(.val (.int .i64))::an 13 []
def mem_word_L1_H:List HD:=[.row (.int .u8)]
abbrev mem_word_L1_D:Type:=Int×Int×(List Int)
def mem_word_L1_to (a:DenS mem_word_L1_A)(m:DenH mem_word_L1_H):mem_word_L1_D:=(a.1,a.2.2.2.2.2.1,m.1)
def mem_word_L1_ofA (d:mem_word_L1_D):DenS mem_word_L1_A:=match d with|(s0,s5,m0)=>(s0,un 4 (s5,un 13 ()))
def mem_word_L1_ofH (d:mem_word_L1_D):DenH mem_word_L1_H:=match d with|(s0,s5,m0)=>(m0,())
def mem_word_L1_N:Norm:=(⟨[0,3,5],[],[]⟩:Go.TX.Norm)
def mem_word_L1_X:Exit→Norm:=fun e=>match e with| .exit 0=>⟨[3],[],[]⟩|_=>⟨[],[],[]⟩
def mem_word_L1_f (β:Type)(v:(List Int))(k:Exit→St→β):β:=k (.exit 0) ⟨av 3 ((.ptr 0 0 0)::av 15 []),[.row (.int .u8) v]⟩
def mem_word_L1_t {γ:Type}(s0:Int)(s5:Int)(m0:(List Int))(next:mem_word_L1_D→Option γ)(out:(List Int)→Option γ):Option γ:=cond (decide (s5<(8:Int))) (cond (decide (IntKind.wrap .u64 (IntKind.wrap .i64 (s5*(8:Int)))<(0:Int))) (none) (cond (decide ((0:Int)≤s5∧s5<(8:Int)∧(0:Nat)+Int.toNat s5<List.length m0)) (next (s0,IntKind.wrap .i64 (s5+(1:Int)),List.set m0 ((0:Nat)+Int.toNat s5) (IntKind.wrap IntKind.u8 (Int.fdiv (IntKind.wrap .u64 s0) ((2:Int)^min (Int.toNat (IntKind.wrap .u64 (IntKind.wrap .i64 (s5*(8:Int))))) (64:Nat)))))) (none))) (out (m0))
def mem_word_L1_pass (d:mem_word_L1_D):Option (mem_word_L1_D ⊕ (List Int)):=mem_word_L1_t d.1 d.2.1 d.2.2 (fun d=>some (.inl d)) (fun x=>some (.inr x))
def mem_word_L1 (d:mem_word_L1_D):Option (List Int):=runs mem_word_L1_pass d
def mem_word_L1_sp:CSpec:=cS 0 mem_word_L1_N mem_word_L1_A mem_word_L1_H mem_word_L1_to (runs mem_word_L1_pass) fun β _=>mem_word_L1_f β
def mem_word_L1_h:Hints:=mem_word_h0.add [0,1,0,1,1] mem_word_L1_sp
theorem mem_word_L1_h_ok:mem_word_L1_h.OK Tryz.prog (bodyOf Tryz.f257):=lop SuE5_ok mixed mem_word_h0_ok (p:=[0,1,0,1,1]) (by kernel_rfl) mem_word_L1_X mem_word_L1_ofA mem_word_L1_ofH (fun _ _=>rfl) (fun _ _=>rfl) mem_word_L1_pass (fun x β k=>rfl) 60 fun α ⟨s0,s5,m0⟩ next k=>tre ((show ∀u:(List Int)→Option α,mem_word_L1_t s0 s5 m0 next u=PassOf (mem_word_L1_pass ⟨s0,s5,m0⟩) next u from fun u=>by delta mem_word_L1_pass mem_word_L1_t;exact(pN (pN pO (pN pX pO)) pU)) _) (by kernel_rfl)
def mem_word_t {γ:Type}(a0:Int)(k:(List Int)→Option γ):Option γ:=outOf (mem_word_L1 (a0,(0:Int),[(0:Int),(0:Int),(0:Int),(0:Int),(0:Int),(0:Int),(0:Int),(0:Int)])) fun x1=>cond (decide (List.length x1=(8:Nat))) (k (List.take (8:Nat) (List.drop (0:Nat) x1))) (none)
def mem_word (a0:Int):Option (List Int):=mem_word_t a0 some
def mem_word_sp:TX.Spec:=specD [.val (.int .i64)] [] fun _ a m k=>match a,m with|⟨a0,_⟩,_=>outOf (mem_word a0) fun v=>k (.sl (.int .u8) v false) []
theorem mem_word_good:TX.Good Tryz.prog 257 mem_word_sp:=gf SuE5_ok mixed Tryz.func257 (body_of rfl) (by kernel_rfl) false mem_word_L1_h_ok 60 rfl fun α ⟨a0,_⟩ _ k=>tre ((show ∀k:(List Int)→Option α,mem_word_t a0 k=outOf (mem_word a0) k from fun k=>by delta mem_word mem_word_t;exact(tB fun x1=>(tN tL tO))) _) (by kernel_rfl)
abbrev guard_UserAt_R:Type:=(Int×Bool)
def guard_UserAt_t {γ:Type}(a0:Int)(k:guard_UserAt_R→Option γ):Option γ:=cond (decide (a0<(0:Int))) (k ((0:Int),false)) (cond (decide (a0≥(8:Int))) (k ((0:Int),false)) (k (IntKind.wrap .i64 ((4096:Int)+IntKind.wrap .i64 (a0*(128:Int))),true)))
def guard_UserAt (a0:Int):Option guard_UserAt_R:=guard_UserAt_t a0 some
def guard_UserAt_sp:TX.Spec:=specD [.val (.int .i64)] [] fun _ a m k=>match a,m with|⟨a0,_⟩,_=>outOf (guard_UserAt a0) fun v=>k (.tup [.lit (.int .i64 v.1), .lit (.bool v.2)]) []
theorem guard_UserAt_good:TX.Good Tryz.prog 23 guard_UserAt_sp:=gf SuE5_ok mixed Tryz.func23 (body_of rfl) (by kernel_rfl) false (Hints.nil_ok (n0:=0)) 60 rfl fun α ⟨a0,_⟩ _ k=>tre ((show ∀k:guard_UserAt_R→Option α,guard_UserAt_t a0 k=outOf (guard_UserAt a0) k from fun k=>by delta guard_UserAt guard_UserAt_t;exact(tN tL (tN tL tL))) _) (by kernel_rfl)
abbrev guard_of_R:Type:=(Int×Int×Int)
def guard_of_t {γ:Type}(a0:Int)(k:guard_of_R→Option γ):Option γ:=cond (decide (a0<(0:Int))) (k ((-1:Int),(-1:Int),a0)) (cond (decide (a0≥(5120:Int))) (k ((-1:Int),(-1:Int),a0)) (cond (decide (a0<(2048:Int))) (k ((0:Int),(-1:Int),(2048:Int))) (cond (decide (a0<(4096:Int))) (k ((1:Int),(-1:Int),(4096:Int))) (k ((2:Int),IntKind.wrap .i64 (Int.tdiv (IntKind.wrap .i64 (a0-(4096:Int))) (128:Int)),IntKind.wrap .i64 ((4096:Int)+IntKind.wrap .i64 (IntKind.wrap .i64 (IntKind.wrap .i64 (Int.tdiv (IntKind.wrap .i64 (a0-(4096:Int))) (128:Int))+(1:Int))*(128:Int))))))))
def guard_of (a0:Int):Option guard_of_R:=guard_of_t a0 some
def guard_of_sp:TX.Spec:=specD [.val (.int .i64)] [] fun _ a m k=>match a,m with|⟨a0,_⟩,_=>outOf (guard_of a0) fun v=>k (.tup [.agg [.lit (.int .i64 v.1), .lit (.int .i64 v.2.1)], .lit (.int .i64 v.2.2)]) []
theorem guard_of_good:TX.Good Tryz.prog 46 guard_of_sp:=gf SuE5_ok mixed Tryz.func46 (body_of rfl) (by kernel_rfl) false (Hints.nil_ok (n0:=0)) 60 rfl fun α ⟨a0,_⟩ _ k=>tre ((show ∀k:guard_of_R→Option α,guard_of_t a0 k=outOf (guard_of a0) k from fun k=>by delta guard_of guard_of_t;exact(tN tL (tN tL (tN tL (tN tL tL))))) _) (by kernel_rfl)
def guard_touches_t {γ:Type}(a0_0:Int)(a0_1:Bool)(a1_0:Int)(a1_1:Int)(a2:Bool)(k:Bool→Option γ):Option γ:=cond (a1_0==(0:Int)&&(a1_1==(-1:Int)&&true)) (k (!a2)) (cond (a1_0==(1:Int)&&(a1_1==(-1:Int)&&true)) (k (a0_1)) (k (a1_0==(2:Int)&&(a1_1==a0_0&&true))))
def guard_touches (a0_0:Int)(a0_1:Bool)(a1_0:Int)(a1_1:Int)(a2:Bool):Option Bool:=guard_touches_t a0_0 a0_1 a1_0 a1_1 a2 some
def guard_touches_sp:TX.Spec:=specD [.agg (.pair (.int .i64) .bool), .agg (.pair (.int .i64) (.int .i64)), .val .bool] [] fun _ a m k=>match a,m with|⟨⟨a0_0,a0_1⟩,⟨a1_0,a1_1⟩,a2,_⟩,_=>outOf (guard_touches a0_0 a0_1 a1_0 a1_1 a2) fun v=>k (.lit (.bool v)) []
theorem guard_touches_good:TX.Good Tryz.prog 47 guard_touches_sp:=gf SuE5_ok mixed Tryz.func47 (body_of rfl) (by kernel_rfl) false (Hints.nil_ok (n0:=0)) 60 rfl fun α ⟨⟨a0_0,a0_1⟩,⟨a1_0,a1_1⟩,a2,_⟩ _ k=>tre ((show ∀k:Bool→Option α,guard_touches_t a0_0 a0_1 a1_0 a1_1 a2 k=outOf (guard_touches a0_0 a0_1 a1_0 a1_1 a2) k from fun k=>by delta guard_touches guard_touches_t;exact(tN tL (tN tL tL))) _) (by kernel_rfl)
def pic_area_t {γ:Type}(a0:Int)(k:Bool→Option γ):Option γ:=cond (decide (a0≥(0:Int))) (k (decide (a0≤(5120:Int)))) (k (false))
def pic_area (a0:Int):Option Bool:=pic_area_t a0 some
def pic_area_sp:TX.Spec:=specD [.val (.int .i64)] [] fun _ a m k=>match a,m with|⟨a0,_⟩,_=>outOf (pic_area a0) fun v=>k (.lit (.bool v)) []
theorem pic_area_good:TX.Good Tryz.prog 249 pic_area_sp:=gf SuE5_ok mixed Tryz.func249 (body_of rfl) (by kernel_rfl) false (Hints.nil_ok (n0:=0)) 60 rfl fun α ⟨a0,_⟩ _ k=>tre ((show ∀k:Bool→Option α,pic_area_t a0 k=outOf (pic_area a0) k from fun k=>by delta pic_area pic_area_t;exact(tN tL tL)) _) (by kernel_rfl)
def pic_end (a0:Int):Int:=(IntKind.wrap .i64 (a0+(128:Int)))
def pic_end_sp:TX.Spec:=specD [.val (.int .i64)] [] fun _ a m k=>match a,m with|⟨a0,_⟩,_=>k (.lit (.int .i64 (pic_end a0))) []
theorem pic_end_good:TX.Good Tryz.prog 250 pic_end_sp:=gf SuE5_ok mixed Tryz.func250 (body_of rfl) (by kernel_rfl) false (Hints.nil_ok (n0:=0)) 60 rfl fun α ⟨a0,_⟩ _ k=>by kernel_rfl
abbrev pic_divide_R:Type:=(Int×Int×Int)
def pic_divide_t {γ:Type}(a0_0:Int)(a0_1:Int)(a1:Int)(k:pic_divide_R→Option γ):Option γ:=cond (decide (IntKind.wrap .u64 a1=(0:Int))) (none) (outOf (div64 (Int.tmod (IntKind.wrap .u64 a0_1) (IntKind.wrap .u64 a1)) (IntKind.wrap .u64 a0_0) (IntKind.wrap .u64 a1)) fun x1=>cond (decide (IntKind.wrap .u64 a1=(0:Int))) (none) (k (IntKind.wrap .i64 x1.1,IntKind.wrap .i64 (IntKind.wrap .u64 (Int.tdiv (IntKind.wrap .u64 a0_1) (IntKind.wrap .u64 a1))),IntKind.wrap .i64 x1.2)))
def pic_divide (a0_0:Int)(a0_1:Int)(a1:Int):Option pic_divide_R:=pic_divide_t a0_0 a0_1 a1 some
def pic_divide_sp:TX.Spec:=specD [.agg (.pair (.int .i64) (.int .i64)), .val (.int .i64)] [] fun _ a m k=>match a,m with|⟨⟨a0_0,a0_1⟩,a1,_⟩,_=>outOf (pic_divide a0_0 a0_1 a1) fun v=>k (.tup [.agg [.lit (.int .i64 v.1), .lit (.int .i64 v.2.1)], .lit (.int .i64 v.2.2)]) []
theorem pic_divide_good:TX.Good Tryz.prog 251 pic_divide_sp:=gf SuE5_ok mixed Tryz.func251 (body_of rfl) (by kernel_rfl) false (Hints.nil_ok (n0:=0)) 60 rfl fun α ⟨⟨a0_0,a0_1⟩,a1,_⟩ _ k=>tre ((show ∀k:pic_divide_R→Option α,pic_divide_t a0_0 a0_1 a1 k=outOf (pic_divide a0_0 a0_1 a1) k from fun k=>by delta pic_divide pic_divide_t;exact(tN tO (tB fun x1=>(tN tO tL)))) _) (by kernel_rfl)
noncomputable def SrNE1:Env:=SuE5.add 243 true mem_span_sp |>.add 343 true bits_Mul_sp |>.add 257 true mem_word_sp |>.add 23 true guard_UserAt_sp |>.add 46 true guard_of_sp |>.add 47 true guard_touches_sp |>.add 249 true pic_area_sp |>.add 250 true pic_end_sp |>.add 251 true pic_divide_sp
theorem SrNE1_ok:SrNE1.OK Tryz.prog:=(((((((((SuE5_ok).add_ok mem_span_good).add_ok bits_Mul_good).add_ok mem_word_good).add_ok guard_UserAt_good).add_ok guard_of_good).add_ok guard_touches_good).add_ok pic_area_good).add_ok pic_end_good).add_ok pic_divide_good
abbrev mem_slot_R:Type:=((List Int)×Int)
def mem_slot_t {γ:Type}(a0:(List Int))(a1:Int)(k:mem_slot_R→Option γ):Option γ:=outOf (mem_span a0 a1 (8:Int)) fun x2=>cond (!x2.2) (k ([],(-9:Int))) (cond (a1 != cell_Aligned a1) (k ([],(-23:Int))) (k (x2.1,(0:Int))))
def mem_slot (a0:(List Int))(a1:Int):Option mem_slot_R:=mem_slot_t a0 a1 some
def mem_slot_sp:TX.Spec:=specD [.val (.sl (.int .u8)), .val (.int .i64)] [] fun _ a m k=>match a,m with|⟨a0,a1,_⟩,_=>outOf (mem_slot a0 a1) fun v=>k (.tup [.sl (.int .u8) v.1 false, .lit (.int .i64 v.2)]) []
theorem mem_slot_good:TX.Good Tryz.prog 255 mem_slot_sp:=gw SrNE1_ok mixed Tryz.func255 (body_of rfl) (by kernel_rfl) false (Hints.nil_ok (n0:=0)) 60 rfl fun α ⟨a0,a1,_⟩ _ k=>tre ((show ∀k:mem_slot_R→Option α,mem_slot_t a0 a1 k=outOf (mem_slot a0 a1) k from fun k=>by delta mem_slot mem_slot_t;exact(tB fun x2=>(tN tL (tN tL tL)))) _) (by kernel_rfl)
def bytes_Repeat_h0:Hints:=Hints.nil 0
theorem bytes_Repeat_h0_ok:bytes_Repeat_h0.OK Tryz.prog (bodyOf Tryz.f308):=Hints.nil_ok
def bytes_Repeat_M1_A:List SD:=(.val (.sl (.int .u8)))::(.val (.int .i64))::an 75 []
def bytes_Repeat_M1_H:List HD:=[]
abbrev bytes_Repeat_M1_D:Type:=(List Int)×Int
def bytes_Repeat_M1_to (a:DenS bytes_Repeat_M1_A)(m:DenH bytes_Repeat_M1_H):bytes_Repeat_M1_D:=(a.1,a.2.1)
def bytes_Repeat_M1_ofA (d:bytes_Repeat_M1_D):DenS bytes_Repeat_M1_A:=match d with|(s0,s1)=>(s0,s1,un 75 ())
def bytes_Repeat_M1_ofH (d:bytes_Repeat_M1_D):DenH bytes_Repeat_M1_H:=match d with|(s0,s1)=>()
def bytes_Repeat_M1_N:Norm:=(⟨[0,1],[],[]⟩:Go.TX.Norm)
def bytes_Repeat_M1_X:Exit→Norm:=fun e=>match e with| .normal=>⟨[0,1],[],[]⟩|_=>⟨[],[],[]⟩
def bytes_Repeat_M1_f (β:Type)(d:bytes_Repeat_M1_D)(v:Unit)(k:Exit→St→β):β:=k .normal ⟨(.sl (.int .u8) d.1 false)::(.lit (.int .i64 d.2))::av 75 [],[]⟩
def bytes_Repeat_M1_t {γ:Type}(s1:Int)(k:Unit→Option γ):Option γ:=cond (decide (s1<(0:Int))) (none) (k ())
def bytes_Repeat_M1 (s1:Int):Option Unit:=bytes_Repeat_M1_t s1 some
def bytes_Repeat_M1_sp:CSpec:=cS 0 bytes_Repeat_M1_N bytes_Repeat_M1_A bytes_Repeat_M1_H bytes_Repeat_M1_to (fun d=>bytes_Repeat_M1 d.2) bytes_Repeat_M1_f
def bytes_Repeat_M1_h:Hints:=bytes_Repeat_h0.add [0,1,1] bytes_Repeat_M1_sp
theorem bytes_Repeat_M1_h_ok:bytes_Repeat_M1_h.OK Tryz.prog (bodyOf Tryz.f308):=onc SrNE1_ok mixed bytes_Repeat_h0_ok (p:=[0,1,1]) (by kernel_rfl) bytes_Repeat_M1_X bytes_Repeat_M1_ofA bytes_Repeat_M1_ofH (fun _ _=>rfl) (fun _ _=>rfl) (fun d x β k=>rfl) 60 fun α ⟨s0,s1⟩ k=>tre ((show ∀k:Unit→Option α,bytes_Repeat_M1_t s1 k=outOf (bytes_Repeat_M1 s1) k from fun k=>by delta bytes_Repeat_M1 bytes_Repeat_M1_t;exact(tN tO tL)) _) (by kernel_rfl)
def bytes_Repeat_M2_A:List SD:=(.val (.sl (.int .u8)))::an 4 ((.val (.int .u64))::(.val (.int .u64))::an 70 [])
def bytes_Repeat_M2_H:List HD:=[]
abbrev bytes_Repeat_M2_D:Type:=(List Int)×Int×Int
def bytes_Repeat_M2_to (a:DenS bytes_Repeat_M2_A)(m:DenH bytes_Repeat_M2_H):bytes_Repeat_M2_D:=(a.1,a.2.2.2.2.2.1,a.2.2.2.2.2.2.1)
def bytes_Repeat_M2_ofA (d:bytes_Repeat_M2_D):DenS bytes_Repeat_M2_A:=match d with|(s0,s5,s6)=>(s0,un 4 (s5,s6,un 70 ()))
def bytes_Repeat_M2_ofH (d:bytes_Repeat_M2_D):DenH bytes_Repeat_M2_H:=match d with|(s0,s5,s6)=>()
def bytes_Repeat_M2_N:Norm:=(⟨[0,5,6],[],[]⟩:Go.TX.Norm)
def bytes_Repeat_M2_X:Exit→Norm:=fun e=>match e with| .normal=>⟨[0,6],[],[]⟩|_=>⟨[],[],[]⟩
def bytes_Repeat_M2_f (β:Type)(d:bytes_Repeat_M2_D)(v:Unit)(k:Exit→St→β):β:=k .normal ⟨(.sl (.int .u8) d.1 false)::av 5 ((.lit (.int .u64 d.2.2))::av 70 []),[]⟩
def bytes_Repeat_M2_t {γ:Type}(s5:Int)(s6:Int)(k:Unit→Option γ):Option γ:=cond (decide (s5>(0:Int))) (none) (cond (decide (s6>(9223372036854775807:Int))) (none) (k ()))
def bytes_Repeat_M2 (s5:Int)(s6:Int):Option Unit:=bytes_Repeat_M2_t s5 s6 some
def bytes_Repeat_M2_sp:CSpec:=cS 0 bytes_Repeat_M2_N bytes_Repeat_M2_A bytes_Repeat_M2_H bytes_Repeat_M2_to (fun d=>bytes_Repeat_M2 d.2.1 d.2.2) bytes_Repeat_M2_f
def bytes_Repeat_M2_h:Hints:=bytes_Repeat_M1_h.add [0,1,1,1,1] bytes_Repeat_M2_sp
theorem bytes_Repeat_M2_h_ok:bytes_Repeat_M2_h.OK Tryz.prog (bodyOf Tryz.f308):=onc SrNE1_ok mixed bytes_Repeat_M1_h_ok (p:=[0,1,1,1,1]) (by kernel_rfl) bytes_Repeat_M2_X bytes_Repeat_M2_ofA bytes_Repeat_M2_ofH (fun _ _=>rfl) (fun _ _=>rfl) (fun d x β k=>rfl) 60 fun α ⟨s0,s5,s6⟩ k=>tre ((show ∀k:Unit→Option α,bytes_Repeat_M2_t s5 s6 k=outOf (bytes_Repeat_M2 s5 s6) k from fun k=>by delta bytes_Repeat_M2 bytes_Repeat_M2_t;exact(tN tO (tN tO tL))) _) (by kernel_rfl)
def bytes_Repeat_M3_A:List SD:=(.val (.sl (.int .u8)))::an 6 ((.val (.int .i64))::(.val (.int .i64))::an 68 [])
def bytes_Repeat_M3_H:List HD:=[]
abbrev bytes_Repeat_M3_D:Type:=(List Int)×Int×Int
def bytes_Repeat_M3_to (a:DenS bytes_Repeat_M3_A)(m:DenH bytes_Repeat_M3_H):bytes_Repeat_M3_D:=(a.1,a.2.2.2.2.2.2.2.1,a.2.2.2.2.2.2.2.2.1)
def bytes_Repeat_M3_ofA (d:bytes_Repeat_M3_D):DenS bytes_Repeat_M3_A:=match d with|(s0,s7,s8)=>(s0,un 6 (s7,s8,un 68 ()))
def bytes_Repeat_M3_ofH (d:bytes_Repeat_M3_D):DenH bytes_Repeat_M3_H:=match d with|(s0,s7,s8)=>()
def bytes_Repeat_M3_N:Norm:=(⟨[0,7,8],[],[]⟩:Go.TX.Norm)
def bytes_Repeat_M3_X:Exit→Norm:=fun e=>match e with| .normal=>⟨[0,7,8],[],[]⟩|_=>⟨[],[],[]⟩
def bytes_Repeat_M3_f (β:Type)(d:bytes_Repeat_M3_D)(v:Int)(k:Exit→St→β):β:=k .normal ⟨(.sl (.int .u8) d.1 false)::av 6 ((.lit (.int .i64 d.2.1))::(.lit (.int .i64 v))::av 68 []),[]⟩
def bytes_Repeat_M3_t {γ:Type}(s0:(List Int))(s8:Int)(k:Int→Option γ):Option γ:=cond (decide (s8>(8192:Int))) (cond (decide ((↑(List.length s0):Int)=(0:Int))) (none) (cond (IntKind.wrap .i64 (IntKind.wrap .i64 (Int.tdiv (8192:Int) (↑(List.length s0):Int))*(↑(List.length s0):Int))==(0:Int)) (k ((↑(List.length s0):Int))) (k (IntKind.wrap .i64 (IntKind.wrap .i64 (Int.tdiv (8192:Int) (↑(List.length s0):Int))*(↑(List.length s0):Int)))))) (k (s8))
def bytes_Repeat_M3 (s0:(List Int))(s8:Int):Option Int:=bytes_Repeat_M3_t s0 s8 some
def bytes_Repeat_M3_sp:CSpec:=cS 0 bytes_Repeat_M3_N bytes_Repeat_M3_A bytes_Repeat_M3_H bytes_Repeat_M3_to (fun d=>bytes_Repeat_M3 d.1 d.2.2) bytes_Repeat_M3_f
def bytes_Repeat_M3_h:Hints:=bytes_Repeat_M2_h.add [0,1,1,1,1,1,1,1,1] bytes_Repeat_M3_sp
theorem bytes_Repeat_M3_h_ok:bytes_Repeat_M3_h.OK Tryz.prog (bodyOf Tryz.f308):=onc SrNE1_ok mixed bytes_Repeat_M2_h_ok (p:=[0,1,1,1,1,1,1,1,1]) (by kernel_rfl) bytes_Repeat_M3_X bytes_Repeat_M3_ofA bytes_Repeat_M3_ofH (fun _ _=>rfl) (fun _ _=>rfl) (fun d x β k=>rfl) 60 fun α ⟨s0,s7,s8⟩ k=>tre ((show ∀k:Int→Option α,bytes_Repeat_M3_t s0 s8 k=outOf (bytes_Repeat_M3 s0 s8) k from fun k=>by delta bytes_Repeat_M3 bytes_Repeat_M3_t;exact(tN (tN tO (tN tL tL)) tL)) _) (by kernel_rfl)
def bytes_Repeat_L1_A:List SD:=an 7 ((.val (.int .i64))::(.val (.int .i64))::(.rowz 0)::(.val (.int .i64))::an 66 [])
def bytes_Repeat_L1_H:List HD:=[.raw (.int .u8)]
abbrev bytes_Repeat_L1_D:Type:=Int×Int×Nat×Int×(List Int)×Nat
def bytes_Repeat_L1_to (a:DenS bytes_Repeat_L1_A)(m:DenH bytes_Repeat_L1_H):bytes_Repeat_L1_D:=(a.2.2.2.2.2.2.2.1,a.2.2.2.2.2.2.2.2.1,a.2.2.2.2.2.2.2.2.2.1,a.2.2.2.2.2.2.2.2.2.2.1,m.1.1,m.1.2)
def bytes_Repeat_L1_ofA (d:bytes_Repeat_L1_D):DenS bytes_Repeat_L1_A:=match d with|(s7,s8,s9_n,s10,m0_s,m0_p)=>un 7 (s7,s8,s9_n,s10,un 66 ())
def bytes_Repeat_L1_ofH (d:bytes_Repeat_L1_D):DenH bytes_Repeat_L1_H:=match d with|(s7,s8,s9_n,s10,m0_s,m0_p)=>((m0_s,m0_p),())
def bytes_Repeat_L1_N:Norm:=(⟨[7,8,9,10],[],[]⟩:Go.TX.Norm)
def bytes_Repeat_L1_X:Exit→Norm:=fun e=>match e with| .exit 0=>⟨[9],[],[]⟩|_=>⟨[],[],[]⟩
abbrev bytes_Repeat_L1_R:Type:=(Nat×(List Int)×Nat)
def bytes_Repeat_L1_f (β:Type)(v:bytes_Repeat_L1_R)(k:Exit→St→β):β:=k (.exit 0) ⟨av 9 ((.msl 0 0 v.1)::av 67 []),[.raw (.int .u8) v.2.1 v.2.2]⟩
def bytes_Repeat_L1_t {γ:Type}(s7:Int)(s8:Int)(s9_n:Nat)(s10:Int)(m0_s:(List Int))(m0_p:Nat)(next:bytes_Repeat_L1_D→Option γ)(out:bytes_Repeat_L1_R→Option γ):Option γ:=cond (decide (s10<s7)) (cond (decide ((0:Int)≤s10∧s10≤(↑s9_n:Int)∧(↑s9_n:Int)≤(↑s9_n:Int))) (cond (decide ((0:Int)≤(0:Int)∧((0:Int)≤if s8<s10 then s8 else s10)∧(if s8<s10 then s8 else s10)≤(↑s9_n:Int))) (cond (decide ((0:Nat)+(Int.toNat (if s8<s10 then s8 else s10)-(0:Nat))≤List.length m0_s)) (cond (decide ((0:Nat)+Int.toNat s10≤List.length m0_s)) (next (s7,s8,s9_n,IntKind.wrap .i64 (s10+(↑(min (List.length (List.take (Int.toNat (if s8<s10 then s8 else s10)-(0:Nat)) (List.drop (0:Nat) m0_s))) (Int.toNat (↑s9_n:Int)-Int.toNat s10)):Int)),List.take ((0:Nat)+Int.toNat s10) m0_s++List.take (Int.toNat (↑s9_n:Int)-Int.toNat s10) (List.take (Int.toNat (if s8<s10 then s8 else s10)-(0:Nat)) (List.drop (0:Nat) m0_s))++List.drop ((0:Nat)+Int.toNat s10+min (List.length (List.take (Int.toNat (if s8<s10 then s8 else s10)-(0:Nat)) (List.drop (0:Nat) m0_s))) (Int.toNat (↑s9_n:Int)-Int.toNat s10)) m0_s,m0_p)) (none)) (none)) (none)) (none)) (out (s9_n,m0_s,m0_p))
def bytes_Repeat_L1_pass (d:bytes_Repeat_L1_D):Option (bytes_Repeat_L1_D ⊕ bytes_Repeat_L1_R):=bytes_Repeat_L1_t d.1 d.2.1 d.2.2.1 d.2.2.2.1 d.2.2.2.2.1 d.2.2.2.2.2 (fun d=>some (.inl d)) (fun x=>some (.inr x))
def bytes_Repeat_L1 (d:bytes_Repeat_L1_D):Option bytes_Repeat_L1_R:=runs bytes_Repeat_L1_pass d
def bytes_Repeat_L1_sp:CSpec:=cS 0 bytes_Repeat_L1_N bytes_Repeat_L1_A bytes_Repeat_L1_H bytes_Repeat_L1_to (runs bytes_Repeat_L1_pass) fun β _=>bytes_Repeat_L1_f β
def bytes_Repeat_L1_h:Hints:=bytes_Repeat_M3_h.add [0,0,1,1,1,1,1,1,1,1,1,1,1] bytes_Repeat_L1_sp
theorem bytes_Repeat_L1_h_ok:bytes_Repeat_L1_h.OK Tryz.prog (bodyOf Tryz.f308):=lop SrNE1_ok mixed bytes_Repeat_M3_h_ok (p:=[0,0,1,1,1,1,1,1,1,1,1,1,1]) (by kernel_rfl) bytes_Repeat_L1_X bytes_Repeat_L1_ofA bytes_Repeat_L1_ofH (fun _ _=>rfl) (fun _ _=>rfl) bytes_Repeat_L1_pass (fun x β k=>rfl) 60 fun α ⟨s7,s8,s9_n,s10,m0_s,m0_p⟩ next k=>tre ((show ∀u:bytes_Repeat_L1_R→Option α,bytes_Repeat_L1_t s7 s8 s9_n s10 m0_s m0_p next u=PassOf (bytes_Repeat_L1_pass ⟨s7,s8,s9_n,s10,m0_s,m0_p⟩) next u from fun u=>by delta bytes_Repeat_L1_pass bytes_Repeat_L1_t;exact(pN (pN (pN (pN (pN pX pO) pO) pO) pO) pU)) _) (by kernel_rfl)
def bytes_Repeat_t {γ:Type}(a0:(List Int))(a1:Int)(k:(List Int)→Option γ):Option γ:=cond (a1==(0:Int)) (k ([])) (outOf (bytes_Repeat_M1 a1) fun x17=>outOf (bytes_Repeat_M2 (bits_Mul (IntKind.wrap .u64 (↑(List.length a0):Int)) (IntKind.wrap .u64 a1)).1 (bits_Mul (IntKind.wrap .u64 (↑(List.length a0):Int)) (IntKind.wrap .u64 a1)).2) fun x18=>cond ((↑(List.length a0):Int)==(0:Int)) (k ([])) (outOf (bytes_Repeat_M3 a0 (IntKind.wrap .i64 (bits_Mul (IntKind.wrap .u64 (↑(List.length a0):Int)) (IntKind.wrap .u64 a1)).2)) fun x19=>cond (decide ((1:Int)≤IntKind.wrap .i64 (bits_Mul (IntKind.wrap .u64 (↑(List.length a0):Int)) (IntKind.wrap .u64 a1)).2∧IntKind.wrap .i64 (bits_Mul (IntKind.wrap .u64 (↑(List.length a0):Int)) (IntKind.wrap .u64 a1)).2≤(2147483648:Int))) (cond (decide ((0:Int)≤(0:Int)∧(0:Int)≤IntKind.wrap .i64 (bits_Mul (IntKind.wrap .u64 (↑(List.length a0):Int)) (IntKind.wrap .u64 a1)).2∧IntKind.wrap .i64 (bits_Mul (IntKind.wrap .u64 (↑(List.length a0):Int)) (IntKind.wrap .u64 a1)).2≤IntKind.wrap .i64 (bits_Mul (IntKind.wrap .u64 (↑(List.length a0):Int)) (IntKind.wrap .u64 a1)).2∧IntKind.wrap .i64 (bits_Mul (IntKind.wrap .u64 (↑(List.length a0):Int)) (IntKind.wrap .u64 a1)).2≤(↑(Int.toNat (IntKind.wrap .i64 (bits_Mul (IntKind.wrap .u64 (↑(List.length a0):Int)) (IntKind.wrap .u64 a1)).2)):Int))) (outOf (bytes_Repeat_L1 (IntKind.wrap .i64 (bits_Mul (IntKind.wrap .u64 (↑(List.length a0):Int)) (IntKind.wrap .u64 a1)).2,x19,Int.toNat (IntKind.wrap .i64 (bits_Mul (IntKind.wrap .u64 (↑(List.length a0):Int)) (IntKind.wrap .u64 a1)).2)-(0:Nat),(↑(min (List.length a0) (Int.toNat (IntKind.wrap .i64 (bits_Mul (IntKind.wrap .u64 (↑(List.length a0):Int)) (IntKind.wrap .u64 a1)).2)-(0:Nat))):Int),List.take (0:Nat) []++List.take (Int.toNat (IntKind.wrap .i64 (bits_Mul (IntKind.wrap .u64 (↑(List.length a0):Int)) (IntKind.wrap .u64 a1)).2)-(0:Nat)) a0++List.drop ((0:Nat)+min (List.length a0) (Int.toNat (IntKind.wrap .i64 (bits_Mul (IntKind.wrap .u64 (↑(List.length a0):Int)) (IntKind.wrap .u64 a1)).2)-(0:Nat))) [],Int.toNat (IntKind.wrap .i64 (bits_Mul (IntKind.wrap .u64 (↑(List.length a0):Int)) (IntKind.wrap .u64 a1)).2))) fun x20=>cond (decide (x20.2.2≤List.length x20.2.1)) (k (List.take x20.1 (List.drop (0:Nat) x20.2.1))) (none)) (none)) (none)))
def bytes_Repeat (a0:(List Int))(a1:Int):Option (List Int):=bytes_Repeat_t a0 a1 some
def bytes_Repeat_sp:TX.Spec:=specD [.val (.sl (.int .u8)), .val (.int .i64)] [] fun _ a m k=>match a,m with|⟨a0,a1,_⟩,_=>outOf (bytes_Repeat a0 a1) fun v=>k (.sl (.int .u8) v false) []
theorem bytes_Repeat_good:TX.Good Tryz.prog 308 bytes_Repeat_sp:=gw SrNE1_ok mixed Tryz.func308 (body_of rfl) (by kernel_rfl) false bytes_Repeat_L1_h_ok 60 rfl fun α ⟨a0,a1,_⟩ _ k=>tre ((show ∀k:(List Int)→Option α,bytes_Repeat_t a0 a1 k=outOf (bytes_Repeat a0 a1) k from fun k=>by delta bytes_Repeat bytes_Repeat_t;exact(tN tL (tB fun x17=>(tB fun x18=>(tN tL (tB fun x19=>(tN (tN (tB fun x20=>(tN tL tO)) tO) tO))))))) _) (by kernel_rfl)
def mem_with_t {γ:Type}(a0:(List Int))(a1:Int)(a2:(List Int))(k:(List Int)→Option γ):Option γ:=cond (decide (List.length a0≤(2147483648:Nat))) (cond (decide ((0:Int)≤a1∧a1≤(↑(List.length a0):Int)∧(↑(List.length a0):Int)≤(↑(List.length a0):Int))) (k (List.take (List.length a0) (List.drop (0:Nat) (List.take ((0:Nat)+Int.toNat a1) a0++List.take (Int.toNat (↑(List.length a0):Int)-Int.toNat a1) a2++List.drop ((0:Nat)+Int.toNat a1+min (List.length a2) (Int.toNat (↑(List.length a0):Int)-Int.toNat a1)) a0)))) (none)) (none)
def mem_with (a0:(List Int))(a1:Int)(a2:(List Int)):Option (List Int):=mem_with_t a0 a1 a2 some
def mem_with_sp:TX.Spec:=specD [.val (.sl (.int .u8)), .val (.int .i64), .val (.sl (.int .u8))] [] fun _ a m k=>match a,m with|⟨a0,a1,a2,_⟩,_=>outOf (mem_with a0 a1 a2) fun v=>k (.sl (.int .u8) v false) []
theorem mem_with_good:TX.Good Tryz.prog 256 mem_with_sp:=gf SrNE1_ok mixed Tryz.func256 (body_of rfl) (by kernel_rfl) false (Hints.nil_ok (n0:=0)) 60 rfl fun α ⟨a0,a1,a2,_⟩ _ k=>tre ((show ∀k:(List Int)→Option α,mem_with_t a0 a1 a2 k=outOf (mem_with a0 a1 a2) k from fun k=>by delta mem_with mem_with_t;exact(tN (tN tL tO) tO)) _) (by kernel_rfl)
abbrev mem_Text_R:Type:=(ByteArray×Int)
def mem_Text_t {γ:Type}(a0:(List Int))(a1:Int)(a2:Int)(k:mem_Text_R→Option γ):Option γ:=outOf (mem_span a0 a1 a2) fun x1=>cond (!x1.2) (k (bytesOf [],(-9:Int))) (k (strOf x1.1,(0:Int)))
def mem_Text (a0:(List Int))(a1:Int)(a2:Int):Option mem_Text_R:=mem_Text_t a0 a1 a2 some
def mem_Text_sp:TX.Spec:=specD [.val (.sl (.int .u8)), .val (.int .i64), .val (.int .i64)] [] fun _ a m k=>match a,m with|⟨a0,a1,a2,_⟩,_=>outOf (mem_Text a0 a1 a2) fun v=>k (.tup [.lit (.string v.1), .lit (.int .i64 v.2)]) []
theorem mem_Text_good:TX.Good Tryz.prog 117 mem_Text_sp:=gf SrNE1_ok mixed Tryz.func117 (body_of rfl) (by kernel_rfl) false (Hints.nil_ok (n0:=0)) 60 rfl fun α ⟨a0,a1,a2,_⟩ _ k=>tre ((show ∀k:mem_Text_R→Option α,mem_Text_t a0 a1 a2 k=outOf (mem_Text a0 a1 a2) k from fun k=>by delta mem_Text mem_Text_t;exact(tB fun x1=>(tN tL tL))) _) (by kernel_rfl)
abbrev mem_Byte_R:Type:=(Int×Int)
def mem_Byte_t {γ:Type}(a0:(List Int))(a1:Int)(k:mem_Byte_R→Option γ):Option γ:=outOf (mem_span a0 a1 (1:Int)) fun x1=>cond (!x1.2) (k ((0:Int),(-9:Int))) (cond (decide ((0:Int)≤0∧(0:Int)< ↑(List.length x1.1))) (k (IntKind.wrap .i64 (List.getD x1.1 (0:Nat) (0:Int)),(0:Int))) (none))
def mem_Byte (a0:(List Int))(a1:Int):Option mem_Byte_R:=mem_Byte_t a0 a1 some
def mem_Byte_sp:TX.Spec:=specD [.val (.sl (.int .u8)), .val (.int .i64)] [] fun _ a m k=>match a,m with|⟨a0,a1,_⟩,_=>outOf (mem_Byte a0 a1) fun v=>k (.tup [.lit (.int .i64 v.1), .lit (.int .i64 v.2)]) []
theorem mem_Byte_good:TX.Good Tryz.prog 239 mem_Byte_sp:=gf SrNE1_ok mixed Tryz.func239 (body_of rfl) (by kernel_rfl) false (Hints.nil_ok (n0:=0)) 60 rfl fun α ⟨a0,a1,_⟩ _ k=>tre ((show ∀k:mem_Byte_R→Option α,mem_Byte_t a0 a1 k=outOf (mem_Byte a0 a1) k from fun k=>by delta mem_Byte mem_Byte_t;exact(tB fun x1=>(tN tL (tN tL tO)))) _) (by kernel_rfl)
def guard_May_h0:Hints:=Hints.nil 0
theorem guard_May_h0_ok:guard_May_h0.OK Tryz.prog (bodyOf Tryz.f24):=Hints.nil_ok
def guard_May_M1_A:List SD:= .any::(.val (.int .i64))::(.val (.int .i64))::(.val .bool)::(.loc 0 0 0)::an 45 []
def guard_May_M1_H:List HD:=[.box [.val (.int .i64), .val .bool]]
abbrev guard_May_M1_D:Type:=Int×Int×Bool×Int×Bool
def guard_May_M1_to (a:DenS guard_May_M1_A)(m:DenH guard_May_M1_H):guard_May_M1_D:=(a.2.1,a.2.2.1,a.2.2.2.1,m.1.1,m.1.2.1)
def guard_May_M1_ofA (d:guard_May_M1_D):DenS guard_May_M1_A:=match d with|(s1,s2,s3,m0_0,m0_1)=>((),s1,s2,s3,un 46 ())
def guard_May_M1_ofH (d:guard_May_M1_D):DenH guard_May_M1_H:=match d with|(s1,s2,s3,m0_0,m0_1)=>((m0_0,m0_1,()),())
def guard_May_M1_N:Norm:=(⟨[1,2,3,4],[],[]⟩:Go.TX.Norm)
def guard_May_M1_X:Exit→Norm:=fun e=>match e with| .normal=>⟨[1,2,3,4],[],[]⟩| .ret=>⟨[8],[],[]⟩|_=>⟨[],[],[]⟩
abbrev guard_May_M1_R:Type:=((Bool) ⊕ (Unit))
def guard_May_M1_f (β:Type)(d:guard_May_M1_D)(v:guard_May_M1_R)(k:Exit→St→β):β:=sumOf v (fun v=>k .ret ⟨av 8 ((.lit (.bool v))::av 41 []),[]⟩) (fun v=>k .normal ⟨.any::(.lit (.int .i64 d.1))::(.lit (.int .i64 d.2.1))::(.lit (.bool d.2.2.1))::(.ptr 0 0 0)::av 45 [],[.box [.lit (.int .i64 d.2.2.2.1), .lit (.bool d.2.2.2.2)]]⟩)
def guard_May_M1_t {γ:Type}(s1:Int)(s2:Int)(k:guard_May_M1_R→Option γ):Option γ:=cond (decide (s2<(0:Int))) (k (.inl (false))) (cond (decide (s1<(0:Int))) (k (.inl (false))) (cond (decide (s1>(5120:Int))) (k (.inl (false))) (cond (decide (s2>IntKind.wrap .i64 ((5120:Int)-s1))) (k (.inl (false))) (k (.inr ())))))
def guard_May_M1 (s1:Int)(s2:Int):Option guard_May_M1_R:=guard_May_M1_t s1 s2 some
def guard_May_M1_sp:CSpec:=cS 0 guard_May_M1_N guard_May_M1_A guard_May_M1_H guard_May_M1_to (fun d=>guard_May_M1 d.1 d.2.1) guard_May_M1_f
def guard_May_M1_h:Hints:=guard_May_h0.add [0,1] guard_May_M1_sp
theorem guard_May_M1_h_ok:guard_May_M1_h.OK Tryz.prog (bodyOf Tryz.f24):=onc SrNE1_ok mixed guard_May_h0_ok (p:=[0,1]) (by kernel_rfl) guard_May_M1_X guard_May_M1_ofA guard_May_M1_ofH (fun _ _=>rfl) (fun _ _=>rfl) (fun d x β k=>by rcases x with x|x<;>rfl) 60 fun α ⟨s1,s2,s3,m0_0,m0_1⟩ k=>tre ((show ∀k:guard_May_M1_R→Option α,guard_May_M1_t s1 s2 k=outOf (guard_May_M1 s1 s2) k from fun k=>by delta guard_May_M1 guard_May_M1_t;exact(tN tL (tN tL (tN tL (tN tL tL))))) _) (by kernel_rfl)
def guard_May_L1_A:List SD:= .any::(.val (.int .i64)):: .any::(.val .bool)::(.loc 0 0 0)::an 4 ((.val (.int .i64))::an 40 [])
def guard_May_L1_H:List HD:=[.box [.val (.int .i64), .val .bool]]
abbrev guard_May_L1_D:Type:=Int×Bool×Int×Int×Bool
def guard_May_L1_to (a:DenS guard_May_L1_A)(m:DenH guard_May_L1_H):guard_May_L1_D:=(a.2.1,a.2.2.2.1,a.2.2.2.2.2.2.2.2.2.1,m.1.1,m.1.2.1)
def guard_May_L1_ofA (d:guard_May_L1_D):DenS guard_May_L1_A:=match d with|(s1,s3,s9,m0_0,m0_1)=>((),s1,(),s3,un 5 (s9,un 40 ()))
def guard_May_L1_ofH (d:guard_May_L1_D):DenH guard_May_L1_H:=match d with|(s1,s3,s9,m0_0,m0_1)=>((m0_0,m0_1,()),())
def guard_May_L1_N:Norm:=(⟨[1,3,4,9],[],[]⟩:Go.TX.Norm)
def guard_May_L1_X:Exit→Norm:=fun e=>match e with| .exit 0=>⟨[],[],[]⟩| .ret=>⟨[8],[],[]⟩|_=>⟨[],[],[]⟩
abbrev guard_May_L1_R:Type:=((Bool) ⊕ (Unit))
def guard_May_L1_f (β:Type)(v:guard_May_L1_R)(k:Exit→St→β):β:=sumOf v (fun v=>k .ret ⟨av 8 ((.lit (.bool v))::av 41 []),[]⟩) (fun v=>k (.exit 0) ⟨av 50 [],[]⟩)
def guard_May_L1_t {γ:Type}(s1:Int)(s3:Bool)(s9:Int)(m0_0:Int)(m0_1:Bool)(next:guard_May_L1_D→Option γ)(out:guard_May_L1_R→Option γ):Option γ:=cond (decide (s1<s9)) (outOf (guard_of s1) fun x7=>cond (m0_0 != (-1:Int)) (outOf (guard_touches m0_0 m0_1 x7.1 x7.2.1 s3) fun x8=>cond (!x8) (out (.inl (false))) (next (x7.2.2,s3,s9,m0_0,m0_1))) (next (x7.2.2,s3,s9,m0_0,m0_1))) (out (.inr ()))
def guard_May_L1_pass (d:guard_May_L1_D):Option (guard_May_L1_D ⊕ guard_May_L1_R):=guard_May_L1_t d.1 d.2.1 d.2.2.1 d.2.2.2.1 d.2.2.2.2 (fun d=>some (.inl d)) (fun x=>some (.inr x))
def guard_May_L1 (d:guard_May_L1_D):Option guard_May_L1_R:=runs guard_May_L1_pass d
def guard_May_L1_sp:CSpec:=cS 0 guard_May_L1_N guard_May_L1_A guard_May_L1_H guard_May_L1_to (runs guard_May_L1_pass) fun β _=>guard_May_L1_f β
def guard_May_L1_h:Hints:=guard_May_M1_h.add [0,1,0,1,1] guard_May_L1_sp
theorem guard_May_L1_h_ok:guard_May_L1_h.OK Tryz.prog (bodyOf Tryz.f24):=lop SrNE1_ok mixed guard_May_M1_h_ok (p:=[0,1,0,1,1]) (by kernel_rfl) guard_May_L1_X guard_May_L1_ofA guard_May_L1_ofH (fun _ _=>rfl) (fun _ _=>rfl) guard_May_L1_pass (fun x β k=>by rcases x with x|x<;>rfl) 60 fun α ⟨s1,s3,s9,m0_0,m0_1⟩ next k=>tre ((show ∀u:guard_May_L1_R→Option α,guard_May_L1_t s1 s3 s9 m0_0 m0_1 next u=PassOf (guard_May_L1_pass ⟨s1,s3,s9,m0_0,m0_1⟩) next u from fun u=>by delta guard_May_L1_pass guard_May_L1_t;exact(pN (pB fun x7=>(pN (pB fun x8=>(pN pU pX)) pX)) pU)) _) (by kernel_rfl)
def guard_May_t {γ:Type}(a0_0:Int)(a0_1:Bool)(a1:Int)(a2:Int)(a3:Bool)(k:Bool→Option γ):Option γ:=outOf (guard_May_M1 a1 a2) fun x9=>sumOf x9 (fun x10=>k (x10)) (fun x11=>outOf (guard_May_L1 (a1,a3,IntKind.wrap .i64 (a1+a2),a0_0,a0_1)) fun x12=>sumOf x12 (fun x13=>k (x13)) (fun x14=>k (true)))
def guard_May (a0_0:Int)(a0_1:Bool)(a1:Int)(a2:Int)(a3:Bool):Option Bool:=guard_May_t a0_0 a0_1 a1 a2 a3 some
def guard_May_sp:TX.Spec:=specD [.agg (.pair (.int .i64) .bool), .val (.int .i64), .val (.int .i64), .val .bool] [] fun _ a m k=>match a,m with|⟨⟨a0_0,a0_1⟩,a1,a2,a3,_⟩,_=>outOf (guard_May a0_0 a0_1 a1 a2 a3) fun v=>k (.lit (.bool v)) []
theorem guard_May_good:TX.Good Tryz.prog 24 guard_May_sp:=gf SrNE1_ok mixed Tryz.func24 (body_of rfl) (by kernel_rfl) false guard_May_L1_h_ok 60 rfl fun α ⟨⟨a0_0,a0_1⟩,a1,a2,a3,_⟩ _ k=>tre ((show ∀k:Bool→Option α,guard_May_t a0_0 a0_1 a1 a2 a3 k=outOf (guard_May a0_0 a0_1 a1 a2 a3) k from fun k=>by delta guard_May guard_May_t;exact(tB fun x9=>(tC (fun x10=>tL) (fun x11=>(tB fun x12=>(tC (fun x13=>tL) (fun x14=>tL))))))) _) (by kernel_rfl)
def step_User_t {γ:Type}(a0:Int)(k:Int→Option γ):Option γ:=outOf (guard_UserAt a0) fun x1=>cond (!x1.2) (k ((4992:Int))) (k x1.1)
def step_User (a0:Int):Option Int:=step_User_t a0 some
def step_User_sp:TX.Spec:=specD [.val (.int .i64)] [] fun _ a m k=>match a,m with|⟨a0,_⟩,_=>outOf (step_User a0) fun v=>k (.lit (.int .i64 v)) []
theorem step_User_good:TX.Good Tryz.prog 121 step_User_sp:=gf SrNE1_ok mixed Tryz.func121 (body_of rfl) (by kernel_rfl) false (Hints.nil_ok (n0:=0)) 60 rfl fun α ⟨a0,_⟩ _ k=>tre ((show ∀k:Int→Option α,step_User_t a0 k=outOf (step_User a0) k from fun k=>by delta step_User step_User_t;exact(tB fun x1=>(tN tL tL))) _) (by kernel_rfl)
def pic_pictured_t {γ:Type}(a0:Int)(a1:Int)(k:Bool→Option γ):Option γ:=cond (decide (a1≥IntKind.wrap .i64 (a0+(32:Int)))) (k (decide (a1<pic_end a0))) (k (false))
def pic_pictured (a0:Int)(a1:Int):Option Bool:=pic_pictured_t a0 a1 some
def pic_pictured_sp:TX.Spec:=specD [.val (.int .i64), .val (.int .i64)] [] fun _ a m k=>match a,m with|⟨a0,a1,_⟩,_=>outOf (pic_pictured a0 a1) fun v=>k (.lit (.bool v)) []
theorem pic_pictured_good:TX.Good Tryz.prog 254 pic_pictured_sp:=gf SrNE1_ok mixed Tryz.func254 (body_of rfl) (by kernel_rfl) false (Hints.nil_ok (n0:=0)) 60 rfl fun α ⟨a0,a1,_⟩ _ k=>tre ((show ∀k:Bool→Option α,pic_pictured_t a0 a1 k=outOf (pic_pictured a0 a1) k from fun k=>by delta pic_pictured pic_pictured_t;exact(tN tL tL)) _) (by kernel_rfl)
noncomputable def SrNE2:Env:=SrNE1.add 255 true mem_slot_sp |>.add 308 true bytes_Repeat_sp |>.add 256 true mem_with_sp |>.add 117 true mem_Text_sp |>.add 239 true mem_Byte_sp |>.add 24 true guard_May_sp |>.add 121 true step_User_sp |>.add 254 true pic_pictured_sp
theorem SrNE2_ok:SrNE2.OK Tryz.prog:=((((((((SrNE1_ok).add_ok mem_slot_good).add_ok bytes_Repeat_good).add_ok mem_with_good).add_ok mem_Text_good).add_ok mem_Byte_good).add_ok guard_May_good).add_ok step_User_good).add_ok pic_pictured_good
def mem_Get_h0:Hints:=Hints.nil 0
theorem mem_Get_h0_ok:mem_Get_h0.OK Tryz.prog (bodyOf Tryz.f237):=Hints.nil_ok
def mem_Get_L1_A:List SD:=an 7 ((.val (.int .i64))::(.val (.int .i64))::an 8 ((.val (.sl (.int .u8)))::(.val (.int .i64))::(.val (.int .i64))::an 15 []))
def mem_Get_L1_H:List HD:=[]
abbrev mem_Get_L1_D:Type:=Int×Int×(List Int)×Int×Int
def mem_Get_L1_to (a:DenS mem_Get_L1_A)(m:DenH mem_Get_L1_H):mem_Get_L1_D:=(a.2.2.2.2.2.2.2.1,a.2.2.2.2.2.2.2.2.1,a.2.2.2.2.2.2.2.2.2.2.2.2.2.2.2.2.2.1,a.2.2.2.2.2.2.2.2.2.2.2.2.2.2.2.2.2.2.1,a.2.2.2.2.2.2.2.2.2.2.2.2.2.2.2.2.2.2.2.1)
def mem_Get_L1_ofA (d:mem_Get_L1_D):DenS mem_Get_L1_A:=match d with|(s7,s8,s17,s18,s19)=>un 7 (s7,s8,un 8 (s17,s18,s19,un 15 ()))
def mem_Get_L1_ofH (d:mem_Get_L1_D):DenH mem_Get_L1_H:=match d with|(s7,s8,s17,s18,s19)=>()
def mem_Get_L1_N:Norm:=(⟨[7,8,17,18,19],[],[]⟩:Go.TX.Norm)
def mem_Get_L1_X:Exit→Norm:=fun e=>match e with| .exit 0=>⟨[7,8],[],[]⟩|_=>⟨[],[],[]⟩
abbrev mem_Get_L1_R:Type:=(Int×Int)
def mem_Get_L1_f (β:Type)(v:mem_Get_L1_R)(k:Exit→St→β):β:=k (.exit 0) ⟨av 7 ((.lit (.int .i64 v.1))::(.lit (.int .i64 v.2))::av 26 []),[]⟩
def mem_Get_L1_t {γ:Type}(s7:Int)(s8:Int)(s17:(List Int))(s18:Int)(s19:Int)(next:mem_Get_L1_D→Option γ)(out:mem_Get_L1_R→Option γ):Option γ:=cond (decide (s19<s18)) (cond (decide ((0:Int)≤s19∧s19<(↑(List.length s17):Int))) (cond (decide (IntKind.wrap .u64 (IntKind.wrap .i64 (s19*(8:Int)))<(0:Int))) (none) (next (s7,ibits BinOp.or IntKind.i64 s8 (IntKind.wrap .i64 (IntKind.wrap .i64 (List.getD s17 (Int.toNat s19) (0:Int))*(2:Int)^min (Int.toNat (IntKind.wrap .u64 (IntKind.wrap .i64 (s19*(8:Int))))) (64:Nat))),s17,s18,IntKind.wrap .i64 (s19+(1:Int))))) (none)) (out (s7,s8))
def mem_Get_L1_pass (d:mem_Get_L1_D):Option (mem_Get_L1_D ⊕ mem_Get_L1_R):=mem_Get_L1_t d.1 d.2.1 d.2.2.1 d.2.2.2.1 d.2.2.2.2 (fun d=>some (.inl d)) (fun x=>some (.inr x))
def mem_Get_L1 (d:mem_Get_L1_D):Option mem_Get_L1_R:=runs mem_Get_L1_pass d
def mem_Get_L1_sp:CSpec:=cS 0 mem_Get_L1_N mem_Get_L1_A mem_Get_L1_H mem_Get_L1_to (runs mem_Get_L1_pass) fun β _=>mem_Get_L1_f β
def mem_Get_L1_h:Hints:=mem_Get_h0.add [0,1,0,1,1,1] mem_Get_L1_sp
theorem mem_Get_L1_h_ok:mem_Get_L1_h.OK Tryz.prog (bodyOf Tryz.f237):=lop SrNE2_ok mixed mem_Get_h0_ok (p:=[0,1,0,1,1,1]) (by kernel_rfl) mem_Get_L1_X mem_Get_L1_ofA mem_Get_L1_ofH (fun _ _=>rfl) (fun _ _=>rfl) mem_Get_L1_pass (fun x β k=>rfl) 60 fun α ⟨s7,s8,s17,s18,s19⟩ next k=>tre ((show ∀u:mem_Get_L1_R→Option α,mem_Get_L1_t s7 s8 s17 s18 s19 next u=PassOf (mem_Get_L1_pass ⟨s7,s8,s17,s18,s19⟩) next u from fun u=>by delta mem_Get_L1_pass mem_Get_L1_t;exact(pN (pN (pN pO pX) pO) pU)) _) (by kernel_rfl)
abbrev mem_Get_R:Type:=(Int×Int)
def mem_Get_t {γ:Type}(a0:(List Int))(a1:Int)(k:mem_Get_R→Option γ):Option γ:=outOf (mem_slot a0 a1) fun x3=>outOf (mem_Get_L1 (x3.2,(0:Int),x3.1,(↑(List.length x3.1):Int),(0:Int))) fun x4=>k (x4.2,x4.1)
def mem_Get (a0:(List Int))(a1:Int):Option mem_Get_R:=mem_Get_t a0 a1 some
def mem_Get_sp:TX.Spec:=specD [.val (.sl (.int .u8)), .val (.int .i64)] [] fun _ a m k=>match a,m with|⟨a0,a1,_⟩,_=>outOf (mem_Get a0 a1) fun v=>k (.tup [.lit (.int .i64 v.1), .lit (.int .i64 v.2)]) []
theorem mem_Get_good:TX.Good Tryz.prog 237 mem_Get_sp:=gf SrNE2_ok mixed Tryz.func237 (body_of rfl) (by kernel_rfl) false mem_Get_L1_h_ok 60 rfl fun α ⟨a0,a1,_⟩ _ k=>tre ((show ∀k:mem_Get_R→Option α,mem_Get_t a0 a1 k=outOf (mem_Get a0 a1) k from fun k=>by delta mem_Get mem_Get_t;exact(tB fun x3=>(tB fun x4=>tL))) _) (by kernel_rfl)
abbrev mem_Put_R:Type:=((List Int)×Int)
def mem_Put_t {γ:Type}(a0:(List Int))(a1:Int)(a2:Int)(k:mem_Put_R→Option γ):Option γ:=outOf (mem_slot a0 a1) fun x1=>cond (x1.2 != (0:Int)) (k (a0,x1.2)) (outOf (mem_word a2) fun x2=>outOf (mem_with a0 a1 x2) fun x3=>k (x3,(0:Int)))
def mem_Put (a0:(List Int))(a1:Int)(a2:Int):Option mem_Put_R:=mem_Put_t a0 a1 a2 some
def mem_Put_sp:TX.Spec:=specD [.val (.sl (.int .u8)), .val (.int .i64), .val (.int .i64)] [] fun _ a m k=>match a,m with|⟨a0,a1,a2,_⟩,_=>outOf (mem_Put a0 a1 a2) fun v=>k (.tup [.sl (.int .u8) v.1 false, .lit (.int .i64 v.2)]) []
theorem mem_Put_good:TX.Good Tryz.prog 129 mem_Put_sp:=gf SrNE2_ok mixed Tryz.func129 (body_of rfl) (by kernel_rfl) false (Hints.nil_ok (n0:=0)) 60 rfl fun α ⟨a0,a1,a2,_⟩ _ k=>tre ((show ∀k:mem_Put_R→Option α,mem_Put_t a0 a1 a2 k=outOf (mem_Put a0 a1 a2) k from fun k=>by delta mem_Put mem_Put_t;exact(tB fun x1=>(tN tL (tB fun x2=>(tB fun x3=>tL))))) _) (by kernel_rfl)
abbrev mem_Fill_R:Type:=((List Int)×Int)
def mem_Fill_t {γ:Type}(a0:(List Int))(a1:Int)(a2:Int)(a3:Int)(k:mem_Fill_R→Option γ):Option γ:=outOf (mem_span a0 a1 a2) fun x1=>cond (!x1.2) (k (a0,(-9:Int))) (outOf (bytes_Repeat [IntKind.wrap IntKind.u8 a3] a2) fun x2=>outOf (mem_with a0 a1 x2) fun x3=>k (x3,(0:Int)))
def mem_Fill (a0:(List Int))(a1:Int)(a2:Int)(a3:Int):Option mem_Fill_R:=mem_Fill_t a0 a1 a2 a3 some
def mem_Fill_sp:TX.Spec:=specD [.val (.sl (.int .u8)), .val (.int .i64), .val (.int .i64), .val (.int .i64)] [] fun _ a m k=>match a,m with|⟨a0,a1,a2,a3,_⟩,_=>outOf (mem_Fill a0 a1 a2 a3) fun v=>k (.tup [.sl (.int .u8) v.1 false, .lit (.int .i64 v.2)]) []
theorem mem_Fill_good:TX.Good Tryz.prog 241 mem_Fill_sp:=gf SrNE2_ok mixed Tryz.func241 (body_of rfl) (by kernel_rfl) false (Hints.nil_ok (n0:=0)) 60 rfl fun α ⟨a0,a1,a2,a3,_⟩ _ k=>tre ((show ∀k:mem_Fill_R→Option α,mem_Fill_t a0 a1 a2 a3 k=outOf (mem_Fill a0 a1 a2 a3) k from fun k=>by delta mem_Fill mem_Fill_t;exact(tB fun x1=>(tN tL (tB fun x2=>(tB fun x3=>tL))))) _) (by kernel_rfl)
abbrev mem_Move_R:Type:=((List Int)×Int)
def mem_Move_t {γ:Type}(a0:(List Int))(a1:Int)(a2:Int)(a3:Int)(k:mem_Move_R→Option γ):Option γ:=outOf (mem_span a0 a1 a3) fun x1=>outOf (mem_span a0 a2 a3) fun x2=>cond (!x1.2) (k (a0,(-9:Int))) (cond (!x2.2) (k (a0,(-9:Int))) (outOf (mem_with a0 a2 x1.1) fun x3=>k (x3,(0:Int))))
def mem_Move (a0:(List Int))(a1:Int)(a2:Int)(a3:Int):Option mem_Move_R:=mem_Move_t a0 a1 a2 a3 some
def mem_Move_sp:TX.Spec:=specD [.val (.sl (.int .u8)), .val (.int .i64), .val (.int .i64), .val (.int .i64)] [] fun _ a m k=>match a,m with|⟨a0,a1,a2,a3,_⟩,_=>outOf (mem_Move a0 a1 a2 a3) fun v=>k (.tup [.sl (.int .u8) v.1 false, .lit (.int .i64 v.2)]) []
theorem mem_Move_good:TX.Good Tryz.prog 242 mem_Move_sp:=gf SrNE2_ok mixed Tryz.func242 (body_of rfl) (by kernel_rfl) false (Hints.nil_ok (n0:=0)) 60 rfl fun α ⟨a0,a1,a2,a3,_⟩ _ k=>tre ((show ∀k:mem_Move_R→Option α,mem_Move_t a0 a1 a2 a3 k=outOf (mem_Move a0 a1 a2 a3) k from fun k=>by delta mem_Move mem_Move_t;exact(tB fun x1=>(tB fun x2=>(tN tL (tN tL (tB fun x3=>tL)))))) _) (by kernel_rfl)
noncomputable def SrNE3:Env:=SrNE2.add 237 true mem_Get_sp |>.add 129 true mem_Put_sp |>.add 241 true mem_Fill_sp |>.add 242 true mem_Move_sp
theorem SrNE3_ok:SrNE3.OK Tryz.prog:=((((SrNE2_ok).add_ok mem_Get_good).add_ok mem_Put_good).add_ok mem_Fill_good).add_ok mem_Move_good
abbrev mem_PutByte_R:Type:=((List Int)×Int)
def mem_PutByte_t {γ:Type}(a0:(List Int))(a1:Int)(a2:Int)(k:mem_PutByte_R→Option γ):Option γ:=outOf (mem_Fill a0 a1 (1:Int) a2) fun x1=>k x1
def mem_PutByte (a0:(List Int))(a1:Int)(a2:Int):Option mem_PutByte_R:=mem_PutByte_t a0 a1 a2 some
def mem_PutByte_sp:TX.Spec:=specD [.val (.sl (.int .u8)), .val (.int .i64), .val (.int .i64)] [] fun _ a m k=>match a,m with|⟨a0,a1,a2,_⟩,_=>outOf (mem_PutByte a0 a1 a2) fun v=>k (.tup [.sl (.int .u8) v.1 false, .lit (.int .i64 v.2)]) []
theorem mem_PutByte_good:TX.Good Tryz.prog 240 mem_PutByte_sp:=gf SrNE3_ok mixed Tryz.func240 (body_of rfl) (by kernel_rfl) false (Hints.nil_ok (n0:=0)) 60 rfl fun α ⟨a0,a1,a2,_⟩ _ k=>tre ((show ∀k:mem_PutByte_R→Option α,mem_PutByte_t a0 a1 a2 k=outOf (mem_PutByte a0 a1 a2) k from fun k=>by delta mem_PutByte mem_PutByte_t;exact(tB fun x1=>tL)) _) (by kernel_rfl)
abbrev mem_Swap_R:Type:=((List Int)×Int×Int)
def mem_Swap_t {γ:Type}(a0:(List Int))(a1:Int)(a2:Int)(a3:Int)(k:mem_Swap_R→Option γ):Option γ:=outOf (mem_Get a0 a1) fun x1=>cond (x1.2 != (0:Int)) (k (a0,(0:Int),x1.2)) (cond (x1.1 != a2) (k (a0,(0:Int),x1.2)) (outOf (mem_Put a0 a1 a3) fun x2=>k (x2.1,(-1:Int),(0:Int))))
def mem_Swap (a0:(List Int))(a1:Int)(a2:Int)(a3:Int):Option mem_Swap_R:=mem_Swap_t a0 a1 a2 a3 some
def mem_Swap_sp:TX.Spec:=specD [.val (.sl (.int .u8)), .val (.int .i64), .val (.int .i64), .val (.int .i64)] [] fun _ a m k=>match a,m with|⟨a0,a1,a2,a3,_⟩,_=>outOf (mem_Swap a0 a1 a2 a3) fun v=>k (.tup [.sl (.int .u8) v.1 false, .lit (.int .i64 v.2.1), .lit (.int .i64 v.2.2)]) []
theorem mem_Swap_good:TX.Good Tryz.prog 238 mem_Swap_sp:=gf SrNE3_ok mixed Tryz.func238 (body_of rfl) (by kernel_rfl) false (Hints.nil_ok (n0:=0)) 60 rfl fun α ⟨a0,a1,a2,a3,_⟩ _ k=>tre ((show ∀k:mem_Swap_R→Option α,mem_Swap_t a0 a1 a2 a3 k=outOf (mem_Swap a0 a1 a2 a3) k from fun k=>by delta mem_Swap mem_Swap_t;exact(tB fun x1=>(tN tL (tN tL (tB fun x2=>tL))))) _) (by kernel_rfl)
abbrev guard_Read_R:Type:=(Int×Int)
def guard_Read_t {γ:Type}(a0:(List Int))(a1_0:Int)(a1_1:Bool)(a2:Int)(k:guard_Read_R→Option γ):Option γ:=outOf (guard_May a1_0 a1_1 a2 (8:Int) false) fun x1=>cond (!x1) (k ((0:Int),(-9:Int))) (outOf (mem_Get a0 a2) fun x2=>k x2)
def guard_Read (a0:(List Int))(a1_0:Int)(a1_1:Bool)(a2:Int):Option guard_Read_R:=guard_Read_t a0 a1_0 a1_1 a2 some
def guard_Read_sp:TX.Spec:=specD [.val (.sl (.int .u8)), .agg (.pair (.int .i64) .bool), .val (.int .i64)] [] fun _ a m k=>match a,m with|⟨a0,⟨a1_0,a1_1⟩,a2,_⟩,_=>outOf (guard_Read a0 a1_0 a1_1 a2) fun v=>k (.tup [.lit (.int .i64 v.1), .lit (.int .i64 v.2)]) []
theorem guard_Read_good:TX.Good Tryz.prog 109 guard_Read_sp:=gf SrNE3_ok mixed Tryz.func109 (body_of rfl) (by kernel_rfl) false (Hints.nil_ok (n0:=0)) 60 rfl fun α ⟨a0,⟨a1_0,a1_1⟩,a2,_⟩ _ k=>tre ((show ∀k:guard_Read_R→Option α,guard_Read_t a0 a1_0 a1_1 a2 k=outOf (guard_Read a0 a1_0 a1_1 a2) k from fun k=>by delta guard_Read guard_Read_t;exact(tB fun x1=>(tN tL (tB fun x2=>tL)))) _) (by kernel_rfl)
abbrev guard_Write_R:Type:=((List Int)×Int)
def guard_Write_t {γ:Type}(a0:(List Int))(a1_0:Int)(a1_1:Bool)(a2:Int)(a3:Int)(k:guard_Write_R→Option γ):Option γ:=outOf (guard_May a1_0 a1_1 a2 (8:Int) true) fun x1=>cond (!x1) (k (a0,(-9:Int))) (outOf (mem_Put a0 a2 a3) fun x2=>k x2)
def guard_Write (a0:(List Int))(a1_0:Int)(a1_1:Bool)(a2:Int)(a3:Int):Option guard_Write_R:=guard_Write_t a0 a1_0 a1_1 a2 a3 some
def guard_Write_sp:TX.Spec:=specD [.val (.sl (.int .u8)), .agg (.pair (.int .i64) .bool), .val (.int .i64), .val (.int .i64)] [] fun _ a m k=>match a,m with|⟨a0,⟨a1_0,a1_1⟩,a2,a3,_⟩,_=>outOf (guard_Write a0 a1_0 a1_1 a2 a3) fun v=>k (.tup [.sl (.int .u8) v.1 false, .lit (.int .i64 v.2)]) []
theorem guard_Write_good:TX.Good Tryz.prog 111 guard_Write_sp:=gf SrNE3_ok mixed Tryz.func111 (body_of rfl) (by kernel_rfl) false (Hints.nil_ok (n0:=0)) 60 rfl fun α ⟨a0,⟨a1_0,a1_1⟩,a2,a3,_⟩ _ k=>tre ((show ∀k:guard_Write_R→Option α,guard_Write_t a0 a1_0 a1_1 a2 a3 k=outOf (guard_Write a0 a1_0 a1_1 a2 a3) k from fun k=>by delta guard_Write guard_Write_t;exact(tB fun x1=>(tN tL (tB fun x2=>tL)))) _) (by kernel_rfl)
abbrev pic_held_R:Type:=(Int×Int)
def pic_held_t {γ:Type}(a0:(List Int))(a1:Int)(k:pic_held_R→Option γ):Option γ:=outOf (pic_area a1) fun x1=>cond (!x1) (k ((0:Int),(-9:Int))) (outOf (mem_Get a0 (IntKind.wrap .i64 (a1+(8:Int)))) fun x2=>k x2)
def pic_held (a0:(List Int))(a1:Int):Option pic_held_R:=pic_held_t a0 a1 some
def pic_held_sp:TX.Spec:=specD [.val (.sl (.int .u8)), .val (.int .i64)] [] fun _ a m k=>match a,m with|⟨a0,a1,_⟩,_=>outOf (pic_held a0 a1) fun v=>k (.tup [.lit (.int .i64 v.1), .lit (.int .i64 v.2)]) []
theorem pic_held_good:TX.Good Tryz.prog 253 pic_held_sp:=gf SrNE3_ok mixed Tryz.func253 (body_of rfl) (by kernel_rfl) false (Hints.nil_ok (n0:=0)) 60 rfl fun α ⟨a0,a1,_⟩ _ k=>tre ((show ∀k:pic_held_R→Option α,pic_held_t a0 a1 k=outOf (pic_held a0 a1) k from fun k=>by delta pic_held pic_held_t;exact(tB fun x1=>(tN tL (tB fun x2=>tL)))) _) (by kernel_rfl)
abbrev pic_Base_R:Type:=(Int×Int)
def pic_Base_t {γ:Type}(a0:(List Int))(a1:Int)(k:pic_Base_R→Option γ):Option γ:=outOf (pic_area a1) fun x1=>cond (!x1) (k ((0:Int),(-9:Int))) (outOf (mem_Get a0 (IntKind.wrap .i64 (a1+(0:Int)))) fun x2=>cond (x2.2 != (0:Int)) (k ((0:Int),x2.2)) (cond (decide (x2.1<(2:Int))) (k ((0:Int),(-24:Int))) (cond (decide (x2.1>(36:Int))) (k ((0:Int),(-24:Int))) (k (x2.1,(0:Int))))))
def pic_Base (a0:(List Int))(a1:Int):Option pic_Base_R:=pic_Base_t a0 a1 some
def pic_Base_sp:TX.Spec:=specD [.val (.sl (.int .u8)), .val (.int .i64)] [] fun _ a m k=>match a,m with|⟨a0,a1,_⟩,_=>outOf (pic_Base a0 a1) fun v=>k (.tup [.lit (.int .i64 v.1), .lit (.int .i64 v.2)]) []
theorem pic_Base_good:TX.Good Tryz.prog 244 pic_Base_sp:=gf SrNE3_ok mixed Tryz.func244 (body_of rfl) (by kernel_rfl) false (Hints.nil_ok (n0:=0)) 60 rfl fun α ⟨a0,a1,_⟩ _ k=>tre ((show ∀k:pic_Base_R→Option α,pic_Base_t a0 a1 k=outOf (pic_Base a0 a1) k from fun k=>by delta pic_Base pic_Base_t;exact(tB fun x1=>(tN tL (tB fun x2=>(tN tL (tN tL (tN tL tL))))))) _) (by kernel_rfl)
abbrev pic_Begin_R:Type:=((List Int)×Int)
def pic_Begin_t {γ:Type}(a0:(List Int))(a1:Int)(k:pic_Begin_R→Option γ):Option γ:=outOf (pic_area a1) fun x1=>cond (!x1) (k (a0,(-9:Int))) (outOf (mem_Put a0 (IntKind.wrap .i64 (a1+(8:Int))) (pic_end a1)) fun x2=>k x2)
def pic_Begin (a0:(List Int))(a1:Int):Option pic_Begin_R:=pic_Begin_t a0 a1 some
def pic_Begin_sp:TX.Spec:=specD [.val (.sl (.int .u8)), .val (.int .i64)] [] fun _ a m k=>match a,m with|⟨a0,a1,_⟩,_=>outOf (pic_Begin a0 a1) fun v=>k (.tup [.sl (.int .u8) v.1 false, .lit (.int .i64 v.2)]) []
theorem pic_Begin_good:TX.Good Tryz.prog 122 pic_Begin_sp:=gf SrNE3_ok mixed Tryz.func122 (body_of rfl) (by kernel_rfl) false (Hints.nil_ok (n0:=0)) 60 rfl fun α ⟨a0,a1,_⟩ _ k=>tre ((show ∀k:pic_Begin_R→Option α,pic_Begin_t a0 a1 k=outOf (pic_Begin a0 a1) k from fun k=>by delta pic_Begin pic_Begin_t;exact(tB fun x1=>(tN tL (tB fun x2=>tL)))) _) (by kernel_rfl)
noncomputable def SrNE4:Env:=SrNE3.add 240 true mem_PutByte_sp |>.add 238 true mem_Swap_sp |>.add 109 true guard_Read_sp |>.add 111 true guard_Write_sp |>.add 253 true pic_held_sp |>.add 244 true pic_Base_sp |>.add 122 true pic_Begin_sp
theorem SrNE4_ok:SrNE4.OK Tryz.prog:=(((((((SrNE3_ok).add_ok mem_PutByte_good).add_ok mem_Swap_good).add_ok guard_Read_good).add_ok guard_Write_good).add_ok pic_held_good).add_ok pic_Base_good).add_ok pic_Begin_good
abbrev pic_Hold_R:Type:=((List Int)×Int)
def pic_Hold_t {γ:Type}(a0:(List Int))(a1:Int)(a2:Int)(k:pic_Hold_R→Option γ):Option γ:=outOf (pic_held a0 a1) fun x1=>cond (x1.2 != (0:Int)) (k (a0,x1.2)) (cond (decide (x1.1>pic_end a1)) (k (a0,(-17:Int))) (outOf (pic_pictured a1 (IntKind.wrap .i64 (x1.1-(1:Int)))) fun x2=>cond (!x2) (k (a0,(-17:Int))) (outOf (mem_Put a0 (IntKind.wrap .i64 (a1+(8:Int))) (IntKind.wrap .i64 (x1.1-(1:Int)))) fun x3=>cond (x3.2 != (0:Int)) (k (a0,x3.2)) (outOf (mem_PutByte x3.1 (IntKind.wrap .i64 (x1.1-(1:Int))) a2) fun x4=>cond (x4.2 != (0:Int)) (k (a0,x4.2)) (k (x4.1,(0:Int)))))))
def pic_Hold (a0:(List Int))(a1:Int)(a2:Int):Option pic_Hold_R:=pic_Hold_t a0 a1 a2 some
def pic_Hold_sp:TX.Spec:=specD [.val (.sl (.int .u8)), .val (.int .i64), .val (.int .i64)] [] fun _ a m k=>match a,m with|⟨a0,a1,a2,_⟩,_=>outOf (pic_Hold a0 a1 a2) fun v=>k (.tup [.sl (.int .u8) v.1 false, .lit (.int .i64 v.2)]) []
theorem pic_Hold_good:TX.Good Tryz.prog 126 pic_Hold_sp:=gf SrNE4_ok mixed Tryz.func126 (body_of rfl) (by kernel_rfl) false (Hints.nil_ok (n0:=0)) 60 rfl fun α ⟨a0,a1,a2,_⟩ _ k=>tre ((show ∀k:pic_Hold_R→Option α,pic_Hold_t a0 a1 a2 k=outOf (pic_Hold a0 a1 a2) k from fun k=>by delta pic_Hold pic_Hold_t;exact(tB fun x1=>(tN tL (tN tL (tB fun x2=>(tN tL (tB fun x3=>(tN tL (tB fun x4=>(tN tL tL)))))))))) _) (by kernel_rfl)
abbrev pic_End_R:Type:=(Int×Int×Int)
def pic_End_t {γ:Type}(a0:(List Int))(a1:Int)(k:pic_End_R→Option γ):Option γ:=outOf (pic_held a0 a1) fun x1=>cond (x1.2 != (0:Int)) (k ((0:Int),(0:Int),x1.2)) (cond (x1.1 != pic_end a1) (outOf (pic_pictured a1 x1.1) fun x2=>cond (!x2) (k ((0:Int),(0:Int),(-9:Int))) (k (x1.1,IntKind.wrap .i64 (pic_end a1-x1.1),(0:Int)))) (k (x1.1,IntKind.wrap .i64 (pic_end a1-x1.1),(0:Int))))
def pic_End (a0:(List Int))(a1:Int):Option pic_End_R:=pic_End_t a0 a1 some
def pic_End_sp:TX.Spec:=specD [.val (.sl (.int .u8)), .val (.int .i64)] [] fun _ a m k=>match a,m with|⟨a0,a1,_⟩,_=>outOf (pic_End a0 a1) fun v=>k (.tup [.lit (.int .i64 v.1), .lit (.int .i64 v.2.1), .lit (.int .i64 v.2.2)]) []
theorem pic_End_good:TX.Good Tryz.prog 128 pic_End_sp:=gf SrNE4_ok mixed Tryz.func128 (body_of rfl) (by kernel_rfl) false (Hints.nil_ok (n0:=0)) 60 rfl fun α ⟨a0,a1,_⟩ _ k=>tre ((show ∀k:pic_End_R→Option α,pic_End_t a0 a1 k=outOf (pic_End a0 a1) k from fun k=>by delta pic_End pic_End_t;exact(tB fun x1=>(tN tL (tN (tB fun x2=>(tN tL tL)) tL)))) _) (by kernel_rfl)
noncomputable def SrNE5:Env:=SrNE4.add 126 true pic_Hold_sp |>.add 128 true pic_End_sp
theorem SrNE5_ok:SrNE5.OK Tryz.prog:=((SrNE4_ok).add_ok pic_Hold_good).add_ok pic_End_good
abbrev pic_Digit_R:Type:=((List Int)×Int×Int×Int)
def pic_Digit_t {γ:Type}(a0:(List Int))(a1:Int)(a2_0:Int)(a2_1:Int)(k:pic_Digit_R→Option γ):Option γ:=outOf (pic_Base a0 a1) fun x1=>cond (x1.2 != (0:Int)) (k (a0,(0:Int),(0:Int),x1.2)) (outOf (pic_divide a2_0 a2_1 x1.1) fun x2=>outOf (num_Sign x2.2.2) fun x3=>cond (decide ((0:Int)≤(0:Int)∧(0:Int)<(↑(ByteArray.size x3):Int))) (outOf (pic_Hold a0 a1 (IntKind.wrap .i64 (↑(UInt8.toNat (List.getD (Array.toList (ByteArray.data x3)) (0:Nat) (UInt8.ofNat (nat_lit 0)))):Int))) fun x4=>cond (x4.2 != (0:Int)) (k (a0,(0:Int),(0:Int),x4.2)) (k (x4.1,x2.1,x2.2.1,(0:Int)))) (none))
def pic_Digit (a0:(List Int))(a1:Int)(a2_0:Int)(a2_1:Int):Option pic_Digit_R:=pic_Digit_t a0 a1 a2_0 a2_1 some
def pic_Digit_sp:TX.Spec:=specD [.val (.sl (.int .u8)), .val (.int .i64), .agg (.pair (.int .i64) (.int .i64))] [] fun _ a m k=>match a,m with|⟨a0,a1,⟨a2_0,a2_1⟩,_⟩,_=>outOf (pic_Digit a0 a1 a2_0 a2_1) fun v=>k (.tup [.sl (.int .u8) v.1 false, .agg [.lit (.int .i64 v.2.1), .lit (.int .i64 v.2.2.1)], .lit (.int .i64 v.2.2.2)]) []
theorem pic_Digit_good:TX.Good Tryz.prog 124 pic_Digit_sp:=gf SrNE5_ok mixed Tryz.func124 (body_of rfl) (by kernel_rfl) false (Hints.nil_ok (n0:=0)) 60 rfl fun α ⟨a0,a1,⟨a2_0,a2_1⟩,_⟩ _ k=>tre ((show ∀k:pic_Digit_R→Option α,pic_Digit_t a0 a1 a2_0 a2_1 k=outOf (pic_Digit a0 a1 a2_0 a2_1) k from fun k=>by delta pic_Digit pic_Digit_t;exact(tB fun x1=>(tN tL (tB fun x2=>(tB fun x3=>(tN (tB fun x4=>(tN tL tL)) tO)))))) _) (by kernel_rfl)
abbrev pic_Sign_R:Type:=((List Int)×Int)
def pic_Sign_t {γ:Type}(a0:(List Int))(a1:Int)(a2:Int)(k:pic_Sign_R→Option γ):Option γ:=outOf (pic_area a1) fun x1=>cond (!x1) (k (a0,(-9:Int))) (cond (decide (a2<(0:Int))) (outOf (pic_Hold a0 a1 (45:Int)) fun x2=>k x2) (k (a0,(0:Int))))
def pic_Sign (a0:(List Int))(a1:Int)(a2:Int):Option pic_Sign_R:=pic_Sign_t a0 a1 a2 some
def pic_Sign_sp:TX.Spec:=specD [.val (.sl (.int .u8)), .val (.int .i64), .val (.int .i64)] [] fun _ a m k=>match a,m with|⟨a0,a1,a2,_⟩,_=>outOf (pic_Sign a0 a1 a2) fun v=>k (.tup [.sl (.int .u8) v.1 false, .lit (.int .i64 v.2)]) []
theorem pic_Sign_good:TX.Good Tryz.prog 127 pic_Sign_sp:=gf SrNE5_ok mixed Tryz.func127 (body_of rfl) (by kernel_rfl) false (Hints.nil_ok (n0:=0)) 60 rfl fun α ⟨a0,a1,a2,_⟩ _ k=>tre ((show ∀k:pic_Sign_R→Option α,pic_Sign_t a0 a1 a2 k=outOf (pic_Sign a0 a1 a2) k from fun k=>by delta pic_Sign pic_Sign_t;exact(tB fun x1=>(tN tL (tN (tB fun x2=>tL) tL)))) _) (by kernel_rfl)
noncomputable def SrNE6:Env:=SrNE5.add 124 true pic_Digit_sp |>.add 127 true pic_Sign_sp
theorem SrNE6_ok:SrNE6.OK Tryz.prog:=((SrNE5_ok).add_ok pic_Digit_good).add_ok pic_Sign_good
def pic_All_h0:Hints:=Hints.nil 0
theorem pic_All_h0_ok:pic_All_h0.OK Tryz.prog (bodyOf Tryz.f125):=Hints.nil_ok
def pic_All_L1_A:List SD:=(.val (.sl (.int .u8)))::(.val (.int .i64))::an 3 ((.loc 0 0 0):: .any::(.loc 1 0 0):: .any::(.val (.sl (.int .u8)))::an 28 [])
def pic_All_L1_H:List HD:=[.box [.val (.int .i64), .val (.int .i64)], .box [.val (.int .i64), .val (.int .i64)]]
abbrev pic_All_L1_D:Type:=(List Int)×Int×(List Int)×Int×Int×Int×Int
def pic_All_L1_to (a:DenS pic_All_L1_A)(m:DenH pic_All_L1_H):pic_All_L1_D:=(a.1,a.2.1,a.2.2.2.2.2.2.2.2.2.1,m.1.1,m.1.2.1,m.2.1.1,m.2.1.2.1)
def pic_All_L1_ofA (d:pic_All_L1_D):DenS pic_All_L1_A:=match d with|(s0,s1,s9,m0_0,m0_1,m1_0,m1_1)=>(s0,s1,un 7 (s9,un 28 ()))
def pic_All_L1_ofH (d:pic_All_L1_D):DenH pic_All_L1_H:=match d with|(s0,s1,s9,m0_0,m0_1,m1_0,m1_1)=>((m0_0,m0_1,()),(m1_0,m1_1,()),())
def pic_All_L1_N:Norm:=(⟨[0,1,5,7,9],[],[]⟩:Go.TX.Norm)
def pic_All_L1_X:Exit→Norm:=fun e=>match e with| .ret=>⟨[6,7,8],[],[]⟩| .exit 0=>⟨[5,7,9],[],[]⟩|_=>⟨[],[],[]⟩
abbrev pic_All_L1_R:Type:=(((List Int)×Int×Int×Int) ⊕ ((List Int)×Int×Int×Int×Int))
def pic_All_L1_f (β:Type)(v:pic_All_L1_R)(k:Exit→St→β):β:=sumOf v (fun v=>k .ret ⟨av 6 ((.sl (.int .u8) v.1 false)::(.ptr 0 0 0)::(.lit (.int .i64 v.2.1))::av 29 []),[.box [.lit (.int .i64 v.2.2.1), .lit (.int .i64 v.2.2.2)]]⟩) (fun v=>k (.exit 0) ⟨av 5 ((.ptr 0 0 0):: .any::(.ptr 1 0 0):: .any::(.sl (.int .u8) v.1 false)::av 28 []),[.box [.lit (.int .i64 v.2.1), .lit (.int .i64 v.2.2.1)], .box [.lit (.int .i64 v.2.2.2.1), .lit (.int .i64 v.2.2.2.2)]]⟩)
def pic_All_L1_t {γ:Type}(s0:(List Int))(s1:Int)(s9:(List Int))(m0_0:Int)(m0_1:Int)(m1_0:Int)(m1_1:Int)(next:pic_All_L1_D→Option γ)(out:pic_All_L1_R→Option γ):Option γ:=outOf (pic_Digit s9 s1 m0_0 m0_1) fun x1=>cond (x1.2.2.2 != (0:Int)) (out (.inl (s0,x1.2.2.2,(0:Int),(0:Int)))) (cond (x1.2.1==(0:Int)&&(x1.2.2.1==(0:Int)&&true)) (out (.inr (x1.1,x1.2.1,x1.2.2.1,m1_0,m1_1))) (next (s0,s1,x1.1,x1.2.1,x1.2.2.1,m1_0,m1_1)))
def pic_All_L1_pass (d:pic_All_L1_D):Option (pic_All_L1_D ⊕ pic_All_L1_R):=pic_All_L1_t d.1 d.2.1 d.2.2.1 d.2.2.2.1 d.2.2.2.2.1 d.2.2.2.2.2.1 d.2.2.2.2.2.2 (fun d=>some (.inl d)) (fun x=>some (.inr x))
def pic_All_L1 (d:pic_All_L1_D):Option pic_All_L1_R:=runs pic_All_L1_pass d
def pic_All_L1_sp:CSpec:=cS 0 pic_All_L1_N pic_All_L1_A pic_All_L1_H pic_All_L1_to (runs pic_All_L1_pass) fun β _=>pic_All_L1_f β
def pic_All_L1_h:Hints:=pic_All_h0.add [0,0,1,1,0,1] pic_All_L1_sp
theorem pic_All_L1_h_ok:pic_All_L1_h.OK Tryz.prog (bodyOf Tryz.f125):=lop SrNE6_ok mixed pic_All_h0_ok (p:=[0,0,1,1,0,1]) (by kernel_rfl) pic_All_L1_X pic_All_L1_ofA pic_All_L1_ofH (fun _ _=>rfl) (fun _ _=>rfl) pic_All_L1_pass (fun x β k=>by rcases x with x|x<;>rfl) 60 fun α ⟨s0,s1,s9,m0_0,m0_1,m1_0,m1_1⟩ next k=>tre ((show ∀u:pic_All_L1_R→Option α,pic_All_L1_t s0 s1 s9 m0_0 m0_1 m1_0 m1_1 next u=PassOf (pic_All_L1_pass ⟨s0,s1,s9,m0_0,m0_1,m1_0,m1_1⟩) next u from fun u=>by delta pic_All_L1_pass pic_All_L1_t;exact(pB fun x1=>(pN pU (pN pU pX)))) _) (by kernel_rfl)
abbrev pic_All_R:Type:=((List Int)×Int×Int×Int)
def pic_All_t {γ:Type}(a0:(List Int))(a1:Int)(a2_0:Int)(a2_1:Int)(k:pic_All_R→Option γ):Option γ:=outOf (pic_All_L1 (a0,a1,a0,a2_0,a2_1,(0:Int),(0:Int))) fun x2=>sumOf x2 (fun x3=>k (x3.1,x3.2.2.1,x3.2.2.2,x3.2.1)) (fun x4=>k (x4.1,x4.2.1,x4.2.2.1,(0:Int)))
def pic_All (a0:(List Int))(a1:Int)(a2_0:Int)(a2_1:Int):Option pic_All_R:=pic_All_t a0 a1 a2_0 a2_1 some
def pic_All_sp:TX.Spec:=specD [.val (.sl (.int .u8)), .val (.int .i64), .agg (.pair (.int .i64) (.int .i64))] [] fun _ a m k=>match a,m with|⟨a0,a1,⟨a2_0,a2_1⟩,_⟩,_=>outOf (pic_All a0 a1 a2_0 a2_1) fun v=>k (.tup [.sl (.int .u8) v.1 false, .agg [.lit (.int .i64 v.2.1), .lit (.int .i64 v.2.2.1)], .lit (.int .i64 v.2.2.2)]) []
theorem pic_All_good:TX.Good Tryz.prog 125 pic_All_sp:=gf SrNE6_ok mixed Tryz.func125 (body_of rfl) (by kernel_rfl) false pic_All_L1_h_ok 60 rfl fun α ⟨a0,a1,⟨a2_0,a2_1⟩,_⟩ _ k=>tre ((show ∀k:pic_All_R→Option α,pic_All_t a0 a1 a2_0 a2_1 k=outOf (pic_All a0 a1 a2_0 a2_1) k from fun k=>by delta pic_All pic_All_t;exact(tB fun x2=>(tC (fun x3=>tL) (fun x4=>tL)))) _) (by kernel_rfl)
noncomputable def SrNE7:Env:=SrNE6.add 125 true pic_All_sp
theorem SrNE7_ok:SrNE7.OK Tryz.prog:=(SrNE6_ok).add_ok pic_All_good
end
end Go.Proofs.Dbl
