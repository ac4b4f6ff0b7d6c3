import Derived.Test.YtgchjlbhmfbgaaaGreatDoorSuG
import Derived.Test.YtgchjlbhmfbgaaaGreatDoorTxAC
import Derived.KernelRfl
namespace Go.Proofs.Dbl
open Go Go.TX Go.Proofs
set_option maxRecDepth 100000
set_option linter.unusedVariables false
set_option maxHeartbeats 0
noncomputable def awS:List (FuncId×Func×Bool):=[(13,Tryz.f13,true),(22,Tryz.f22,true),(41,Tryz.f41,true),(21,Tryz.f21,true),(39,Tryz.f39,true),(61,Tryz.f61,true),(40,Tryz.f40,true),(42,Tryz.f42,true),(20,Tryz.f20,true),(43,Tryz.f43,true),(62,Tryz.f62,true),(92,Tryz.f92,true),(93,Tryz.f93,true),(44,Tryz.f44,true),(74,Tryz.f74,true),(187,Tryz.f187,true),(26,Tryz.f26,true),(73,Tryz.f73,true),(229,Tryz.f229,true),(50,Tryz.f50,true),(232,Tryz.f232,true),(52,Tryz.f52,true),(32,Tryz.f32,true),(33,Tryz.f33,true),(45,Tryz.f45,false),(63,Tryz.f63,false),(94,Tryz.f94,false),(275,Tryz.f275,false),(48,Tryz.f48,false),(68,Tryz.f68,false),(69,Tryz.f69,false),(136,Tryz.f136,false),(137,Tryz.f137,false),(260,Tryz.f260,false),(49,Tryz.f49,false),(99,Tryz.f99,false),(97,Tryz.f97,false)]
theorem awS_has: ∀x∈awS,Has Tryz.prog x:=by
 unfold awS
 simp only[List.forall_mem_cons]
 exact⟨⟨Tryz.func13,by kernel_rfl,by kernel_rfl⟩,⟨Tryz.func22,by kernel_rfl,by kernel_rfl⟩,⟨Tryz.func41,by kernel_rfl,by kernel_rfl⟩,⟨Tryz.func21,by kernel_rfl,by kernel_rfl⟩,⟨Tryz.func39,by kernel_rfl,by kernel_rfl⟩,⟨Tryz.func61,by kernel_rfl,by kernel_rfl⟩,⟨Tryz.func40,by kernel_rfl,by kernel_rfl⟩,⟨Tryz.func42,by kernel_rfl,by kernel_rfl⟩,⟨Tryz.func20,by kernel_rfl,by kernel_rfl⟩,⟨Tryz.func43,by kernel_rfl,by kernel_rfl⟩,⟨Tryz.func62,by kernel_rfl,by kernel_rfl⟩,⟨Tryz.func92,by kernel_rfl,by kernel_rfl⟩,⟨Tryz.func93,by kernel_rfl,by kernel_rfl⟩,⟨Tryz.func44,by kernel_rfl,by kernel_rfl⟩,⟨Tryz.func74,by kernel_rfl,by kernel_rfl⟩,⟨Tryz.func187,by kernel_rfl,by kernel_rfl⟩,⟨Tryz.func26,by kernel_rfl,by kernel_rfl⟩,⟨Tryz.func73,by kernel_rfl,by kernel_rfl⟩,⟨Tryz.func229,by kernel_rfl,by kernel_rfl⟩,⟨Tryz.func50,by kernel_rfl,by kernel_rfl⟩,⟨Tryz.func232,by kernel_rfl,by kernel_rfl⟩,⟨Tryz.func52,by kernel_rfl,by kernel_rfl⟩,⟨Tryz.func32,by kernel_rfl,by kernel_rfl⟩,⟨Tryz.func33,by kernel_rfl,by kernel_rfl⟩,⟨Tryz.func45,by kernel_rfl,by kernel_rfl⟩,⟨Tryz.func63,by kernel_rfl,by kernel_rfl⟩,⟨Tryz.func94,by kernel_rfl,by kernel_rfl⟩,⟨Tryz.func275,by kernel_rfl,by kernel_rfl⟩,⟨Tryz.func48,by kernel_rfl,by kernel_rfl⟩,⟨Tryz.func68,by kernel_rfl,by kernel_rfl⟩,⟨Tryz.func69,by kernel_rfl,by kernel_rfl⟩,⟨Tryz.func136,by kernel_rfl,by kernel_rfl⟩,⟨Tryz.func137,by kernel_rfl,by kernel_rfl⟩,⟨Tryz.func260,by kernel_rfl,by kernel_rfl⟩,⟨Tryz.func49,by kernel_rfl,by kernel_rfl⟩,⟨Tryz.func99,by kernel_rfl,by kernel_rfl⟩,⟨Tryz.func97,by kernel_rfl,by kernel_rfl⟩,by simp⟩
noncomputable def awE:Env:=deepE Tryz.prog SE0 awS 200 12
theorem awE_ok:awE.OK Tryz.prog:=deepE_ok SE0_ok mixed awS_has 200 12
noncomputable def law_awake_sp:TX.Spec:=specD [] [] fun _ a m k=>k (.lit (.bool true)) []
theorem law_awake_good:TX.Good Tryz.prog 11 law_awake_sp:=gf awE_ok mixed Tryz.func11 (body_of rfl) (by kernel_rfl) false (Hints.nil_ok (n0:=0)) 200 rfl fun α a m k=>by kernel_rfl
end Go.Proofs.Dbl
