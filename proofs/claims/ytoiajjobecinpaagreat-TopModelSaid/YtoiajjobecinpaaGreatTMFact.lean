/- Closed facts that TopModel's row asks of the program; no condition. -/
import Derived.Test.YtoiajjobecinpaaGreatRows
import Derived.JoinedOf
set_option maxHeartbeats 8000000
set_option maxRecDepth 100000
namespace Go.Proofs.YtoiajjobecinpaaGreat.topModel
theorem o1:Tryz.pinned.checked.prog.funcNamed Rows.topModelRow.func=some 3:=by kernel_rfl
theorem o2:joinedFacts Tryz.pinned.checked.prog 3 Tryz.f3 Rows.topModelSpec Rows.topModelRow=true:=by
 simp only[joinedFacts,Bool.and_eq_true]
 and_intros <;> as_aux_lemma => kernel_rfl
theorem o3:Tryz.f3.isInstance Tryz.pinned.checked.prog Rows.topModelRow.origin Rows.topModelRow.targs:=of_decide_eq_true (by kernel_rfl)
theorem o4:Tryz.f3.isWrapper Tryz.pinned.checked.prog Rows.topModelRow.wrapper Rows.topModelRow.mainSum:=by unfold Func.isWrapper;first | (rw[if_pos (by decide +kernel)];kernel_rfl) | (rw[if_neg (by decide +kernel)];exact⟨rfl,rfl⟩)
end Go.Proofs.YtoiajjobecinpaaGreat.topModel
