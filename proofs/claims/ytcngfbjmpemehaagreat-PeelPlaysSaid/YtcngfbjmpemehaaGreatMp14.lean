import Derived.Test.YtcngfbjmpemehaaGreatRows
import Derived.ChangeSame
import Derived.ChangeSlices
import Derived.ProofKit
import Derived.OpenShut
import Derived.Carry
import Derived.Test.YtcngfbjmpemehaaGreatMp3
set_option maxRecDepth 100000
set_option maxHeartbeats 16000000
/- What every row's end needs: the post of a law that reads its arguments and returns true. -/
namespace Go.Proofs.YtcngfbjmpemehaaGreat
open Go.RowKit Go.ChangeShapes Go.WideShapes Go.ChangeAt

theorem own : ownKnob Tryz.prog.godebug = none:=by kernel_rfl
theorem laidOut : laidOutB Tryz.prog = true:=by kernel_rfl
theorem post_true {H : Type} {enc : TypeId × Value → H} {f : Func} {s : ChangeSpec} {W W' : World} {args : Array Value} {ds : List (DataW H)} {before pa : List MemPlace}
  (hr : f.resultTypes = #[4]) (hW : DataW.Whole enc Tryz.prog f.params.toList s.vars false W args.toList ds [] before) (hv : s.vars = [])
  (hres : (s.fn H (ds ++ [])).results = [.lit (.bool true)]) (hvs : (s.fn H (ds ++ [])).vars = [])
  (hargs : DataW.TrodAll enc Tryz.prog W' 0 (fun b => decide (b < W.heap.size)) true f.params.toList args.toList (s.fn H (ds ++ [])).args pa) (hF : Fr [] W W') :
  s.post enc Tryz.prog f false true false false W args (.bool true) W':=by
 refine ⟨ds,[],before,[],pa,[],hW,?_,hargs,?_,hF.below.frame _,fun h => by cases h⟩
 ·rw [hres,hr]
  exact trodAll_mk1 (shut_bool Tryz.underlying4 _)
 ·rw [hv,hvs]
  exact rfl
end Go.Proofs.YtcngfbjmpemehaaGreat
