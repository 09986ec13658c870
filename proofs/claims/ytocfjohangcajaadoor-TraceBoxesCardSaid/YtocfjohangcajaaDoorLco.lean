/- What the walks and the plain laws give. No condition. -/
import Derived.Test.YtocfjohangcajaaDoorWk
import Derived.Test.YtocfjohangcajaaDoorLbx
set_option linter.unusedVariables false
namespace Go.Proofs.YtocfjohangcajaaDoor
theorem traceBoxes_calls (p0 p1 p2 p3 p4 p5 : Int) (h : Heap) :
    CallsA Tryd.prog 7 [.int .i64 p0, .int .i64 p1, .int .i64 p2, .int .i64 p3, .int .i64 p4, .int .i64 p5] h fun d _ => d = .bool true :=
  (F_lecternlaw10_TraceBoxes_w p0 p1 p2 p3 p4 p5 (G := fun b => b = true) h ⟨true, traceBoxes p0 p1 p2 p3 p4 p5, rfl⟩).mono fun d h' ⟨r, hr, hd⟩ => by subst hr; exact hd
end Go.Proofs.YtocfjohangcajaaDoor
