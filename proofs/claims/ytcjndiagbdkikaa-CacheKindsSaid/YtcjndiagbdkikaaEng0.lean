/- What is asked of memory at the begin. No condition. -/
import Derived.Orders

namespace Go.Proofs.Ytcjndiagbdkikaa

def Tabs (_ : World) : Prop := True
end Go.Proofs.Ytcjndiagbdkikaa
