/- What the printed walk of PortAdds imports: the example, Best and Delay. -/
import Derived.Test.YtbojieeildhlcaaDoorExt
import Derived.Test.YtbojieeildhlcaaDoorPortDel
namespace Go.Proofs.YtbojieeildhlcaaDoor.Ext
end Go.Proofs.YtbojieeildhlcaaDoor.Ext
