/- Best and the document's example, under the name that the printed walks import. -/
import Derived.Test.YtbojieeildhlcaaDoorPortAw
namespace Go.Proofs.YtbojieeildhlcaaDoor.Ext
end Go.Proofs.YtbojieeildhlcaaDoor.Ext
