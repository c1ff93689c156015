/- The document's rows: Great. -/
import Derived.Test.YtlgohkdckdnmhaaDoorRefE
import Derived.Test.YtlgohkdckdnmhaaDoorRows2
namespace Go.Proofs.YtlgohkdckdnmhaaDoor
open Go.RowKit Go.Afx

def greatRowsB (rows : List (List AV)) : Bool := decide (30 < rows.length) || rows.any greatB
end Go.Proofs.YtlgohkdckdnmhaaDoor
