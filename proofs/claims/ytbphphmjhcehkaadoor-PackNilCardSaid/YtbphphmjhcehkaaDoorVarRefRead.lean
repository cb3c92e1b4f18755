/- The reference's Read beside varint.Read. -/
import Derived.Test.YtbphphmjhcehkaaDoorVarScan
namespace Go.Proofs.YtbphphmjhcehkaaDoor
open Go.RowKit

def rshort : Value := .tuple #[.int .u64 0, .int .i64 0, .int .i64 5]
end Go.Proofs.YtbphphmjhcehkaaDoor
