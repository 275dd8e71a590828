/- A token of the plain functions as one of the program's. No condition. -/
import Derived.Test.YthdccdbiichabaaDoorLexS
import Derived.Test.YthdccdbiichabaaDoorPx0
namespace Go.Proofs.YthdccdbiichabaaDoor.P
open Go.RowKit Go.Proofs.YthdccdbiichabaaDoorW.PrintWords Go.Proofs.YthdccdbiichabaaDoorW.PrintLast Go.Proofs.YthdccdbiichabaaDoorW.PrintMore
def tokS (t : Tok) : S65 := ⟨t.kind, ⟨t.text.toArray⟩, t.val, t.at'⟩
/-- What an append of tokens asks of the program's table of types. -/
theorem infoTk : (Tryd.prog.info? 65).map (fun i => (i.zero, i.size, i.bytes)) = some (some (.agg #[.int .i64 0, .string ⟨#[]⟩, .int .i64 0, .int .i64 0]), 4, 40) := by kernel_rfl
end Go.Proofs.YthdccdbiichabaaDoor.P
