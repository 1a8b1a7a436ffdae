/- BioPuts, the walk: for any bytes, number and text the statement returns true. No condition but the number's range. -/
import Derived.Test.YtfoecgcjipckmaaMineBioA
import Derived.Test.YtfoecgcjipckmaaMineBioB
import Derived.Test.YtfoecgcjipckmaaMineBioC
namespace Go.Proofs.Ytfoecgcjipckmaa.MinePut
open Go.RowKit Go.Proofs.YtfoecgcjipckmaaW.PrintWords
theorem BioPuts_calls (A0 : Option Addr) (c0 : Nat) (l : List Int) (x m : Int) (s : ByteArray) (w : World) (hr0 : Kd.C (Kd.int .u8) w A0 l.length l) (hc0 : l.length ≤ c0) (hx : 0 ≤ x ∧ x < 4294967296) :
    Calls Try.prog 9 #[.slice A0 l.length c0, .int .u32 x, .int .i64 m, .string s] w fun e w' => e = .returned (.bool true) ∧ Below w.heap.size w w' := by
  by_cases hm0 : m < 0
  · exact BioPuts_neg A0 c0 l x m s w hr0 hc0 hx hm0
  · by_cases hm1 : 4 < m
    · exact BioPuts_far A0 c0 l x m s w hr0 hc0 hx hm0 hm1
    · exact BioPuts_in A0 c0 l x m s w hr0 hc0 hx hm0 hm1
end Go.Proofs.Ytfoecgcjipckmaa.MinePut
