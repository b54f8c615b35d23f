/- law10: flat, and same of a style and itself; walked. -/
import Derived.Test.YtfmafehogfikmaaGreatDoorpa
import Derived.Test.YtfmafehogfikmaaGreatDoorI9
namespace Go.Proofs.YtfmafehogfikmaaGreatDoor
open Go Go.RowKit
set_option maxRecDepth 20000

set_option maxHeartbeats 16000000 in
theorem flat_D (a b c e f g h i j : ByteArray) (x y z : Int) (u : Bool) (L1 L2 L3 : List D) : uI Tryz.prog 9 [.agg [.val (.string a), .val (.string b), .val (.int .i64 x), .sl 1 L1, .sl 1 L2, .val (.string c), .val (.string e), .val (.string f), .val (.string g), .val (.bool u), .sl 2 L3, .val (.int .i64 y), .val (.string h), .val (.string i), .val (.string j), .val (.int .i64 z)]]
    (.agg [.val (.string a), .val (.string b), .val (.int .i64 x), .sl 1 L1, .sl 1 L2, .val (.string c), .val (.string e), .val (.string f), .val (.string g), .val (.bool u), .sl 2 L3, .val (.int .i64 y), .val (.string h), .val (.string i), .val (.string j), .val (.int .i64 z)]) := by
  refine uP Tryz.func9 Tryz.ntmps9 rfl rfl rfl fun S' w => ?_
  repeat (first | refine ue ?_ | refine uc ?_ | refine ud ?_ | refine uk ?_ | refine uf ?_ | (refine ug ?_; first | refine uJ tab_ok rfl rfl rfl rfl rfl ?_ | refine uh tab_ok rfl rfl rfl rfl byE rfl ?_ | refine vp tab_ok rfl rfl rfl rfl rfl ?_ | refine uM tab_ok rfl rfl rfl rfl ?_))
  refine uU (l := [.val (.string a), .val (.string b), .val (.int .i64 x), .sl 1 L1, .sl 1 L2, .val (.string c), .val (.string e), .val (.string f), .val (.string g), .val (.bool u), .sl 2 L3, .val (.int .i64 y), .val (.string h), .val (.string i), .val (.string j), .val (.int .i64 z)]) tab_ok rfl rfl (by kernel_rfl) rfl rfl rfl ?_
  refine uM tab_ok rfl rfl rfl rfl ?_
  refine uf ?_
  refine uc ?_
  refine uk ?_
  exact ret1c tab_ok byO rfl rfl rfl rfl rfl rfl (Sub.agg (by repeat' first | exact trivial | exact Sub.refl _ | exact Sub.nil _ | refine Sub.agg ?_ | apply And.intro))
theorem flat10_ok (S : Sd) : uI Tryz.prog 9 [dfA S] (dfA S) := flat_D S.name S.system S.neg1 S.neg2 S.pre S.suf S.padSign S.fall S.ext S.first S.pad S.said S.auto _ _ _
end Go.Proofs.YtfmafehogfikmaaGreatDoor
