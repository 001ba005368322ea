/- The walk of the law VtPrints. -/
import Derived.Test.YtkdicejlfagaeaaDoorArg2
import Derived.Deep.RegionWith
namespace Go.Proofs.YtkdicejlfagaeaaDoor
open Go.RowKit

set_option maxRecDepth 100000 in
set_option maxHeartbeats 4000000 in
theorem vtPrints_walk (v : Value) (L : List (VAct × Value)) (w : World) (htab : Tab Tryd.prog w) (hv : IsActs w v L) (hf : ∀ x ∈ L, ActFits x.1) (hl : L.length ≤ 8388608) :
    Calls Tryd.prog 3 #[v] w fun e w' => e = .returned (.bool true) ∧ Below w.heap.size w w' := by
  have HTAB := Lib.hid htab
  have HV := Lib.hid hv
  have HF := Lib.hid hf
  clear htab hv hf
  go_enter Tryd.func3, Tryd.ntmps3
  go_wp2_with fail
  refine (shown_any _ HTAB.out).mono ?_
  rintro e w2 ⟨rfl, b2⟩
  have HB2 := Lib.hid b2
  have HI := Lib.hid (show ∀ wx, Below w.heap.size w wx → IsActs wx v L from fun wx hx => isActs_below HV.out hx)
  have HT := Lib.hid (show ∀ wx, Below w.heap.size w wx → Tab Tryd.prog wx from fun wx hx => tab_go HTAB.out hx)
  have HD2 := Lib.hid (show Below w.heap.size w w2.drew from b2.drew)
  clear b2
  go_upto_region 2 with fail
  go_region_with (first
    | (go_at_call 9
       refine (print_any v L _ (HI.out _ (by first | exact HD2.out | exact HR.out)) HF.out hl (HT.out _ (by first | exact HD2.out | exact HR.out))).mono ?_
       rintro e wA ⟨r, rfl, oA, bA⟩
       have HA := Lib.hid (show Below w.heap.size w wA by first | exact HD2.out.trans (bA.mono HD2.out.size) | exact HR.out.trans (bA.mono HR.out.size))
       have hcv := run_bytes_reads (P := Tryd.prog) Tryd.underlying24 Tryd.underlying5 Tryd.underlying9 (ownC_reads oA)
       have HOA := Lib.hid oA
       clear oA bA)
    | (go_at_call 10
       refine (refPrint_any v L _ (HI.out _ (by first | exact HA.out | exact HD2.out)) HF.out hl).mono ?_
       rintro e wB ⟨rfl, bB⟩
       have HR := Lib.hid (show Below w.heap.size w wB by first | exact HA.out.trans (bB.mono HA.out.size) | exact HD2.out.trans (bB.mono HD2.out.size))
       try (have hcw := run_bytes_reads (P := Tryd.prog) Tryd.underlying24 Tryd.underlying5 Tryd.underlying9 (ownC_reads (ownC_below HOA.out bB)))
       clear bB))
  all_goals
    go_wp2_with fail
    go_ret
    refine ⟨rfl, ?_⟩
    first | exact HR.out | exact HA.out
end Go.Proofs.YtkdicejlfagaeaaDoor
