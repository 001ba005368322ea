/- The two function literals of package grid. -/
import Derived.Test.YtjclgoiclbkgjaaDoorG18
namespace Go.Proofs.YtjclgoiclbkgjaaDoor
open Go.RowKit

set_option maxRecDepth 100000 in
theorem now_any (o b off n c : Nat) (w : World) (h : w.cell? ⟨o, 0, none⟩ = some (.slice (some ⟨b, off, none⟩) (n + 1) c)) (hn : n ≤ 100000000) :
    Calls Tryd.prog 63 #[.pointer (some ⟨o, 0, none⟩)] w fun e w' => e = .returned (.pointer (some ⟨b, off + n * 2, none⟩)) ∧ w' = w := by
  have hix := idx_at (P := Tryd.prog) (size := 2) Tryd.underlying68 row_info b off (n + 1) c n (by omega)
  have hw1 : IntKind.i64.wrap (((n + 1 : Nat) : Int) - 1) = (n : Int) := by rw [wrap64_id _ (by omega) (by omega)]; omega
  have hw2 : ((n : Int) + 1 - 1) = (n : Int) := by omega
  go_enter Tryd.func63, Tryd.ntmps63
  go_wp2_with fail
  exact ret1v rfl rfl rfl ⟨rfl, rfl⟩
set_option maxRecDepth 100000 in
theorem tell_any (wb pb : Nat) (x y was : Int) (a1 a2 : Value) (w : World) (h : w.cell? ⟨wb, 0, none⟩ = some (.int .i64 was)) (hp : w.heap[pb]? = some (.cells #[a1, a2] 43 (0, 0))) (h0 : 0 ≤ was ∧ was ≤ 100000000) (h1 : -1 ≤ y ∧ y ≤ 100000000) :
    Calls Tryd.prog 58 #[.int .i64 x, .int .i64 y, .pointer (some ⟨wb, 0, none⟩), .pointer (some ⟨pb, 0, none⟩)] w fun e w' => e = .returned (.tuple #[]) ∧ w.grownBy w' (some pb) ∧ w'.heap[pb]? = some (.cells #[.int .i64 x, .int .i64 (was + y)] 43 (0, 0)) := by
  have hst := run_storeVar_row (P := Tryd.prog) w pb 43 43 _ #[.int .i64 x, .int .i64 (was + y)] hp (by kernel_rfl) rfl (by simp [Value.oneCell'])
  have hr2 := setRow_blk (cells := #[.int .i64 x, .int .i64 (was + y)]) hp
  have HG : Hid (w.grownBy (w.setRow pb #[.int .i64 x, .int .i64 (was + y)]) (some pb)) := by
    refine ⟨rfl, rfl, rfl, ?_, fun k hk hne => ?_⟩
    · simp [World.setRow]
    · show (w.heap.modify pb _)[k]? = _
      rw [Array.getElem?_modify, if_neg (fun e => hne (by rw [e]))]
  have HR := Lib.hid hr2
  clear hr2 hp
  go_enter Tryd.func58, Tryd.ntmps58
  go_wp2_with (refine wpList_storeR rfl _ _ _ rfl hst rfl rfl ?_)
  go_end0
  exact ⟨rfl, HG.out, HR.out⟩
end Go.Proofs.YtjclgoiclbkgjaaDoor
