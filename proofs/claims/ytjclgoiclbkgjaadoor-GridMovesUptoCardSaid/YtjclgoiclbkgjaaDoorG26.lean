/- What the laws of package grid call: pick, a text's runes. -/
import Derived.Test.YtjclgoiclbkgjaaDoorG25
import Derived.Lib.TrimU
namespace Go.Proofs.YtjclgoiclbkgjaaDoor
open Go.RowKit
attribute [local go_sem ↓] Go.wp_at_zero Go.wp_at_succ

set_option maxRecDepth 100000 in
theorem pick_any (c : Int) (n : Nat) (w : World) (h0 : -9223372036854775808 ≤ c) (h1 : c ≤ 9223372036854775807) (hn : 0 < n) (hn2 : n ≤ 1000000) :
    Calls Tryd.prog 20 #[.int .i64 c, .int .i64 n] w fun e w' => ∃ r : Nat, e = .returned (.int .i64 r) ∧ r < n ∧ (c = 0 → r = 0) ∧ w' = w := by
  by_cases hc : c < 0
  · have d1 : decide (c < 0) = true := decide_eq_true hc
    have hw1 : IntKind.i64.wrap (c + 1) = c + 1 := wrap64_id _ (by omega) (by omega)
    have hw2 : IntKind.i64.wrap (-(c + 1)) = -(c + 1) := wrap64_id _ (by omega) (by omega)
    have hne : ((n : Int) == 0) = false := beq_eq_false_iff_ne.2 (by omega)
    have hne2 : ¬ ((n : Int) = 0) := by omega
    have hb : 0 ≤ (-(c + 1)).tmod (n : Int) ∧ (-(c + 1)).tmod (n : Int) < n := ⟨Int.tmod_nonneg _ (by omega), Int.tmod_lt_of_pos _ (by omega)⟩
    have hw3 : IntKind.i64.wrap ((-(c + 1)).tmod (n : Int)) = (-(c + 1)).tmod (n : Int) := wrap64_id _ (by omega) (by omega)
    go_enter Tryd.func20, Tryd.ntmps20
    go_wp2_with fail
    refine ret1v (v := .int .i64 (((-(c + 1)).tmod (n : Int)).toNat : Int)) rfl rfl (by show Value.int _ _ = _; rw [Int.toNat_of_nonneg hb.1, Int.neg_tmod]) ⟨((-(c + 1)).tmod (n : Int)).toNat, rfl, by omega, fun e => by omega, rfl⟩
  · have d1 : decide (c < 0) = false := decide_eq_false hc
    have hne : ((n : Int) == 0) = false := beq_eq_false_iff_ne.2 (by omega)
    have hne2 : ¬ ((n : Int) = 0) := by omega
    have hb : 0 ≤ c.tmod (n : Int) ∧ c.tmod (n : Int) < n := ⟨Int.tmod_nonneg _ (by omega), Int.tmod_lt_of_pos _ (by omega)⟩
    have hw3 : IntKind.i64.wrap (c.tmod (n : Int)) = c.tmod (n : Int) := wrap64_id _ (by omega) (by omega)
    go_enter Tryd.func20, Tryd.ntmps20
    go_wp2_with fail
    refine ret1v (v := .int .i64 ((c.tmod (n : Int)).toNat : Int)) rfl rfl (by show Value.int _ _ = _; rw [Int.toNat_of_nonneg hb.1, Int.tmod_eq_emod_of_nonneg (by omega)]) ⟨(c.tmod (n : Int)).toNat, rfl, by omega, fun e => by rw [e, Int.zero_tmod]; rfl, rfl⟩
/-- A text's runes. -/
theorem runesFrom_all (s : ByteArray) : ∀ (bound i : Nat) (acc : Array Value), (∀ v ∈ acc, ∃ r : Int, v = .int .i32 r ∧ 0 ≤ r ∧ r ≤ 1114111) → ∀ v ∈ Conv.runesFrom s bound i acc, ∃ r : Int, v = .int .i32 r ∧ 0 ≤ r ∧ r ≤ 1114111
  | 0, _, acc, h => h
  | bound + 1, i, acc, h => by
    unfold Conv.runesFrom
    split
    · refine runesFrom_all s bound _ _ (fun v hv => ?_)
      rcases Array.mem_push.1 hv with hv | hv
      · exact h v hv
      · exact ⟨_, hv, Int.natCast_nonneg _, by have := Lib.rune_le s i; show ((Utf8.decode s i).1 : Int) ≤ 1114111; omega⟩
    · exact h
def vInt : Value → Int
  | .int _ r => r
  | _ => 0
theorem conv_runes (s : ByteArray) (hs : s.size ≤ 1000000000) (w : World) : ∃ (l : List Int) (w2 : World) (c : Nat), (convert 9 35 (.string s)).run Tryd.prog w = .ok (.slice (some ⟨w.heap.size, 0, none⟩) l.length c) w2 ∧ Below w.heap.size w w2 ∧ w.heap.size < w2.heap.size ∧
    (∀ k, k < l.length → w2.cell? ⟨w.heap.size, k, none⟩ = some (.int .i32 (l.getD k 0))) ∧ (∀ r ∈ l, 0 ≤ r ∧ r ≤ 1114111) ∧ l.length ≤ s.size := by
  have hn := size_runesFrom s s.size 0 #[]
  have hall := runesFrom_all s s.size 0 #[] (by simp)
  have hrun := run_runes_of_string (P := Tryd.prog) w 9 35 21 s Tryd.underlying9 Tryd.underlying35 Tryd.underlying21 (by simp at hn; omega)
  generalize Conv.runesFrom s s.size 0 #[] = R at *
  refine ⟨R.toList.map vInt, w.drew.alloc (.cells (R ++ Array.replicate (grownCap w R.size 0 21 - R.size) (.int .i32 0)) 21), grownCap w R.size 0 21, ?_, Below.alloc (Below.refl w.heap.size w).drew (Nat.le_refl _) _, ?_, fun k hk => ?_, fun r hr => ?_, ?_⟩
  · rw [List.length_map, Array.length_toList]
    exact hrun
  · show w.drew.heap.size < (w.drew.alloc _).heap.size
    simp
  · rw [List.length_map, Array.length_toList] at hk
    show (w.drew.alloc _).cell? ⟨w.drew.heap.size, k, none⟩ = _
    rw [World.cell?_alloc_new, Array.getElem?_append_left hk, Array.getElem?_eq_getElem hk]
    obtain ⟨r, e, _⟩ := hall R[k] (Array.getElem_mem hk)
    rw [List.getD_eq_getElem?_getD, List.getElem?_map, Array.getElem?_toList, Array.getElem?_eq_getElem hk, e]
    rfl
  · obtain ⟨v, hv, rfl⟩ := List.mem_map.1 hr
    obtain ⟨r, e, h1, h2⟩ := hall v (by simpa using hv)
    subst e
    exact ⟨h1, h2⟩
  · rw [List.length_map, Array.length_toList]
    simp at hn
    exact hn
end Go.Proofs.YtjclgoiclbkgjaaDoor
