/- Walks of package cell: Columns, Cut, CutLeft. -/
import Derived.Test.YthildbehkmhioaaA1
import Derived.Test.YthildbehkmhioaaA4
import Derived.Laws.Cover4
import Derived.Lib.OthersKept
import Derived.Deep.LoopGhost
namespace Go.Proofs.Ythildbehkmhioaa
open Go.RowKit

/-- string(runes) of an own slice. -/
theorem run_runes_own {w : World} {base : Nat} {v : Value} {l : List Int} (hown : w.ownsRow base 21 1 v l.length (l.map (Value.int .i32))) :
    (convert 25 9 v).run Try.prog w = .ok (.string ⟨(encAll l).toArray⟩) w := by
  obtain ⟨h1, h2⟩ := id hown
  rcases h2 with ⟨rfl, h0⟩ | ⟨g, cap, cur, rfl, _⟩
  · have : l = [] := List.eq_nil_of_length_eq_zero h0
    subst this
    exact run_convert_runes_nil w 25 9 21 0 0 Try.underlying25 Try.underlying21 Try.underlying9
  · have := run_convert_runes (P := Try.prog) w 25 9 21 ⟨g, 0, none⟩ l.length cap l (Nat.le_refl _) Try.underlying25 Try.underlying21 Try.underlying9 (fun j hj => by
      refine hown.cells (g := g) rfl j _ ?_
      rw [List.getElem?_map, List.getElem?_eq_getElem hj, List.getD_eq_getElem?_getD, List.getElem?_eq_getElem hj]; rfl)
    rw [List.take_length, runesBytes_eq] at this
    exact this

/-- The columns of runes. -/
def cols (l : List Int) : Int := (l.map wide0).sum
theorem wid_range (r : Int) : -1 ≤ wid r ∧ wid r ≤ 2 := by unfold wid; repeat' split
                                                           all_goals omega
theorem wide0_range (r : Int) : 0 ≤ wide0 r ∧ wide0 r ≤ 2 := by have := wid_range r; unfold wide0; omega
theorem cols_append (a b : List Int) : cols (a ++ b) = cols a + cols b := by simp [cols]
theorem cols_range : ∀ l : List Int, 0 ≤ cols l ∧ cols l ≤ 2 * l.length
  | [] => by simp [cols]
  | r :: l => by
    have := cols_range l
    have := wide0_range r
    simp only [cols, List.map_cons, List.sum_cons, List.length_cons] at *; omega
theorem cols_take_succ (l : List Int) (k : Nat) (hk : k < l.length) : cols (l.take (k + 1)) = cols (l.take k) + wide0 (l.getD k 0) := by
  rw [take_succ_getD l 0 k hk, cols_append]; simp [cols]

/-- A text that was encoded. -/
def encS (l : List Int) : ByteArray := ⟨(encAll l).toArray⟩
theorem encS_list (l : List Int) : (encS l).data.toList = encAll l := rfl
theorem encS_size (l : List Int) : (encS l).size = (encAll l).length := by simp [encS, ByteArray.size]
/-- Where the k-th rune begins. -/
def offE (l : List Int) (k : Nat) : Nat := (encAll (l.take k)).length
theorem run_next_enc {P : Program} (w : World) (q : Nat) (l : List Int) (k : Nat) (hq : w.heap[q]? = some (.stringIter (encS l) (offE l k))) (hk : k < l.length) (hv : (cp (l.getD k 0) : Int) = l.getD k 0) (ty : TypeId) :
    (Instr.next (.pointer (some ⟨q, 0, none⟩)) true ty).run P w = .ok (.tuple #[.bool true, .int .i64 (offE l k), .int .i32 (l.getD k 0)]) (w.iterAt q (encS l) (offE l (k + 1))) := by
  have hlt := enc_take_lt l k hk
  rw [Lib.run_next_any_at w q (encS l) (offE l k) ty hq (by rw [encS_size]; exact hlt)]
  have hd : Utf8.decode (encS l) (offE l k) = _ := decode_all l (encS l) (encS_list l) k hk
  rw [hd, hv, show offE l (k + 1) = _ from enc_take_succ l k hk]; rfl
theorem run_next_end {P : Program} (w : World) (q : Nat) (l : List Int) (k : Nat) (hq : w.heap[q]? = some (.stringIter (encS l) (offE l k))) (hk : k = l.length) (ty : TypeId) :
    (Instr.next (.pointer (some ⟨q, 0, none⟩)) true ty).run P w = .ok (.tuple #[.bool false]) w := by
  refine Lib.run_next_end_at w q (encS l) (offE l k) ty hq ?_
  rw [encS_size]; unfold offE; rw [List.take_of_length_le (by omega)]; omega
theorem getD_mem (l : List Int) (k : Nat) (hk : k < l.length) : l.getD k 0 ∈ l := by
  rw [List.getD_eq_getElem?_getD, List.getElem?_eq_getElem hk]; exact List.getElem_mem hk

set_option maxHeartbeats 1000000 in
theorem columns_any (s : ByteArray) (w : World) (hs : s.size ≤ 1099511627776) :
    Calls Try.prog 14 #[.string s] w fun e w' => e = .returned (.int .i64 (cols (runes s.data.toList))) ∧ Below w.heap.size w w' := by
  go_enter Try.func14, Try.ntmps14
  go_wp2_with fail
  refine (runes_any s _ hs).mono ?_
  rintro e w1 ⟨v, rfl, hown, hb⟩
  have hlen := runesB_len s
  have HV := Lib.hid (fun k hk => cp_valid _ (runes_valid s.data.toList _ (getD_mem _ k hk)))
  have hconv := run_runes_own hown
  have HL := Lib.hid (show ∃ l, l = runes s.data.toList from ⟨_, rfl⟩)
  obtain ⟨l, hl⟩ := HL.out
  rw [← hl] at hlen HV hconv hown
  have HLE := Lib.hid hl
  clear hl HL
  have HB := Lib.hid hb
  clear hb hown
  rw [show (⟨(encAll l).toArray⟩ : ByteArray) = encS l from rfl] at hconv
  go_wp2_with fail
  go_loopg [3] l.length (fun g v wr => ∃ k : Nat, k + g = l.length ∧ wr.heap[w1.heap.size]? = some (.stringIter (encS l) (offE l k)) ∧ v = .int .i64 (cols (l.take k)) ∧ Below w.heap.size w wr)
  case atStart => exact ⟨0, by omega, World.iter_heap _ _ _, rfl, (HB.out.alloc HB.out.size _)⟩
  case round =>
    obtain ⟨k, hk, hit, rfl, hbw⟩ := hrel
    have HB2 := Lib.hid hbw
    clear hbw
    have hsz := HB.out.size
    by_cases hlt : k < l.length
    · have hnx := run_next_enc (P := Try.prog) wr w1.heap.size l k hit hlt (HV.out k hlt)
      have HI := Lib.hid (Lib.iterAt_heap wr w1.heap.size (encS l) (offE l k) (offE l (k + 1)) hit)
      have HB3 := Lib.hid (Lib.below_iterAt HB2.out (k := w1.heap.size) hsz (encS l) (offE l (k + 1)))
      have HC := Lib.hid (cols_take_succ l k hlt)
      have hc1 := cols_range (l.take k)
      have hc2 := List.length_take_le k l
      have hc3 := wide0_range (l.getD k 0)
      generalize wr.iterAt w1.heap.size (encS l) (offE l (k + 1)) = W at *
      generalize l.getD k 0 = r at *
      generalize cols (l.take k) = c at *
      have hgk : gk = (gk - 1) + 1 := by omega
      generalize gk - 1 = g' at hgk
      subst hgk
      clear hit
      go_wp2_with fail
      refine (wide_any r _).mono ?_
      rintro e w2 ⟨rfl, hb2⟩
      have HB4 := Lib.hid hb2
      clear hb2
      go_wp2_with fail
      go_roundg g'
      case measure => omega
      case rel =>
        refine ⟨k + 1, by omega, ?_, by rw [HC.out], HB3.out.trans (HB4.out.mono HB3.out.size)⟩
        rw [HB4.out.block _ (heap_lt HI.out)]; exact HI.out
    · have hnx := run_next_end (P := Try.prog) wr w1.heap.size l k hit (by omega)
      have hk2 : l.take k = l := List.take_of_length_le (by omega)
      have HT := Lib.hid (show cols (l.take k) = cols l by rw [hk2])
      clear hk2
      go_wp2_with fail
      go_ret
      exact ⟨ret_int (by rw [HT.out, HLE.out]), HB2.out⟩
end Go.Proofs.Ythildbehkmhioaa
