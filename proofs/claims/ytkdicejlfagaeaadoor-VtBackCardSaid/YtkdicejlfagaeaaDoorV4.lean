/- Walks of package vtparse: Print. -/
import Derived.Test.YtkdicejlfagaeaaDoorV3
namespace Go.Proofs.YtkdicejlfagaeaaDoor
open Go.RowKit

/-- A slice of actions that can be read: with each the value of its parameters. -/
def IsActs (w : World) (v : Value) (l : List (VAct × Value)) : Prop :=
  ((v = .slice none 0 0 ∧ l = []) ∨ ∃ (a : Addr) (c : Nat), v = .slice (some a) l.length c ∧ l.length ≤ c ∧ c ≤ 9223372036854775807 ∧
    ∀ j (hj : j < l.length), w.cell? (a.add (j * 6)) = some (.int .i64 l[j].1.kind) ∧ w.cell? ⟨(a.add (j * 6)).block, (a.add (j * 6)).off + 1, none⟩ = some (.int .i32 l[j].1.rune) ∧ w.cell? ⟨(a.add (j * 6)).block, (a.add (j * 6)).off + 2, none⟩ = some (.int .u8 (l[j].1.byte.toNat : Int)) ∧
      w.cell? ⟨(a.add (j * 6)).block, (a.add (j * 6)).off + 3, none⟩ = some l[j].2 ∧ w.cell? ⟨(a.add (j * 6)).block, (a.add (j * 6)).off + 4, none⟩ = some (.string l[j].1.inter) ∧ w.cell? ⟨(a.add (j * 6)).block, (a.add (j * 6)).off + 5, none⟩ = some (.string l[j].1.text)) ∧
  ∀ x ∈ l, IsRd .i64 w x.2 x.1.params
def ActFits (a : VAct) : Prop := -2147483648 ≤ a.rune ∧ a.rune ≤ 2147483647 ∧ a.inter.size ≤ 1099511627776 ∧ a.text.size ≤ 1099511627776
def prL (l : List VAct) : List UInt8 := l.flatMap wrL

theorem prL_snoc (l : List (VAct × Value)) (k : Nat) (h : k < l.length) : prL ((l.take (k + 1)).map (·.1)) = prL ((l.take k).map (·.1)) ++ wrL l[k].1 := by
  rw [List.take_succ_eq_append_getElem h]
  simp only [prL, List.map_append, List.flatMap_append, List.map_cons, List.map_nil, List.flatMap_cons, List.flatMap_nil, List.append_nil]
theorem prL_len (l : List VAct) : (prL l).length ≤ 3000 * l.length := by
  induction l with
  | nil => simp [prL]
  | cons x l ih =>
    have := wrL_len x
    simp only [prL, List.flatMap_cons, List.length_append, List.length_cons] at ih ⊢
    omega
set_option maxRecDepth 100000 in
theorem print_any (v : Value) (l : List (VAct × Value)) (w : World) (hv : IsActs w v l) (hf : ∀ x ∈ l, ActFits x.1) (hl : l.length ≤ 8388608) (htab : Tab Tryd.prog w) :
    Calls Tryd.prog 9 #[v] w fun e w' => ∃ r, e = .returned r ∧ OwnC w' w.heap.size 1 r (prL (l.map (·.1))).length (byteVals (prL (l.map (·.1)))) ∧ Below w.heap.size w w' := by
  go_enter Tryd.func9, Tryd.ntmps9
  obtain ⟨⟨rfl, rfl⟩ | ⟨a, c, rfl, hc1, hc2, hcells⟩, hrd⟩ := hv
  · go_wp2_with fail
    go_loopw [3, 8] (fun bv iv wr => bv = .slice none 0 0 ∧ iv = .int .i64 0 ∧ wr = w) (fun _ _ _ => 0)
    case atStart => exact ⟨rfl, rfl, rfl⟩
    case round =>
      obtain ⟨rfl, rfl, rfl⟩ := hrel
      go_wp2_with fail
      go_ret
      exact ⟨_, rfl, ownC_nil _ _ _, Below.refl _ _⟩
  · have HT := Lib.hid htab
    have HC := Lib.hid hcells
    have HR := Lib.hid hrd
    have HF := Lib.hid hf
    clear htab hcells hrd hf
    go_wp2_with fail
    go_loopw [3, 8] (fun bv iv wr => ∃ k : Nat, k ≤ l.length ∧ iv = .int .i64 k ∧ Below w.heap.size w wr ∧ OwnC wr w.heap.size 1 bv (prL ((l.take k).map (·.1))).length (byteVals (prL ((l.take k).map (·.1))))) (fun _ iv _ => l.length - (intOf iv).toNat)
    case atStart => exact ⟨0, by omega, rfl, Below.refl _ _, ownC_nil _ _ _⟩
    case round =>
      obtain ⟨k, hk, rfl, hb, ho⟩ := hrel
      have HB := Lib.hid hb
      have HO := Lib.hid ho
      clear hb ho
      have hbs := HB.out.size
      by_cases hlt : k < l.length
      · obtain ⟨q0, q1, q2, q3, q4, q5⟩ := HC.out k hlt
        have HP := Lib.hid (prL_snoc l k hlt)
        have hpl := prL_len ((l.take k).map (·.1))
        have hpl2 : ((l.take k).map (·.1)).length ≤ k := by rw [List.length_map]; exact List.length_take_le _ _
        have hm : l[k] ∈ l := List.getElem_mem hlt
        have hfits := HF.out _ hm
        have hrdk := HR.out _ hm
        have hwl := wrL_len l[k].1
        generalize l[k] = x at *
        obtain ⟨⟨kind, rune, byte, params, inter, text⟩, vp⟩ := x
        obtain ⟨f1, f2, f3, f4⟩ := hfits
        dsimp only at q0 q1 q2 q3 q4 q5 f1 f2 f3 f4 hrdk HP hwl
        have p0 := cell_below HB.out q0
        have p1 := cell_below HB.out q1
        have p2 := cell_below HB.out q2
        have p3 := cell_below HB.out q3
        have p4 := cell_below HB.out q4
        have p5 := cell_below HB.out q5
        clear q0 q1 q2 q3 q4 q5
        have HB2 := Lib.hid (HB.out.alloc hbs (.cells #[.int .i64 kind, .int .i32 rune, .int .u8 (byte.toNat : Int), vp, .string inter, .string text] 37))
        obtain ⟨va, vn, vc, rfl⟩ : ∃ a n c, vp = Value.slice a n c := by
          rcases hrdk with ⟨h, _⟩ | ⟨a', c', h, _⟩
          · exact ⟨_, _, _, h⟩
          · exact ⟨_, _, _, h⟩
        have HRD := Lib.hid (isRd_below (isRd_below hrdk HB.out) (Below.alloc (Below.refl wr.heap.size wr) (Nat.le_refl _) (.cells #[.int .i64 kind, .int .i32 rune, .int .u8 (byte.toNat : Int), .slice va vn vc, .string inter, .string text] 37)))
        clear hrdk
        have HW := Lib.hid (written_any ⟨kind, rune, byte, params, inter, text⟩ (.slice va vn vc) (wr.alloc (.cells #[.int .i64 kind, .int .i32 rune, .int .u8 (byte.toNat : Int), .slice va vn vc, .string inter, .string text] 37)) f1 f2 f3 f4 HRD.out (tab_go HT.out HB2.out))
        unfold VAct.val at HW
        dsimp only at HW
        generalize wrL ⟨kind, rune, byte, params, inter, text⟩ = wl at *
        generalize prL ((l.take k).map (·.1)) = pl at *
        go_wp2_with fail
        refine HW.out.mono ?_
        rintro e w2 ⟨v2, rfl, r2, b2⟩
        have hs2 := b2.size
        simp at hs2
        have R2 := Lib.hid r2
        have HB3 := Lib.hid (HB2.out.trans (b2.mono (by simp; omega)))
        have HO2 := Lib.hid (ownC_below (ownC_alloc HO.out (.cells #[.int .i64 kind, .int .i32 rune, .int .u8 (byte.toNat : Int), .slice va vn vc, .string inter, .string text] 37)) b2)
        clear r2 b2
        go_wp2_with (at_builtin; refine held ?_)
        unfold Held
        refine wpList_appC bytes_elem rfl rfl w.heap.size HO2.out rfl R2.out rfl (bytes_one _) (by unfold maxLen; omega) (by omega) (by omega) ?_
        intro v6 w6 o6 g6
        have lt5 := ownC_lt HO2.out
        have O6 := Lib.hid o6
        have HB6 := Lib.hid (HB3.out.grown g6 (by omega) (by intro q hq; exact (lt5 q hq).1))
        clear o6 g6 lt5
        go_wp2_with fail
        go_roundw
        case rel =>
          refine ⟨k + 1, by omega, by go_num, HB6.out, ?_⟩
          rw [HP.out, byteVals_append, List.length_append]
          exact O6.out
        case measure => simp [intOf]; omega
      · have hk2 : k = l.length := by omega
        go_wp2_with fail
        refine ret1v rfl rfl rfl ⟨_, rfl, ?_, HB.out⟩
        have := HO.out
        rw [hk2, List.take_length] at this
        exact this
end Go.Proofs.YtkdicejlfagaeaaDoor
