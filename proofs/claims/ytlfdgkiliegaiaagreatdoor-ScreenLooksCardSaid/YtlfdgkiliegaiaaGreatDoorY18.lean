/- Package grid, texts laid together: K23 K21 K24. -/
import Derived.Test.YtlfdgkiliegaiaaGreatDoorY10
import Derived.Laws.EntriesVeiled
import Derived.Test.YtlfdgkiliegaiaaGreatDoorY16
import Derived.Test.YtlfdgkiliegaiaaGreatDoorY17
/- Walks of package screen: which function a control sequence means. -/
namespace Go.Proofs.YtlfdgkiliegaiaaGreatDoor
open Go.RowKit
set_option maxRecDepth 100000

theorem fn_eq_in (f : Fn) (a b : Array Value) (d : Nat) (wx : World) : (Op.equalIn (d + 1) 108 (.func f a b) .nilFunc).run Tryz.prog wx = .ok false wx := by
  have hu := Tryz.underlying108
  simp [Op.equalIn, run_underlying hu]
theorem fn_nn_in (d : Nat) (wx : World) : (Op.equalIn (d + 1) 108 .nilFunc .nilFunc).run Tryz.prog wx = .ok true wx := by
  have hu := Tryz.underlying108
  simp [Op.equalIn, run_underlying hu]
theorem fn_ne (f : Fn) (a b : Array Value) (wx : World) : (binOp .neq 108 (.func f a b) .nilFunc).run Tryz.prog wx = .ok (.bool true) wx := by
  have h := fn_eq_in f a b 9999 wx
  simp only [binOp, Op.equal, Sem.run_bind, show Op.maxDepth = 9999 + 1 from rfl, h]
  rfl
theorem fn_nn (wx : World) : (binOp .neq 108 .nilFunc .nilFunc).run Tryz.prog wx = .ok (.bool false) wx := by
  have h := fn_nn_in 9999 wx
  simp only [binOp, Op.equal, Sem.run_bind, show Op.maxDepth = 9999 + 1 from rfl, h]
  rfl
def moveV (p : Nat) (k : Int) : Value := if k = 65 then .func (.func 213) #[.pointer (some ⟨p, 0, none⟩)] #[] else if k = 66 ∨ k = 101 then .func (.func 214) #[.pointer (some ⟨p, 0, none⟩)] #[] else if k = 67 ∨ k = 97 then .func (.func 215) #[.pointer (some ⟨p, 0, none⟩)] #[] else if k = 68 then .func (.func 216) #[.pointer (some ⟨p, 0, none⟩)] #[] else if k = 69 then .func (.func 217) #[.pointer (some ⟨p, 0, none⟩)] #[] else if k = 70 then .func (.func 218) #[.pointer (some ⟨p, 0, none⟩)] #[] else if k = 71 ∨ k = 96 then .func (.func 219) #[.pointer (some ⟨p, 0, none⟩)] #[] else if k = 100 then .func (.func 220) #[.pointer (some ⟨p, 0, none⟩)] #[] else if k = 73 then .func (.func 221) #[.pointer (some ⟨p, 0, none⟩)] #[] else if k = 90 then .func (.func 222) #[.pointer (some ⟨p, 0, none⟩)] #[] else .nilFunc
theorem moveS_any (p : Nat) (b : UInt8) (w : World) : Calls Tryz.prog 161 #[.pointer (some ⟨p, 0, none⟩), .int .u8 (b.toNat : Int)] w fun e w' => e = .returned (moveV p (b.toNat : Int)) ∧ w' = w := by
  have hmf : ∀ (fn : Fn) (first cap : Array Value) (w : World), (Instr.makeFunc fn first cap).run Tryz.prog w = .ok (.func fn first cap) w := fun _ _ _ _ => rfl
  obtain ⟨k, hk⟩ : ∃ k : Int, k = (b.toNat : Int) := ⟨_, rfl⟩
  rw [← hk]
  clear hk
  by_cases h65 : k = 65
  · subst h65
    have HE := Lib.hid (show moveV p 65 = .func (.func 213) #[.pointer (some ⟨p, 0, none⟩)] #[] from rfl)
    go_enter Tryz.func161, Tryz.ntmps161
    go_wp2_with fail
    go_ret
    rw [HE.out]
    exact ⟨rfl, rfl⟩
  by_cases h66 : k = 66
  · subst h66
    have HE := Lib.hid (show moveV p 66 = .func (.func 214) #[.pointer (some ⟨p, 0, none⟩)] #[] from rfl)
    go_enter Tryz.func161, Tryz.ntmps161
    go_wp2_with fail
    go_ret
    rw [HE.out]
    exact ⟨rfl, rfl⟩
  by_cases h101 : k = 101
  · subst h101
    have HE := Lib.hid (show moveV p 101 = .func (.func 214) #[.pointer (some ⟨p, 0, none⟩)] #[] from rfl)
    go_enter Tryz.func161, Tryz.ntmps161
    go_wp2_with fail
    go_ret
    rw [HE.out]
    exact ⟨rfl, rfl⟩
  by_cases h67 : k = 67
  · subst h67
    have HE := Lib.hid (show moveV p 67 = .func (.func 215) #[.pointer (some ⟨p, 0, none⟩)] #[] from rfl)
    go_enter Tryz.func161, Tryz.ntmps161
    go_wp2_with fail
    go_ret
    rw [HE.out]
    exact ⟨rfl, rfl⟩
  by_cases h97 : k = 97
  · subst h97
    have HE := Lib.hid (show moveV p 97 = .func (.func 215) #[.pointer (some ⟨p, 0, none⟩)] #[] from rfl)
    go_enter Tryz.func161, Tryz.ntmps161
    go_wp2_with fail
    go_ret
    rw [HE.out]
    exact ⟨rfl, rfl⟩
  by_cases h68 : k = 68
  · subst h68
    have HE := Lib.hid (show moveV p 68 = .func (.func 216) #[.pointer (some ⟨p, 0, none⟩)] #[] from rfl)
    go_enter Tryz.func161, Tryz.ntmps161
    go_wp2_with fail
    go_ret
    rw [HE.out]
    exact ⟨rfl, rfl⟩
  by_cases h69 : k = 69
  · subst h69
    have HE := Lib.hid (show moveV p 69 = .func (.func 217) #[.pointer (some ⟨p, 0, none⟩)] #[] from rfl)
    go_enter Tryz.func161, Tryz.ntmps161
    go_wp2_with fail
    go_ret
    rw [HE.out]
    exact ⟨rfl, rfl⟩
  by_cases h70 : k = 70
  · subst h70
    have HE := Lib.hid (show moveV p 70 = .func (.func 218) #[.pointer (some ⟨p, 0, none⟩)] #[] from rfl)
    go_enter Tryz.func161, Tryz.ntmps161
    go_wp2_with fail
    go_ret
    rw [HE.out]
    exact ⟨rfl, rfl⟩
  by_cases h71 : k = 71
  · subst h71
    have HE := Lib.hid (show moveV p 71 = .func (.func 219) #[.pointer (some ⟨p, 0, none⟩)] #[] from rfl)
    go_enter Tryz.func161, Tryz.ntmps161
    go_wp2_with fail
    go_ret
    rw [HE.out]
    exact ⟨rfl, rfl⟩
  by_cases h96 : k = 96
  · subst h96
    have HE := Lib.hid (show moveV p 96 = .func (.func 219) #[.pointer (some ⟨p, 0, none⟩)] #[] from rfl)
    go_enter Tryz.func161, Tryz.ntmps161
    go_wp2_with fail
    go_ret
    rw [HE.out]
    exact ⟨rfl, rfl⟩
  by_cases h100 : k = 100
  · subst h100
    have HE := Lib.hid (show moveV p 100 = .func (.func 220) #[.pointer (some ⟨p, 0, none⟩)] #[] from rfl)
    go_enter Tryz.func161, Tryz.ntmps161
    go_wp2_with fail
    go_ret
    rw [HE.out]
    exact ⟨rfl, rfl⟩
  by_cases h73 : k = 73
  · subst h73
    have HE := Lib.hid (show moveV p 73 = .func (.func 221) #[.pointer (some ⟨p, 0, none⟩)] #[] from rfl)
    go_enter Tryz.func161, Tryz.ntmps161
    go_wp2_with fail
    go_ret
    rw [HE.out]
    exact ⟨rfl, rfl⟩
  by_cases h90 : k = 90
  · subst h90
    have HE := Lib.hid (show moveV p 90 = .func (.func 222) #[.pointer (some ⟨p, 0, none⟩)] #[] from rfl)
    go_enter Tryz.func161, Tryz.ntmps161
    go_wp2_with fail
    go_ret
    rw [HE.out]
    exact ⟨rfl, rfl⟩
  have HE := Lib.hid (show moveV p k = .nilFunc by unfold moveV; rw [if_neg (show ¬ (k = 65) by omega), if_neg (show ¬ (k = 66 ∨ k = 101) by omega), if_neg (show ¬ (k = 67 ∨ k = 97) by omega), if_neg (show ¬ (k = 68) by omega), if_neg (show ¬ (k = 69) by omega), if_neg (show ¬ (k = 70) by omega), if_neg (show ¬ (k = 71 ∨ k = 96) by omega), if_neg (show ¬ (k = 100) by omega), if_neg (show ¬ (k = 73) by omega), if_neg (show ¬ (k = 90) by omega)])
  have e65 : (k == 65) = false := beq_eq_false_iff_ne.2 h65
  have e66 : (k == 66) = false := beq_eq_false_iff_ne.2 h66
  have e101 : (k == 101) = false := beq_eq_false_iff_ne.2 h101
  have e67 : (k == 67) = false := beq_eq_false_iff_ne.2 h67
  have e97 : (k == 97) = false := beq_eq_false_iff_ne.2 h97
  have e68 : (k == 68) = false := beq_eq_false_iff_ne.2 h68
  have e69 : (k == 69) = false := beq_eq_false_iff_ne.2 h69
  have e70 : (k == 70) = false := beq_eq_false_iff_ne.2 h70
  have e71 : (k == 71) = false := beq_eq_false_iff_ne.2 h71
  have e96 : (k == 96) = false := beq_eq_false_iff_ne.2 h96
  have e100 : (k == 100) = false := beq_eq_false_iff_ne.2 h100
  have e73 : (k == 73) = false := beq_eq_false_iff_ne.2 h73
  have e90 : (k == 90) = false := beq_eq_false_iff_ne.2 h90
  clear h65 h66 h101 h67 h97 h68 h69 h70 h71 h96 h100 h73 h90
  go_enter Tryz.func161, Tryz.ntmps161
  go_wp2_with fail
  go_ret
  rw [HE.out]
  exact ⟨rfl, rfl⟩
def editV (p : Nat) (k : Int) : Value := if k = 64 then .func (.func 223) #[.pointer (some ⟨p, 0, none⟩)] #[] else if k = 80 then .func (.func 224) #[.pointer (some ⟨p, 0, none⟩)] #[] else if k = 88 then .func (.func 225) #[.pointer (some ⟨p, 0, none⟩)] #[] else if k = 76 then .func (.func 226) #[.pointer (some ⟨p, 0, none⟩)] #[] else if k = 77 then .func (.func 227) #[.pointer (some ⟨p, 0, none⟩)] #[] else if k = 83 then .func (.func 228) #[.pointer (some ⟨p, 0, none⟩)] #[] else if k = 84 then .func (.func 229) #[.pointer (some ⟨p, 0, none⟩)] #[] else if k = 98 then .func (.func 230) #[.pointer (some ⟨p, 0, none⟩)] #[] else .nilFunc
theorem editS_any (p : Nat) (b : UInt8) (w : World) : Calls Tryz.prog 163 #[.pointer (some ⟨p, 0, none⟩), .int .u8 (b.toNat : Int)] w fun e w' => e = .returned (editV p (b.toNat : Int)) ∧ w' = w := by
  have hmf : ∀ (fn : Fn) (first cap : Array Value) (w : World), (Instr.makeFunc fn first cap).run Tryz.prog w = .ok (.func fn first cap) w := fun _ _ _ _ => rfl
  obtain ⟨k, hk⟩ : ∃ k : Int, k = (b.toNat : Int) := ⟨_, rfl⟩
  rw [← hk]
  clear hk
  by_cases h64 : k = 64
  · subst h64
    have HE := Lib.hid (show editV p 64 = .func (.func 223) #[.pointer (some ⟨p, 0, none⟩)] #[] from rfl)
    go_enter Tryz.func163, Tryz.ntmps163
    go_wp2_with fail
    go_ret
    rw [HE.out]
    exact ⟨rfl, rfl⟩
  by_cases h80 : k = 80
  · subst h80
    have HE := Lib.hid (show editV p 80 = .func (.func 224) #[.pointer (some ⟨p, 0, none⟩)] #[] from rfl)
    go_enter Tryz.func163, Tryz.ntmps163
    go_wp2_with fail
    go_ret
    rw [HE.out]
    exact ⟨rfl, rfl⟩
  by_cases h88 : k = 88
  · subst h88
    have HE := Lib.hid (show editV p 88 = .func (.func 225) #[.pointer (some ⟨p, 0, none⟩)] #[] from rfl)
    go_enter Tryz.func163, Tryz.ntmps163
    go_wp2_with fail
    go_ret
    rw [HE.out]
    exact ⟨rfl, rfl⟩
  by_cases h76 : k = 76
  · subst h76
    have HE := Lib.hid (show editV p 76 = .func (.func 226) #[.pointer (some ⟨p, 0, none⟩)] #[] from rfl)
    go_enter Tryz.func163, Tryz.ntmps163
    go_wp2_with fail
    go_ret
    rw [HE.out]
    exact ⟨rfl, rfl⟩
  by_cases h77 : k = 77
  · subst h77
    have HE := Lib.hid (show editV p 77 = .func (.func 227) #[.pointer (some ⟨p, 0, none⟩)] #[] from rfl)
    go_enter Tryz.func163, Tryz.ntmps163
    go_wp2_with fail
    go_ret
    rw [HE.out]
    exact ⟨rfl, rfl⟩
  by_cases h83 : k = 83
  · subst h83
    have HE := Lib.hid (show editV p 83 = .func (.func 228) #[.pointer (some ⟨p, 0, none⟩)] #[] from rfl)
    go_enter Tryz.func163, Tryz.ntmps163
    go_wp2_with fail
    go_ret
    rw [HE.out]
    exact ⟨rfl, rfl⟩
  by_cases h84 : k = 84
  · subst h84
    have HE := Lib.hid (show editV p 84 = .func (.func 229) #[.pointer (some ⟨p, 0, none⟩)] #[] from rfl)
    go_enter Tryz.func163, Tryz.ntmps163
    go_wp2_with fail
    go_ret
    rw [HE.out]
    exact ⟨rfl, rfl⟩
  by_cases h98 : k = 98
  · subst h98
    have HE := Lib.hid (show editV p 98 = .func (.func 230) #[.pointer (some ⟨p, 0, none⟩)] #[] from rfl)
    go_enter Tryz.func163, Tryz.ntmps163
    go_wp2_with fail
    go_ret
    rw [HE.out]
    exact ⟨rfl, rfl⟩
  have HE := Lib.hid (show editV p k = .nilFunc by unfold editV; rw [if_neg (show ¬ (k = 64) by omega), if_neg (show ¬ (k = 80) by omega), if_neg (show ¬ (k = 88) by omega), if_neg (show ¬ (k = 76) by omega), if_neg (show ¬ (k = 77) by omega), if_neg (show ¬ (k = 83) by omega), if_neg (show ¬ (k = 84) by omega), if_neg (show ¬ (k = 98) by omega)])
  have e64 : (k == 64) = false := beq_eq_false_iff_ne.2 h64
  have e80 : (k == 80) = false := beq_eq_false_iff_ne.2 h80
  have e88 : (k == 88) = false := beq_eq_false_iff_ne.2 h88
  have e76 : (k == 76) = false := beq_eq_false_iff_ne.2 h76
  have e77 : (k == 77) = false := beq_eq_false_iff_ne.2 h77
  have e83 : (k == 83) = false := beq_eq_false_iff_ne.2 h83
  have e84 : (k == 84) = false := beq_eq_false_iff_ne.2 h84
  have e98 : (k == 98) = false := beq_eq_false_iff_ne.2 h98
  clear h64 h80 h88 h76 h77 h83 h84 h98
  go_enter Tryz.func163, Tryz.ntmps163
  go_wp2_with fail
  go_ret
  rw [HE.out]
  exact ⟨rfl, rfl⟩
end Go.Proofs.YtlfdgkiliegaiaaGreatDoor

/- Walks of package screen: escape sequences. -/
namespace Go.Proofs.YtlfdgkiliegaiaaGreatDoor
open Go.RowKit
set_option maxRecDepth 100000

/-- The parser behind an escape. -/
def escPar (b : UInt8) (inter : List UInt8) (ps : PSt) : PSt := if inter = [] then barePar b ps else ps
theorem ba_eqF {b : ByteArray} (l : List UInt8) (h : ¬ b = ⟨l.toArray⟩) : (b.toList == l) = false := by
  rw [beq_eq_false_iff_ne, ByteArray.toList_eq]
  intro e
  refine h ?_
  obtain ⟨d⟩ := b
  dsimp only at e
  rw [← e]
theorem ba_neL {b : ByteArray} (l : List UInt8) (h : ¬ b = ⟨l.toArray⟩) : ¬ b.data.toList = l := by
  intro e
  refine h ?_
  obtain ⟨d⟩ := b
  dsimp only at e
  rw [← e]
set_option maxHeartbeats 1000000 in
theorem escapeS_any {B : World} {C : Nat → Nat} {p c r : Nat} {w : World} {s : Scr} {ps : PSt} (h : SR B C p w s ps) (hok : s.Ok c r) (a : VAct) (v : Value) (ho : s.out.length ≤ 100000) :
    Calls Tryz.prog 110 #[.pointer (some ⟨p, 0, none⟩), a.val v] w fun e w' => e = .returned (.tuple #[]) ∧ Does B C p w w' (s.escape a.byte a.inter.data.toList) (escPar a.byte a.inter.data.toList ps) := by
  obtain ⟨kind, rune, byte, params, inter, text⟩ := a
  dsimp only
  have hbb := (Below.refl w.heap.size w).alloc (Nat.le_refl _) (.cells ((⟨kind, rune, byte, params, inter, text⟩ : VAct).cells v).toArray 75)
  have hbx := blk_new w (.cells ((⟨kind, rune, byte, params, inter, text⟩ : VAct).cells v).toArray 75)
  unfold VAct.cells at hbb hbx
  dsimp only at hbb hbx
  have HR := Lib.hid (h.below hbb)
  have HP := Lib.hid ((Pre.refl C w).below hbb)
  have HOK := Lib.hid hok
  have a0 : (w.alloc (.cells #[.int .i64 kind, .int .i32 rune, .int .u8 (byte.toNat : Int), v, .string inter, .string text] 75)).cell? ⟨w.heap.size, 0, none⟩ = some (.int .i64 kind) := blk_cell hbx 0
  have a1 : (w.alloc (.cells #[.int .i64 kind, .int .i32 rune, .int .u8 (byte.toNat : Int), v, .string inter, .string text] 75)).cell? ⟨w.heap.size, 1, none⟩ = some (.int .i32 rune) := blk_cell hbx 1
  have a2 : (w.alloc (.cells #[.int .i64 kind, .int .i32 rune, .int .u8 (byte.toNat : Int), v, .string inter, .string text] 75)).cell? ⟨w.heap.size, 2, none⟩ = some (.int .u8 (byte.toNat : Int)) := blk_cell hbx 2
  have a3 : (w.alloc (.cells #[.int .i64 kind, .int .i32 rune, .int .u8 (byte.toNat : Int), v, .string inter, .string text] 75)).cell? ⟨w.heap.size, 3, none⟩ = some v := blk_cell hbx 3
  have a4 : (w.alloc (.cells #[.int .i64 kind, .int .i32 rune, .int .u8 (byte.toNat : Int), v, .string inter, .string text] 75)).cell? ⟨w.heap.size, 4, none⟩ = some (.string inter) := blk_cell hbx 4
  have a5 : (w.alloc (.cells #[.int .i64 kind, .int .i32 rune, .int .u8 (byte.toNat : Int), v, .string inter, .string text] 75)).cell? ⟨w.heap.size, 5, none⟩ = some (.string text) := blk_cell hbx 5
  have hN := h.nums hok
  have HCC := Lib.hid (show 1 ≤ c ∧ 1 ≤ r from ⟨by rw [(hN.ok hok).1]; exact hN.c1, by rw [(hN.ok hok).2]; exact hN.r1⟩)
  clear hbb hbx h hok hN
  unfold VAct.val
  dsimp only
  by_cases hi40 : inter = ⟨#[40]⟩
  · subst hi40
    have hb0 : (0 : Int) ≤ (byte.toNat : Int) ∧ (byte.toNat : Int) ≤ 255 := by have := byte.toNat_lt; omega
    obtain ⟨k, hk⟩ : ∃ k : Int, k = (byte.toNat : Int) := ⟨_, rfl⟩
    rw [← hk] at hb0 a2 HR HP ⊢
    rw [← hk] at a0
    rw [← hk] at a1
    rw [← hk] at a3
    rw [← hk] at a4
    rw [← hk] at a5
    by_cases h48 : k = 48
    · subst h48
      have HE := Lib.hid (show s.escape byte [40] = { s with now := { s.now with l0 := true } } ∧ escPar byte [40] ps = ps from ⟨by unfold Scr.escape; dsimp only; rw [← hk]; rfl, rfl⟩)
      clear hk hb0
      have c7 : (w.alloc (.cells #[.int .i64 kind, .int .i32 rune, .int .u8 48, v, .string ⟨#[40]⟩, .string text] 75)).cell? ⟨p, 7, none⟩ = some (.bool s.now.l0) := HR.out.at_ 7 _
      have f7 := HR.out.fz 7
      obtain ⟨h1, g1⟩ := HR.out.set 7 (.bool true) { s with now := { s.now with l0 := true } }
      have HD := Lib.hid (show Does B C p w _ _ ps from ⟨_, h1, HP.out.trans g1⟩)
      clear h1 g1
      have hix : ∀ h, (⟨#[40]⟩ : ByteArray)[0]'h = 40 := fun _ => rfl
      go_enter Tryz.func110, Tryz.ntmps110
      go_wp2_with fail
      go_end0
      refine ⟨rfl, ?_⟩
      rw [HE.out.1, HE.out.2]
      exact HD.out
    by_cases h65 : k = 65
    · subst h65
      have HE := Lib.hid (show s.escape byte [40] = { s with now := { s.now with l0 := false } } ∧ escPar byte [40] ps = ps from ⟨by unfold Scr.escape; dsimp only; rw [← hk]; rfl, rfl⟩)
      clear hk hb0
      have c7 : (w.alloc (.cells #[.int .i64 kind, .int .i32 rune, .int .u8 65, v, .string ⟨#[40]⟩, .string text] 75)).cell? ⟨p, 7, none⟩ = some (.bool s.now.l0) := HR.out.at_ 7 _
      have f7 := HR.out.fz 7
      obtain ⟨h1, g1⟩ := HR.out.set 7 (.bool false) { s with now := { s.now with l0 := false } }
      have HD := Lib.hid (show Does B C p w _ _ ps from ⟨_, h1, HP.out.trans g1⟩)
      clear h1 g1
      have hix : ∀ h, (⟨#[40]⟩ : ByteArray)[0]'h = 40 := fun _ => rfl
      go_enter Tryz.func110, Tryz.ntmps110
      go_wp2_with fail
      go_end0
      refine ⟨rfl, ?_⟩
      rw [HE.out.1, HE.out.2]
      exact HD.out
    by_cases h66 : k = 66
    · subst h66
      have HE := Lib.hid (show s.escape byte [40] = { s with now := { s.now with l0 := false } } ∧ escPar byte [40] ps = ps from ⟨by unfold Scr.escape; dsimp only; rw [← hk]; rfl, rfl⟩)
      clear hk hb0
      have c7 : (w.alloc (.cells #[.int .i64 kind, .int .i32 rune, .int .u8 66, v, .string ⟨#[40]⟩, .string text] 75)).cell? ⟨p, 7, none⟩ = some (.bool s.now.l0) := HR.out.at_ 7 _
      have f7 := HR.out.fz 7
      obtain ⟨h1, g1⟩ := HR.out.set 7 (.bool false) { s with now := { s.now with l0 := false } }
      have HD := Lib.hid (show Does B C p w _ _ ps from ⟨_, h1, HP.out.trans g1⟩)
      clear h1 g1
      have hix : ∀ h, (⟨#[40]⟩ : ByteArray)[0]'h = 40 := fun _ => rfl
      go_enter Tryz.func110, Tryz.ntmps110
      go_wp2_with fail
      go_end0
      refine ⟨rfl, ?_⟩
      rw [HE.out.1, HE.out.2]
      exact HD.out
    have HE := Lib.hid (show s.escape byte [40] = s ∧ escPar byte [40] ps = ps from ⟨by
      unfold Scr.escape
      dsimp only
      rw [← hk, if_pos rfl, if_neg h48, if_neg (show ¬ (k = 65 ∨ k = 66) by omega)], rfl⟩)
    have e48 : (k == 48) = false := beq_eq_false_iff_ne.2 h48
    have e65 : (k == 65) = false := beq_eq_false_iff_ne.2 h65
    have e66 : (k == 66) = false := beq_eq_false_iff_ne.2 h66
    have hix : ∀ h, (⟨#[40]⟩ : ByteArray)[0]'h = 40 := fun _ => rfl
    clear hk hb0 h48 h65 h66
    go_enter Tryz.func110, Tryz.ntmps110
    go_wp2_with fail
    go_end0
    refine ⟨rfl, ?_⟩
    rw [HE.out.1, HE.out.2]
    exact ⟨_, HR.out, HP.out⟩
  by_cases hi41 : inter = ⟨#[41]⟩
  · subst hi41
    have hb0 : (0 : Int) ≤ (byte.toNat : Int) ∧ (byte.toNat : Int) ≤ 255 := by have := byte.toNat_lt; omega
    obtain ⟨k, hk⟩ : ∃ k : Int, k = (byte.toNat : Int) := ⟨_, rfl⟩
    rw [← hk] at hb0 a2 HR HP ⊢
    rw [← hk] at a0
    rw [← hk] at a1
    rw [← hk] at a3
    rw [← hk] at a4
    rw [← hk] at a5
    by_cases h48 : k = 48
    · subst h48
      have HE := Lib.hid (show s.escape byte [41] = { s with now := { s.now with l1 := true } } ∧ escPar byte [41] ps = ps from ⟨by unfold Scr.escape; dsimp only; rw [← hk]; rfl, rfl⟩)
      clear hk hb0
      have c8 : (w.alloc (.cells #[.int .i64 kind, .int .i32 rune, .int .u8 48, v, .string ⟨#[41]⟩, .string text] 75)).cell? ⟨p, 8, none⟩ = some (.bool s.now.l1) := HR.out.at_ 8 _
      have f8 := HR.out.fz 8
      obtain ⟨h1, g1⟩ := HR.out.set 8 (.bool true) { s with now := { s.now with l1 := true } }
      have HD := Lib.hid (show Does B C p w _ _ ps from ⟨_, h1, HP.out.trans g1⟩)
      clear h1 g1
      have hix : ∀ h, (⟨#[41]⟩ : ByteArray)[0]'h = 41 := fun _ => rfl
      go_enter Tryz.func110, Tryz.ntmps110
      go_wp2_with fail
      go_end0
      refine ⟨rfl, ?_⟩
      rw [HE.out.1, HE.out.2]
      exact HD.out
    by_cases h65 : k = 65
    · subst h65
      have HE := Lib.hid (show s.escape byte [41] = { s with now := { s.now with l1 := false } } ∧ escPar byte [41] ps = ps from ⟨by unfold Scr.escape; dsimp only; rw [← hk]; rfl, rfl⟩)
      clear hk hb0
      have c8 : (w.alloc (.cells #[.int .i64 kind, .int .i32 rune, .int .u8 65, v, .string ⟨#[41]⟩, .string text] 75)).cell? ⟨p, 8, none⟩ = some (.bool s.now.l1) := HR.out.at_ 8 _
      have f8 := HR.out.fz 8
      obtain ⟨h1, g1⟩ := HR.out.set 8 (.bool false) { s with now := { s.now with l1 := false } }
      have HD := Lib.hid (show Does B C p w _ _ ps from ⟨_, h1, HP.out.trans g1⟩)
      clear h1 g1
      have hix : ∀ h, (⟨#[41]⟩ : ByteArray)[0]'h = 41 := fun _ => rfl
      go_enter Tryz.func110, Tryz.ntmps110
      go_wp2_with fail
      go_end0
      refine ⟨rfl, ?_⟩
      rw [HE.out.1, HE.out.2]
      exact HD.out
    by_cases h66 : k = 66
    · subst h66
      have HE := Lib.hid (show s.escape byte [41] = { s with now := { s.now with l1 := false } } ∧ escPar byte [41] ps = ps from ⟨by unfold Scr.escape; dsimp only; rw [← hk]; rfl, rfl⟩)
      clear hk hb0
      have c8 : (w.alloc (.cells #[.int .i64 kind, .int .i32 rune, .int .u8 66, v, .string ⟨#[41]⟩, .string text] 75)).cell? ⟨p, 8, none⟩ = some (.bool s.now.l1) := HR.out.at_ 8 _
      have f8 := HR.out.fz 8
      obtain ⟨h1, g1⟩ := HR.out.set 8 (.bool false) { s with now := { s.now with l1 := false } }
      have HD := Lib.hid (show Does B C p w _ _ ps from ⟨_, h1, HP.out.trans g1⟩)
      clear h1 g1
      have hix : ∀ h, (⟨#[41]⟩ : ByteArray)[0]'h = 41 := fun _ => rfl
      go_enter Tryz.func110, Tryz.ntmps110
      go_wp2_with fail
      go_end0
      refine ⟨rfl, ?_⟩
      rw [HE.out.1, HE.out.2]
      exact HD.out
    have HE := Lib.hid (show s.escape byte [41] = s ∧ escPar byte [41] ps = ps from ⟨by
      unfold Scr.escape
      dsimp only
      rw [← hk, if_neg (by decide), if_pos rfl, if_neg h48, if_neg (show ¬ (k = 65 ∨ k = 66) by omega)], rfl⟩)
    have e48 : (k == 48) = false := beq_eq_false_iff_ne.2 h48
    have e65 : (k == 65) = false := beq_eq_false_iff_ne.2 h65
    have e66 : (k == 66) = false := beq_eq_false_iff_ne.2 h66
    have hix : ∀ h, (⟨#[41]⟩ : ByteArray)[0]'h = 41 := fun _ => rfl
    clear hk hb0 h48 h65 h66
    go_enter Tryz.func110, Tryz.ntmps110
    go_wp2_with fail
    go_end0
    refine ⟨rfl, ?_⟩
    rw [HE.out.1, HE.out.2]
    exact ⟨_, HR.out, HP.out⟩
  by_cases hi35 : inter = ⟨#[35]⟩
  · subst hi35
    have hb0 : (0 : Int) ≤ (byte.toNat : Int) ∧ (byte.toNat : Int) ≤ 255 := by have := byte.toNat_lt; omega
    obtain ⟨k, hk⟩ : ∃ k : Int, k = (byte.toNat : Int) := ⟨_, rfl⟩
    rw [← hk] at hb0 a2 HR HP ⊢
    rw [← hk] at a0
    rw [← hk] at a1
    rw [← hk] at a3
    rw [← hk] at a4
    rw [← hk] at a5
    by_cases h56 : k = 56
    · subst h56
      have HE := Lib.hid (show s.escape byte [35] = s.fill ∧ escPar byte [35] ps = ps from ⟨by unfold Scr.escape; dsimp only; rw [← hk]; rfl, rfl⟩)
      clear hk hb0
      go_enter Tryz.func110, Tryz.ntmps110
      go_wp2_with fail
      refine (fillS_any HR.out HOK.out).mono ?_
      rintro e wc1 ⟨rfl, Cc1, hc1, pc1⟩
      have Hc1 := Lib.hid hc1
      have Pc1 := Lib.hid (HP.out.trans pc1)
      clear hc1 pc1
      go_wp2_with fail
      go_end0
      refine ⟨rfl, ?_⟩
      rw [HE.out.1, HE.out.2]
      exact ⟨_, Hc1.out, Pc1.out⟩
    · have HE := Lib.hid (show s.escape byte [35] = s ∧ escPar byte [35] ps = ps from ⟨by
        unfold Scr.escape
        dsimp only
        rw [← hk, if_neg (by decide), if_neg (by decide), if_pos rfl, if_neg h56], rfl⟩)
      have e56 : (k == 56) = false := beq_eq_false_iff_ne.2 h56
      clear hk hb0 h56
      go_enter Tryz.func110, Tryz.ntmps110
      go_wp2_with fail
      go_end0
      refine ⟨rfl, ?_⟩
      rw [HE.out.1, HE.out.2]
      exact ⟨_, HR.out, HP.out⟩
  by_cases hi0 : inter = ⟨#[]⟩
  · subst hi0
    have HE := Lib.hid (show s.escape byte [] = s.bare byte ∧ escPar byte [] ps = barePar byte ps from ⟨rfl, rfl⟩)
    go_enter Tryz.func110, Tryz.ntmps110
    go_wp2_with fail
    refine (bareS_any HR.out HOK.out byte ho).mono ?_
    rintro e wc1 ⟨rfl, Cc1, hc1, pc1⟩
    have Hc1 := Lib.hid hc1
    have Pc1 := Lib.hid (HP.out.trans pc1)
    clear hc1 pc1
    go_wp2_with fail
    go_end0
    refine ⟨rfl, ?_⟩
    rw [HE.out.1, HE.out.2]
    exact ⟨_, Hc1.out, Pc1.out⟩
  have HE := Lib.hid (show s.escape byte inter.data.toList = s ∧ escPar byte inter.data.toList ps = ps from ⟨by
    unfold Scr.escape
    dsimp only
    rw [if_neg (ba_neL [40] hi40), if_neg (ba_neL [41] hi41), if_neg (ba_neL [35] hi35), if_neg (ba_neL [] hi0)], by unfold escPar; rw [if_neg (ba_neL [] hi0)]⟩)
  have g40 := ba_eqF [40] hi40
  have g41 := ba_eqF [41] hi41
  have g35 := ba_eqF [35] hi35
  have g0 := ba_eqF [] hi0
  have g0' : inter.toList.isEmpty = false := by rw [← List.beq_nil_eq]; exact g0
  clear hi40 hi41 hi35 hi0
  go_enter Tryz.func110, Tryz.ntmps110
  go_wp2_with fail
  go_end0
  refine ⟨rfl, ?_⟩
  rw [HE.out.1, HE.out.2]
  exact ⟨_, HR.out, HP.out⟩
end Go.Proofs.YtlfdgkiliegaiaaGreatDoor

/- Walks of package screen: control sequences. -/
namespace Go.Proofs.YtlfdgkiliegaiaaGreatDoor
open Go.RowKit
set_option maxRecDepth 100000

set_option maxHeartbeats 4000000 in
theorem csi0_any {B : World} {C : Nat → Nat} {p c r : Nat} {w : World} {s : Scr} {ps : PSt} (h : SR B C p w s ps) (hok : s.Ok c r) (a : VAct) (v : Value) (hv : Apart C w v a.params) (ho : s.out.length ≤ 100000) (hi : a.inter = ⟨#[]⟩) (hlast : -2147483648 ≤ s.last ∧ s.last ≤ 2147483647) :
    Calls Tryz.prog 111 #[.pointer (some ⟨p, 0, none⟩), a.val v] w fun e w' => e = .returned (.tuple #[]) ∧ Does B C p w w' (s.csi a.byte a.params []) ps := by
  have hbx := boxed_new h hv
  have hbb := (Below.refl w.heap.size w).alloc (Nat.le_refl _) (.cells (a.cells v).toArray 75)
  unfold VAct.cells at hbb
  have HR := Lib.hid (h.below hbb)
  have HP := Lib.hid ((Pre.refl C w).below hbb)
  have HBX := Lib.hid hbx
  have HOK := Lib.hid hok
  have HOL := Lib.hid (show s.out.length ≤ 1000000 by omega)
  have HOS := Lib.hid ho
  have HLA := Lib.hid hlast
  clear hbx hbb hv h hok ho hlast
  unfold VAct.val
  obtain ⟨A, hA⟩ : ∃ A, A = w.heap.size := ⟨_, rfl⟩
  rw [← hA] at HBX
  have HB := Lib.hid (show Boxed a v A C (w.alloc (.cells #[.int .i64 a.kind, .int .i32 a.rune, .int .u8 (a.byte.toNat : Int), v, .string a.inter, .string a.text] 75)) from HBX.out)
  clear HBX
  have a0 : (w.alloc (.cells #[.int .i64 a.kind, .int .i32 a.rune, .int .u8 (a.byte.toNat : Int), v, .string a.inter, .string a.text] 75)).cell? ⟨A, 0, none⟩ = some (.int .i64 a.kind) := blk_cell HB.out.blk 0
  have a1 : (w.alloc (.cells #[.int .i64 a.kind, .int .i32 a.rune, .int .u8 (a.byte.toNat : Int), v, .string a.inter, .string a.text] 75)).cell? ⟨A, 1, none⟩ = some (.int .i32 a.rune) := blk_cell HB.out.blk 1
  have a2 : (w.alloc (.cells #[.int .i64 a.kind, .int .i32 a.rune, .int .u8 (a.byte.toNat : Int), v, .string a.inter, .string a.text] 75)).cell? ⟨A, 2, none⟩ = some (.int .u8 (a.byte.toNat : Int)) := blk_cell HB.out.blk 2
  have a3 : (w.alloc (.cells #[.int .i64 a.kind, .int .i32 a.rune, .int .u8 (a.byte.toNat : Int), v, .string a.inter, .string a.text] 75)).cell? ⟨A, 3, none⟩ = some (v) := blk_cell HB.out.blk 3
  have a4 : (w.alloc (.cells #[.int .i64 a.kind, .int .i32 a.rune, .int .u8 (a.byte.toNat : Int), v, .string a.inter, .string a.text] 75)).cell? ⟨A, 4, none⟩ = some (.string a.inter) := blk_cell HB.out.blk 4
  have a5 : (w.alloc (.cells #[.int .i64 a.kind, .int .i32 a.rune, .int .u8 (a.byte.toNat : Int), v, .string a.inter, .string a.text] 75)).cell? ⟨A, 5, none⟩ = some (.string a.text) := blk_cell HB.out.blk 5
  rw [hA] at a0 a1 a2 a3 a4 a5
  rw [hi] at a0 a1 a2 a3 a4 a5 HR HP HB
  rw [hi]
  have HI := Lib.hid hi
  clear hi
  go_enter Tryz.func111, Tryz.ntmps111
  go_wp2_with fail
  rw [← hA]
  rw [← hA] at a0 a1 a2 a3 a4 a5
  clear hA
  generalize (w.alloc (.cells #[.int .i64 a.kind, .int .i32 a.rune, .int .u8 (a.byte.toNat : Int), v, .string ⟨#[]⟩, .string a.text] 75)) = w1 at *
  refine (moveS_any p a.byte w1).mono ?_
  rintro e w1 ⟨rfl, rfl⟩
  have HPR := Lib.hid (par_range a.params 0 1 (by decide) (by decide))
  obtain ⟨m, hm⟩ : ∃ m : Nat, max 1 (par a.params 0 1) = (m : Int) := ⟨(max 1 (par a.params 0 1)).toNat, by have := HPR.out; omega⟩
  have HMB := Lib.hid (show 1 ≤ m ∧ m ≤ 9999 by have := HPR.out; omega)
  have HPA := Lib.hid (param_any a v w1 HB.out.ap.rd 0 1)
  unfold VAct.val at HPA
  rw [HI.out] at HPA
  have HCS := Lib.hid (show s.csi a.byte a.params [] = (match s.move (a.byte.toNat : Int) m with
    | some t => t
    | none => match s.edit (a.byte.toNat : Int) m with
      | some t => t
      | none => s.others (a.byte.toNat : Int) a.params) by unfold Scr.csi; dsimp only; rw [if_pos rfl, hm]; rfl)
  by_cases hc : (a.byte.toNat : Int) = 65
  · have HV := Lib.hid (show moveV p (a.byte.toNat : Int) = .func (.func 213) #[.pointer (some ⟨p, 0, none⟩)] #[] by rw [hc]; rfl)
    have HE := Lib.hid (show s.csi a.byte a.params [] = s.place s.now.x (s.upY m) by rw [HCS.out, hc]; rfl)
    rw [HV.out]
    clear hc
    have hfn := fun wx => fn_ne (.func 213) #[.pointer (some ⟨p, 0, none⟩)] #[] wx
    go_wp2_with fail
    refine HPA.out.mono ?_
    rintro e w3 ⟨rfl, b3⟩
    have HR3 := Lib.hid (HR.out.below b3)
    have HP3 := Lib.hid (HP.out.below b3)
    clear b3 a0 a1 a2 a3 a4 a5
    have hm2 : max 1 (par a.params 0 1) = (m : Int) := hm
    go_wp2_with fail
    refine (upS_any HR3.out HOK.out (m : Int) (by omega) (by have := HMB.out; omega)).mono ?_
    rintro e wc1 ⟨rfl, Cc1, hc1, pc1⟩
    have Hc1 := Lib.hid hc1
    have Pc1 := Lib.hid (HP3.out.trans pc1)
    clear hc1 pc1
    go_wp2_with fail
    refine ret0 rfl rfl ?_
    refine ⟨rfl, ?_⟩
    rw [HE.out]
    exact ⟨_, Hc1.out, Pc1.out⟩
  have hm65 := Lib.hid hc
  clear hc
  by_cases hc : (a.byte.toNat : Int) = 66
  · have HV := Lib.hid (show moveV p (a.byte.toNat : Int) = .func (.func 214) #[.pointer (some ⟨p, 0, none⟩)] #[] by rw [hc]; rfl)
    have HE := Lib.hid (show s.csi a.byte a.params [] = s.place s.now.x (s.downY m) by rw [HCS.out, hc]; rfl)
    rw [HV.out]
    clear hc
    have hfn := fun wx => fn_ne (.func 214) #[.pointer (some ⟨p, 0, none⟩)] #[] wx
    go_wp2_with fail
    refine HPA.out.mono ?_
    rintro e w3 ⟨rfl, b3⟩
    have HR3 := Lib.hid (HR.out.below b3)
    have HP3 := Lib.hid (HP.out.below b3)
    clear b3 a0 a1 a2 a3 a4 a5
    have hm2 : max 1 (par a.params 0 1) = (m : Int) := hm
    go_wp2_with fail
    refine (downS_any HR3.out HOK.out (m : Int) (by omega) (by have := HMB.out; omega)).mono ?_
    rintro e wc1 ⟨rfl, Cc1, hc1, pc1⟩
    have Hc1 := Lib.hid hc1
    have Pc1 := Lib.hid (HP3.out.trans pc1)
    clear hc1 pc1
    go_wp2_with fail
    refine ret0 rfl rfl ?_
    refine ⟨rfl, ?_⟩
    rw [HE.out]
    exact ⟨_, Hc1.out, Pc1.out⟩
  have hm66 := Lib.hid hc
  clear hc
  by_cases hc : (a.byte.toNat : Int) = 101
  · have HV := Lib.hid (show moveV p (a.byte.toNat : Int) = .func (.func 214) #[.pointer (some ⟨p, 0, none⟩)] #[] by rw [hc]; rfl)
    have HE := Lib.hid (show s.csi a.byte a.params [] = s.place s.now.x (s.downY m) by rw [HCS.out, hc]; rfl)
    rw [HV.out]
    clear hc
    have hfn := fun wx => fn_ne (.func 214) #[.pointer (some ⟨p, 0, none⟩)] #[] wx
    go_wp2_with fail
    refine HPA.out.mono ?_
    rintro e w3 ⟨rfl, b3⟩
    have HR3 := Lib.hid (HR.out.below b3)
    have HP3 := Lib.hid (HP.out.below b3)
    clear b3 a0 a1 a2 a3 a4 a5
    have hm2 : max 1 (par a.params 0 1) = (m : Int) := hm
    go_wp2_with fail
    refine (downS_any HR3.out HOK.out (m : Int) (by omega) (by have := HMB.out; omega)).mono ?_
    rintro e wc1 ⟨rfl, Cc1, hc1, pc1⟩
    have Hc1 := Lib.hid hc1
    have Pc1 := Lib.hid (HP3.out.trans pc1)
    clear hc1 pc1
    go_wp2_with fail
    refine ret0 rfl rfl ?_
    refine ⟨rfl, ?_⟩
    rw [HE.out]
    exact ⟨_, Hc1.out, Pc1.out⟩
  have hm101 := Lib.hid hc
  clear hc
  by_cases hc : (a.byte.toNat : Int) = 67
  · have HV := Lib.hid (show moveV p (a.byte.toNat : Int) = .func (.func 215) #[.pointer (some ⟨p, 0, none⟩)] #[] by rw [hc]; rfl)
    have HE := Lib.hid (show s.csi a.byte a.params [] = s.place (s.now.x + m) s.now.y by rw [HCS.out, hc]; rfl)
    rw [HV.out]
    clear hc
    have hfn := fun wx => fn_ne (.func 215) #[.pointer (some ⟨p, 0, none⟩)] #[] wx
    go_wp2_with fail
    refine HPA.out.mono ?_
    rintro e w3 ⟨rfl, b3⟩
    have HR3 := Lib.hid (HR.out.below b3)
    have HP3 := Lib.hid (HP.out.below b3)
    clear b3 a0 a1 a2 a3 a4 a5
    have hm2 : max 1 (par a.params 0 1) = (m : Int) := hm
    go_wp2_with fail
    refine (rightS_any HR3.out HOK.out (m : Int) (by omega) (by have := HMB.out; omega)).mono ?_
    rintro e wc1 ⟨rfl, Cc1, hc1, pc1⟩
    have Hc1 := Lib.hid hc1
    have Pc1 := Lib.hid (HP3.out.trans pc1)
    clear hc1 pc1
    go_wp2_with fail
    refine ret0 rfl rfl ?_
    refine ⟨rfl, ?_⟩
    rw [HE.out]
    exact ⟨_, Hc1.out, Pc1.out⟩
  have hm67 := Lib.hid hc
  clear hc
  by_cases hc : (a.byte.toNat : Int) = 97
  · have HV := Lib.hid (show moveV p (a.byte.toNat : Int) = .func (.func 215) #[.pointer (some ⟨p, 0, none⟩)] #[] by rw [hc]; rfl)
    have HE := Lib.hid (show s.csi a.byte a.params [] = s.place (s.now.x + m) s.now.y by rw [HCS.out, hc]; rfl)
    rw [HV.out]
    clear hc
    have hfn := fun wx => fn_ne (.func 215) #[.pointer (some ⟨p, 0, none⟩)] #[] wx
    go_wp2_with fail
    refine HPA.out.mono ?_
    rintro e w3 ⟨rfl, b3⟩
    have HR3 := Lib.hid (HR.out.below b3)
    have HP3 := Lib.hid (HP.out.below b3)
    clear b3 a0 a1 a2 a3 a4 a5
    have hm2 : max 1 (par a.params 0 1) = (m : Int) := hm
    go_wp2_with fail
    refine (rightS_any HR3.out HOK.out (m : Int) (by omega) (by have := HMB.out; omega)).mono ?_
    rintro e wc1 ⟨rfl, Cc1, hc1, pc1⟩
    have Hc1 := Lib.hid hc1
    have Pc1 := Lib.hid (HP3.out.trans pc1)
    clear hc1 pc1
    go_wp2_with fail
    refine ret0 rfl rfl ?_
    refine ⟨rfl, ?_⟩
    rw [HE.out]
    exact ⟨_, Hc1.out, Pc1.out⟩
  have hm97 := Lib.hid hc
  clear hc
  by_cases hc : (a.byte.toNat : Int) = 68
  · have HV := Lib.hid (show moveV p (a.byte.toNat : Int) = .func (.func 216) #[.pointer (some ⟨p, 0, none⟩)] #[] by rw [hc]; rfl)
    have HE := Lib.hid (show s.csi a.byte a.params [] = s.place (s.now.x - m) s.now.y by rw [HCS.out, hc]; rfl)
    rw [HV.out]
    clear hc
    have hfn := fun wx => fn_ne (.func 216) #[.pointer (some ⟨p, 0, none⟩)] #[] wx
    go_wp2_with fail
    refine HPA.out.mono ?_
    rintro e w3 ⟨rfl, b3⟩
    have HR3 := Lib.hid (HR.out.below b3)
    have HP3 := Lib.hid (HP.out.below b3)
    clear b3 a0 a1 a2 a3 a4 a5
    have hm2 : max 1 (par a.params 0 1) = (m : Int) := hm
    go_wp2_with fail
    refine (leftS_any HR3.out HOK.out (m : Int) (by omega) (by have := HMB.out; omega)).mono ?_
    rintro e wc1 ⟨rfl, Cc1, hc1, pc1⟩
    have Hc1 := Lib.hid hc1
    have Pc1 := Lib.hid (HP3.out.trans pc1)
    clear hc1 pc1
    go_wp2_with fail
    refine ret0 rfl rfl ?_
    refine ⟨rfl, ?_⟩
    rw [HE.out]
    exact ⟨_, Hc1.out, Pc1.out⟩
  have hm68 := Lib.hid hc
  clear hc
  by_cases hc : (a.byte.toNat : Int) = 69
  · have HV := Lib.hid (show moveV p (a.byte.toNat : Int) = .func (.func 217) #[.pointer (some ⟨p, 0, none⟩)] #[] by rw [hc]; rfl)
    have HE := Lib.hid (show s.csi a.byte a.params [] = (s.place s.now.x (s.downY m)).toX 0 by rw [HCS.out, hc]; rfl)
    rw [HV.out]
    clear hc
    have hfn := fun wx => fn_ne (.func 217) #[.pointer (some ⟨p, 0, none⟩)] #[] wx
    go_wp2_with fail
    refine HPA.out.mono ?_
    rintro e w3 ⟨rfl, b3⟩
    have HR3 := Lib.hid (HR.out.below b3)
    have HP3 := Lib.hid (HP.out.below b3)
    clear b3 a0 a1 a2 a3 a4 a5
    have hm2 : max 1 (par a.params 0 1) = (m : Int) := hm
    go_wp2_with fail
    refine (nextS_any HR3.out HOK.out (m : Int) (by omega) (by have := HMB.out; omega)).mono ?_
    rintro e wc1 ⟨rfl, Cc1, hc1, pc1⟩
    have Hc1 := Lib.hid hc1
    have Pc1 := Lib.hid (HP3.out.trans pc1)
    clear hc1 pc1
    go_wp2_with fail
    refine ret0 rfl rfl ?_
    refine ⟨rfl, ?_⟩
    rw [HE.out]
    exact ⟨_, Hc1.out, Pc1.out⟩
  have hm69 := Lib.hid hc
  clear hc
  by_cases hc : (a.byte.toNat : Int) = 70
  · have HV := Lib.hid (show moveV p (a.byte.toNat : Int) = .func (.func 218) #[.pointer (some ⟨p, 0, none⟩)] #[] by rw [hc]; rfl)
    have HE := Lib.hid (show s.csi a.byte a.params [] = (s.place s.now.x (s.upY m)).toX 0 by rw [HCS.out, hc]; rfl)
    rw [HV.out]
    clear hc
    have hfn := fun wx => fn_ne (.func 218) #[.pointer (some ⟨p, 0, none⟩)] #[] wx
    go_wp2_with fail
    refine HPA.out.mono ?_
    rintro e w3 ⟨rfl, b3⟩
    have HR3 := Lib.hid (HR.out.below b3)
    have HP3 := Lib.hid (HP.out.below b3)
    clear b3 a0 a1 a2 a3 a4 a5
    have hm2 : max 1 (par a.params 0 1) = (m : Int) := hm
    go_wp2_with fail
    refine (beforeS_any HR3.out HOK.out (m : Int) (by omega) (by have := HMB.out; omega)).mono ?_
    rintro e wc1 ⟨rfl, Cc1, hc1, pc1⟩
    have Hc1 := Lib.hid hc1
    have Pc1 := Lib.hid (HP3.out.trans pc1)
    clear hc1 pc1
    go_wp2_with fail
    refine ret0 rfl rfl ?_
    refine ⟨rfl, ?_⟩
    rw [HE.out]
    exact ⟨_, Hc1.out, Pc1.out⟩
  have hm70 := Lib.hid hc
  clear hc
  by_cases hc : (a.byte.toNat : Int) = 71
  · have HV := Lib.hid (show moveV p (a.byte.toNat : Int) = .func (.func 219) #[.pointer (some ⟨p, 0, none⟩)] #[] by rw [hc]; rfl)
    have HE := Lib.hid (show s.csi a.byte a.params [] = s.place ((m : Int) - 1) s.now.y by rw [HCS.out, hc]; rfl)
    rw [HV.out]
    clear hc
    have hfn := fun wx => fn_ne (.func 219) #[.pointer (some ⟨p, 0, none⟩)] #[] wx
    go_wp2_with fail
    refine HPA.out.mono ?_
    rintro e w3 ⟨rfl, b3⟩
    have HR3 := Lib.hid (HR.out.below b3)
    have HP3 := Lib.hid (HP.out.below b3)
    clear b3 a0 a1 a2 a3 a4 a5
    have hm2 : max 1 (par a.params 0 1) = (m : Int) := hm
    go_wp2_with fail
    refine (columnS_any HR3.out HOK.out (m : Int) (by omega) (by have := HMB.out; omega)).mono ?_
    rintro e wc1 ⟨rfl, Cc1, hc1, pc1⟩
    have Hc1 := Lib.hid hc1
    have Pc1 := Lib.hid (HP3.out.trans pc1)
    clear hc1 pc1
    go_wp2_with fail
    refine ret0 rfl rfl ?_
    refine ⟨rfl, ?_⟩
    rw [HE.out]
    exact ⟨_, Hc1.out, Pc1.out⟩
  have hm71 := Lib.hid hc
  clear hc
  by_cases hc : (a.byte.toNat : Int) = 96
  · have HV := Lib.hid (show moveV p (a.byte.toNat : Int) = .func (.func 219) #[.pointer (some ⟨p, 0, none⟩)] #[] by rw [hc]; rfl)
    have HE := Lib.hid (show s.csi a.byte a.params [] = s.place ((m : Int) - 1) s.now.y by rw [HCS.out, hc]; rfl)
    rw [HV.out]
    clear hc
    have hfn := fun wx => fn_ne (.func 219) #[.pointer (some ⟨p, 0, none⟩)] #[] wx
    go_wp2_with fail
    refine HPA.out.mono ?_
    rintro e w3 ⟨rfl, b3⟩
    have HR3 := Lib.hid (HR.out.below b3)
    have HP3 := Lib.hid (HP.out.below b3)
    clear b3 a0 a1 a2 a3 a4 a5
    have hm2 : max 1 (par a.params 0 1) = (m : Int) := hm
    go_wp2_with fail
    refine (columnS_any HR3.out HOK.out (m : Int) (by omega) (by have := HMB.out; omega)).mono ?_
    rintro e wc1 ⟨rfl, Cc1, hc1, pc1⟩
    have Hc1 := Lib.hid hc1
    have Pc1 := Lib.hid (HP3.out.trans pc1)
    clear hc1 pc1
    go_wp2_with fail
    refine ret0 rfl rfl ?_
    refine ⟨rfl, ?_⟩
    rw [HE.out]
    exact ⟨_, Hc1.out, Pc1.out⟩
  have hm96 := Lib.hid hc
  clear hc
  by_cases hc : (a.byte.toNat : Int) = 100
  · have HV := Lib.hid (show moveV p (a.byte.toNat : Int) = .func (.func 220) #[.pointer (some ⟨p, 0, none⟩)] #[] by rw [hc]; rfl)
    have HE := Lib.hid (show s.csi a.byte a.params [] = s.place s.now.x (s.line ((m : Int) - 1)) by rw [HCS.out, hc]; rfl)
    rw [HV.out]
    clear hc
    have hfn := fun wx => fn_ne (.func 220) #[.pointer (some ⟨p, 0, none⟩)] #[] wx
    go_wp2_with fail
    refine HPA.out.mono ?_
    rintro e w3 ⟨rfl, b3⟩
    have HR3 := Lib.hid (HR.out.below b3)
    have HP3 := Lib.hid (HP.out.below b3)
    clear b3 a0 a1 a2 a3 a4 a5
    have hm2 : max 1 (par a.params 0 1) = (m : Int) := hm
    go_wp2_with fail
    refine (rowS2_any HR3.out HOK.out (m : Int) (by omega) (by have := HMB.out; omega)).mono ?_
    rintro e wc1 ⟨rfl, Cc1, hc1, pc1⟩
    have Hc1 := Lib.hid hc1
    have Pc1 := Lib.hid (HP3.out.trans pc1)
    clear hc1 pc1
    go_wp2_with fail
    refine ret0 rfl rfl ?_
    refine ⟨rfl, ?_⟩
    rw [HE.out]
    exact ⟨_, Hc1.out, Pc1.out⟩
  have hm100 := Lib.hid hc
  clear hc
  by_cases hc : (a.byte.toNat : Int) = 73
  · have HV := Lib.hid (show moveV p (a.byte.toNat : Int) = .func (.func 221) #[.pointer (some ⟨p, 0, none⟩)] #[] by rw [hc]; rfl)
    have HE := Lib.hid (show s.csi a.byte a.params [] = itF Scr.tab m s by rw [HCS.out, hc]; rfl)
    rw [HV.out]
    clear hc
    have hfn := fun wx => fn_ne (.func 221) #[.pointer (some ⟨p, 0, none⟩)] #[] wx
    go_wp2_with fail
    refine HPA.out.mono ?_
    rintro e w3 ⟨rfl, b3⟩
    have HR3 := Lib.hid (HR.out.below b3)
    have HP3 := Lib.hid (HP.out.below b3)
    clear b3 a0 a1 a2 a3 a4 a5
    have hm2 : max 1 (par a.params 0 1) = (m : Int) := hm
    go_wp2_with fail
    refine (forthS_any HR3.out HOK.out m HMB.out.2).mono ?_
    rintro e wc1 ⟨rfl, Cc1, hc1, pc1⟩
    have Hc1 := Lib.hid hc1
    have Pc1 := Lib.hid (HP3.out.trans pc1)
    clear hc1 pc1
    go_wp2_with fail
    refine ret0 rfl rfl ?_
    refine ⟨rfl, ?_⟩
    rw [HE.out]
    exact ⟨_, Hc1.out, Pc1.out⟩
  have hm73 := Lib.hid hc
  clear hc
  by_cases hc : (a.byte.toNat : Int) = 90
  · have HV := Lib.hid (show moveV p (a.byte.toNat : Int) = .func (.func 222) #[.pointer (some ⟨p, 0, none⟩)] #[] by rw [hc]; rfl)
    have HE := Lib.hid (show s.csi a.byte a.params [] = itF Scr.back m s by rw [HCS.out, hc]; rfl)
    rw [HV.out]
    clear hc
    have hfn := fun wx => fn_ne (.func 222) #[.pointer (some ⟨p, 0, none⟩)] #[] wx
    go_wp2_with fail
    refine HPA.out.mono ?_
    rintro e w3 ⟨rfl, b3⟩
    have HR3 := Lib.hid (HR.out.below b3)
    have HP3 := Lib.hid (HP.out.below b3)
    clear b3 a0 a1 a2 a3 a4 a5
    have hm2 : max 1 (par a.params 0 1) = (m : Int) := hm
    go_wp2_with fail
    refine (backsS_any HR3.out HOK.out m HMB.out.2).mono ?_
    rintro e wc1 ⟨rfl, Cc1, hc1, pc1⟩
    have Hc1 := Lib.hid hc1
    have Pc1 := Lib.hid (HP3.out.trans pc1)
    clear hc1 pc1
    go_wp2_with fail
    refine ret0 rfl rfl ?_
    refine ⟨rfl, ?_⟩
    rw [HE.out]
    exact ⟨_, Hc1.out, Pc1.out⟩
  have hm90 := Lib.hid hc
  clear hc
  have HVM := Lib.hid (show moveV p (a.byte.toNat : Int) = .nilFunc by
    have q65 := hm65.out
    have q66 := hm66.out
    have q101 := hm101.out
    have q67 := hm67.out
    have q97 := hm97.out
    have q68 := hm68.out
    have q69 := hm69.out
    have q70 := hm70.out
    have q71 := hm71.out
    have q96 := hm96.out
    have q100 := hm100.out
    have q73 := hm73.out
    have q90 := hm90.out
    unfold moveV
    rw [if_neg (by omega), if_neg (by omega), if_neg (by omega), if_neg (by omega), if_neg (by omega), if_neg (by omega), if_neg (by omega), if_neg (by omega), if_neg (by omega), if_neg (by omega)])
  have HMN := Lib.hid (show s.move (a.byte.toNat : Int) m = none by
    have q65 := hm65.out
    have q66 := hm66.out
    have q101 := hm101.out
    have q67 := hm67.out
    have q97 := hm97.out
    have q68 := hm68.out
    have q69 := hm69.out
    have q70 := hm70.out
    have q71 := hm71.out
    have q96 := hm96.out
    have q100 := hm100.out
    have q73 := hm73.out
    have q90 := hm90.out
    unfold Scr.move
    rw [if_neg (by omega), if_neg (by omega), if_neg (by omega), if_neg (by omega), if_neg (by omega), if_neg (by omega), if_neg (by omega), if_neg (by omega), if_neg (by omega), if_neg (by omega)])
  rw [HVM.out]
  have hfnn := fn_nn
  have HCS2 := Lib.hid (show s.csi a.byte a.params [] = (match s.edit (a.byte.toNat : Int) m with
      | some t => t
      | none => s.others (a.byte.toNat : Int) a.params) by rw [HCS.out, HMN.out])
  clear HVM HMN HCS
  go_wp2_with fail
  refine (editS_any p a.byte w1).mono ?_
  rintro e w1 ⟨rfl, rfl⟩
  by_cases hc : (a.byte.toNat : Int) = 64
  · have HV := Lib.hid (show editV p (a.byte.toNat : Int) = .func (.func 223) #[.pointer (some ⟨p, 0, none⟩)] #[] by rw [hc]; rfl)
    have HE := Lib.hid (show s.csi a.byte a.params [] = (s.turn (fun g => g.ins s.now.x s.now.y m s.blank)).calm by rw [HCS2.out, hc]; rfl)
    rw [HV.out]
    clear hc
    have hfn := fun wx => fn_ne (.func 223) #[.pointer (some ⟨p, 0, none⟩)] #[] wx
    go_wp2_with fail
    refine HPA.out.mono ?_
    rintro e w3 ⟨rfl, b3⟩
    have HR3 := Lib.hid (HR.out.below b3)
    have HP3 := Lib.hid (HP.out.below b3)
    clear b3 a0 a1 a2 a3 a4 a5
    have hm2 : max 1 (par a.params 0 1) = (m : Int) := hm
    go_wp2_with fail
    refine (insertS_any HR3.out HOK.out m).mono ?_
    rintro e wc1 ⟨rfl, Cc1, hc1, pc1⟩
    have Hc1 := Lib.hid hc1
    have Pc1 := Lib.hid (HP3.out.trans pc1)
    clear hc1 pc1
    go_wp2_with fail
    refine ret0 rfl rfl ?_
    refine ⟨rfl, ?_⟩
    rw [HE.out]
    exact ⟨_, Hc1.out, Pc1.out⟩
  have he64 := Lib.hid hc
  clear hc
  by_cases hc : (a.byte.toNat : Int) = 80
  · have HV := Lib.hid (show editV p (a.byte.toNat : Int) = .func (.func 224) #[.pointer (some ⟨p, 0, none⟩)] #[] by rw [hc]; rfl)
    have HE := Lib.hid (show s.csi a.byte a.params [] = (s.turn (fun g => g.del s.now.x s.now.y m s.blank)).calm by rw [HCS2.out, hc]; rfl)
    rw [HV.out]
    clear hc
    have hfn := fun wx => fn_ne (.func 224) #[.pointer (some ⟨p, 0, none⟩)] #[] wx
    go_wp2_with fail
    refine HPA.out.mono ?_
    rintro e w3 ⟨rfl, b3⟩
    have HR3 := Lib.hid (HR.out.below b3)
    have HP3 := Lib.hid (HP.out.below b3)
    clear b3 a0 a1 a2 a3 a4 a5
    have hm2 : max 1 (par a.params 0 1) = (m : Int) := hm
    go_wp2_with fail
    refine (removeS_any HR3.out HOK.out m).mono ?_
    rintro e wc1 ⟨rfl, Cc1, hc1, pc1⟩
    have Hc1 := Lib.hid hc1
    have Pc1 := Lib.hid (HP3.out.trans pc1)
    clear hc1 pc1
    go_wp2_with fail
    refine ret0 rfl rfl ?_
    refine ⟨rfl, ?_⟩
    rw [HE.out]
    exact ⟨_, Hc1.out, Pc1.out⟩
  have he80 := Lib.hid hc
  clear hc
  by_cases hc : (a.byte.toNat : Int) = 88
  · have HV := Lib.hid (show editV p (a.byte.toNat : Int) = .func (.func 225) #[.pointer (some ⟨p, 0, none⟩)] #[] by rw [hc]; rfl)
    have HE := Lib.hid (show s.csi a.byte a.params [] = (s.turn (fun g => g.erase s.now.x s.now.y m s.blank)).calm by rw [HCS2.out, hc]; rfl)
    rw [HV.out]
    clear hc
    have hfn := fun wx => fn_ne (.func 225) #[.pointer (some ⟨p, 0, none⟩)] #[] wx
    go_wp2_with fail
    refine HPA.out.mono ?_
    rintro e w3 ⟨rfl, b3⟩
    have HR3 := Lib.hid (HR.out.below b3)
    have HP3 := Lib.hid (HP.out.below b3)
    clear b3 a0 a1 a2 a3 a4 a5
    have hm2 : max 1 (par a.params 0 1) = (m : Int) := hm
    go_wp2_with fail
    refine (eraseS_any HR3.out HOK.out m).mono ?_
    rintro e wc1 ⟨rfl, Cc1, hc1, pc1⟩
    have Hc1 := Lib.hid hc1
    have Pc1 := Lib.hid (HP3.out.trans pc1)
    clear hc1 pc1
    go_wp2_with fail
    refine ret0 rfl rfl ?_
    refine ⟨rfl, ?_⟩
    rw [HE.out]
    exact ⟨_, Hc1.out, Pc1.out⟩
  have he88 := Lib.hid hc
  clear hc
  by_cases hc : (a.byte.toNat : Int) = 76
  · have HV := Lib.hid (show editV p (a.byte.toNat : Int) = .func (.func 226) #[.pointer (some ⟨p, 0, none⟩)] #[] by rw [hc]; rfl)
    have HE := Lib.hid (show s.csi a.byte a.params [] = s.opened m by rw [HCS2.out, hc]; rfl)
    rw [HV.out]
    clear hc
    have hfn := fun wx => fn_ne (.func 226) #[.pointer (some ⟨p, 0, none⟩)] #[] wx
    go_wp2_with fail
    refine HPA.out.mono ?_
    rintro e w3 ⟨rfl, b3⟩
    have HR3 := Lib.hid (HR.out.below b3)
    have HP3 := Lib.hid (HP.out.below b3)
    clear b3 a0 a1 a2 a3 a4 a5
    have hm2 : max 1 (par a.params 0 1) = (m : Int) := hm
    go_wp2_with fail
    refine (openS_any HR3.out HOK.out m).mono ?_
    rintro e wc1 ⟨rfl, Cc1, hc1, pc1⟩
    have Hc1 := Lib.hid hc1
    have Pc1 := Lib.hid (HP3.out.trans pc1)
    clear hc1 pc1
    go_wp2_with fail
    refine ret0 rfl rfl ?_
    refine ⟨rfl, ?_⟩
    rw [HE.out]
    exact ⟨_, Hc1.out, Pc1.out⟩
  have he76 := Lib.hid hc
  clear hc
  by_cases hc : (a.byte.toNat : Int) = 77
  · have HV := Lib.hid (show editV p (a.byte.toNat : Int) = .func (.func 227) #[.pointer (some ⟨p, 0, none⟩)] #[] by rw [hc]; rfl)
    have HE := Lib.hid (show s.csi a.byte a.params [] = s.shutted m by rw [HCS2.out, hc]; rfl)
    rw [HV.out]
    clear hc
    have hfn := fun wx => fn_ne (.func 227) #[.pointer (some ⟨p, 0, none⟩)] #[] wx
    go_wp2_with fail
    refine HPA.out.mono ?_
    rintro e w3 ⟨rfl, b3⟩
    have HR3 := Lib.hid (HR.out.below b3)
    have HP3 := Lib.hid (HP.out.below b3)
    clear b3 a0 a1 a2 a3 a4 a5
    have hm2 : max 1 (par a.params 0 1) = (m : Int) := hm
    go_wp2_with fail
    refine (shutS_any HR3.out HOK.out m).mono ?_
    rintro e wc1 ⟨rfl, Cc1, hc1, pc1⟩
    have Hc1 := Lib.hid hc1
    have Pc1 := Lib.hid (HP3.out.trans pc1)
    clear hc1 pc1
    go_wp2_with fail
    refine ret0 rfl rfl ?_
    refine ⟨rfl, ?_⟩
    rw [HE.out]
    exact ⟨_, Hc1.out, Pc1.out⟩
  have he77 := Lib.hid hc
  clear hc
  by_cases hc : (a.byte.toNat : Int) = 83
  · have HV := Lib.hid (show editV p (a.byte.toNat : Int) = .func (.func 228) #[.pointer (some ⟨p, 0, none⟩)] #[] by rw [hc]; rfl)
    have HE := Lib.hid (show s.csi a.byte a.params [] = s.turn (fun g => g.up s.top s.bottom m s.blank s.other.isNone) by rw [HCS2.out, hc]; rfl)
    rw [HV.out]
    clear hc
    have hfn := fun wx => fn_ne (.func 228) #[.pointer (some ⟨p, 0, none⟩)] #[] wx
    go_wp2_with fail
    refine HPA.out.mono ?_
    rintro e w3 ⟨rfl, b3⟩
    have HR3 := Lib.hid (HR.out.below b3)
    have HP3 := Lib.hid (HP.out.below b3)
    clear b3 a0 a1 a2 a3 a4 a5
    have hm2 : max 1 (par a.params 0 1) = (m : Int) := hm
    go_wp2_with fail
    refine (scrollS_any HR3.out HOK.out m).mono ?_
    rintro e wc1 ⟨rfl, Cc1, hc1, pc1⟩
    have Hc1 := Lib.hid hc1
    have Pc1 := Lib.hid (HP3.out.trans pc1)
    clear hc1 pc1
    go_wp2_with fail
    refine ret0 rfl rfl ?_
    refine ⟨rfl, ?_⟩
    rw [HE.out]
    exact ⟨_, Hc1.out, Pc1.out⟩
  have he83 := Lib.hid hc
  clear hc
  by_cases hc : (a.byte.toNat : Int) = 84
  · have HV := Lib.hid (show editV p (a.byte.toNat : Int) = .func (.func 229) #[.pointer (some ⟨p, 0, none⟩)] #[] by rw [hc]; rfl)
    have HE := Lib.hid (show s.csi a.byte a.params [] = s.turn (fun g => g.down s.top s.bottom m s.blank) by rw [HCS2.out, hc]; rfl)
    rw [HV.out]
    clear hc
    have hfn := fun wx => fn_ne (.func 229) #[.pointer (some ⟨p, 0, none⟩)] #[] wx
    go_wp2_with fail
    refine HPA.out.mono ?_
    rintro e w3 ⟨rfl, b3⟩
    have HR3 := Lib.hid (HR.out.below b3)
    have HP3 := Lib.hid (HP.out.below b3)
    clear b3 a0 a1 a2 a3 a4 a5
    have hm2 : max 1 (par a.params 0 1) = (m : Int) := hm
    go_wp2_with fail
    refine (unscrollS_any HR3.out HOK.out m).mono ?_
    rintro e wc1 ⟨rfl, Cc1, hc1, pc1⟩
    have Hc1 := Lib.hid hc1
    have Pc1 := Lib.hid (HP3.out.trans pc1)
    clear hc1 pc1
    go_wp2_with fail
    refine ret0 rfl rfl ?_
    refine ⟨rfl, ?_⟩
    rw [HE.out]
    exact ⟨_, Hc1.out, Pc1.out⟩
  have he84 := Lib.hid hc
  clear hc
  by_cases hc : (a.byte.toNat : Int) = 98
  · have HV := Lib.hid (show editV p (a.byte.toNat : Int) = .func (.func 230) #[.pointer (some ⟨p, 0, none⟩)] #[] by rw [hc]; rfl)
    have HE := Lib.hid (show s.csi a.byte a.params [] = itF (fun t => if t.last ≠ 0 then t.print t.last else t) m s by rw [HCS2.out, hc]; rfl)
    rw [HV.out]
    clear hc
    have hfn := fun wx => fn_ne (.func 230) #[.pointer (some ⟨p, 0, none⟩)] #[] wx
    go_wp2_with fail
    refine HPA.out.mono ?_
    rintro e w3 ⟨rfl, b3⟩
    have HR3 := Lib.hid (HR.out.below b3)
    have HP3 := Lib.hid (HP.out.below b3)
    clear b3 a0 a1 a2 a3 a4 a5
    have hm2 : max 1 (par a.params 0 1) = (m : Int) := hm
    go_wp2_with fail
    refine (repeatS_any HR3.out HOK.out m HMB.out.2 HLA.out).mono ?_
    rintro e wc1 ⟨rfl, Cc1, hc1, pc1⟩
    have Hc1 := Lib.hid hc1
    have Pc1 := Lib.hid (HP3.out.trans pc1)
    clear hc1 pc1
    go_wp2_with fail
    refine ret0 rfl rfl ?_
    refine ⟨rfl, ?_⟩
    rw [HE.out]
    exact ⟨_, Hc1.out, Pc1.out⟩
  have he98 := Lib.hid hc
  clear hc
  have HVE := Lib.hid (show editV p (a.byte.toNat : Int) = .nilFunc by
    have q64 := he64.out
    have q80 := he80.out
    have q88 := he88.out
    have q76 := he76.out
    have q77 := he77.out
    have q83 := he83.out
    have q84 := he84.out
    have q98 := he98.out
    unfold editV
    rw [if_neg (by omega), if_neg (by omega), if_neg (by omega), if_neg (by omega), if_neg (by omega), if_neg (by omega), if_neg (by omega), if_neg (by omega)])
  have HEN := Lib.hid (show s.edit (a.byte.toNat : Int) m = none by
    have q64 := he64.out
    have q80 := he80.out
    have q88 := he88.out
    have q76 := he76.out
    have q77 := he77.out
    have q83 := he83.out
    have q84 := he84.out
    have q98 := he98.out
    unfold Scr.edit
    rw [if_neg (by omega), if_neg (by omega), if_neg (by omega), if_neg (by omega), if_neg (by omega), if_neg (by omega), if_neg (by omega), if_neg (by omega)])
  have HE := Lib.hid (show s.csi a.byte a.params [] = s.others (a.byte.toNat : Int) a.params by rw [HCS2.out, HEN.out])
  rw [HVE.out]
  go_wp2_with fail
  have HOT := Lib.hid (othersS_any HR.out HOK.out a v HB.out.ap HOS.out)
  unfold VAct.val at HOT
  rw [HI.out] at HOT
  refine HOT.out.mono ?_
  rintro e w3 ⟨rfl, d3⟩
  have HD := Lib.hid (Does.after HP.out d3)
  clear d3
  go_wp2_with fail
  go_end0
  refine ⟨rfl, ?_⟩
  rw [HE.out]
  exact HD.out
end Go.Proofs.YtlfdgkiliegaiaaGreatDoor
