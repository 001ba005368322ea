/- Package grid, texts laid together: V3 W1 W2 W3 W4 W5 W6. -/
import Derived.Test.YtlfdgkiliegaiaaGreatDoorY7
import Derived.Lib.SlBytesConst
import Derived.Test.YtlfdgkiliegaiaaGreatDoorY1
import Derived.StillTailTactics
import Derived.Deep.DeepCutAuto
/- Walks of package vtparse: written. -/
namespace Go.Proofs.YtlfdgkiliegaiaaGreatDoor
open Go.RowKit

def prOk (r : Int) : Bool := decide (32 ≤ r) && (!(r == 127) && Lib.validRune r)
def ctlOk (b : UInt8) : Bool := decide ((b.toNat : Int) < 32) && (!((b.toNat : Int) == 24) && (!((b.toNat : Int) == 26) && !((b.toNat : Int) == 27)))
def escOk (inter : List UInt8) (b : UInt8) : Bool := betweensL inter && (decide (48 ≤ (b.toNat : Int)) && (decide ((b.toNat : Int) ≤ 126) && (!inter.isEmpty || !beginsL b.toNat)))
def txtOk (t : List UInt8) : Bool := onlyL t 32 255 && decide (t.length ≤ 1024)
/-- An action's bytes. -/
def wrL (a : VAct) : List UInt8 :=
  if a.kind = 1 then cond (prOk a.rune) (encL a.rune) []
  else if a.kind = 2 then cond (ctlOk a.byte) [a.byte] []
  else if a.kind = 3 then cond (escOk a.inter.data.toList a.byte) (27 :: a.inter.data.toList ++ [a.byte]) []
  else if a.kind = 4 then cond (headOk a) ([27, 91] ++ headL a) []
  else if a.kind = 5 then cond (txtOk a.text.data.toList) ([27, 93] ++ a.text.data.toList ++ [7]) []
  else if a.kind = 6 then cond (headOk a && txtOk a.text.data.toList) ([27, 80] ++ headL a ++ a.text.data.toList ++ [27, 92]) []
  else []

theorem parsL_len : ∀ (l : List Int) (f : Bool), l.all parOk = true → (parsL f l).length ≤ 22 * l.length
  | [], _, _ => by simp [parsL]
  | x :: l, f, h => by
    rw [List.all_cons, Bool.and_eq_true] at h
    have h1 := parsL_len l true h.2
    have hx := h.1
    unfold parOk at hx
    rw [Bool.and_eq_true, decide_eq_true_eq, decide_eq_true_eq] at hx
    have h2 := Lib.itoa_length_le x (by omega) (by omega)
    have h3 : (parL f x).length ≤ 22 := by
      unfold parL
      rw [List.length_append]
      have e1 : (if f = true then [59] else [] : List UInt8).length ≤ 1 := by cases f <;> decide
      have e2 : (if 0 ≤ x then Lib.itoa x else []).length ≤ 21 := by
        by_cases h0 : 0 ≤ x
        · rw [if_pos h0]; omega
        · rw [if_neg h0]; simp
      omega
    rw [parsL, List.length_append, List.length_cons]
    omega
theorem bytes_one (l : List UInt8) : ∀ u ∈ byteVals l, u.oneCell' = true := by
  intro u hu
  unfold byteVals at hu
  rw [List.mem_map] at hu
  obtain ⟨b, _, rfl⟩ := hu
  rfl
theorem kc_one (w : World) (C : Array Value) (n c : Nat) : (convert 38 38 (.slice (some ⟨w.heap.size, 0, none⟩) n c)).run Tryz.prog (w.alloc (.cells C 5)) = .ok (.slice (some ⟨w.heap.size, 0, none⟩) n c) (w.alloc (.cells C 5 (C.size, C.size + 1))) :=
  Lib.run_convert_bytes_const (P := Tryz.prog) w 38 5 C n c Tryz.underlying38 Tryz.underlying5
theorem ownC_const (w : World) (T : TypeId) (l : List UInt8) (C : Array Value) (hC : C.toList = byteVals l) (hm : l.length ≤ maxLen) : OwnC (w.alloc (.cells C T (C.size, C.size + 1))) w.heap.size 1 (.slice (some ⟨w.heap.size, 0, none⟩) l.length l.length) l.length (byteVals l) := by
  have hs : C.size = l.length := by rw [← Array.length_toList, hC, byteVals_length]
  refine ⟨by rw [byteVals_length, Nat.mul_one], .inr ⟨w.heap.size, 0, _, rfl, Nat.le_refl _, by simp, Nat.le_refl _, hm, ?_, ?_⟩⟩
  · intro j hj
    rw [Nat.zero_add, World.cell?_alloc_mark w C T (C.size, C.size + 1) j, World.frozen?_alloc_mark w C T C.size (C.size + 1) j, Array.getElem?_eq_getElem (by omega)]
    simp; omega
  · intro j u hu
    rw [Nat.zero_add, World.cell?_alloc_mark w C T (C.size, C.size + 1) j, ← Array.getElem?_toList, hC]
    exact hu
section
variable (kind rune : Int) (byte : UInt8) (params : List Int) (inter text : ByteArray) (vp : Value) (w : World)
theorem reads_bytes {w : World} {base : Nat} {v : Value} {s : ByteArray} {l : List UInt8} (h : OwnC w base 1 v s.size (s.data.toList.map fun b => Value.int .u8 (b.toNat : Int))) (e : s.data.toList = l) : OwnC w base 1 v l.length (byteVals l) := by
  subst e
  rw [Array.length_toList]; exact h
end
end Go.Proofs.YtlfdgkiliegaiaaGreatDoor

/- Package vtparse, the parser in memory; begin, texts, what is told. -/
namespace Go.Proofs.YtlfdgkiliegaiaaGreatDoor
open Go.RowKit

structure PSt where
  state : Int
  dec : Dec
  inter : List UInt8
  params : List Int
  any : Bool
  text : List UInt8
  final : UInt8
  ended : Bool
  frm : Int
def PSt.cells (s : PSt) (d : Nat) (tell vi vp vt : Value) : Array Value :=
  #[.int .i64 s.state, .pointer (some ⟨d, 0, none⟩), tell, vi, vp, .bool s.any, vt, .int .u8 (s.final.toNat : Int), .bool s.ended, .int .i64 s.frm]
def PSt.begun (s : PSt) (st : Int) : PSt := { s with state := st, inter := [], params := [], any := false, text := [], ended := false }
def nilS : Value := .slice none 0 0
def tellV (o : Nat) : Value := .func (.func 105) #[] #[.pointer (some ⟨o, 0, none⟩)]
def VAct.cells (a : VAct) (v : Value) : List Value := [.int .i64 a.kind, .int .i32 a.rune, .int .u8 (a.byte.toNat : Int), v, .string a.inter, .string a.text]
def actCells (l : List (VAct × Value)) : List Value := l.flatMap fun x => x.1.cells x.2
theorem actCells_snoc (l : List (VAct × Value)) (a : VAct) (v : Value) : actCells (l ++ [(a, v)]) = actCells l ++ a.cells v := by simp [actCells]

theorem parBegin_any (p d : Nat) (s : PSt) (tell vi vp vt : Value) (st : Int) (w : World) (hb : w.heap[p]? = some (.cells (s.cells d tell vi vp vt) 161 (0, 0))) :
    Calls Tryz.prog 145 #[.pointer (some ⟨p, 0, none⟩), .int .i64 st] w fun e w' => e = .returned (.tuple #[]) ∧ w.grownBy w' (some p) ∧
      w'.heap[p]? = some (.cells ((s.begun st).cells d tell nilS nilS nilS) 161 (0, 0)) := by
  have fz := blk_free hb
  have c0 : w.cell? ⟨p, 0, none⟩ = some (.int .i64 s.state) := blk_cell hb 0
  have c3 : w.cell? ⟨p, 3, none⟩ = some vi := blk_cell hb 3
  have c4 : w.cell? ⟨p, 4, none⟩ = some vp := blk_cell hb 4
  have c5 : w.cell? ⟨p, 5, none⟩ = some (.bool s.any) := blk_cell hb 5
  have c6 : w.cell? ⟨p, 6, none⟩ = some vt := blk_cell hb 6
  have c8 : w.cell? ⟨p, 8, none⟩ = some (.bool s.ended) := blk_cell hb 8
  have HD := Lib.hid hb
  clear hb
  go_enter Tryz.func145, Tryz.ntmps145
  go_wp2_with fail
  go_end0
  refine ⟨rfl, ?_, ?_⟩
  · repeat (with_reducible first | refine gb_set ?_ _ _ | exact gb_refl _ _)
  · have h := blk_set (blk_set (blk_set (blk_set (blk_set (blk_set HD.out 0 (.int .i64 st)) 3 nilS) 4 nilS) 5 (.bool false)) 6 nilS) 8 (.bool false)
    exact h
theorem ownC_form {w : World} {base size : Nat} {v : Value} {n : Nat} {xs : List Value} (h : OwnC w base size v n xs) : ∃ x m c, v = Value.slice x m c := by
  rcases h.2 with ⟨h, _⟩ | ⟨b, off, cap, h, _⟩
  · exact ⟨_, _, _, h⟩
  · exact ⟨_, _, _, h⟩
theorem act_elem : Elem Tryz.prog 111 75 6 72 (.agg #[.int .i64 0, .int .i32 0, .int .u8 0, .slice none 0 0, .string ⟨#[]⟩, .string ⟨#[]⟩]) := ⟨Tryz.underlying111, by kernel_rfl, rfl, by decide⟩
theorem tellA_any (a : VAct) (v : Value) (o : Nat) (vo : Value) (n : Nat) (xs : List Value) (w : World) (hv : ∃ x m c, v = .slice x m c) (hb : w.heap[o]? = some (.cells #[vo] 111 (0, 0))) (hr : OwnC w 0 6 vo n xs) (hne : vo.ownBlock ≠ some o) (hn : n ≤ 1000000000) :
    Calls Tryz.prog 105 #[a.val v, .pointer (some ⟨o, 0, none⟩)] w fun e w' => e = .returned (.tuple #[]) ∧ ∃ vo', w'.heap[o]? = some (.cells #[vo'] 111 (0, 0)) ∧ OwnC w' 0 6 vo' (n + 1) (xs ++ a.cells v) ∧
      (∀ k, vo'.ownBlock = some k → vo.ownBlock = some k ∨ w.heap.size ≤ k) ∧ w'.os = w.os ∧ w'.tape = w.tape ∧ w'.output = w.output ∧ w.heap.size ≤ w'.heap.size ∧ ∀ k, k < w.heap.size → k ≠ o → vo.ownBlock ≠ some k → w'.heap[k]? = w.heap[k]? := by
  obtain ⟨kind, rune, byte, params, inter, text⟩ := a
  obtain ⟨x, m, c, rfl⟩ := hv
  unfold VAct.val VAct.cells
  dsimp only
  have hol := heap_lt hb
  have hb1 := blk_alloc hb (.cells #[.int .i64 kind, .int .i32 rune, .int .u8 (byte.toNat : Int), .slice x m c, .string inter, .string text] 75)
  have c0 := blk_cell hb1 0
  have hb2 := blk_alloc hb1 (.cells #[.int .i64 kind, .int .i32 rune, .int .u8 (byte.toNat : Int), .slice x m c, .string inter, .string text] 75)
  replace c0 : (w.alloc (.cells #[.int .i64 kind, .int .i32 rune, .int .u8 (byte.toNat : Int), .slice x m c, .string inter, .string text] 75)).cell? ⟨o, 0, none⟩ = some vo := c0
  have HD := Lib.hid hb2
  have HR := Lib.hid hr
  clear hb hr hb1 hb2
  go_enter Tryz.func105, Tryz.ntmps105
  go_wp2_with (at_builtin; refine held ?_)
  unfold Held
  have ho1 : OwnC ((w.alloc (.cells #[.int .i64 kind, .int .i32 rune, .int .u8 (byte.toNat : Int), .slice x m c, .string inter, .string text] 75)).alloc (.cells #[.int .i64 kind, .int .i32 rune, .int .u8 (byte.toNat : Int), .slice x m c, .string inter, .string text] 75)) 0 6 vo n xs := ownC_alloc (ownC_alloc HR.out _) _
  refine wpList_appD act_elem rfl rfl 0 ho1 rfl (reads_own (ownsRow_new (w := w.alloc (.cells #[.int .i64 kind, .int .i32 rune, .int .u8 (byte.toNat : Int), .slice x m c, .string inter, .string text] 75)) (base := 0) (g := w.heap.size + 1) (n := 1) (e := 75) (size := 6) #[.int .i64 kind, .int .i32 rune, .int .u8 (byte.toNat : Int), .slice x m c, .string inter, .string text] [.int .i64 kind, .int .i32 rune, .int .u8 (byte.toNat : Int), .slice x m c, .string inter, .string text] (by simp) (by omega) (by decide) rfl rfl)) rfl (by intro u hu; simp at hu; rcases hu with rfl | rfl | rfl | rfl | rfl | rfl <;> rfl) (by unfold maxLen; omega) (by omega) (by omega) ?_
  intro v6 w6 o6 g6 n6
  obtain ⟨x6, m6, c6, rfl⟩ := ownC_form o6
  have hb6 := blk_grown HD.out g6 (fun e => hne e.symm)
  have cc6 : w6.cell? ⟨o, 0, none⟩ = some vo := blk_cell hb6 0
  have fz6 := blk_free hb6
  have H6 := Lib.hid hb6
  have O6 := Lib.hid o6
  have G6 := Lib.hid g6
  have N6 := Lib.hid n6
  clear hb6 o6 g6 n6 ho1
  go_wp2_with fail
  go_end0
  have hs6 := G6.out.size
  simp at hs6
  refine ⟨rfl, _, blk_set H6.out 0 _, ?_, fun k hk => ?_, G6.out.os, G6.out.tape, G6.out.output, by simp; omega, fun k h1 h2 h3 => ?_⟩
  · refine ownC_grown O6.out (gb_set (gb_refl w6 (some o)) 0 _) (fun k hk e => ?_)
    injection e with e
    subst e
    rcases N6.out _ hk with h | h
    · exact hne h
    · simp at h; omega
  · rcases N6.out k hk with h | h
    · exact .inl h
    · simp at h; exact .inr (by omega)
  · rw [heap_setCell_other w6 ⟨o, 0, none⟩ k _ h2, G6.out.block k (by simp; omega) (fun e => h3 e.symm)]
    rw [heap_alloc_old _ _ (by simp; omega), heap_alloc_old _ _ h1]
end Go.Proofs.YtlfdgkiliegaiaaGreatDoor

/- Package vtparse: what of memory is the parser's, and how it changes. -/
namespace Go.Proofs.YtlfdgkiliegaiaaGreatDoor
open Go.RowKit

structure Core (u : Bool) (T : Nat → Nat) (p d : Nat) (tell vi vp vt : Value) (w : World) (s : PSt) : Prop where
  blk : w.heap[p]? = some (.cells (s.cells d tell vi vp vt) 161 (0, 0))
  dec : DecAt w d s.dec
  dok : s.dec.ok
  ri : Row T 4 1 vi s.inter.length (byteVals s.inter) w
  rp : u = true → Row T 5 1 vp s.params.length (s.params.map (Value.int .i64)) w
  rt : Row T 6 1 vt s.text.length (byteVals s.text) w
  tp : T p = 1
  td : T d = 2
structure Told (G : Nat → Prop) (T : Nat → Nat) (o : Nat) (vo : Value) (w : World) (L : List (VAct × Value)) : Prop where
  blk : w.heap[o]? = some (.cells #[vo] 111 (0, 0))
  ro : Row T 7 6 vo L.length (actCells L) w
  tg : T o = 3
  told : ∀ x ∈ L, Row T 0 1 x.2 x.1.params.length (x.1.params.map (Value.int .i64)) w ∧ ∀ k, x.2.ownBlock = some k → G k
theorem Core.mod {u : Bool} {T : Nat → Nat} {p d : Nat} {tell vi vp vt : Value} {w w' : World} {s : PSt} {q : Nat → Prop} (h : Core u T p d tell vi vp vt w s) (m : Mod T q w w')
    (h1 : ¬ q 1) (h2 : ¬ q 2) (h4 : ¬ q 4) (h5 : ¬ q 5) (h6 : ¬ q 6) : Core u T p d tell vi vp vt w' s :=
  ⟨(m.block p (heap_lt h.blk) (by rw [h.tp]; exact h1)).trans h.blk, (m.block d (heap_lt h.dec) (by rw [h.td]; exact h2)).trans h.dec, h.dok, h.ri.mod m h4, fun hu => (h.rp hu).mod m h5, h.rt.mod m h6, h.tp, h.td⟩
theorem Core.retag {u : Bool} {T T' : Nat → Nat} {p d : Nat} {tell vi vp vt : Value} {w : World} {s : PSt} (h : Core u T p d tell vi vp vt w s) (e : ∀ k, k < w.heap.size → T' k = T k) : Core u T' p d tell vi vp vt w s :=
  ⟨h.blk, h.dec, h.dok, h.ri.retag fun k hk ht => (e k hk).trans ht, fun hu => (h.rp hu).retag fun k hk ht => (e k hk).trans ht, h.rt.retag fun k hk ht => (e k hk).trans ht, (e _ (heap_lt h.blk)).trans h.tp, (e _ (heap_lt h.dec)).trans h.td⟩
/-- The parser's own block was written. -/
theorem Core.put {u u' : Bool} {T : Nat → Nat} {p d : Nat} {tell tell' vi vp vt vi' vp' vt' : Value} {w w' : World} {s s' : PSt} (h : Core u T p d tell vi vp vt w s) (g : w.grownBy w' (some p))
    (hb : w'.heap[p]? = some (.cells (s'.cells d tell' vi' vp' vt') 161 (0, 0))) (hd : s'.dec = s.dec)
    (ri : Row T 4 1 vi' s'.inter.length (byteVals s'.inter) w) (rp : u' = true → Row T 5 1 vp' s'.params.length (s'.params.map (Value.int .i64)) w) (rt : Row T 6 1 vt' s'.text.length (byteVals s'.text) w) : Core u' T p d tell' vi' vp' vt' w' s' := by
  have m : Mod T (fun x => x = 1) w w' := Mod.of_gb g (fun k hk => by injection hk with hk; subst hk; exact h.tp)
  exact ⟨hb, by rw [hd]; exact (m.block d (heap_lt h.dec) (by rw [h.td]; decide)).trans h.dec, by rw [hd]; exact h.dok, ri.mod m (by decide), fun hu => (rp hu).mod m (by decide), rt.mod m (by decide), h.tp, h.td⟩
theorem Told.mod {G : Nat → Prop} {T : Nat → Nat} {o : Nat} {vo : Value} {w w' : World} {L : List (VAct × Value)} {q : Nat → Prop} (h : Told G T o vo w L) (m : Mod T q w w') (h3 : ¬ q 3) (h7 : ¬ q 7) (h0 : ¬ q 0) : Told G T o vo w' L :=
  ⟨(m.block o (heap_lt h.blk) (by rw [h.tg]; exact h3)).trans h.blk, h.ro.mod m h7, h.tg, fun x hx => ⟨(h.told x hx).1.mod m h0, (h.told x hx).2⟩⟩
theorem Told.retag {G : Nat → Prop} {T T' : Nat → Nat} {o : Nat} {vo : Value} {w : World} {L : List (VAct × Value)} (h : Told G T o vo w L) (e : ∀ k, k < w.heap.size → T' k = T k) : Told G T' o vo w L :=
  ⟨h.blk, h.ro.retag fun k hk ht => (e k hk).trans ht, (e _ (heap_lt h.blk)).trans h.tg, fun x hx => ⟨(h.told x hx).1.retag fun k hk ht => (e k hk).trans ht, (h.told x hx).2⟩⟩

def InvT (G : Nat → Prop) (u : Bool) (T : Nat → Nat) (p o : Nat) (w : World) (s : PSt) (acts : List VAct) : Prop :=
  ∃ d vi vp vt vo L, L.map (·.1) = acts ∧ Arena G T w ∧ Core u T p d (tellV o) vi vp vt w s ∧ Told G T o vo w L
def InvO (G : Nat → Prop) (u : Bool) (p o : Nat) (w : World) (s : PSt) (acts : List VAct) : Prop := ∃ T, InvT G u T p o w s acts

theorem begin_inv {G : Nat → Prop} {u : Bool} {T : Nat → Nat} {p o : Nat} {w : World} {s : PSt} {acts : List VAct} (st : Int) (h : InvT G u T p o w s acts) :
    Calls Tryz.prog 145 #[.pointer (some ⟨p, 0, none⟩), .int .i64 st] w fun e w' => e = .returned (.tuple #[]) ∧ Within G w w' ∧ InvT G true T p o w' (s.begun st) acts := by
  obtain ⟨d, vi, vp, vt, vo, L, hL, hA, hC, hT⟩ := h
  refine (parBegin_any p d s (tellV o) vi vp vt st w hC.blk).mono ?_
  rintro e w' ⟨rfl, g, hb⟩
  have m : Mod T (fun x => x = 1) w w' := Mod.of_gb g (fun k hk => by injection hk with hk; subst hk; exact hC.tp)
  exact ⟨rfl, m.within hA (by decide), d, nilS, nilS, nilS, vo, L, hL, hA.mono g.size, hC.put g hb rfl (row_nil _ _ _ _) (fun _ => row_nil _ _ _ _) (row_nil _ _ _ _), hT.mod m (by decide) (by decide) (by decide)⟩

/-- What tell does with what was told before. -/
theorem tell_told {G : Nat → Prop} {T : Nat → Nat} {p o : Nat} {vo : Value} {w : World} {L : List (VAct × Value)} {a : VAct} {v : Value} (hA : Arena G T w) (hT : Told G T o vo w L) (hv : Row T 0 1 v a.params.length (a.params.map (Value.int .i64)) w) (hg : ∀ k, v.ownBlock = some k → G k) (hn : L.length ≤ 1000000000) :
    Calls Tryz.prog 105 #[a.val v, .pointer (some ⟨o, 0, none⟩)] w fun e w' => e = .returned (.tuple #[]) ∧ Mod T (fun x => x = 3 ∨ x = 7) w w' ∧ ∃ T' vo', (∀ k, k < w.heap.size → T' k = T k) ∧ Arena G T' w' ∧ Told G T' o vo' w' (L ++ [(a, v)]) := by
  have _ := p
  have hne : vo.ownBlock ≠ some o := fun e => by have h1 := hT.ro.tag o e; have h2 := hT.tg; omega
  refine (tellA_any a v o vo L.length (actCells L) w (ownC_form hv.own) hT.blk hT.ro.own hne hn).mono ?_
  rintro e w' ⟨rfl, vo', hb, ho, hnew, h1, h2, h3, h4, h5⟩
  have m : Mod T (fun x => x = 3 ∨ x = 7) w w' := ⟨h1, h2, h3, h4, fun k hk ht => h5 k hk (fun e => ht (by subst e; exact .inl hT.tg)) (fun e => ht (.inr (hT.ro.tag k e)))⟩
  have ad : ∀ k, k < w.heap.size → adopt T w.heap.size w'.heap.size 7 k = T k := fun k hk => adopt_old hk
  have hTr := hT.retag ad
  refine ⟨rfl, m, adopt T w.heap.size w'.heap.size 7, vo', ad, hA.adopt h4 7, hb, ⟨?_, fun k hk => ?_⟩, ?_, fun x hx => ?_⟩
  · rw [List.length_append, actCells_snoc]; exact ho
  · rcases hnew k hk with h | h
    · rw [ad k (ownC_lt hT.ro.own k h).2]; exact hT.ro.tag k h
    · exact adopt_new h (ownC_lt ho k hk).2
  · rw [ad o (heap_lt hT.blk)]; exact hT.tg
  · have key : ∀ (x : VAct × Value), Row T 0 1 x.2 x.1.params.length (x.1.params.map (Value.int .i64)) w → Row (adopt T w.heap.size w'.heap.size 7) 0 1 x.2 x.1.params.length (x.1.params.map (Value.int .i64)) w' := fun x h => by
      have h' := h.mod m (by decide)
      exact ⟨h'.own, fun k hk => by rw [ad k (ownC_lt h.own k hk).2]; exact h.tag k hk⟩
    rw [List.mem_append, List.mem_singleton] at hx
    rcases hx with hx | rfl
    · exact ⟨key x (hT.told x hx).1, (hT.told x hx).2⟩
    · exact ⟨key _ hv, hg⟩
theorem tell_inv {G : Nat → Prop} {u : Bool} {T : Nat → Nat} {p o : Nat} {w : World} {s : PSt} {acts : List VAct} (a : VAct) (ha : a.params = []) (h : InvT G u T p o w s acts) (hn : acts.length ≤ 1000000000) :
    Calls Tryz.prog 105 #[a.val nilS, .pointer (some ⟨o, 0, none⟩)] w fun e w' => e = .returned (.tuple #[]) ∧ Within G w w' ∧ Mod T (fun x => x = 3 ∨ x = 7) w w' ∧ ∃ T', (∀ k, k < w.heap.size → T' k = T k) ∧ InvT G u T' p o w' s (acts ++ [a]) := by
  obtain ⟨d, vi, vp, vt, vo, L, hL, hA, hC, hT⟩ := h
  have hv : Row T 0 1 nilS a.params.length (a.params.map (Value.int .i64)) w := by rw [ha]; exact row_nil _ _ _ _
  refine (tell_told (p := p) hA hT hv (fun k hk => by simp [nilS, Value.ownBlock] at hk) (by rw [← hL, List.length_map] at hn; exact hn)).mono ?_
  rintro e w' ⟨rfl, m, T', vo', ht, hA', hT'⟩
  exact ⟨rfl, m.within hA (by decide), m, T', ht, d, vi, vp, vt, vo', L ++ [(a, nilS)], by rw [List.map_append, hL]; rfl, hA', (hC.retag ht).mod (m.retag ht) (by decide) (by decide) (by decide) (by decide) (by decide), hT'⟩
end Go.Proofs.YtlfdgkiliegaiaaGreatDoor

/- Package vtparse: texts, runes, ends, pass. -/
namespace Go.Proofs.YtlfdgkiliegaiaaGreatDoor
open Go.RowKit
set_option maxRecDepth 100000

def PSt.texts (s : PSt) : Bool := s.state == 4 || s.state == 6 || s.state == 7
def emp : ByteArray := ⟨#[]⟩
def prAct (r : Int) : VAct := ⟨1, r, 0, [], emp, emp⟩
def ctlAct (b : UInt8) : VAct := ⟨2, 0, b, [], emp, emp⟩
def escAct (b : UInt8) (inter : List UInt8) : VAct := ⟨3, 0, b, [], ⟨inter.toArray⟩, emp⟩
def csiAct (b : UInt8) (params : List Int) (inter : List UInt8) : VAct := ⟨4, 0, b, params, ⟨inter.toArray⟩, emp⟩
def oscAct (text : List UInt8) : VAct := ⟨5, 0, 0, [], emp, ⟨text.toArray⟩⟩
def dcsAct (b : UInt8) (params : List Int) (inter text : List UInt8) : VAct := ⟨6, 0, b, params, ⟨inter.toArray⟩, ⟨text.toArray⟩⟩
def PSt.endActs (s : PSt) : List VAct := if s.state = 4 then [oscAct s.text] else if s.state = 6 then [dcsAct s.final s.params s.inter s.text] else []

theorem texts_any (p d : Nat) (s : PSt) (tell vi vp vt : Value) (w : World) (hb : w.heap[p]? = some (.cells (s.cells d tell vi vp vt) 161 (0, 0))) :
    Calls Tryz.prog 144 #[.pointer (some ⟨p, 0, none⟩)] w fun e w' => e = .returned (.bool s.texts) ∧ w' = w := by
  have c0 : w.cell? ⟨p, 0, none⟩ = some (.int .i64 s.state) := blk_cell hb 0
  clear hb
  have HS := Lib.hid (show s.texts = (s.state == 4 || s.state == 6 || s.state == 7) from rfl)
  generalize s.state = st at *
  cases h1 : (st == 4)
  rotate_left
  · rw [h1] at HS
    go_enter Tryz.func144, Tryz.ntmps144
    go_wp2_with fail
    go_ret
    exact ⟨ret_bool (by rw [HS.out]; rfl), by trivial⟩
  cases h2 : (st == 6)
  rotate_left
  · rw [h1, h2] at HS
    go_enter Tryz.func144, Tryz.ntmps144
    go_wp2_with fail
    go_ret
    exact ⟨ret_bool (by rw [HS.out]; rfl), by trivial⟩
  rw [h1, h2] at HS
  go_enter Tryz.func144, Tryz.ntmps144
  go_wp2_with fail
  go_ret
  exact ⟨ret_bool (by rw [HS.out]; rfl), by trivial⟩

theorem isRd_own {k : IntKind} {w : World} {v : Value} {l : List Int} (h : OwnC w 0 1 v l.length (l.map (Value.int k))) : IsRd k w v l := isRd_ints (ownC_ints h)
theorem parCell {u : Bool} {T : Nat → Nat} {p d : Nat} {tell vi vp vt : Value} {w : World} {s : PSt} (h : Core u T p d tell vi vp vt w s) (i : Nat) : w.cell? ⟨p, i, none⟩ = (s.cells d tell vi vp vt)[i]? := blk_cell h.blk i
theorem invCell {G : Nat → Prop} {u : Bool} {T : Nat → Nat} {p o : Nat} {w : World} {s : PSt} {acts : List VAct} (h : InvT G u T p o w s acts) : w.cell? ⟨p, 2, none⟩ = some (.func (.func 105) #[] #[.pointer (some ⟨o, 0, none⟩)]) := by
  obtain ⟨d, vi, vp, vt, vo, L, hL, hA, hC, hT⟩ := h
  exact parCell hC 2
theorem parRunes_inv {G : Nat → Prop} {u : Bool} {T : Nat → Nat} {p o : Nat} {w : World} {s : PSt} {acts : List VAct} (v : Value) (l : List Int) (h : InvT G u T p o w s acts) (hv : Row T 0 1 v l.length (l.map (Value.int .i32)) w) (hn : acts.length + l.length ≤ 1000000000) :
    Calls Tryz.prog 146 #[.pointer (some ⟨p, 0, none⟩), v] w fun e w' => e = .returned (.tuple #[]) ∧ Within G w w' ∧ InvO G u p o w' s (acts ++ l.map prAct) := by
  have hrd := isRd_own hv.own
  have hlen := rd_len Tryz.underlying191 hrd
  have H := Lib.hid h
  have HV := Lib.hid hv
  clear h hv hrd
  go_enter Tryz.func146, Tryz.ntmps146
  go_wp2_with fail
  go_loopw [8] (fun iv wr => ∃ k : Nat, k ≤ l.length ∧ iv = .int .i64 k ∧ Within G w wr ∧ ∃ T', Row T' 0 1 v l.length (l.map (Value.int .i32)) wr ∧ InvT G u T' p o wr s (acts ++ (l.take k).map prAct)) (fun iv _ => l.length - (intOf iv).toNat)
  case atStart => exact ⟨0, by omega, rfl, Within.refl _ _, T, HV.out, by simpa using H.out⟩
  case round =>
    obtain ⟨k, hk, rfl, hw, T', hv, hi⟩ := hrel
    have HW := Lib.hid hw
    have HV2 := Lib.hid hv
    have HI := Lib.hid hi
    clear hw hv hi
    have c2 := invCell HI.out
    by_cases hlt : k < l.length
    · obtain ⟨ad, had, hcell⟩ := rd_at Tryz.underlying191 (by kernel_rfl) (isRd_own HV2.out.own) k hlt
      have HSN := Lib.hid (take_succ_getD l 0 k hlt)
      have hl1 : (acts ++ (l.take k).map prAct).length ≤ 1000000000 := by rw [List.length_append, List.length_map]; have := List.length_take_le k l; omega
      generalize l.getD k 0 = r at *
      go_wp2_with fail
      refine (tell_inv (prAct r) rfl HI.out hl1).mono ?_
      rintro e w2 ⟨rfl, hw2, m2, T2, ht2, hi2⟩
      have HW2 := Lib.hid (HW.out.trans hw2)
      have HV3 := Lib.hid ((HV2.out.retag (t' := 0) (fun k hk ht => (ht2 k hk).trans ht)).mod (m2.retag ht2) (by decide))
      have HI2 := Lib.hid hi2
      clear hw2 m2 ht2 hi2
      go_wp2_with fail
      go_roundw
      case rel =>
        refine ⟨k + 1, by omega, by go_num, HW2.out, T2, HV3.out, ?_⟩
        have := HI2.out
        rw [HSN.out, List.map_append, ← List.append_assoc]
        exact this
      case measure => simp [intOf]; omega
    · have hk2 : k = l.length := by omega
      have HE := Lib.hid (show (l.take k) = l by rw [hk2, List.take_length])
      go_wp2_with fail
      go_end0
      refine ⟨rfl, HW.out, T', ?_⟩
      have := HI.out
      rw [HE.out] at this
      exact this
/-- The parameters are the parser's no more. -/
def free (T : Nat → Nat) : Nat → Nat := fun k => if T k = 5 then 0 else T k
theorem free_of {T : Nat → Nat} {k t : Nat} (h : T k = t) (ht : t ≠ 5) : free T k = t := by unfold free; rw [if_neg (by omega)]; exact h
theorem Arena.free {G : Nat → Prop} {T : Nat → Nat} {w : World} (h : Arena G T w) : Arena G (free T) w :=
  ⟨fun k hk => h.tl k (fun e => hk (free_of e (by decide))), h.gn⟩
theorem Core.free {u : Bool} {T : Nat → Nat} {p d : Nat} {tell vi vp vt : Value} {w : World} {s : PSt} (h : Core u T p d tell vi vp vt w s) : Core false (free T) p d tell vi vp vt w s :=
  ⟨h.blk, h.dec, h.dok, h.ri.retag fun _ _ ht => free_of ht (by decide), fun hu => by simp at hu, h.rt.retag fun _ _ ht => free_of ht (by decide), free_of h.tp (by decide), free_of h.td (by decide)⟩
theorem Told.free {G : Nat → Prop} {T : Nat → Nat} {o : Nat} {vo : Value} {w : World} {L : List (VAct × Value)} (h : Told G T o vo w L) : Told G (free T) o vo w L :=
  ⟨h.blk, h.ro.retag fun _ _ ht => free_of ht (by decide), free_of h.tg (by decide), fun x hx => ⟨(h.told x hx).1.retag fun _ _ ht => free_of ht (by decide), (h.told x hx).2⟩⟩
theorem Row.free {T : Nat → Nat} {size : Nat} {v : Value} {n : Nat} {xs : List Value} {w : World} (h : Row T 5 size v n xs w) : Row (free T) 0 size v n xs w :=
  h.retag fun _ _ ht => by unfold _root_.Go.Proofs.YtlfdgkiliegaiaaGreatDoor.free; rw [if_pos ht]
/-- An action with the parser's own parameters is told. -/
theorem tellPar_inv {G : Nat → Prop} {T : Nat → Nat} {p o d : Nat} {vi vp vt vo : Value} {w : World} {s : PSt} {L : List (VAct × Value)} (a : VAct) (ha : a.params = s.params) (hA : Arena G T w) (hC : Core true T p d (tellV o) vi vp vt w s) (hT : Told G T o vo w L) (hn : L.length ≤ 1000000000) :
    Calls Tryz.prog 105 #[a.val vp, .pointer (some ⟨o, 0, none⟩)] w fun e w' => e = .returned (.tuple #[]) ∧ Within G w w' ∧ ∃ T', InvT G false T' p o w' s (L.map (·.1) ++ [a]) := by
  have hv := (hC.rp rfl).free
  rw [← ha] at hv
  refine (tell_told (p := p) hA.free hT.free hv (fun k hk => (hA.tl k (by rw [(hC.rp rfl).tag k hk]; decide)).2) hn).mono ?_
  rintro e w' ⟨rfl, m, T', vo', ht, hA', hT'⟩
  exact ⟨rfl, m.within hA.free (by decide), T', d, vi, vp, vt, vo', L ++ [(a, vp)], by rw [List.map_append]; rfl, hA', (hC.free.retag ht).mod (m.retag ht) (by decide) (by decide) (by decide) (by decide) (by decide), hT'⟩
theorem InvT.weak {G : Nat → Prop} {u : Bool} {T : Nat → Nat} {p o : Nat} {w : World} {s : PSt} {acts : List VAct} (h : InvT G u T p o w s acts) : InvT G false T p o w s acts := by
  obtain ⟨d, vi, vp, vt, vo, L, hL, hA, hC, hT⟩ := h
  exact ⟨d, vi, vp, vt, vo, L, hL, hA, ⟨hC.blk, hC.dec, hC.dok, hC.ri, fun hu => by simp at hu, hC.rt, hC.tp, hC.td⟩, hT⟩
theorem mod_drew (T : Nat → Nat) (w : World) : Mod T (fun _ => False) w w.drew := Mod.of_gb (row := none) (gb_drew (gb_refl w none)) (by intro k hk; simp at hk)
theorem InvT.drew {G : Nat → Prop} {u : Bool} {T : Nat → Nat} {p o : Nat} {w : World} {s : PSt} {acts : List VAct} (h : InvT G u T p o w s acts) : InvT G u T p o w.drew s acts := by
  obtain ⟨d, vi, vp, vt, vo, L, hL, hA, hC, hT⟩ := h
  exact ⟨d, vi, vp, vt, vo, L, hL, hA.mono (Nat.le_refl _), hC.mod (mod_drew T w) id id id id id, hT.mod (mod_drew T w) id id id⟩
theorem Within.drew (G : Nat → Prop) (w : World) : Within G w w.drew := ⟨rfl, rfl, rfl, Nat.le_refl _, fun _ _ _ => rfl⟩
theorem ends_inv {G : Nat → Prop} {T : Nat → Nat} {p o : Nat} {w : World} {s : PSt} {acts : List VAct} (h : InvT G true T p o w s acts) (hn : acts.length ≤ 1000000000) :
    Calls Tryz.prog 148 #[.pointer (some ⟨p, 0, none⟩)] w fun e w' => e = .returned (.tuple #[]) ∧ Within G w w' ∧ InvO G false p o w' s (acts ++ s.endActs) := by
  have H := Lib.hid h
  obtain ⟨d, vi, vp, vt, vo, L, hL, hA, hC, hT⟩ := h
  have c0 : w.cell? ⟨p, 0, none⟩ = some (.int .i64 s.state) := parCell hC 0
  have c2 : w.cell? ⟨p, 2, none⟩ = some (.func (.func 105) #[] #[.pointer (some ⟨o, 0, none⟩)]) := parCell hC 2
  have c3 : w.cell? ⟨p, 3, none⟩ = some vi := parCell hC 3
  have c4 : w.cell? ⟨p, 4, none⟩ = some vp := parCell hC 4
  have c6 : w.cell? ⟨p, 6, none⟩ = some vt := parCell hC 6
  have c7 : w.cell? ⟨p, 7, none⟩ = some (.int .u8 (s.final.toNat : Int)) := parCell hC 7
  have hcti : (convert 38 9 vi).run Tryz.prog w.drew = .ok (.string ⟨s.inter.toArray⟩) w.drew := run_bytes_reads (P := Tryz.prog) (w := w.drew) Tryz.underlying38 Tryz.underlying5 Tryz.underlying9 (ownC_reads hC.ri.own)
  have hctt : (convert 38 9 vt).run Tryz.prog w.drew = .ok (.string ⟨s.text.toArray⟩) w.drew := run_bytes_reads (P := Tryz.prog) (w := w.drew) Tryz.underlying38 Tryz.underlying5 Tryz.underlying9 (ownC_reads hC.rt.own)
  have hn' : L.length ≤ 1000000000 := by rw [← hL, List.length_map] at hn; exact hn
  have HA := Lib.hid hA
  have HC := Lib.hid hC
  have HT := Lib.hid hT
  have HL := Lib.hid hL
  obtain ⟨xp, mp, cp', rfl⟩ := ownC_form (hC.rp rfl).own
  obtain ⟨xi, mi, ci, rfl⟩ := ownC_form hC.ri.own
  obtain ⟨xt, mt, ct, rfl⟩ := ownC_form hC.rt.own
  clear hA hC hT hL hn
  have HE := Lib.hid (show s.endActs = if s.state = 4 then [oscAct s.text] else if s.state = 6 then [dcsAct s.final s.params s.inter s.text] else [] from rfl)
  by_cases h4 : s.state = 4
  · rw [if_pos h4] at HE
    have H4 := Lib.hid h4
    rw [h4] at c0
    clear h4
    have ht := tell_inv (oscAct s.text) rfl H.out.drew (by rw [← HL.out, List.length_map]; exact hn')
    have HTl := Lib.hid ht
    clear ht
    go_enter Tryz.func148, Tryz.ntmps148
    go_upto_region 2 with fail
    go_still_tail 10, (by kernel_rfl)
    change wpList _ _ _ _ _ w.drew
    generalize hwd : w.drew = wd at *
    go_wp2_with fail
    refine HTl.out.mono ?_
    rintro e w2 ⟨rfl, hw2, m2, T2, ht2, hi2⟩
    have HW2 := Lib.hid ((hwd ▸ Within.drew G w).trans hw2)
    have HI2 := Lib.hid hi2.weak
    clear hw2 m2 ht2 hi2
    go_wp2_with fail
    go_end0
    refine ⟨rfl, HW2.out, T2, ?_⟩
    rw [HE.out]
    exact HI2.out
  rw [if_neg h4] at HE
  by_cases h6 : s.state = 6
  · rw [if_pos h6] at HE
    have H6 := Lib.hid h6
    rw [h6] at c0
    clear h4 h6
    have HTl := Lib.hid (tellPar_inv (dcsAct s.final s.params s.inter s.text) rfl (HA.out.mono (w' := w.drew) (Nat.le_refl _)) (HC.out.mod (mod_drew T w) id id id id id) (HT.out.mod (mod_drew T w) id id id) hn')
    go_enter Tryz.func148, Tryz.ntmps148
    go_upto_region 4 with fail
    go_still_tail 23, (by kernel_rfl)
    change wpList _ _ _ _ _ w.drew
    generalize hwd : w.drew = wd at *
    go_wp2_with fail
    refine HTl.out.mono ?_
    rintro e w2 ⟨rfl, hw2, T2, hi2⟩
    have HW2 := Lib.hid ((hwd ▸ Within.drew G w).trans hw2)
    have HI2 := Lib.hid hi2
    clear hw2 hi2
    go_wp2_with fail
    go_end0
    refine ⟨rfl, HW2.out, T2, ?_⟩
    rw [HE.out, ← HL.out]
    exact HI2.out
  · rw [if_neg h6] at HE
    have h4' : (s.state == 4) = false := beq_eq_false_iff_ne.2 h4
    have h6' : (s.state == 6) = false := beq_eq_false_iff_ne.2 h6
    go_enter Tryz.func148, Tryz.ntmps148
    go_wp2_with fail
    go_end0
    refine ⟨rfl, Within.refl _ _, T, ?_⟩
    rw [HE.out, List.append_nil]
    exact H.out.weak
end Go.Proofs.YtlfdgkiliegaiaaGreatDoor

/- Package vtparse: pass, digit. -/
namespace Go.Proofs.YtlfdgkiliegaiaaGreatDoor
open Go.RowKit
set_option maxRecDepth 100000

theorem InvT.inG {G : Nat → Prop} {u : Bool} {T : Nat → Nat} {p o : Nat} {w : World} {s : PSt} {acts : List VAct} (h : InvT G u T p o w s acts) : G p := by
  obtain ⟨d, vi, vp, vt, vo, L, hL, hA, hC, hT⟩ := h
  exact (hA.tl p (by rw [hC.tp]; decide)).2
theorem within_set {G : Nat → Prop} {p : Nat} (hp : G p) (w : World) (i : Nat) (v : Value) : Within G w (w.setCell ⟨p, i, none⟩ v) :=
  ⟨rfl, rfl, rfl, by simp, fun k _ hg => heap_setCell_other w ⟨p, i, none⟩ k v (fun e => hg (by rw [e]; exact hp))⟩
theorem InvT.set {G : Nat → Prop} {u : Bool} {T : Nat → Nat} {p o : Nat} {w : World} {s : PSt} {acts : List VAct} (h : InvT G u T p o w s acts) (i : Nat) (v : Value) (s' : PSt)
    (hc : ∀ d t a b c, (s.cells d t a b c).setIfInBounds i v = s'.cells d t a b c) (h1 : s'.dec = s.dec) (h2 : s'.inter = s.inter) (h3 : s'.params = s.params) (h4 : s'.text = s.text) : InvT G u T p o (w.setCell ⟨p, i, none⟩ v) s' acts := by
  obtain ⟨d, vi, vp, vt, vo, L, hL, hA, hC, hT⟩ := h
  have g := gb_set (gb_refl w (some p)) i v
  have m : Mod T (fun x => x = 1) w (w.setCell ⟨p, i, none⟩ v) := Mod.of_gb g (fun k hk => by injection hk with hk; subst hk; exact hC.tp)
  have hb := blk_set hC.blk i v
  rw [hc] at hb
  exact ⟨d, vi, vp, vt, vo, L, hL, hA.mono g.size, hC.put g hb h1 (by rw [h2]; exact hC.ri) (fun hu => by rw [h3]; exact hC.rp hu) (by rw [h4]; exact hC.rt), hT.mod m (by decide) (by decide) (by decide)⟩
/-- A buffer of tag t has got more, maybe in another block. -/
theorem grow_inv {G : Nat → Prop} {T : Nat → Nat} {p o d : Nat} {tell vi vp vt vo : Value} {w w1 w' : World} {s : PSt} {L : List (VAct × Value)} {t : Nat} (ht : t = 4 ∨ t = 5 ∨ t = 6) (htell : tell = tellV o)
    (hA : Arena G T w) (hC : Core true T p d tell vi vp vt w s) (hT : Told G T o vo w L) {v v' : Value} {n m : Nat} {xs ys : List Value} (hv : Row T t 1 v n xs w) (g1 : w.grownBy w1 none) (g : w1.grownBy w' v.ownBlock) (ho : OwnC w' 0 1 v' m ys)
    (hn : ∀ k, v'.ownBlock = some k → v.ownBlock = some k ∨ w1.heap.size ≤ k) :
    ∃ T', Within G w w' ∧ Row T' t 1 v' m ys w' ∧ (∀ t' size v n xs, t' ≠ t → Row T t' size v n xs w → Row T' t' size v n xs w') ∧ w'.heap[p]? = w.heap[p]? ∧
      ∀ (w'' : World) (s' : PSt) (vi' vp' vt' : Value), w'.grownBy w'' (some p) → w''.heap[p]? = some (.cells (s'.cells d tell vi' vp' vt') 161 (0, 0)) → s'.dec = s.dec → Row T' 4 1 vi' s'.inter.length (byteVals s'.inter) w' → Row T' 5 1 vp' s'.params.length (s'.params.map (Value.int .i64)) w' → Row T' 6 1 vt' s'.text.length (byteVals s'.text) w' →
        Within G w w'' ∧ InvT G true T' p o w'' s' (L.map (·.1)) := by
  have m : Mod T (fun x => x = t) w w' := (Mod.of_gb g1 (by intro k hk; simp at hk)).trans ⟨g.os, g.tape, g.output, g.size, fun k hk hq => by
    by_cases hlt : k < w.heap.size
    · exact g.block k hk (fun e => hq (hv.tag k e.symm))
    · exact g.block k hk (fun e => hlt (ownC_lt hv.own k e.symm).2)⟩
  have ad : ∀ k, k < w.heap.size → adopt T w.heap.size w'.heap.size t k = T k := fun k hk => adopt_old hk
  have hrow : ∀ t' size v n xs, t' ≠ t → Row T t' size v n xs w → Row (adopt T w.heap.size w'.heap.size t) t' size v n xs w' := fun t' size v n xs hne h => by
    have h' := h.mod m hne
    exact ⟨h'.own, fun k hk => by rw [ad k (ownC_lt h.own k hk).2]; exact h.tag k hk⟩
  have hpb : w'.heap[p]? = w.heap[p]? := m.block p (heap_lt hC.blk) (by rw [hC.tp]; omega)
  have hTr := hT.retag ad
  have hTm := hTr.mod (m.retag ad) (by omega) (by omega) (by omega)
  refine ⟨adopt T w.heap.size w'.heap.size t, m.within hA (by omega), ⟨ho, fun k hk => ?_⟩, hrow, hpb, ?_⟩
  · rcases hn k hk with h | h
    · rw [ad k (ownC_lt hv.own k h).2]; exact hv.tag k h
    · exact adopt_new (Nat.le_trans g1.size h) (ownC_lt ho k hk).2
  · intro w'' s' vi' vp' vt' g2 hb hd r4 r5 r6
    have tp' : adopt T w.heap.size w'.heap.size t p = 1 := by rw [ad p (heap_lt hC.blk)]; exact hC.tp
    have td' : adopt T w.heap.size w'.heap.size t d = 2 := by rw [ad d (heap_lt hC.dec)]; exact hC.td
    have m2 : Mod (adopt T w.heap.size w'.heap.size t) (fun y => y = 1) w' w'' := Mod.of_gb g2 (fun k hk => by injection hk with hk; subst hk; exact tp')
    have hdec : DecAt w' d s.dec := (m.block d (heap_lt hC.dec) (by rw [hC.td]; omega)).trans hC.dec
    subst htell
    have hA' := hA.adopt m.size t
    exact ⟨(m.within hA (by omega)).trans (m2.within hA' (by decide)), d, vi', vp', vt', vo, L, rfl, (hA.adopt m.size t).mono g2.size,
      ⟨hb, by rw [hd]; exact (m2.block d (heap_lt hdec) (by rw [td']; decide)).trans hdec, by rw [hd]; exact hC.dok, r4.mod m2 (by decide), fun _ => r5.mod m2 (by decide), r6.mod m2 (by decide), tp', td'⟩, hTm.mod m2 (by decide) (by decide) (by decide)⟩

def PSt.passed (s : PSt) : PSt := ({ s with frm := s.state }).begun 3
theorem pass_inv {G : Nat → Prop} {u : Bool} {T : Nat → Nat} {p o : Nat} {w : World} {s : PSt} {acts : List VAct} (h : InvT G u T p o w s acts) :
    Calls Tryz.prog 203 #[.pointer (some ⟨p, 0, none⟩)] w fun e w' => e = .returned (.tuple #[]) ∧ Within G w w' ∧ InvT G true T p o w' s.passed acts := by
  have H2 := Lib.hid (h.set 9 (.int .i64 s.state) { s with frm := s.state } (fun _ _ _ _ _ => rfl) rfl rfl rfl rfl)
  have HG := Lib.hid (within_set h.inG w 9 (.int .i64 s.state))
  obtain ⟨d, vi, vp, vt, vo, L, hL, hA, hC, hT⟩ := h
  have c0 : w.cell? ⟨p, 0, none⟩ = some (.int .i64 s.state) := parCell hC 0
  have c9 : w.cell? ⟨p, 9, none⟩ = some (.int .i64 s.frm) := parCell hC 9
  have fz := blk_free hC.blk
  clear hL hA hC hT
  go_enter Tryz.func203, Tryz.ntmps203
  go_wp2_with fail
  refine (begin_inv 3 H2.out).mono ?_
  rintro e w2 ⟨rfl, hw2, hi2⟩
  have HW2 := Lib.hid (HG.out.trans hw2)
  have HI2 := Lib.hid hi2
  clear hw2 hi2
  go_wp2_with fail
  go_end0
  exact ⟨rfl, HW2.out, HI2.out⟩
end Go.Proofs.YtlfdgkiliegaiaaGreatDoor

/- Package vtparse: digit. -/
namespace Go.Proofs.YtlfdgkiliegaiaaGreatDoor
open Go.RowKit
set_option maxRecDepth 100000

def PSt.started (s : PSt) : PSt := if s.any then s else { s with any := true, params := [-1] }
def clamp (x d : Int) : Int := min (10 * max x 0 + d) 9999
def setLast (l : List Int) (d : Int) : List Int := l.set (l.length - 1) (clamp (l.getD (l.length - 1) 0) d)
def PSt.digit (s : PSt) (d : Int) : PSt :=
  if 0 ≤ d then { s.started with params := setLast s.started.params d }
  else if s.started.params.length ≤ 32 then { s.started with params := s.started.params ++ [-1] } else s.started

theorem ownC_len {P : Program} {t e : TypeId} {w : World} {base size : Nat} {v : Value} {n : Nat} {xs : List Value} (ht : P.underlying t = some (.slice e)) (h : OwnC w base size v n xs) (ty : TypeId) (wx : World) : (Builtin.len_ #[t] ty #[v]).run P wx = .ok (.int .i64 n) wx := by
  rcases h.2 with ⟨rfl, rfl⟩ | ⟨b, off, c, rfl, _⟩ <;> simp [Builtin.len_, run_underlying ht, goInt]
theorem ints_elem : Elem Tryz.prog 63 3 1 8 (.int .i64 0) := ⟨Tryz.underlying63, by kernel_rfl, rfl, by decide⟩
theorem ownC_at {P : Program} {t e : TypeId} {w : World} {v : Value} {n : Nat} {xs : List Value} (ht : P.underlying t = some (.slice e)) (hs : (P.info? e).map (·.size) = some 1) (h : OwnC w 0 1 v n xs) (j : Nat) (hj : j < n) :
    ∃ b off c, v = .slice (some ⟨b, off, none⟩) n c ∧ (∀ wx, (Instr.indexAt t v (.int .i64 j)).run P wx = .ok (.pointer (some ⟨b, off + j, none⟩)) wx) ∧ (∃ x, xs[j]? = some x ∧ w.cell? ⟨b, off + j, none⟩ = some x) ∧ w.frozen? ⟨b, off + j, none⟩ = false ∧
      ∀ y, OwnC (w.setCell ⟨b, off + j, none⟩ y) 0 1 v n (xs.set j y) := by
  obtain ⟨h1, h2⟩ := id h
  rcases h2 with ⟨_, h0⟩ | ⟨b, off, c, rfl, hb, hbs, hnc, hcm, hcells, hxs⟩
  · omega
  · obtain ⟨i, hi, hi2⟩ := Option.map_eq_some_iff.1 hs
    have hj' : (0 : Int) ≤ (j : Int) ∧ (j : Int) < (n : Int) := by omega
    have hjx : j < xs.length := by omega
    refine ⟨b, off, c, rfl, fun wx => ?_, ⟨xs[j], by rw [List.getElem?_eq_getElem hjx], hxs j _ (by rw [List.getElem?_eq_getElem hjx])⟩, (hcells j (by omega)).2, fun y => ?_⟩
    · simp [Instr.indexAt, asIntOf, run_underlying ht, hj', sizeOf, typeInfo, hi, hi2, add_eq]
      omega
    · have hcell : ∀ k, k ≠ j → (w.setCell ⟨b, off + j, none⟩ y).cell? ⟨b, off + k, none⟩ = w.cell? ⟨b, off + k, none⟩ := fun k hk => World.cell?_setCell_other w _ _ y (by intro e; injection e with _ e; omega)
      have hsame : (w.setCell ⟨b, off + j, none⟩ y).cell? ⟨b, off + j, none⟩ = some y := World.cell?_setCell_same' w _ y (hcells j (by omega)).1
      refine ⟨by rw [List.length_set]; exact h1, .inr ⟨b, off, c, rfl, hb, by simpa using hbs, hnc, hcm, fun k hk => ⟨?_, ?_⟩, fun k u hu => ?_⟩⟩
      · by_cases e : k = j
        · subst e; rw [hsame]; rfl
        · rw [hcell k e]; exact (hcells k hk).1
      · rw [World.frozen?_setCell]; exact (hcells k hk).2
      · by_cases e : k = j
        · subst e
          rw [hsame]
          rw [List.getElem?_set_self (by omega)] at hu
          exact hu
        · rw [hcell k e]
          rw [List.getElem?_set_ne (fun e' => e e'.symm)] at hu
          exact hxs k u hu

theorem ints_vals_set (l : List Int) (j : Nat) (x : Int) : (l.map (Value.int .i64)).set j (.int .i64 x) = (l.set j x).map (Value.int .i64) := by rw [List.map_set]
theorem digit_inv {G : Nat → Prop} {T : Nat → Nat} {p o : Nat} {w : World} {s : PSt} {acts : List VAct} (dg : Int) (h : InvT G true T p o w s acts) (hd0 : -1 ≤ dg) (hd1 : dg ≤ 9) (hp : s.any = true → s.params ≠ []) (hl : s.params.length ≤ 40) (hr : ∀ x ∈ s.params, -1 ≤ x ∧ x ≤ 9999) :
    Calls Tryz.prog 204 #[.pointer (some ⟨p, 0, none⟩), .int .i64 dg] w fun e w' => e = .returned (.tuple #[]) ∧ Within G w w' ∧ InvO G true p o w' (s.digit dg) acts := by
  have HR := Lib.hid (show (s.started.params ≠ [] ∧ s.started.params.length ≤ 40 ∧ (∀ x ∈ s.started.params, -1 ≤ x ∧ x ≤ 9999)) ∧ s.started.any = true by
    unfold PSt.started
    cases ha : s.any
    · exact ⟨⟨by simp, by simp, by simp⟩, rfl⟩
    · exact ⟨⟨hp ha, hl, hr⟩, ha⟩)
  clear hp hl hr
  have H := Lib.hid h
  have HS := Lib.hid (show s.started = if s.any then s else { s with any := true, params := [-1] } from rfl)
  obtain ⟨d, vi, vp, vt, vo, L, hL, hA, hC, hT⟩ := h
  have c5 : w.cell? ⟨p, 5, none⟩ = some (.bool s.any) := parCell hC 5
  have c4 : w.cell? ⟨p, 4, none⟩ = some vp := parCell hC 4
  have fz := blk_free hC.blk
  have hpl := heap_lt hC.blk
  have hb1 := blk_alloc hC.blk (.cells #[.int .i64 (-1)] 3)
  have a5 : (w.alloc (.cells #[.int .i64 (-1)] 3)).cell? ⟨p, 5, none⟩ = some (.bool s.any) := blk_cell hb1 5
  have a4 : (w.alloc (.cells #[.int .i64 (-1)] 3)).cell? ⟨p, 4, none⟩ = some vp := blk_cell hb1 4
  have afz : ∀ i, (w.alloc (.cells #[.int .i64 (-1)] 3)).frozen? ⟨p, i, none⟩ = false := blk_free hb1
  have HC := Lib.hid hC
  have HA := Lib.hid hA
  have HT := Lib.hid hT
  have HL := Lib.hid hL
  clear hC hA hT hL hb1
  go_enter Tryz.func204, Tryz.ntmps204
  go_upto_if 9 with fail
  go_cut [10] (fun _ wx => Within G w wx ∧ InvO G true p o wx s.started acts)
  case first =>
    cases hany : s.any
    · rw [hany] at HS c5 a5
      go_wp2_with fail
      go_meet
      have hg := gb_set (gb_set (gb_refl (w.alloc (.cells #[.int .i64 (-1)] 3)) (some p)) 5 (.bool true)) 4 (.slice (some ⟨w.heap.size, 0, none⟩) 1 1)
      have hb := blk_set (blk_set (blk_alloc HC.out.blk (.cells #[.int .i64 (-1)] 3)) 5 (.bool true)) 4 (.slice (some ⟨w.heap.size, 0, none⟩) 1 1)
      have ho : OwnC (w.alloc (.cells #[.int .i64 (-1)] 3)) 0 1 (.slice (some ⟨w.heap.size, 0, none⟩) 1 1) 1 [.int .i64 (-1)] := ownC_own (ownsRow_new (base := 0) #[.int .i64 (-1)] [.int .i64 (-1)] rfl (by omega) (by decide) rfl rfl)
      obtain ⟨T', hw', hr', hrow, hpb, hfin⟩ := grow_inv (t := 5) (v := nilS) (n := 0) (xs := []) (w1 := w) (.inr (.inl rfl)) rfl HA.out HC.out HT.out (row_nil _ _ _ _) (gb_refl _ _) (World.grownBy_alloc w (.cells #[.int .i64 (-1)] 3) none) ho (fun k hk => by simp [Value.ownBlock] at hk; exact .inr (by omega))
      obtain ⟨hw'', hi''⟩ := hfin _ { s with any := true, params := [-1] } vi (.slice (some ⟨w.heap.size, 0, none⟩) 1 1) vt hg hb rfl (hrow 4 1 _ _ _ (by decide) HC.out.ri) hr' (hrow 6 1 _ _ _ (by decide) HC.out.rt)
      have hcomm : ((w.alloc (.cells #[.int .i64 (-1)] 3)).setCell ⟨p, 5, none⟩ (.bool true)).setCell ⟨p, 4, none⟩ (.slice (some ⟨w.heap.size, 0, none⟩) 1 1) = ((w.setCell ⟨p, 5, none⟩ (.bool true)).setCell ⟨p, 4, none⟩ (.slice (some ⟨w.heap.size, 0, none⟩) 1 1)).alloc (.cells #[.int .i64 (-1)] 3) := by
        rw [World.setCell_alloc_past _ p 5 _ hpl, World.setCell_alloc_past _ p 4 _ (by simpa using hpl)]
      rw [HS.out, ← HL.out, ← hcomm, if_neg (by decide)]
      exact ⟨hw'', T', hi''⟩
    · rw [hany] at HS c5 a5
      go_wp2_with fail
      go_meet
      rw [HS.out]
      exact ⟨Within.refl _ _, T, H.out⟩
  case rest =>
    obtain ⟨hw, T2, hi⟩ := hcut
    have HW := Lib.hid hw
    have HI := Lib.hid hi
    clear hw c5 c4 fz a5 a4 afz hpl
    have HD := Lib.hid (show s.digit dg = if 0 ≤ dg then { s.started with params := setLast s.started.params dg } else if s.started.params.length ≤ 32 then { s.started with params := s.started.params ++ [-1] } else s.started from rfl)
    generalize hsd : s.digit dg = sd at *
    replace hsd := Lib.hid hsd
    generalize s.started = s1 at *
    clear HS HC HA HT HL H
    obtain ⟨d, vi, vp, vt, vo, L, hL, hA, hC, hT⟩ := hi
    have c4 : wc.cell? ⟨p, 4, none⟩ = some vp := parCell hC 4
    have fz := blk_free hC.blk
    have hrp := hC.rp rfl
    have hlen := rd_len Tryz.underlying63 (isRd_own hrp.own)
    have hne := List.length_pos_iff.2 HR.out.1.1
    have hl40 := HR.out.1.2.1
    have HC := Lib.hid hC
    have HA := Lib.hid hA
    have HT := Lib.hid hT
    have HL := Lib.hid hL
    have HRP := Lib.hid hrp
    clear hC hA hT hL hrp
    obtain ⟨xp, mp, cp', rfl⟩ := ownC_form HRP.out.own
    by_cases hdg : 0 ≤ dg
    · rw [if_pos hdg] at HD
      have hdg' : decide (0 ≤ dg) = true := decide_eq_true hdg
      obtain ⟨b, off, c, hvp, had, ⟨x, hx1, hx2⟩, hfz, hset⟩ := ownC_at Tryz.underlying63 (by kernel_rfl) HRP.out.own (s1.params.length - 1) (by omega)
      have hxe : x = .int .i64 (s1.params.getD (s1.params.length - 1) 0) := by
        rw [List.getElem?_map, getD_of _ _ (by omega)] at hx1
        exact (Option.some.inj hx1).symm
      subst hxe
      have hji : (((s1.params.length - 1 : Nat)) : Int) = (s1.params.length : Int) - 1 := by omega
      rw [hji] at had
      have hxr := HR.out.1.2.2 (s1.params.getD (s1.params.length - 1) 0) (by rw [List.getD_eq_getElem?_getD, List.getElem?_eq_getElem (by omega)]; exact List.getElem_mem _)
      have HSL := Lib.hid (show setLast s1.params dg = s1.params.set (s1.params.length - 1) (clamp (s1.params.getD (s1.params.length - 1) 0) dg) from rfl)
      have HCL := Lib.hid (show clamp (s1.params.getD (s1.params.length - 1) 0) dg = min (10 * max (s1.params.getD (s1.params.length - 1) 0) 0 + dg) 9999 from rfl)
      generalize s1.params.getD (s1.params.length - 1) 0 = x at *
      have HSET := Lib.hid (hset (.int .i64 (clamp x dg)))
      rw [ints_vals_set] at HSET
      have HVP := Lib.hid hvp
      have HJI := Lib.hid hji
      clear hset hx1 hvp hji
      go_upto_region 4 with fail
      go_still_tail 18, (by kernel_rfl)
      change wpList _ _ _ _ _ wc.drew
      have hfz' : wc.drew.frozen? ⟨b, off + (s1.params.length - 1), none⟩ = false := hfz
      have hx2' : wc.drew.cell? ⟨b, off + (s1.params.length - 1), none⟩ = some (.int .i64 x) := hx2
      have HSET2 := Lib.hid (ownC_grown (w := wc.setCell ⟨b, off + (s1.params.length - 1), none⟩ (.int .i64 (clamp x dg))) (w' := wc.drew.setCell ⟨b, off + (s1.params.length - 1), none⟩ (.int .i64 (clamp x dg))) (row := none) HSET.out ⟨rfl, rfl, rfl, Nat.le_refl _, fun _ _ _ => rfl⟩ (by intro k _ e; simp at e))
      have HB := Lib.hid (show (Value.slice xp mp cp').ownBlock = some b by rw [HVP.out]; rfl)
      clear hfz hx2
      generalize hwd : wc.drew = wd at *
      go_wp2_with fail
      go_end0
      have hCd : Core true T2 p d (tellV o) vi (.slice xp mp cp') vt wd s1 := by rw [← hwd]; exact HC.out.mod (mod_drew T2 wc) id id id id id
      have hTd : Told G T2 o vo wd L := by rw [← hwd]; exact HT.out.mod (mod_drew T2 wc) id id id
      have hAd : Arena G T2 wd := by rw [← hwd]; exact HA.out.mono (Nat.le_refl _)
      have hRd := hCd.rp rfl
      have ho := HSET2.out
      have hln : s1.params.length = (s1.params.set (s1.params.length - 1) (clamp x dg)).length := by rw [List.length_set]
      obtain ⟨T', hw', hr', hrow, hpb, hfin⟩ := grow_inv (t := 5) (.inr (.inl rfl)) rfl hAd hCd hTd hRd (gb_refl wd none) (by rw [HB.out]; exact gb_set (gb_refl wd (some b)) (off + (s1.params.length - 1)) (.int .i64 (clamp x dg))) ho (fun k hk => .inl hk)
      have hr'' : Row T' 5 1 (.slice xp mp cp') (s1.params.set (s1.params.length - 1) (clamp x dg)).length ((s1.params.set (s1.params.length - 1) (clamp x dg)).map (Value.int .i64)) (wd.setCell ⟨b, off + (s1.params.length - 1), none⟩ (.int .i64 (clamp x dg))) := by rw [← hln]; exact hr'
      obtain ⟨hw'', hi''⟩ := hfin _ { s1 with params := setLast s1.params dg } vi (.slice xp mp cp') vt (gb_refl _ _) (hpb.trans hCd.blk) rfl (hrow 4 1 _ _ _ (by decide) hCd.ri) (by rw [HSL.out]; exact hr'') (hrow 6 1 _ _ _ (by decide) hCd.rt)
      rw [hsd.out, HD.out, ← HL.out]
      exact ⟨rfl, HW.out.trans ((hwd ▸ Within.drew G wc).trans hw''), T', hi''⟩
    · rw [if_neg hdg] at HD
      have hdg' : decide (0 ≤ dg) = false := decide_eq_false hdg
      by_cases h32 : s1.params.length ≤ 32
      · rw [if_pos h32] at HD
        have h32' : decide ((s1.params.length : Int) - 1 < 32) = true := decide_eq_true (by omega)
        have hb1 := blk_alloc HC.out.blk (.cells #[.int .i64 (-1)] 3)
        have HB1 := Lib.hid hb1
        clear hb1
        go_wp2_with (at_builtin; refine held ?_)
        unfold Held
        refine wpList_appD ints_elem rfl rfl 0 (ownC_alloc HRP.out.own _) rfl (reads_one _ _ _) rfl (int_one _ _) (by unfold maxLen; omega) (by omega) (by omega) ?_
        intro v6 w6 o6 g6 n6
        obtain ⟨x6, m6, c6, rfl⟩ := ownC_form o6
        have hb6 := blk_grown HB1.out g6 (fun e => by have h1 := HRP.out.tag p e.symm; have h2 := HC.out.tp; omega)
        have cc6 : w6.cell? ⟨p, 4, none⟩ = some (.slice xp mp cp') := blk_cell hb6 4
        have fz6 := blk_free hb6
        have HB6 := Lib.hid hb6
        have ho6 : OwnC w6 0 1 (.slice x6 m6 c6) (s1.params ++ [-1]).length ((s1.params ++ [-1]).map (Value.int .i64)) := by
          rw [List.length_append, List.map_append]; exact o6
        obtain ⟨T', hw', hr', hrow, hpb, hfin⟩ := grow_inv (t := 5) (.inr (.inl rfl)) rfl HA.out HC.out HT.out HRP.out (World.grownBy_alloc wc _ none) g6 ho6 n6
        obtain ⟨hw'', hi''⟩ := hfin (w6.setCell ⟨p, 4, none⟩ (.slice x6 m6 c6)) { s1 with params := s1.params ++ [-1] } vi (.slice x6 m6 c6) vt (gb_set (gb_refl _ _) _ _) (blk_set HB6.out 4 _) rfl (hrow 4 1 _ _ _ (by decide) HC.out.ri) hr' (hrow 6 1 _ _ _ (by decide) HC.out.rt)
        have HW2 := Lib.hid (HW.out.trans hw'')
        have HI2 := Lib.hid hi''
        clear o6 g6 n6 ho6 hw' hr' hrow hpb hfin hw'' hi'' hb6
        go_wp2_with fail
        go_end0
        rw [hsd.out, HD.out, ← HL.out]
        exact ⟨rfl, HW2.out, T', HI2.out⟩
      · rw [if_neg h32] at HD
        have h32' : decide ((s1.params.length : Int) - 1 < 32) = false := decide_eq_false (by omega)
        go_wp2_with fail
        go_end0
        rw [hsd.out, HD.out]
        exact ⟨rfl, HW.out, T2, HI.out⟩
end Go.Proofs.YtlfdgkiliegaiaaGreatDoor

/- Package vtparse: escaped. -/
namespace Go.Proofs.YtlfdgkiliegaiaaGreatDoor
open Go.RowKit
set_option maxRecDepth 100000

def PSt.esced (s : PSt) (b : UInt8) : PSt × List VAct :=
  if betweenL (b.toNat : Int) then (if s.inter.length = 2 then (s.passed, []) else ({ s with inter := s.inter ++ [b] }, []))
  else if s.inter.length = 0 then
    if (b.toNat : Int) = 91 then (s.begun 2, [])
    else if (b.toNat : Int) = 93 then (s.begun 4, [])
    else if (b.toNat : Int) = 80 then (s.begun 5, [])
    else if (b.toNat : Int) = 88 ∨ (b.toNat : Int) = 94 ∨ (b.toNat : Int) = 95 then (s.begun 7, [])
    else if (b.toNat : Int) = 92 ∧ s.ended = true then (s.begun 0, [])
    else (s.begun 0, [escAct b s.inter])
  else (s.begun 0, [escAct b s.inter])
theorem ret0 {P : Program} {fn : Func} {R : Ending → World → Prop} {a : Act} {w : World} (h : fn.results = #[]) (hd : a.defers = []) (hR : R (.returned (.tuple #[])) w) :
    bodyPost P fn R .ret a w := bodyPost_ret (results_none h _ _ _) hd hR
set_option maxRecDepth 100000 in
set_option maxHeartbeats 2000000 in
theorem escaped_inv {G : Nat → Prop} {T : Nat → Nat} {p o : Nat} {w : World} {s : PSt} {acts : List VAct} (b : UInt8) (h : InvT G true T p o w s acts) (hi3 : s.inter.length ≤ 10) (hn : acts.length ≤ 1000000000) :
    Calls Tryz.prog 150 #[.pointer (some ⟨p, 0, none⟩), .int .u8 (b.toNat : Int)] w fun e w' => e = .returned (.tuple #[]) ∧ Within G w w' ∧ InvO G true p o w' (s.esced b).1 (acts ++ (s.esced b).2) := by
  have H := Lib.hid h
  have HE := Lib.hid (show s.esced b = if betweenL (b.toNat : Int) then (if s.inter.length = 2 then (s.passed, []) else ({ s with inter := s.inter ++ [b] }, []))
    else if s.inter.length = 0 then
      if (b.toNat : Int) = 91 then (s.begun 2, [])
      else if (b.toNat : Int) = 93 then (s.begun 4, [])
      else if (b.toNat : Int) = 80 then (s.begun 5, [])
      else if (b.toNat : Int) = 88 ∨ (b.toNat : Int) = 94 ∨ (b.toNat : Int) = 95 then (s.begun 7, [])
      else if (b.toNat : Int) = 92 ∧ s.ended = true then (s.begun 0, [])
      else (s.begun 0, [escAct b s.inter])
    else (s.begun 0, [escAct b s.inter]) from rfl)
  obtain ⟨d, vi, vp, vt, vo, L, hL, hA, hC, hT⟩ := h
  have c2 : w.cell? ⟨p, 2, none⟩ = some (.func (.func 105) #[] #[.pointer (some ⟨o, 0, none⟩)]) := parCell hC 2
  have c3 : w.cell? ⟨p, 3, none⟩ = some vi := parCell hC 3
  have c8 : w.cell? ⟨p, 8, none⟩ = some (.bool s.ended) := parCell hC 8
  have fz := blk_free hC.blk
  have hri := hC.ri
  rw [byteVals] at hri
  have hil : ∀ (ty : TypeId) (wx : World), (Builtin.len_ #[38] ty #[vi]).run Tryz.prog wx = .ok (.int .i64 s.inter.length) wx := ownC_len Tryz.underlying38 hC.ri.own
  have hcti : (convert 38 9 vi).run Tryz.prog w.drew = .ok (.string ⟨s.inter.toArray⟩) w.drew := run_bytes_reads (P := Tryz.prog) (w := w.drew) Tryz.underlying38 Tryz.underlying5 Tryz.underlying9 (ownC_reads hC.ri.own)
  obtain ⟨xi, mi, ci, rfl⟩ := ownC_form hC.ri.own
  have HC := Lib.hid hC
  have HA := Lib.hid hA
  have HT := Lib.hid hT
  have HL := Lib.hid hL
  clear hA hC hT hL hri
  have HB1 := Lib.hid (blk_alloc HC.out.blk (.cells #[.int .u8 (b.toNat : Int)] 5))
  cases hbt : betweenL (b.toNat : Int)
  rotate_left
  · rw [hbt, if_pos rfl] at HE
    by_cases h2 : s.inter.length = 2
    · rw [if_pos h2] at HE
      have h2' : ((s.inter.length : Int) == 2) = true := by simp; omega
      go_enter Tryz.func150, Tryz.ntmps150
      go_wp2_with fail
      refine (between_any (b.toNat : Int) _).mono ?_
      rintro e w2 ⟨rfl, hw⟩
      rw [hw]
      clear hw
      go_wp2_with fail
      refine (pass_inv H.out).mono ?_
      rintro e w2 ⟨rfl, hw2, hi2⟩
      have HW2 := Lib.hid hw2
      have HI2 := Lib.hid hi2
      clear hw2 hi2
      go_wp2_with fail
      refine ret0 rfl rfl ?_
      rw [HE.out, List.append_nil]
      exact ⟨rfl, HW2.out, T, HI2.out⟩
    · rw [if_neg h2] at HE
      have h2' : ((s.inter.length : Int) == 2) = false := by simp; omega
      go_enter Tryz.func150, Tryz.ntmps150
      go_wp2_with fail
      refine (between_any (b.toNat : Int) _).mono ?_
      rintro e w2 ⟨rfl, hw⟩
      rw [hw]
      clear hw
      go_wp2_with (at_builtin; refine held ?_)
      unfold Held
      refine wpList_appD bytes_elem rfl rfl 0 (ownC_alloc HC.out.ri.own _) rfl (reads_one _ _ _) rfl (int_one _ _) (by unfold maxLen; omega) (by omega) (by omega) ?_
      intro v6 w6 o6 g6 n6
      obtain ⟨x6, m6, c6, rfl⟩ := ownC_form o6
      have hb6 := blk_grown HB1.out g6 (fun e => by have h1 := HC.out.ri.tag p e.symm; have h2 := HC.out.tp; omega)
      have cc6 : w6.cell? ⟨p, 3, none⟩ = some (.slice xi mi ci) := blk_cell hb6 3
      have fz6 := blk_free hb6
      have HB6 := Lib.hid hb6
      have ho6 : OwnC w6 0 1 (.slice x6 m6 c6) (s.inter ++ [b]).length (byteVals (s.inter ++ [b])) := by
        rw [List.length_append, byteVals_append]; exact o6
      obtain ⟨T', hw', hr', hrow, hpb, hfin⟩ := grow_inv (t := 4) (.inl rfl) rfl HA.out HC.out HT.out HC.out.ri (World.grownBy_alloc w _ none) g6 ho6 n6
      obtain ⟨hw'', hi''⟩ := hfin (w6.setCell ⟨p, 3, none⟩ (.slice x6 m6 c6)) { s with inter := s.inter ++ [b] } (.slice x6 m6 c6) vp vt (gb_set (gb_refl _ _) _ _) (blk_set HB6.out 3 _) rfl hr' (hrow 5 1 _ _ _ (by decide) (HC.out.rp rfl)) (hrow 6 1 _ _ _ (by decide) HC.out.rt)
      have HW2 := Lib.hid hw''
      have HI2 := Lib.hid hi''
      clear o6 g6 n6 ho6 hw' hr' hrow hpb hfin hw'' hi'' hb6
      go_wp2_with fail
      refine ret0 rfl rfl ?_
      rw [HE.out, ← HL.out, List.append_nil]
      exact ⟨rfl, HW2.out, T', HI2.out⟩
  rw [hbt, if_neg (by decide)] at HE
  by_cases h0 : s.inter.length = 0
  rotate_left
  · rw [if_neg h0] at HE
    have h0' : ((s.inter.length : Int) == 0) = false := by rw [beq_eq_false_iff_ne]; omega
    go_enter Tryz.func150, Tryz.ntmps150
    go_wp2_with fail
    refine (between_any (b.toNat : Int) _).mono ?_
    rintro e w2 ⟨rfl, hw⟩
    rw [hbt, hw]
    clear hw
    go_upto_region 19 with fail
    go_still_tail 11, (by kernel_rfl)
    change wpList _ _ _ _ _ w.drew
    have HTl := Lib.hid (tell_inv (escAct b s.inter) rfl H.out.drew hn)
    generalize hwd : w.drew = wd at *
    go_wp2_with fail
    refine HTl.out.mono ?_
    rintro e w2 ⟨rfl, hw2, m2, T2, ht2, hi2⟩
    have HW2 := Lib.hid ((hwd ▸ Within.drew G w).trans hw2)
    have HI2 := Lib.hid hi2
    clear hw2 m2 ht2 hi2
    go_wp2_with fail
    refine (begin_inv 0 HI2.out).mono ?_
    rintro e w3 ⟨rfl, hw3, hi3⟩
    have HW3 := Lib.hid (HW2.out.trans hw3)
    have HI3 := Lib.hid hi3
    clear hw3 hi3
    go_wp2_with fail
    go_end0
    rw [HE.out]
    exact ⟨rfl, HW3.out, T2, HI3.out⟩
  rw [if_pos h0] at HE
  have h0' : ((s.inter.length : Int) == 0) = true := by rw [beq_iff_eq]; omega
  clear h0
  by_cases hb0 : (b.toNat : Int) = 91
  · rw [if_pos hb0] at HE
    have hb0' : ((b.toNat : Int) == 91) = true := beq_iff_eq.2 hb0
    clear hb0
    go_enter Tryz.func150, Tryz.ntmps150
    go_wp2_with fail
    refine (between_any (b.toNat : Int) _).mono ?_
    rintro e w2 ⟨rfl, hw⟩
    rw [hbt, hw]
    clear hw
    go_wp2_with fail
    refine (begin_inv 2 H.out).mono ?_
    rintro e w2 ⟨rfl, hw2, hi2⟩
    have HW2 := Lib.hid hw2
    have HI2 := Lib.hid hi2
    clear hw2 hi2
    go_wp2_with fail
    refine ret0 rfl rfl ?_
    rw [HE.out, List.append_nil]
    exact ⟨rfl, HW2.out, T, HI2.out⟩
  rw [if_neg hb0] at HE
  have hb0' : ((b.toNat : Int) == 91) = false := beq_eq_false_iff_ne.2 hb0
  by_cases hb1 : (b.toNat : Int) = 93
  · rw [if_pos hb1] at HE
    have hb1' : ((b.toNat : Int) == 93) = true := beq_iff_eq.2 hb1
    clear hb1
    go_enter Tryz.func150, Tryz.ntmps150
    go_wp2_with fail
    refine (between_any (b.toNat : Int) _).mono ?_
    rintro e w2 ⟨rfl, hw⟩
    rw [hbt, hw]
    clear hw
    go_wp2_with fail
    refine (begin_inv 4 H.out).mono ?_
    rintro e w2 ⟨rfl, hw2, hi2⟩
    have HW2 := Lib.hid hw2
    have HI2 := Lib.hid hi2
    clear hw2 hi2
    go_wp2_with fail
    refine ret0 rfl rfl ?_
    rw [HE.out, List.append_nil]
    exact ⟨rfl, HW2.out, T, HI2.out⟩
  rw [if_neg hb1] at HE
  have hb1' : ((b.toNat : Int) == 93) = false := beq_eq_false_iff_ne.2 hb1
  by_cases hb2 : (b.toNat : Int) = 80
  · rw [if_pos hb2] at HE
    have hb2' : ((b.toNat : Int) == 80) = true := beq_iff_eq.2 hb2
    clear hb2
    go_enter Tryz.func150, Tryz.ntmps150
    go_wp2_with fail
    refine (between_any (b.toNat : Int) _).mono ?_
    rintro e w2 ⟨rfl, hw⟩
    rw [hbt, hw]
    clear hw
    go_wp2_with fail
    refine (begin_inv 5 H.out).mono ?_
    rintro e w2 ⟨rfl, hw2, hi2⟩
    have HW2 := Lib.hid hw2
    have HI2 := Lib.hid hi2
    clear hw2 hi2
    go_wp2_with fail
    refine ret0 rfl rfl ?_
    rw [HE.out, List.append_nil]
    exact ⟨rfl, HW2.out, T, HI2.out⟩
  rw [if_neg hb2] at HE
  have hb2' : ((b.toNat : Int) == 80) = false := beq_eq_false_iff_ne.2 hb2
  by_cases hx : (b.toNat : Int) = 88 ∨ (b.toNat : Int) = 94 ∨ (b.toNat : Int) = 95
  · rw [if_pos hx] at HE
    rcases hx with hx | hx | hx
    · have hx' : ((b.toNat : Int) == 88) = true := beq_iff_eq.2 hx
      clear hx
      go_enter Tryz.func150, Tryz.ntmps150
      go_wp2_with fail
      refine (between_any (b.toNat : Int) _).mono ?_
      rintro e w2 ⟨rfl, hw⟩
      rw [hbt, hw]
      clear hw
      go_wp2_with fail
      refine (begin_inv 7 H.out).mono ?_
      rintro e w2 ⟨rfl, hw2, hi2⟩
      have HW2 := Lib.hid hw2
      have HI2 := Lib.hid hi2
      clear hw2 hi2
      go_wp2_with fail
      refine ret0 rfl rfl ?_
      rw [HE.out, List.append_nil]
      exact ⟨rfl, HW2.out, T, HI2.out⟩
    · have hx0 : ((b.toNat : Int) == 88) = false := by rw [beq_eq_false_iff_ne]; omega
      have hx' : ((b.toNat : Int) == 94) = true := beq_iff_eq.2 hx
      clear hx
      go_enter Tryz.func150, Tryz.ntmps150
      go_wp2_with fail
      refine (between_any (b.toNat : Int) _).mono ?_
      rintro e w2 ⟨rfl, hw⟩
      rw [hbt, hw]
      clear hw
      go_wp2_with fail
      refine (begin_inv 7 H.out).mono ?_
      rintro e w2 ⟨rfl, hw2, hi2⟩
      have HW2 := Lib.hid hw2
      have HI2 := Lib.hid hi2
      clear hw2 hi2
      go_wp2_with fail
      refine ret0 rfl rfl ?_
      rw [HE.out, List.append_nil]
      exact ⟨rfl, HW2.out, T, HI2.out⟩
    · have hx0 : ((b.toNat : Int) == 88) = false := by rw [beq_eq_false_iff_ne]; omega
      have hx1 : ((b.toNat : Int) == 94) = false := by rw [beq_eq_false_iff_ne]; omega
      have hx' : ((b.toNat : Int) == 95) = true := beq_iff_eq.2 hx
      clear hx
      go_enter Tryz.func150, Tryz.ntmps150
      go_wp2_with fail
      refine (between_any (b.toNat : Int) _).mono ?_
      rintro e w2 ⟨rfl, hw⟩
      rw [hbt, hw]
      clear hw
      go_wp2_with fail
      refine (begin_inv 7 H.out).mono ?_
      rintro e w2 ⟨rfl, hw2, hi2⟩
      have HW2 := Lib.hid hw2
      have HI2 := Lib.hid hi2
      clear hw2 hi2
      go_wp2_with fail
      refine ret0 rfl rfl ?_
      rw [HE.out, List.append_nil]
      exact ⟨rfl, HW2.out, T, HI2.out⟩
  rw [if_neg hx] at HE
  have hx0 : ((b.toNat : Int) == 88) = false := by rw [beq_eq_false_iff_ne]; omega
  have hx1 : ((b.toNat : Int) == 94) = false := by rw [beq_eq_false_iff_ne]; omega
  have hx2 : ((b.toNat : Int) == 95) = false := by rw [beq_eq_false_iff_ne]; omega
  clear hx hb0 hb1 hb2
  by_cases h92 : (b.toNat : Int) = 92
  · have h92' : ((b.toNat : Int) == 92) = true := beq_iff_eq.2 h92
    cases hen : s.ended
    · rw [hen, if_neg (by simp)] at HE
      rw [hen] at c8
      clear h92
      go_enter Tryz.func150, Tryz.ntmps150
      go_wp2_with fail
      refine (between_any (b.toNat : Int) _).mono ?_
      rintro e w2 ⟨rfl, hw⟩
      rw [hbt, hw]
      clear hw
      go_upto_region 19 with fail
      go_still_tail 11, (by kernel_rfl)
      change wpList _ _ _ _ _ w.drew
      have HTl := Lib.hid (tell_inv (escAct b s.inter) rfl H.out.drew hn)
      generalize hwd : w.drew = wd at *
      go_wp2_with fail
      refine HTl.out.mono ?_
      rintro e w2 ⟨rfl, hw2, m2, T2, ht2, hi2⟩
      have HW2 := Lib.hid ((hwd ▸ Within.drew G w).trans hw2)
      have HI2 := Lib.hid hi2
      clear hw2 m2 ht2 hi2
      go_wp2_with fail
      refine (begin_inv 0 HI2.out).mono ?_
      rintro e w3 ⟨rfl, hw3, hi3⟩
      have HW3 := Lib.hid (HW2.out.trans hw3)
      have HI3 := Lib.hid hi3
      clear hw3 hi3
      go_wp2_with fail
      go_end0
      rw [HE.out]
      exact ⟨rfl, HW3.out, T2, HI3.out⟩
    · rw [if_pos ⟨h92, hen⟩] at HE
      rw [hen] at c8
      clear h92
      go_enter Tryz.func150, Tryz.ntmps150
      go_wp2_with fail
      refine (between_any (b.toNat : Int) _).mono ?_
      rintro e w2 ⟨rfl, hw⟩
      rw [hbt, hw]
      clear hw
      go_wp2_with fail
      refine (begin_inv 0 H.out).mono ?_
      rintro e w2 ⟨rfl, hw2, hi2⟩
      have HW2 := Lib.hid hw2
      have HI2 := Lib.hid hi2
      clear hw2 hi2
      go_wp2_with fail
      refine ret0 rfl rfl ?_
      rw [HE.out, List.append_nil]
      exact ⟨rfl, HW2.out, T, HI2.out⟩
  · rw [if_neg (fun h => h92 h.1)] at HE
    have h92' : ((b.toNat : Int) == 92) = false := beq_eq_false_iff_ne.2 h92
    clear h92
    go_enter Tryz.func150, Tryz.ntmps150
    go_wp2_with fail
    refine (between_any (b.toNat : Int) _).mono ?_
    rintro e w2 ⟨rfl, hw⟩
    rw [hbt, hw]
    clear hw
    go_upto_region 19 with fail
    go_still_tail 11, (by kernel_rfl)
    change wpList _ _ _ _ _ w.drew
    have HTl := Lib.hid (tell_inv (escAct b s.inter) rfl H.out.drew hn)
    generalize hwd : w.drew = wd at *
    go_wp2_with fail
    refine HTl.out.mono ?_
    rintro e w2 ⟨rfl, hw2, m2, T2, ht2, hi2⟩
    have HW2 := Lib.hid ((hwd ▸ Within.drew G w).trans hw2)
    have HI2 := Lib.hid hi2
    clear hw2 m2 ht2 hi2
    go_wp2_with fail
    refine (begin_inv 0 HI2.out).mono ?_
    rintro e w3 ⟨rfl, hw3, hi3⟩
    have HW3 := Lib.hid (HW2.out.trans hw3)
    have HI3 := Lib.hid hi3
    clear hw3 hi3
    go_wp2_with fail
    go_end0
    rw [HE.out]
    exact ⟨rfl, HW3.out, T2, HI3.out⟩
end Go.Proofs.YtlfdgkiliegaiaaGreatDoor
