/- Buffers: append of whatever is appended (a string's bytes too). -/
import Derived.Test.YtjclgoiclbkgjaaDoorOwn2
import Derived.Deep.AppendSrc
import Derived.Lib.AppendStr
import Derived.Lib.FrozenHead
namespace Go.Proofs.YtjclgoiclbkgjaaDoor
open Go.RowKit

theorem src_reads {P : Program} {w : World} {t e : TypeId} {size : Nat} {y : Value} {m : Nat} {news : List Value} (ht : P.underlying t = some (.slice e)) (h : Reads w size y m news) (h1 : ∀ u ∈ news, u.oneCell' = true) : Src P size t y m news w := by
  rcases h with ⟨rfl, rfl, rfl⟩ | ⟨a, c, rfl, hl, hc⟩
  · exact Src.ofNil w ht 0
  · exact Src.ofSlice w ht a m c news hl hc h1

theorem run_appS {P : Program} (w : World) {t tx ty e : TypeId} {size bytes : Nat} {z : Value} (EI : Elem P t e size bytes z)
    (base : Nat) {v : Value} {n : Nat} {xs : List Value} (hown : OwnC w base size v n xs)
    {y : Value} {m : Nat} {news : List Value} (hs : Src P size tx y m news w)
    (h63 : n + m ≤ maxLen) (hbytes : (n + m) * bytes ≤ 140737488355328) (hbase : base ≤ w.heap.size) :
    ∃ v' w', (Builtin.append_ #[t, tx] ty #[v, y]).run P w = .ok v' w' ∧ OwnC w' base size v' (n + m) (xs ++ news) ∧ w.grownBy w' v.ownBlock ∧ (∀ k, v'.ownBlock = some k → v.ownBlock = some k ∨ w.heap.size ≤ k) := by
  obtain ⟨i, hi, hz0, hz1, hz2⟩ := info_parts EI.info
  have zs := EI.zs
  have pos := EI.pos
  have und := EI.und
  clear EI
  subst hz1 hz2
  have hlen : (xs ++ news).length = (n + m) * i.size := by rw [List.length_append, hown.1, hs.newsLen, Nat.add_mul]
  have grown : ∀ old : Nat, old < n + m →
      OwnC (w.drew.alloc (.cells ((xs ++ news).toArray ++ Builtin.zeroCells z.cells (grownCap w (n + m) old e - (n + m))) e)) base i.size
        (.slice (some ⟨w.heap.size, 0, none⟩) (n + m) (grownCap w (n + m) old e)) (n + m) (xs ++ news) := by
    intro old ho
    have hge := grownCap_ge w (n + m) old e
    have hcm : grownCap w (n + m) old e ≤ maxLen := grownCap_le_maxLen w (n + m) old e h63
    refine ownC_own (e := e) ⟨hlen, .inr ⟨w.heap.size, _, _, rfl, hbase, heap_alloc_new w.drew _, hge, hcm, ?_, ?_⟩⟩
    · simp only [Array.size_append, List.size_toArray, size_zeroCells, zs, hlen, ← Nat.add_mul]
      congr 1
      omega
    · simp only [Array.toList_append, List.append_assoc]
      rw [← List.append_assoc, ← hlen]
      exact List.take_left
  have hgr : ∀ (o : Obj) (row : Option Nat), w.grownBy (w.drew.alloc o) row := fun o row => ⟨rfl, rfl, rfl, by simp, fun k hk _ => heap_alloc_old w.drew _ hk⟩
  by_cases hm : m = 0
  · subst hm
    have hn : news = [] := List.eq_nil_of_length_eq_zero (by simpa using hs.newsLen)
    subst hn
    have hv : ∃ a c, v = .slice a n c ∧ n ≤ c := by
      rcases hown.2 with ⟨rfl, rfl⟩ | ⟨b, off, cap, rfl, _, _, h, _⟩
      · exact ⟨none, 0, rfl, Nat.le_refl _⟩
      · exact ⟨_, _, rfl, h⟩
    obtain ⟨a, c, rfl, hc⟩ := hv
    exact ⟨_, _, run_append_nothing w t tx ty e i und hi a n c hc y hs, by simpa using hown, gb_refl _ _, fun k hk => .inl hk⟩
  rcases hown.2 with ⟨hv, hn⟩ | ⟨b, off, cap, hv, hb, hbs, hnc, hcm, hcells, hxs⟩
  · subst hn
    have hx0 : xs = [] := List.eq_nil_of_length_eq_zero (by simpa using hown.1)
    subst hv hx0
    have hr := run_append_grow_src w t tx ty e i z und hi hz0 none 0 0 [] (by simp [Builtin.firstCells]) y m news hs (by omega) (by simp only [maxLen] at h63; omega) (growslice_fits (by omega) hbytes)
    exact ⟨_, _, hr, grown 0 (by omega), hgr _ _, fun k hk => .inr (by simp [Value.ownBlock] at hk; omega)⟩
  · subst hv
    by_cases hroom : n + m ≤ cap
    · have hbound : (n + m) * i.size ≤ cap * i.size := Nat.mul_le_mul_right _ hroom
      have hsplit : (n + m) * i.size = n * i.size + m * i.size := Nat.add_mul _ _ _
      have hl := hs.newsLen
      have hspare : ∀ j, j < news.length → (w.cell? ⟨b, off + n * i.size + j, none⟩).isSome = true ∧ w.frozen? ⟨b, off + n * i.size + j, none⟩ = false := by
        intro j hj
        rw [Nat.add_assoc]
        exact hcells _ (by omega)
      have hr := run_append_room_src w t tx ty e i und hi b off n cap y m news hs hroom (fun j hj => (hspare j hj).1) (fun j hj => (hspare j hj).2)
      refine ⟨_, _, hr, ⟨hlen, .inr ⟨b, off, cap, rfl, hb, ?_, hroom, hcm, fun j hj => ⟨?_, ?_⟩, fun j u hu => ?_⟩⟩, gb_setCells w b _ news, fun k hk => .inl hk⟩
      · exact Nat.lt_of_lt_of_le hbs (gb_setCells w b (off + n * i.size) news).size
      · by_cases hin : n * i.size ≤ j ∧ j < n * i.size + news.length
        · have := World.cell?_setCells_in b news (off + n * i.size) w (fun i hi => (hspare i hi).1) (j - n * i.size) (by omega)
          rw [show off + n * i.size + (j - n * i.size) = off + j from by omega] at this
          rw [this]; rfl
        · rw [World.cell?_setCells_out b news (off + n * i.size) w ⟨b, off + j, none⟩ (fun _ _ => by show off + j < _ ∨ _ ≤ off + j; omega)]
          exact (hcells j hj).1
      · rw [World.frozen?_setCells]; exact (hcells j hj).2
      · have hjl : j < (xs ++ news).length := (List.getElem?_eq_some_iff.1 hu).1
        have hx0 := hown.1
        by_cases hjx : j < xs.length
        · rw [List.getElem?_append_left hjx] at hu
          rw [World.cell?_setCells_out b news (off + n * i.size) w ⟨b, off + j, none⟩ (fun _ _ => by show off + j < _ ∨ _ ≤ off + j; omega)]
          exact hxs j u hu
        · rw [List.getElem?_append_right (by omega)] at hu
          have hjn : j - xs.length < news.length := (List.getElem?_eq_some_iff.1 hu).1
          have := World.cell?_setCells_in b news (off + n * i.size) w (fun i hi => (hspare i hi).1) (j - xs.length) hjn
          rw [show off + n * i.size + (j - xs.length) = off + j from by omega] at this
          rw [this, ← hu, List.getElem?_eq_getElem hjn]
    · have hold : (Builtin.firstCells i.size n (.slice (some ⟨b, off, none⟩) n cap)).run P w.drew = .ok xs.toArray w.drew :=
        run_firstCells_some w.drew i.size n ⟨b, off, none⟩ n cap xs hown.1 (fun j u hu => by rw [add_eq]; simpa using hxs j u hu)
      have hr := run_append_grow_src w t tx ty e i z und hi hz0 (some ⟨b, off, none⟩) n cap xs hold y m news hs (by omega) (by simp only [maxLen] at h63; omega) (growslice_fits (by omega) hbytes)
      exact ⟨_, _, hr, grown cap (by omega), hgr _ _, fun k hk => .inr (by simp [Value.ownBlock] at hk; omega)⟩

section
variable {P : Program} {w : World} {ops : Array Oper} {rest : List Oper} {o : Oper} {a : Act} {Q : Exit → Act → World → Prop}
/-- append(buffer, whatever). -/
theorem wpList_appS {t tx e : TypeId} {size bytes : Nat} {z : Value} (EI : Elem P t e size bytes z) (hgd : o.guard = none) {s x : Operand}
    (ho : o.op = .call { callee := .builtin .append, args := #[s, x], argTypes := #[t, tx] })
    (base : Nat) {v : Value} {n : Nat} {xs : List Value} (hown : OwnC w base size v n xs) (hs : a.eval s = v)
    {y : Value} {m : Nat} {news : List Value} (hr : Src P size tx y m news w) (hx : a.eval x = y)
    (h63 : n + m ≤ maxLen) (hbytes : (n + m) * bytes ≤ 140737488355328) (hbase : base ≤ w.heap.size)
    (h : ∀ v' w', OwnC w' base size v' (n + m) (xs ++ news) → w.grownBy w' v.ownBlock → (∀ k, v'.ownBlock = some k → v.ownBlock = some k ∨ w.heap.size ≤ k) → wpList P ops Q rest (a.put o.dst v') w') : wpList P ops Q (o :: rest) a w := by
  refine wpList_plain hgd fun K hK => ?_
  obtain ⟨v', w', hrr, h1, h2, h3⟩ := run_appS w (ty := o.type) EI base hown hr h63 hbytes hbase
  unfold Oper.wp execOp
  simp only [ho, resolve, invoke, builtin, Sem.run_bind, Sem.run_pure, Result.andThen_ok, List.map_toArray, List.map_cons, List.map_nil, hs, hx, hrr]
  exact hK _ _ (h _ _ h1 h2 h3)
end

/-- A row of the call's own whose head is frozen is a buffer for reading. -/
theorem reads_ownF {w : World} {base : Nat} {e : TypeId} {size : Nat} {v : Value} {n : Nat} {xs : List Value} (h : w.ownsRowF base e size v n xs) : Reads w size v n xs := by
  obtain ⟨h1, h2⟩ := id h
  rcases h2 with ⟨hv, hn⟩ | ⟨g, cap, cur, fz, hv, _⟩
  · subst hn
    exact .inl ⟨hv, rfl, List.eq_nil_of_length_eq_zero (by simpa using h1)⟩
  · exact .inr ⟨⟨g, 0, none⟩, cap, hv, h1, h.cells (by rw [hv]; rfl)⟩

/-- A buffer of bytes, as a string. -/
def byteVals (l : List UInt8) : List Value := l.map fun b => Value.int .u8 (b.toNat : Int)
theorem byteVals_length (l : List UInt8) : (byteVals l).length = l.length := by unfold byteVals; simp
theorem byteVals_append (l m : List UInt8) : byteVals (l ++ m) = byteVals l ++ byteVals m := by unfold byteVals; simp
theorem run_bytes_reads {P : Program} {w : World} {src dst e : TypeId} (h1 : P.underlying src = some (.slice e)) (h2 : P.underlying e = some (.int .u8)) (h3 : P.underlying dst = some .string) {v : Value} {l : List UInt8} (h : Reads w 1 v l.length (byteVals l)) :
    (convert src dst v).run P w = .ok (.string ⟨l.toArray⟩) w := by
  rcases h with ⟨rfl, hn, _⟩ | ⟨a, c, rfl, _, hc⟩
  · have : l = [] := List.eq_nil_of_length_eq_zero hn
    subst this
    rw [run_convert_bytes_string w src dst e none 0 0 h1 h2 h3]
    rfl
  · exact run_convert_bytes_back w src dst e a c l h1 h2 h3 (fun j hj => hc j _ (by unfold byteVals; rw [List.getElem?_map, List.getElem?_eq_getElem hj]; rfl))
end Go.Proofs.YtjclgoiclbkgjaaDoor
