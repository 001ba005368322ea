/- Buffers: a slice of the call's own, wherever in its block it lies, whatever of the block is frozen behind it. -/
import Derived.Test.YtjclgoiclbkgjaaDoorOpq
import Derived.ArgAppend
import Derived.Laws.IdiomCopy
import Derived.Laws.IdiomStrings
import Derived.Deep.Upon
namespace Go.Proofs.YtjclgoiclbkgjaaDoor
open Go.RowKit

def OwnC (w : World) (base size : Nat) (v : Value) (n : Nat) (xs : List Value) : Prop :=
  xs.length = n * size ∧ ((v = .slice none 0 0 ∧ n = 0) ∨ ∃ b off cap, v = .slice (some ⟨b, off, none⟩) n cap ∧ base ≤ b ∧ b < w.heap.size ∧ n ≤ cap ∧ cap ≤ maxLen ∧
    (∀ j, j < cap * size → (w.cell? ⟨b, off + j, none⟩).isSome = true ∧ w.frozen? ⟨b, off + j, none⟩ = false) ∧ ∀ j u, xs[j]? = some u → w.cell? ⟨b, off + j, none⟩ = some u)

theorem ownC_nil (w : World) (base size : Nat) : OwnC w base size (.slice none 0 0) 0 [] := ⟨by simp, .inl ⟨rfl, rfl⟩⟩
theorem ownC_own {w : World} {base : Nat} {e : TypeId} {size : Nat} {v : Value} {n : Nat} {xs : List Value} (h : w.ownsRow base e size v n xs) : OwnC w base size v n xs := by
  obtain ⟨h1, h2⟩ := id h
  refine ⟨h1, ?_⟩
  rcases h2 with h2 | ⟨g, cap, cur, hv, hb, hg, h3, h4, h5, h6⟩
  · exact .inl h2
  · refine .inr ⟨g, 0, cap, hv, hb, heap_lt hg, h3, h4, fun j hj => ⟨?_, ?_⟩, fun j u hu => ?_⟩
    · rw [Nat.zero_add, blk_cell hg]
      rw [Array.getElem?_eq_getElem (by omega)]; rfl
    · rw [Nat.zero_add, blk_free hg]
    · rw [← add_eq]
      exact h.cells (g := g) (by rw [hv]; rfl) j u hu
theorem ownC_lt {w : World} {base size : Nat} {v : Value} {n : Nat} {xs : List Value} (h : OwnC w base size v n xs) : ∀ k, v.ownBlock = some k → base ≤ k ∧ k < w.heap.size := by
  intro k hk
  rcases h.2 with ⟨rfl, _⟩ | ⟨b, off, cap, rfl, h1, h2, _⟩
  · simp [Value.ownBlock] at hk
  · simp [Value.ownBlock] at hk; omega
theorem ownC_blocks {w w' : World} {base size : Nat} {v : Value} {n : Nat} {xs : List Value} (h : OwnC w base size v n xs) (hs : w.heap.size ≤ w'.heap.size) (hk : ∀ k, v.ownBlock = some k → w'.heap[k]? = w.heap[k]?) : OwnC w' base size v n xs := by
  refine ⟨h.1, ?_⟩
  rcases h.2 with h2 | ⟨b, off, cap, rfl, h1, h2, h3, h4, h5, h6⟩
  · exact .inl h2
  · have hb := hk b rfl
    refine .inr ⟨b, off, cap, rfl, h1, by omega, h3, h4, fun j hj => ?_, fun j u hu => ?_⟩
    · rw [World.cell?_of_block (a := ⟨b, off + j, none⟩) hb, World.frozen?_of_block (a := ⟨b, off + j, none⟩) hb]; exact h5 j hj
    · rw [World.cell?_of_block (a := ⟨b, off + j, none⟩) hb]; exact h6 j u hu
theorem ownC_grown {w w' : World} {base size : Nat} {v : Value} {n : Nat} {xs : List Value} {row : Option Nat} (h : OwnC w base size v n xs) (g : w.grownBy w' row) (hr : ∀ k, v.ownBlock = some k → row ≠ some k) : OwnC w' base size v n xs :=
  ownC_blocks h g.size fun k hk => g.block k (ownC_lt h k hk).2 (fun e => hr k hk e.symm)
theorem ownC_below {w w' : World} {base size : Nat} {v : Value} {n : Nat} {xs : List Value} (h : OwnC w base size v n xs) (g : Below w.heap.size w w') : OwnC w' base size v n xs :=
  ownC_blocks h g.size fun k hk => g.block k (ownC_lt h k hk).2
theorem ownC_mono {w : World} {base base' size : Nat} {v : Value} {n : Nat} {xs : List Value} (h : OwnC w base size v n xs) (hb : base' ≤ base) : OwnC w base' size v n xs := by
  refine ⟨h.1, ?_⟩
  rcases h.2 with h2 | ⟨b, off, cap, hv, h1, h2⟩
  · exact .inl h2
  · exact .inr ⟨b, off, cap, hv, by omega, h2⟩
theorem ownC_alloc {w : World} {base size : Nat} {v : Value} {n : Nat} {xs : List Value} (h : OwnC w base size v n xs) (o : Obj) : OwnC (w.alloc o) base size v n xs :=
  ownC_grown h (World.grownBy_alloc w o none) (by intro k _ e; simp at e)
theorem ownC_reads {w : World} {base size : Nat} {v : Value} {n : Nat} {xs : List Value} (h : OwnC w base size v n xs) : Reads w size v n xs := by
  obtain ⟨h1, h2⟩ := h
  rcases h2 with ⟨hv, hn⟩ | ⟨b, off, cap, hv, _, _, _, _, _, h6⟩
  · subst hn
    exact .inl ⟨hv, rfl, List.eq_nil_of_length_eq_zero (by simpa using h1)⟩
  · exact .inr ⟨⟨b, off, none⟩, cap, hv, h1, fun j u hu => by rw [add_eq]; exact h6 j u hu⟩
theorem ownC_ints {w : World} {base : Nat} {k : IntKind} {v : Value} {l : List Int} (h : OwnC w base 1 v l.length (l.map (Value.int k))) : IsInts k w v l := by
  rcases h.2 with ⟨hv, hn⟩ | ⟨b, off, cap, hv, _, h2, h3, h4, _, h6⟩
  · exact .inl ⟨hv, List.eq_nil_of_length_eq_zero hn⟩
  · exact .inr ⟨b, off, cap, hv, h2, h3, by unfold maxLen at h4; exact h4, fun j hj => h6 j _ (by rw [List.getElem?_map, getD_of l j hj]; rfl)⟩

theorem gb_setCells (w : World) (b o : Nat) (vs : List Value) : w.grownBy (w.setCells b o vs) (some b) := by
  have hsz : ∀ (vs : List Value) (o : Nat) (w : World), (w.setCells b o vs).heap.size = w.heap.size := by
    intro vs
    induction vs with
    | nil => intro o w; rfl
    | cons x vs ih => intro o w; simp only [World.setCells]; rw [ih]; simp
  have htp : ∀ (vs : List Value) (o : Nat) (w : World), (w.setCells b o vs).tape = w.tape := by
    intro vs
    induction vs with
    | nil => intro o w; rfl
    | cons x vs ih => intro o w; simp only [World.setCells]; rw [ih]; rfl
  exact ⟨World.os_setCells w b o vs, htp vs o w, World.output_setCells w b o vs, by rw [hsz]; exact Nat.le_refl _, fun k hk hr => World.heap_setCells_other w b o vs hk (fun e => hr (by rw [e]))⟩

section
variable {P : Program} {w : World} {ops : Array Oper} {rest : List Oper} {o : Oper} {a : Act} {Q : Exit → Act → World → Prop}
/-- append(buffer, a slice that reads as cells). -/
theorem wpList_appC {t e : TypeId} {size bytes : Nat} {z : Value} (EI : Elem P t e size bytes z) (hgd : o.guard = none) {s x : Operand}
    (ho : o.op = .call { callee := .builtin .append, args := #[s, x], argTypes := #[t, t] })
    (base : Nat) {v : Value} {n : Nat} {xs : List Value} (hown : OwnC w base size v n xs) (hs : a.eval s = v)
    {y : Value} {m : Nat} {news : List Value} (hr : Reads w size y m news) (hx : a.eval x = y) (h1 : ∀ u ∈ news, u.oneCell' = true)
    (h63 : n + m ≤ maxLen) (hbytes : (n + m) * bytes ≤ 140737488355328) (hbase : base ≤ w.heap.size)
    (h : ∀ v' w', OwnC w' base size v' (n + m) (xs ++ news) → w.grownBy w' v.ownBlock → wpList P ops Q rest (a.put o.dst v') w') : wpList P ops Q (o :: rest) a w := by
  obtain ⟨i, hi, hz0, hz1, hz2⟩ := info_parts EI.info
  rcases hown.2 with ⟨hv, hn⟩ | ⟨b, off, cap, hv, hb, hbs, hnc, hcm, hcells, hxs⟩
  · subst hn
    have hx0 : xs = [] := List.eq_nil_of_length_eq_zero (by simpa using hown.1)
    subst hv hx0
    refine wpList_app EI hgd ho base (World.ownsRow_nil w base e size) hs hr hx h1 h63 hbytes hbase fun v' w' o' g' => h v' w' (ownC_own o') g'
  · rcases hr with ⟨rfl, rfl, rfl⟩ | ⟨ad, c, rfl, hl, hc⟩
    · subst hv
      refine wpList_plain hgd fun K hK => ?_
      have hrr : (Builtin.append_ #[t, t] o.type #[.slice (some ⟨b, off, none⟩) n cap, .slice none 0 0]).run P w = .ok (.slice (some ⟨b, off, none⟩) n cap) w := by
        simp [Builtin.append_, run_underlying EI.und, sizeOf, typeInfo, hi, Builtin.lenOf, Builtin.firstCells, hnc, storeCells]
      unfold Oper.wp execOp
      simp only [ho, resolve, invoke, builtin, Sem.run_bind, Sem.run_pure, Result.andThen_ok, List.map_toArray, List.map_cons, List.map_nil, hs, hx, hrr]
      exact hK _ _ (h _ _ (by simpa using hown) ⟨rfl, rfl, rfl, Nat.le_refl _, fun _ _ _ => rfl⟩)
    · have hown' := hown
      subst hv
      refine wpList_append_arg w hgd s x t ho e i z size bytes EI.und hi hz0 hz1 hz2 EI.zs EI.pos b off n cap xs hs hown.1 hxs ad m c news hx hl hc h1 ?_ h63 hbytes ?_ ?_
      · intro hroom j hj
        have hlt : n * size + j < cap * size := by
          have : (n + m) * size ≤ cap * size := Nat.mul_le_mul_right _ hroom
          rw [Nat.add_mul] at this; omega
        rw [Nat.add_assoc]
        exact hcells _ hlt
      · intro hroom
        have hlen : (xs ++ news).length = (n + m) * size := by rw [List.length_append, hown.1, hl, Nat.add_mul]
        have hbound : (n + m) * size ≤ cap * size := Nat.mul_le_mul_right _ hroom
        have hsplit : (n + m) * size = n * size + m * size := Nat.add_mul _ _ _
        refine h _ _ ⟨hlen, .inr ⟨b, off, cap, rfl, hb, ?_, hroom, hcm, fun j hj => ⟨?_, ?_⟩, fun j u hu => ?_⟩⟩ (gb_setCells w b _ news)
        · exact Nat.lt_of_lt_of_le hbs (gb_setCells w b (off + n * size) news).size
        · by_cases hin : n * size ≤ j ∧ j < n * size + news.length
          · have := World.cell?_setCells_in b news (off + n * size) w (fun i hi => by rw [Nat.add_assoc]; exact (hcells _ (by omega)).1) (j - n * size) (by omega)
            rw [show off + n * size + (j - n * size) = off + j from by omega] at this
            rw [this]; rfl
          · rw [World.cell?_setCells_out b news (off + n * size) w ⟨b, off + j, none⟩ (fun _ _ => by show off + j < _ ∨ _ ≤ off + j; omega)]
            exact (hcells j hj).1
        · rw [World.frozen?_setCells]; exact (hcells j hj).2
        · have hjl : j < (xs ++ news).length := (List.getElem?_eq_some_iff.1 hu).1
          by_cases hjx : j < xs.length
          · rw [List.getElem?_append_left hjx] at hu
            rw [World.cell?_setCells_out b news (off + n * size) w ⟨b, off + j, none⟩ (fun _ _ => by show off + j < _ ∨ _ ≤ off + j; have := hown.1; omega)]
            exact hxs j u hu
          · rw [List.getElem?_append_right (by omega)] at hu
            have hx0 := hown.1
            have hjn : j - xs.length < news.length := (List.getElem?_eq_some_iff.1 hu).1
            have := World.cell?_setCells_in b news (off + n * size) w (fun i hi => by rw [Nat.add_assoc]; exact (hcells _ (by omega)).1) (j - xs.length) hjn
            rw [show off + n * size + (j - xs.length) = off + j from by omega] at this
            rw [this, ← hu, List.getElem?_eq_getElem hjn]
      · intro hfull v' w' o' g'
        exact h v' w' (ownC_mono (ownC_own o') hbase) ⟨g'.os, g'.tape, g'.output, g'.size, fun k hk _ => g'.block k hk (by simp)⟩
end

/-- []byte(s). -/
theorem conv_bytes {P : Program} (w : World) (src dst e : TypeId) (s : ByteArray) (hs : P.underlying src = some .string) (hd : P.underlying dst = some (.slice e)) (he : P.underlying e = some (.int .u8)) (hm : s.size ≤ maxLen) :
    ∃ v w', (convert src dst (.string s)).run P w = .ok v w' ∧ OwnC w' w.heap.size 1 v s.size (s.data.toList.map fun b => Value.int .u8 (b.toNat : Int)) ∧ w.grownBy w' none := by
  have hcap := grownCap_ge w s.size 0 e
  have hcm := grownCap_le_maxLen w s.size 0 e hm
  refine ⟨_, _, run_bytes_of_string w src dst e s hs hd he, ⟨by rw [List.length_map, Array.length_toList, Nat.mul_one]; rfl, .inr ⟨w.heap.size, 0, _, rfl, Nat.le_refl _, by simp, hcap, hcm, ?_, ?_⟩⟩, ⟨rfl, rfl, rfl, by simp, fun k hk _ => heap_alloc_old w.drew _ hk⟩⟩
  · intro j hj
    have hsz : (bytesRow s (grownCap w s.size 0 e)).size = grownCap w s.size 0 e := by
      simp only [bytesRow, Array.size_append, Array.size_map, Array.size_replicate]
      have : s.data.size = s.size := rfl
      omega
    rw [Nat.zero_add]
    have e1 := World.cell?_alloc_mark w.drew (bytesRow s (grownCap w s.size 0 e)) e ((bytesRow s (grownCap w s.size 0 e)).size, (bytesRow s (grownCap w s.size 0 e)).size + 1) j
    have e2 := World.frozen?_alloc_mark w.drew (bytesRow s (grownCap w s.size 0 e)) e (bytesRow s (grownCap w s.size 0 e)).size ((bytesRow s (grownCap w s.size 0 e)).size + 1) j
    refine ⟨?_, ?_⟩
    · rw [show w.heap.size = w.drew.heap.size from rfl, e1, Array.getElem?_eq_getElem (by omega)]; rfl
    · rw [show w.heap.size = w.drew.heap.size from rfl, e2, hsz]
      simp; omega
  · intro j u hu
    rw [Nat.zero_add]
    have e1 := World.cell?_alloc_mark w.drew (bytesRow s (grownCap w s.size 0 e)) e ((bytesRow s (grownCap w s.size 0 e)).size, (bytesRow s (grownCap w s.size 0 e)).size + 1) j
    have hj : j < s.data.size := by have := (List.getElem?_eq_some_iff.1 hu).1; simpa using this
    rw [show w.heap.size = w.drew.heap.size from rfl, e1, bytesRow_at s _ j hj, ← hu, List.getElem?_map, List.getElem?_eq_getElem (by simpa using hj)]
    simp
end Go.Proofs.YtjclgoiclbkgjaaDoor
