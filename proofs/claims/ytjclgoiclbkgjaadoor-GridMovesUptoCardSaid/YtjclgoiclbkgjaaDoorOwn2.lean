/- Buffers: append, and where the buffer lies then. -/
import Derived.Test.YtjclgoiclbkgjaaDoorOwn
namespace Go.Proofs.YtjclgoiclbkgjaaDoor
open Go.RowKit

section
variable {P : Program} {w : World} {ops : Array Oper} {rest : List Oper} {o : Oper} {a : Act} {Q : Exit → Act → World → Prop}
/-- append(buffer, a slice that reads as cells): the buffer stays in its block, or is a new one. -/
theorem wpList_appD {t e : TypeId} {size bytes : Nat} {z : Value} (EI : Elem P t e size bytes z) (hgd : o.guard = none) {s x : Operand}
    (ho : o.op = .call { callee := .builtin .append, args := #[s, x], argTypes := #[t, t] })
    (base : Nat) {v : Value} {n : Nat} {xs : List Value} (hown : OwnC w base size v n xs) (hs : a.eval s = v)
    {y : Value} {m : Nat} {news : List Value} (hr : Reads w size y m news) (hx : a.eval x = y) (h1 : ∀ u ∈ news, u.oneCell' = true)
    (h63 : n + m ≤ maxLen) (hbytes : (n + m) * bytes ≤ 140737488355328) (hbase : base ≤ w.heap.size)
    (h : ∀ v' w', OwnC w' base size v' (n + m) (xs ++ news) → w.grownBy w' v.ownBlock → (∀ k, v'.ownBlock = some k → v.ownBlock = some k ∨ w.heap.size ≤ k) → wpList P ops Q rest (a.put o.dst v') w') : wpList P ops Q (o :: rest) a w := by
  obtain ⟨i, hi, hz0, hz1, hz2⟩ := info_parts EI.info
  rcases hown.2 with ⟨hv, hn⟩ | ⟨b, off, cap, hv, hb, hbs, hnc, hcm, hcells, hxs⟩
  · subst hn
    have hx0 : xs = [] := List.eq_nil_of_length_eq_zero (by simpa using hown.1)
    subst hv hx0
    refine wpList_app EI hgd ho w.heap.size (World.ownsRow_nil w w.heap.size e size) hs hr hx h1 h63 hbytes (Nat.le_refl _) fun v' w' o' g' => h v' w' (ownC_mono (ownC_own o') hbase) g' (fun k hk => .inr (o'.lt k hk).1)
  · rcases hr with ⟨rfl, rfl, rfl⟩ | ⟨ad, c, rfl, hl, hc⟩
    · subst hv
      refine wpList_plain hgd fun K hK => ?_
      have hrr : (Builtin.append_ #[t, t] o.type #[.slice (some ⟨b, off, none⟩) n cap, .slice none 0 0]).run P w = .ok (.slice (some ⟨b, off, none⟩) n cap) w := by
        simp [Builtin.append_, run_underlying EI.und, sizeOf, typeInfo, hi, Builtin.lenOf, Builtin.firstCells, hnc, storeCells]
      unfold Oper.wp execOp
      simp only [ho, resolve, invoke, builtin, Sem.run_bind, Sem.run_pure, Result.andThen_ok, List.map_toArray, List.map_cons, List.map_nil, hs, hx, hrr]
      exact hK _ _ (h _ _ (by simpa using hown) ⟨rfl, rfl, rfl, Nat.le_refl _, fun _ _ _ => rfl⟩ (fun k hk => .inl hk))
    · have hown' := hown
      subst hv
      refine wpList_append_arg w hgd s x t ho e i z size bytes EI.und hi hz0 hz1 hz2 EI.zs EI.pos b off n cap xs hs hown.1 hxs ad m c news hx hl hc h1 ?_ h63 hbytes ?_ ?_
      · intro hroom j hj
        have hlt : n * size + j < cap * size := by
          have : (n + m) * size ≤ cap * size := Nat.mul_le_mul_right _ hroom
          rw [Nat.add_mul] at this; omega
        rw [Nat.add_assoc]
        exact hcells _ hlt
      · intro hroom
        have hlen : (xs ++ news).length = (n + m) * size := by rw [List.length_append, hown.1, hl, Nat.add_mul]
        have hbound : (n + m) * size ≤ cap * size := Nat.mul_le_mul_right _ hroom
        have hsplit : (n + m) * size = n * size + m * size := Nat.add_mul _ _ _
        refine h _ _ ⟨hlen, .inr ⟨b, off, cap, rfl, hb, ?_, hroom, hcm, fun j hj => ⟨?_, ?_⟩, fun j u hu => ?_⟩⟩ (gb_setCells w b _ news) (fun k hk => .inl hk)
        · exact Nat.lt_of_lt_of_le hbs (gb_setCells w b (off + n * size) news).size
        · by_cases hin : n * size ≤ j ∧ j < n * size + news.length
          · have := World.cell?_setCells_in b news (off + n * size) w (fun i hi => by rw [Nat.add_assoc]; exact (hcells _ (by omega)).1) (j - n * size) (by omega)
            rw [show off + n * size + (j - n * size) = off + j from by omega] at this
            rw [this]; rfl
          · rw [World.cell?_setCells_out b news (off + n * size) w ⟨b, off + j, none⟩ (fun _ _ => by show off + j < _ ∨ _ ≤ off + j; omega)]
            exact (hcells j hj).1
        · rw [World.frozen?_setCells]; exact (hcells j hj).2
        · have hjl : j < (xs ++ news).length := (List.getElem?_eq_some_iff.1 hu).1
          by_cases hjx : j < xs.length
          · rw [List.getElem?_append_left hjx] at hu
            rw [World.cell?_setCells_out b news (off + n * size) w ⟨b, off + j, none⟩ (fun _ _ => by show off + j < _ ∨ _ ≤ off + j; have := hown.1; omega)]
            exact hxs j u hu
          · rw [List.getElem?_append_right (by omega)] at hu
            have hx0 := hown.1
            have hjn : j - xs.length < news.length := (List.getElem?_eq_some_iff.1 hu).1
            have := World.cell?_setCells_in b news (off + n * size) w (fun i hi => by rw [Nat.add_assoc]; exact (hcells _ (by omega)).1) (j - xs.length) hjn
            rw [show off + n * size + (j - xs.length) = off + j from by omega] at this
            rw [this, ← hu, List.getElem?_eq_getElem hjn]
      · intro hfull v' w' o' g'
        exact h v' w' (ownC_mono (ownC_own o') hbase) ⟨g'.os, g'.tape, g'.output, g'.size, fun k hk _ => g'.block k hk (by simp)⟩ (fun k hk => .inr (o'.lt k hk).1)
end

end Go.Proofs.YtjclgoiclbkgjaaDoor
