/- append as one step of a region that draws its order. -/
import Derived.Test.YtjclgoiclbkgjaaDoorOwn3
import Derived.Test.YtjclgoiclbkgjaaDoorRd
import Derived.Deep.RegionLaw
import Derived.Deep.DeepCutAuto
import Derived.Test.YtjclgoiclbkgjaaDoorRows
namespace Go.Proofs.YtjclgoiclbkgjaaDoor
open Go.RowKit

theorem run_appR {P : Program} (w : World) {t ty e : TypeId} {size bytes : Nat} {z : Value} (EI : Elem P t e size bytes z)
    (base : Nat) {v : Value} {n : Nat} {xs : List Value} (hown : w.ownsRow base e size v n xs)
    {y : Value} {m : Nat} {news : List Value} (hr : Reads w size y m news) (h1 : ∀ u ∈ news, u.oneCell' = true)
    (h63 : n + m ≤ maxLen) (hbytes : (n + m) * bytes ≤ 140737488355328) (hbase : base ≤ w.heap.size) :
    ∃ v' w', (Builtin.append_ #[t, t] ty #[v, y]).run P w = .ok v' w' ∧ w'.ownsRow base e size v' (n + m) (xs ++ news) ∧ w.grownBy w' v.ownBlock := by
  obtain ⟨i, hi, hz0, hz1, hz2⟩ := info_parts EI.info
  rcases hr with ⟨rfl, rfl, rfl⟩ | ⟨ad, c, rfl, hl, hc⟩
  · exact ⟨_, _, run_append_owned_none (P := P) w base t ty e i size EI.und hi v n xs hown, by simpa using hown, gb_refl _ _⟩
  · obtain ⟨v', w', hrun, r1, r2, _⟩ := run_append_own (P := P) w base t ty e i z size bytes EI.und hi hz0 hz1 hz2 EI.zs EI.pos v n xs hown ad m c news hl hc h1 h63 hbytes hbase
    exact ⟨v', w', hrun, r1, r2⟩
theorem step_appR {P : Program} {ops : Array Oper} {o : Oper} {a : Act} {w : World} {K : Act → World → Prop} {Q : Exit → Act → World → Prop} {E : Prop}
    {t e : TypeId} {size bytes : Nat} {z : Value} (EI : Elem P t e size bytes z) (hgd : o.guard = none) (s x : Operand)
    (ho : o.op = .call { callee := .builtin .append, args := #[s, x], argTypes := #[t, t] })
    (base : Nat) {v : Value} {n : Nat} {xs : List Value} (hown : w.ownsRow base e size v n xs) (hs : a.eval s = v)
    {y : Value} {m : Nat} {news : List Value} (hr : Reads w size y m news) (hx : a.eval x = y) (h1 : ∀ u ∈ news, u.oneCell' = true)
    (h63 : n + m ≤ maxLen) (hbytes : (n + m) * bytes ≤ 140737488355328) (hbase : base ≤ w.heap.size)
    (h : ∀ v' w', w'.ownsRow base e size v' (n + m) (xs ++ news) → w.grownBy w' v.ownBlock → K (a.put o.dst v') w') :
    if Region.wanted o (yielded ops a.tmps) = true then Oper.wp P o a w K Q else E := by
  have hw : Region.wanted o (yielded ops a.tmps) = true := by simp [Region.wanted, hgd]
  rw [if_pos hw]
  obtain ⟨v', w', hrr, h2, h3⟩ := run_appR (P := P) w (ty := o.type) EI base hown hr h1 h63 hbytes hbase
  unfold Oper.wp execOp
  simp only [ho, resolve, invoke, builtin, Sem.run_bind, Sem.run_pure, Result.andThen_ok, List.map_toArray, List.map_cons, List.map_nil, hs, hx, hrr]
  exact h _ _ h2 h3
theorem step_appS {P : Program} {ops : Array Oper} {o : Oper} {a : Act} {w : World} {K : Act → World → Prop} {Q : Exit → Act → World → Prop} {E : Prop}
    {t tx e : TypeId} {size bytes : Nat} {z : Value} (EI : Elem P t e size bytes z) (hgd : o.guard = none) (s x : Operand)
    (ho : o.op = .call { callee := .builtin .append, args := #[s, x], argTypes := #[t, tx] })
    (base : Nat) {v : Value} {n : Nat} {xs : List Value} (hown : OwnC w base size v n xs) (hs : a.eval s = v)
    {y : Value} {m : Nat} {news : List Value} (hr : Src P size tx y m news w) (hx : a.eval x = y)
    (h63 : n + m ≤ maxLen) (hbytes : (n + m) * bytes ≤ 140737488355328) (hbase : base ≤ w.heap.size)
    (h : ∀ v' w', OwnC w' base size v' (n + m) (xs ++ news) → w.grownBy w' v.ownBlock → (∀ k, v'.ownBlock = some k → v.ownBlock = some k ∨ w.heap.size ≤ k) → K (a.put o.dst v') w') :
    if Region.wanted o (yielded ops a.tmps) = true then Oper.wp P o a w K Q else E := by
  have hw : Region.wanted o (yielded ops a.tmps) = true := by simp [Region.wanted, hgd]
  rw [if_pos hw]
  obtain ⟨v', w', hrr, h2, h3, h4⟩ := run_appS (P := P) w (ty := o.type) EI base hown hr h63 hbytes hbase
  unfold Oper.wp execOp
  simp only [ho, resolve, invoke, builtin, Sem.run_bind, Sem.run_pure, Result.andThen_ok, List.map_toArray, List.map_cons, List.map_nil, hs, hx, hrr]
  exact h _ _ h2 h3 h4
theorem src_str {P : Program} (w : World) {tx : TypeId} (hk : P.underlying tx = some .string) (s : ByteArray) : Src P 1 tx (.string s) s.data.toList.length (byteVals s.data.toList) w := by
  rw [Array.length_toList]; exact Src.ofString w hk s
section
variable {P : Program} {w : World} {ops : Array Oper} {rest : List Oper} {o : Oper} {a : Act} {Q : Exit → Act → World → Prop}
/-- append(own bytes, s...). -/
theorem wpList_appStr {t u e : TypeId} (EI : Elem P t e 1 1 (.int .u8 0)) (hu : P.underlying u = some .string) (hgd : o.guard = none) {s x : Operand}
    (ho : o.op = .call { callee := .builtin .append, args := #[s, x], argTypes := #[t, u] })
    (base : Nat) {v : Value} {n : Nat} {xs : List Value} (hown : w.ownsRow base e 1 v n xs) (hs : a.eval s = v)
    (str : ByteArray) (hx : a.eval x = .string str) (hbytes : n + str.size ≤ 140737488355328) (hbase : base ≤ w.heap.size)
    (h : ∀ v' w', w'.ownsRow base e 1 v' (n + str.size) (xs ++ byteVals str.data.toList) → w.grownBy w' v.ownBlock → wpList P ops Q rest (a.put o.dst v') w') : wpList P ops Q (o :: rest) a w := by
  obtain ⟨i, hi, hz0, hz1, hz2⟩ := info_parts EI.info
  exact Lib.wpList_append_own_string w hgd s x t u ho base e i EI.und hu hi hz0 hz1 hz2 v n xs hs hown str hx (by unfold maxLen; omega) hbytes hbase (fun v' w' a b _ => h v' w' a b)
end
theorem step_appStr {P : Program} {ops : Array Oper} {o : Oper} {a : Act} {w : World} {K : Act → World → Prop} {Q : Exit → Act → World → Prop} {E : Prop}
    {t u e : TypeId} (EI : Elem P t e 1 1 (.int .u8 0)) (hu : P.underlying u = some .string) (hgd : o.guard = none) (s x : Operand)
    (ho : o.op = .call { callee := .builtin .append, args := #[s, x], argTypes := #[t, u] })
    (base : Nat) {v : Value} {n : Nat} {xs : List Value} (hown : w.ownsRow base e 1 v n xs) (hs : a.eval s = v)
    (str : ByteArray) (hx : a.eval x = .string str) (hbytes : n + str.size ≤ 140737488355328) (hbase : base ≤ w.heap.size)
    (h : ∀ v' w', w'.ownsRow base e 1 v' (n + str.size) (xs ++ byteVals str.data.toList) → w.grownBy w' v.ownBlock → K (a.put o.dst v') w') :
    if Region.wanted o (yielded ops a.tmps) = true then Oper.wp P o a w K Q else E := by
  have hw : Region.wanted o (yielded ops a.tmps) = true := by simp [Region.wanted, hgd]
  rw [if_pos hw]
  obtain ⟨i, hi, hz0, hz1, hz2⟩ := info_parts EI.info
  obtain ⟨v', w', hrr, h2, h3, _⟩ := Lib.run_append_own_string (P := P) w base t u o.type e i EI.und hu hi hz0 hz1 hz2 v n xs hown str (by unfold maxLen; omega) hbytes hbase
  unfold Oper.wp execOp
  simp only [ho, resolve, invoke, builtin, Sem.run_bind, Sem.run_pure, Result.andThen_ok, List.map_toArray, List.map_cons, List.map_nil, hs, hx, hrr]
  exact h _ _ h2 h3
theorem reads_kept {w w' : World} {row : Option Nat} {size : Nat} {y : Value} {m : Nat} {news : List Value} (h : Reads w size y m news) (g : w.grownBy w' row) (hne : ∀ k, y.ownBlock = some k → row ≠ some k) : Reads w' size y m news := by
  rcases h with h | ⟨a, c, rfl, h1, h2⟩
  · exact .inl h
  · exact .inr ⟨a, c, rfl, h1, fun j u hu => g.cell (h2 j u hu) (by rw [addr_block]; exact fun e => hne a.block rfl e.symm)⟩
theorem bytes_elem : Elem Tryd.prog 86 5 1 1 (.int .u8 0) := ⟨Tryd.underlying86, by kernel_rfl, rfl, by decide⟩
end Go.Proofs.YtjclgoiclbkgjaaDoor
