/- Walks of package grid: Up. -/
import Derived.Test.YtjclgoiclbkgjaaDoorG11
namespace Go.Proofs.YtjclgoiclbkgjaaDoor
open Go.RowKit

theorem regionN_pos {g : Gr} {top bottom n : Int} {s : Sty} (h : regionN g top bottom n s ≠ 0) : 0 ≤ top ∧ top ≤ bottom ∧ bottom < (g.rows.length : Int) ∧ okS s = true ∧ 1 ≤ regionN g top bottom n s ∧ (regionN g top bottom n s : Int) ≤ bottom - top + 1 := by
  unfold regionN at h ⊢
  split at h
  · exact absurd rfl h
  · rename_i hn
    rw [if_neg hn]
    have hok : okS s = true := by
      cases ho : okS s
      · exact absurd (.inr (.inr (.inr ho))) hn
      · rfl
    refine ⟨by omega, by omega, by omega, hok, by omega, by omega⟩
theorem cats_one {T : Nat → Nat} {w : World} {L : List (Value × Rw)} (h : ∀ x ∈ L, CAt T w x) : ∀ u ∈ rowVals L, u.oneCell' = true := rowVals_one L fun x hx => by
  obtain ⟨a, c, e⟩ := ownC_sl (h x hx).own
  exact ⟨a, _, c, e⟩
/-- The rows of the screen behind a scroll up. -/
def upL {α : Type} (L : List α) (t b n : Nat) (F : List α) : List α := putAt (putAt L t ((L.drop (t + n)).take (b + 1 - (t + n)))) (b + 1 - n) F
theorem upL_eq {α : Type} (L F : List α) (t b n : Nat) (h1 : t ≤ b) (h2 : b < L.length) (h3 : 1 ≤ n) (h4 : n ≤ b + 1 - t) (hF : F.length = n) : upL L t b n F = L.take t ++ (L.drop (t + n)).take (b + 1 - t - n) ++ F ++ L.drop (b + 1) := by
  unfold upL
  have hM : ((L.drop (t + n)).take (b + 1 - (t + n))).length = b + 1 - t - n := by rw [List.length_take, List.length_drop]; omega
  have ht : (L.take t).length = t := by rw [List.length_take]; omega
  have e : b + 1 - (t + n) = b + 1 - t - n := by omega
  rw [e] at hM ⊢
  generalize (L.drop (t + n)).take (b + 1 - t - n) = M at *
  unfold putAt
  rw [hM, hF, show t + (b + 1 - t - n) = b + 1 - n by omega]
  rw [List.take_append_of_le_length (by rw [List.length_append, hM, ht]; omega), List.take_of_length_le (by rw [List.length_append, hM, ht]; omega)]
  congr 1
  rw [List.drop_append, List.drop_eq_nil_of_le (by rw [List.length_append, hM, ht]; omega), List.nil_append, List.drop_drop, List.length_append, hM, ht]
  congr 1; omega
/-- A grid laid anew out of what was its own and what is new. -/
theorem gat_build {T : Nat → Nat} {p : Nat} {w w' : World} {g' : Gr} {vr vo : Value} {Lr Lo : List (Value × Rw)} (hlt : ∀ k, T k ≠ 0 → k < w.heap.size) (tp : T p = 1) (hsz : w.heap.size ≤ w'.heap.size)
    (blk : w'.heap[p]? = some (.cells #[.int .i64 g'.cols, .int .i64 g'.limit, vr, vo] 70 (0, 0))) (rr : OwnC w' 0 2 vr Lr.length (rowVals Lr)) (ro : OwnC w' 0 2 vo Lo.length (rowVals Lo))
    (tr : ∀ k, vr.ownBlock = some k → T k = 2 ∨ (w.heap.size ≤ k ∧ vo.ownBlock ≠ some k)) (tv : ∀ k, vo.ownBlock = some k → T k = 3 ∨ w.heap.size ≤ k)
    (ca : ∀ x ∈ Lr ++ Lo, OwnC w' 0 5 x.1 x.2.cells.length (cvals x.2.cells) ∧ ∃ q, x.1.ownBlock = some q ∧ ((q < w.heap.size ∧ T q = 10 + q) ∨ (w.heap.size ≤ q ∧ vo.ownBlock ≠ some q ∧ vr.ownBlock ≠ some q)))
    (nd : ((Lr ++ Lo).map (·.1.ownBlock)).Nodup) (er : Lr.map (·.2) = g'.rows) (eo : Lo.map (·.2) = g'.old) (wf : g'.WF) :
    ∃ T', GM T' p w' g' ∧ ∀ k, T' k ≠ 0 → own T w k := by
  have hpl : p < w.heap.size := hlt p (by rw [tp]; decide)
  refine ⟨fun k => if vr.ownBlock = some k then 2 else if vo.ownBlock = some k then 3 else if w.heap.size ≤ k ∧ k < w'.heap.size then 10 + k else T k, ⟨vr, vo, Lr, Lo, ⟨fun k hk => ?_, blk, ?_, ⟨rr, fun k hk => by show (if _ then _ else _) = 2; rw [if_pos hk]⟩, ⟨ro, fun k hk => ?_⟩, er, eo, fun x hx => ?_, nd, wf⟩⟩, fun k hk => ?_⟩
  · show k < w'.heap.size
    by_cases h1 : vr.ownBlock = some k
    · exact (ownC_lt rr k h1).2
    · by_cases h2 : vo.ownBlock = some k
      · exact (ownC_lt ro k h2).2
      · simp only [if_neg h1, if_neg h2] at hk
        by_cases h3 : w.heap.size ≤ k ∧ k < w'.heap.size
        · exact h3.2
        · rw [if_neg h3] at hk
          exact Nat.lt_of_lt_of_le (hlt k hk) hsz
  · show (if _ then _ else _) = 1
    rw [if_neg (fun e => by rcases tr p e with h | h <;> omega), if_neg (fun e => by rcases tv p e with h | h <;> omega), if_neg (by omega)]
    exact tp
  · show (if _ then _ else _) = 3
    have h1 : vr.ownBlock ≠ some k := fun e => by
      rcases tr k e with h | h
      · rcases tv k hk with h' | h'
        · omega
        · have := hlt k (by omega); omega
      · exact h.2 hk
    rw [if_neg h1, if_pos hk]
  · obtain ⟨h1, q, hq, h2⟩ := ca x hx
    refine ⟨h1, q, hq, ?_⟩
    show (if _ then _ else _) = 10 + q
    rcases h2 with ⟨hql, hqt⟩ | ⟨hql, hn1, hn2⟩
    · rw [if_neg (fun e => by rcases tr q e with h | h <;> omega), if_neg (fun e => by rcases tv q e with h | h <;> omega), if_neg (by omega)]
      exact hqt
    · rw [if_neg hn2, if_neg hn1, if_pos ⟨hql, (ownC_lt h1 q hq).2⟩]
  · by_cases h1 : vr.ownBlock = some k
    · rcases tr k h1 with h | h
      · exact .inl (by omega)
      · exact .inr h.1
    · by_cases h2 : vo.ownBlock = some k
      · rcases tv k h2 with h | h
        · exact .inl (by omega)
        · exact .inr h
      · simp only [if_neg h1, if_neg h2] at hk
        by_cases h3 : w.heap.size ≤ k ∧ k < w'.heap.size
        · exact .inr h3.1
        · rw [if_neg h3] at hk
          exact .inl hk
/-- Nothing is there twice, in what is left and what is new. -/
theorem up_nodup (Lr Lo Lf Lo' : List (Value × Rw)) (t b n B : Nat) (h1 : t ≤ b) (_h2 : b < Lr.length) (h4 : n ≤ b + 1 - t) (hnd : ((Lr ++ Lo).map (·.1.ownBlock)).Nodup) (hlt : ∀ x ∈ Lr ++ Lo, ∀ k, x.1.ownBlock = some k → k < B)
    (hf : (Lf.map (·.1.ownBlock)).Nodup) (hfB : ∀ x ∈ Lf, ∃ k, x.1.ownBlock = some k ∧ B ≤ k) (hs : Lo'.Sublist (Lo ++ (Lr.drop t).take n)) :
    (((Lr.take t ++ (Lr.drop (t + n)).take (b + 1 - t - n) ++ Lf ++ Lr.drop (b + 1)) ++ Lo').map (·.1.ownBlock)).Nodup := by
  have hL : Lr = Lr.take t ++ ((Lr.drop t).take n ++ ((Lr.drop (t + n)).take (b + 1 - t - n) ++ Lr.drop (b + 1))) := by
    have e1 : Lr.drop (t + n) = (Lr.drop (t + n)).take (b + 1 - t - n) ++ Lr.drop (b + 1) := by
      have := (List.take_append_drop (b + 1 - t - n) (Lr.drop (t + n))).symm
      rwa [List.drop_drop, show t + n + (b + 1 - t - n) = b + 1 by omega] at this
    have e2 : Lr.drop t = (Lr.drop t).take n ++ Lr.drop (t + n) := by
      have := (List.take_append_drop n (Lr.drop t)).symm
      rwa [List.drop_drop] at this
    rw [← e1, ← e2, List.take_append_drop]
  generalize hA : Lr.take t = A at *
  generalize hF : (Lr.drop t).take n = O at *
  generalize hM : (Lr.drop (t + n)).take (b + 1 - t - n) = M at *
  generalize hD : Lr.drop (b + 1) = D at *
  have p1 : (Lr ++ Lo).Perm ((A ++ M ++ D) ++ (Lo ++ O)) := by
    rw [hL]
    have q1 : (A ++ (O ++ (M ++ D)) ++ Lo).Perm (A ++ ((M ++ D) ++ O) ++ Lo) := List.Perm.append_right _ (List.Perm.append_left _ List.perm_append_comm)
    refine q1.trans ?_
    have q2 : (A ++ ((M ++ D) ++ O) ++ Lo) = (A ++ M ++ D) ++ (O ++ Lo) := by simp
    rw [q2]
    exact List.Perm.append_left _ List.perm_append_comm
  have n1 : (((A ++ M ++ D) ++ (Lo ++ O)).map (·.1.ownBlock)).Nodup := (p1.map _).nodup_iff.1 hnd
  have n2 : (((A ++ M ++ D) ++ Lo').map (·.1.ownBlock)).Nodup := n1.sublist ((List.Sublist.append_left hs _).map _)
  have p2 : ((A ++ M ++ Lf ++ D) ++ Lo').Perm (((A ++ M ++ D) ++ Lo') ++ Lf) := by
    have q1 : ((A ++ M ++ Lf ++ D) ++ Lo') = (A ++ M) ++ (Lf ++ (D ++ Lo')) := by simp
    have q2 : (((A ++ M ++ D) ++ Lo') ++ Lf) = (A ++ M) ++ ((D ++ Lo') ++ Lf) := by simp
    rw [q1, q2]
    exact List.Perm.append_left _ List.perm_append_comm
  refine (p2.map _).nodup_iff.2 ?_
  rw [List.map_append, List.nodup_append]
  refine ⟨n2, hf, fun a ha c hc e => ?_⟩
  obtain ⟨x, hx, rfl⟩ := List.mem_map.1 ha
  obtain ⟨y, hy, rfl⟩ := List.mem_map.1 hc
  obtain ⟨k, hk, hkB⟩ := hfB y hy
  have hx' : x ∈ (A ++ M ++ D) ++ (Lo ++ O) := by
    rcases List.mem_append.1 hx with h | h
    · exact List.mem_append_left _ h
    · exact List.mem_append_right _ (hs.subset h)
  have := hlt x (p1.mem_iff.2 hx') k (by rw [e]; exact hk)
  omega
end Go.Proofs.YtjclgoiclbkgjaaDoor
