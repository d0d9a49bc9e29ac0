/- The heap and the list in which its things stand in order: plain lists. -/
import Derived.Test.YtkhphnidopbjjaaHm5
import Derived.Test.YtkhphnidopbjjaaHm2
namespace Go.Hm
open Go.Own Go.Own.MapTy

/-! the places below one -/
def subT (n i : Nat) : List Nat := if i < n then i :: (subT n (2 * i + 1) ++ subT n (2 * i + 2)) else []
termination_by n - i
decreasing_by all_goals omega
theorem subT_in {n i : Nat} (h : i < n) : subT n i = i :: (subT n (2 * i + 1) ++ subT n (2 * i + 2)) := by rw [subT, if_pos h]
theorem subT_out {n i : Nat} (h : ¬ i < n) : subT n i = [] := by rw [subT, if_neg h]
theorem subT_anc (n : Nat) : ∀ (m i : Nat), n ≤ m + i → ∀ j ∈ subT n i, j < n ∧ ∃ k, (j + 1) / 2 ^ k = i + 1
  | 0, i, h, j, hj => by rw [subT_out (by omega)] at hj; cases hj
  | m + 1, i, h, j, hj => by
    by_cases hi : i < n
    · rw [subT_in hi] at hj
      rcases List.mem_cons.1 hj with rfl | hj
      · exact ⟨hi, 0, by simp⟩
      · rcases List.mem_append.1 hj with hj | hj
        · obtain ⟨h1, k, h2⟩ := subT_anc n m (2 * i + 1) (by omega) j hj
          refine ⟨h1, k + 1, ?_⟩
          rw [Nat.pow_succ, ← Nat.div_div_eq_div_mul, h2]
          omega
        · obtain ⟨h1, k, h2⟩ := subT_anc n m (2 * i + 2) (by omega) j hj
          refine ⟨h1, k + 1, ?_⟩
          rw [Nat.pow_succ, ← Nat.div_div_eq_div_mul, h2]
          omega
    · rw [subT_out hi] at hj; cases hj
theorem anc_lt {j k m a b : Nat} (h1 : (j + 1) / 2 ^ k = a) (h2 : (j + 1) / 2 ^ m = b) (hkm : k < m) : b ≤ a / 2 := by
  obtain ⟨d, rfl⟩ : ∃ d, m = k + 1 + d := ⟨m - k - 1, by omega⟩
  rw [Nat.pow_add, ← Nat.div_div_eq_div_mul, Nat.pow_succ, ← Nat.div_div_eq_div_mul, h1] at h2
  rw [← h2]
  exact Nat.div_le_self _ _
theorem subT_apart {n i : Nat} : ∀ j ∈ subT n (2 * i + 1), ∀ j' ∈ subT n (2 * i + 2), j ≠ j' := by
  intro j h1 j' h2 e
  subst e
  obtain ⟨_, k, h1⟩ := subT_anc n n _ (by omega) j h1
  obtain ⟨_, m, h2⟩ := subT_anc n n _ (by omega) j h2
  rcases Nat.lt_trichotomy k m with h | h | h
  · have := anc_lt h1 h2 h; omega
  · subst h; omega
  · have := anc_lt h2 h1 h; omega
theorem subT_nodup (n : Nat) : ∀ (m i : Nat), n ≤ m + i → (subT n i).Nodup
  | 0, i, h => by rw [subT_out (by omega)]; exact List.nodup_nil
  | m + 1, i, h => by
    by_cases hi : i < n
    · rw [subT_in hi]
      refine List.nodup_cons.2 ⟨fun h' => ?_, List.nodup_append.2 ⟨subT_nodup n m _ (by omega), subT_nodup n m _ (by omega), subT_apart⟩⟩
      rcases List.mem_append.1 h' with h' | h'
      · obtain ⟨_, k, hk⟩ := subT_anc n n _ (by omega) i h'
        have := Nat.div_le_self (i + 1) (2 ^ k)
        omega
      · obtain ⟨_, k, hk⟩ := subT_anc n n _ (by omega) i h'
        have := Nat.div_le_self (i + 1) (2 ^ k)
        omega
    · rw [subT_out hi]; exact List.nodup_nil
theorem subT_kid (n : Nat) : ∀ (m i : Nat), n ≤ m + i → ∀ j ∈ subT n i, ∀ c, (c = 2 * j + 1 ∨ c = 2 * j + 2) → c < n → c ∈ subT n i
  | 0, i, h, j, hj, c, _, _ => by rw [subT_out (by omega)] at hj; cases hj
  | m + 1, i, h, j, hj, c, hc, hcn => by
    by_cases hi : i < n
    · rw [subT_in hi] at hj ⊢
      rcases List.mem_cons.1 hj with rfl | hj
      · refine List.mem_cons_of_mem _ (List.mem_append.2 ?_)
        rcases hc with rfl | rfl
        · left; rw [subT_in hcn]; exact List.mem_cons_self
        · right; rw [subT_in hcn]; exact List.mem_cons_self
      · refine List.mem_cons_of_mem _ (List.mem_append.2 ?_)
        rcases List.mem_append.1 hj with hj | hj
        · exact .inl (subT_kid n m _ (by omega) j hj c hc hcn)
        · exact .inr (subT_kid n m _ (by omega) j hj c hc hcn)
    · rw [subT_out hi] at hj; cases hj
theorem subT_all (n : Nat) : ∀ j, j < n → j ∈ subT n 0 := by
  intro j
  induction j using Nat.strongRecOn with
  | _ j ih =>
    intro hj
    by_cases h0 : j = 0
    · subst h0; rw [subT_in hj]; exact List.mem_cons_self
    · exact subT_kid n n 0 (by omega) ((j - 1) / 2) (ih _ (by omega) (by omega)) j (by omega) hj
theorem subT_perm (n : Nat) : (subT n 0).Perm (List.range n) :=
  (List.perm_ext_iff_of_nodup (subT_nodup n n 0 (by omega)) List.nodup_range).2 fun j =>
    ⟨fun h => List.mem_range.2 (subT_anc n n 0 (by omega) j h).1, fun h => subT_all n j (List.mem_range.1 h)⟩

/-- those of some places that are due -/
def dueAt (L : List It) (now : Int) (I : List Nat) : List It := (I.filterMap (fun i => L[i]?)).filter (fun x => decide (x.due ≤ now))
theorem dueAt_append (L : List It) (now : Int) (I J : List Nat) : dueAt L now (I ++ J) = dueAt L now I ++ dueAt L now J := by
  unfold dueAt; rw [List.filterMap_append, List.filter_append]
theorem heap_under {L : List It} (h : Heap L) {x : It} : ∀ (m i : Nat), L.length ≤ m + i → L[i]? = some x → ∀ j ∈ subT L.length i, ∀ y, L[j]? = some y → le x y
  | 0, i, hm, hx, j, hj, y, hy => by rw [subT_out (by omega)] at hj; cases hj
  | m + 1, i, hm, hx, j, hj, y, hy => by
    have hi := (List.getElem?_eq_some_iff.1 hx).1
    rw [subT_in hi] at hj
    rcases List.mem_cons.1 hj with rfl | hj
    · rw [hx] at hy; cases hy; exact le_refl _
    · rcases List.mem_append.1 hj with hj | hj
      · have hl : 2 * i + 1 < L.length := by
          refine Decidable.byContradiction fun hn => ?_
          rw [subT_out hn] at hj; cases hj
        have hz : L[2 * i + 1]? = some (L[2 * i + 1]'hl) := List.getElem?_eq_getElem _
        exact le_trans (h (2 * i + 1) x _ (by omega) id (by rw [show (2 * i + 1 - 1) / 2 = i by omega]; exact hx) hz) (heap_under h m (2 * i + 1) (by omega) hz j hj y hy)
      · have hl : 2 * i + 2 < L.length := by
          refine Decidable.byContradiction fun hn => ?_
          rw [subT_out hn] at hj; cases hj
        have hz : L[2 * i + 2]? = some (L[2 * i + 2]'hl) := List.getElem?_eq_getElem _
        exact le_trans (h (2 * i + 2) x _ (by omega) id (by rw [show (2 * i + 2 - 1) / 2 = i by omega]; exact hx) hz) (heap_under h m (2 * i + 2) (by omega) hz j hj y hy)
theorem dueAt_late {L : List It} (h : Heap L) {now : Int} {i : Nat} {x : It} (hx : L[i]? = some x) (hd : ¬ x.due ≤ now) : dueAt L now (subT L.length i) = [] := by
  unfold dueAt
  rw [List.filter_eq_nil_iff]
  intro y hy
  obtain ⟨j, hj, hy⟩ := List.mem_filterMap.1 hy
  have := heap_under h L.length i (by omega) hx j hj y hy
  unfold le at this
  simp; omega
theorem dueGo_perm {L : List It} (h : Heap L) (now : Int) : ∀ (f : Nat) (t : List Nat) (out : List It), todoT L.length t ≤ f →
    (dueGo L now f t out).Perm (out ++ dueAt L now (t.flatMap (subT L.length)))
  | 0, t, out, hf => by
    cases t with
    | nil => simp [dueGo, dueAt]
    | cons i r => rw [todoT_cons] at hf; have := dueT_pos L.length i; omega
  | f + 1, [], out, hf => by simp [dueGo, dueAt]
  | f + 1, i :: r, out, hf => by
    rw [todoT_cons] at hf
    have hp := dueT_pos L.length i
    rw [List.flatMap_cons, dueAt_append]
    by_cases hi : i < L.length
    · have hx : L[i]? = some L[i] := by simp [hi]
      generalize L[i] = x at hx
      by_cases hd : x.due ≤ now
      · rw [dueGo_in hx hd]
        refine (dueGo_perm h now f _ _ (by rw [todoT_two]; rw [dueT_in hi] at hf; omega)).trans ?_
        rw [List.flatMap_append, dueAt_append, subT_in hi]
        have e1 : dueAt L now (i :: (subT L.length (2 * i + 1) ++ subT L.length (2 * i + 2))) = [x] ++ dueAt L now (subT L.length (2 * i + 1) ++ subT L.length (2 * i + 2)) := by
          unfold dueAt
          simp [hx, hd]
        rw [e1]
        simp only [List.flatMap_cons, List.flatMap_nil, List.append_nil, List.append_assoc]
        refine List.Perm.append_left out (List.Perm.append_left [x] List.perm_append_comm)
      · rw [dueGo_late hx hd, dueAt_late h hx hd, List.nil_append]
        exact dueGo_perm h now f r out (by omega)
    · rw [dueGo_out hi, subT_out hi]
      exact dueGo_perm h now f r out (by omega)
theorem range_filterMap : ∀ L : List It, (List.range L.length).filterMap (fun i => L[i]?) = L
  | [] => rfl
  | x :: r => by
    rw [List.length_cons, List.range_succ_eq_map, List.filterMap_cons]
    simp only [List.getElem?_cons_zero, List.filterMap_map]
    congr 1
    have := range_filterMap r
    simpa [Function.comp_def] using this
theorem dueL_perm {s : Hp} (h : Heap s.L) (now : Int) : (dueL s now).Perm (s.L.filter (fun x => decide (x.due ≤ now))) := by
  have := dueGo_perm h now (todoT s.L.length [0]) [0] [] (Nat.le_refl _)
  simp only [List.nil_append, List.flatMap_cons, List.flatMap_nil, List.append_nil] at this
  refine this.trans ?_
  unfold dueAt
  have hp := ((subT_perm s.L.length).filterMap (fun i => s.L[i]?)).filter (fun x => decide (x.due ≤ now))
  rw [range_filterMap] at hp
  exact hp
end Go.Hm
