/- Later no less is due: plain lists. -/
import Derived.Test.YtkhphnidopbjjaaTf
namespace Go.Hm
open Go.Own Go.Own.MapTy
def atT (t : Int) (f : Fr) : Fr := { f with time := t }
theorem firesL_at (t u : Int) : ∀ (l : List Th) (m : List (Int × Bool)), firesL u l m = (firesL t l m).map (atT u)
  | [], _ => rfl
  | x :: r, m => by
    simp only [firesL]
    split
    · exact firesL_at t u r m
    · rw [List.map_cons, firesL_at t u r _]
      congr 1
      unfold fireOf atT
      split <;> rfl
theorem dueTh_later {t u : Int} (htu : t ≤ u) : ∀ l : List Th, l.Pairwise (fun a b => bef a b = true) → ∃ E, dueTh u l = dueTh t l ++ E
  | [], _ => ⟨[], rfl⟩
  | x :: r, h => by
    have h' := List.pairwise_cons.1 h
    by_cases hx : x.due ≤ t
    · obtain ⟨E, hE⟩ := dueTh_later htu r h'.2
      refine ⟨E, ?_⟩
      unfold dueTh at *
      rw [List.filter_cons, if_pos (by simp; omega), List.filter_cons, if_pos (by simpa using hx), hE]
      rfl
    · have : dueTh t (x :: r) = [] := by
        refine List.filter_eq_nil_iff.2 fun y hy => ?_
        rcases List.mem_cons.1 hy with rfl | hy
        · simpa using hx
        · have := h'.1 y hy
          rw [bef_iff] at this
          simp; omega
      exact ⟨_, by rw [this]; rfl⟩
/-- what is to be written at a later tick begins with what was at an earlier one, but for the tick -/
theorem fires_later {t u : Int} (htu : t ≤ u) {l : List Th} (hs : l.Pairwise (fun a b => bef a b = true)) : ∃ X, firesL u (dueTh u l) [] = (firesL t (dueTh t l) []).map (atT u) ++ X := by
  obtain ⟨E, hE⟩ := dueTh_later htu l hs
  rw [hE, firesL_append, firesL_at t u (dueTh t l) []]
  exact ⟨_, rfl⟩
theorem firesL_time (t : Int) : ∀ (l : List Th) (m : List (Int × Bool)), ∀ f ∈ firesL t l m, f.time = t
  | [], _, f, h => by simp [firesL] at h
  | x :: r, m, f, h => by
    simp only [firesL] at h
    split at h
    · exact firesL_time t r m f h
    · rcases List.mem_cons.1 h with rfl | h
      · unfold fireOf; split <;> rfl
      · exact firesL_time t r _ f h
def ofRun (r : Int) (F : List Fr) : List Fr := F.filter (fun f => f.run == r)
theorem ofRun_snoc {F : List Fr} {k : Nat} {f : Fr} (h : F[k]? = some f) (r : Int) : ofRun r (F.take (k + 1)) = ofRun r (F.take k) ++ (if f.run = r then [f] else []) := by
  have ht : F.take (k + 1) = F.take k ++ [f] := by rw [List.take_add_one, h]; rfl
  unfold ofRun
  rw [ht, List.filter_append]
  congr 1
  by_cases h : f.run = r <;> simp [h]
theorem ofRun_at {F : List Fr} {k : Nat} {f : Fr} (h : F[k]? = some f) {r : Int} (hr : f.run = r) : (ofRun r F)[(ofRun r (F.take k)).length]? = some f := by
  have h1 : F = F.take k ++ f :: F.drop (k + 1) := by
    obtain ⟨hk, rfl⟩ := List.getElem?_eq_some_iff.1 h
    rw [← List.drop_eq_getElem_cons hk, List.take_append_drop]
  have h2 : ofRun r F = ofRun r (F.take k) ++ f :: ofRun r (F.drop (k + 1)) := by
    conv => lhs; rw [h1]
    unfold ofRun
    rw [List.filter_append, List.filter_cons, if_pos (by simpa using hr)]
  rw [h2, List.getElem?_append_right (Nat.le_refl _), Nat.sub_self]
  rfl
theorem ofRun_le (r : Int) (F : List Fr) (k : Nat) : (ofRun r (F.take k)).length ≤ (ofRun r F).length :=
  (List.Sublist.filter _ (List.take_sublist _ _)).length_le
theorem ofRun_len (r : Int) (F : List Fr) : (ofRun r F).length ≤ F.length := List.length_filter_le _ _
theorem ofRun_past {F : List Fr} {k : Nat} (h : F.length ≤ k) (r : Int) : ofRun r (F.take k) = ofRun r F := by rw [List.take_of_length_le h]
end Go.Hm
