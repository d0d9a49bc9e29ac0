/- What is to be written at a tick, and what is left when it was: plain lists. -/
import Derived.Test.YtkhphnidopbjjaaT7
namespace Go.Hm
open Go.Own Go.Own.MapTy
/-- only timers and deadlines wait -/
def KOK (l : List Th) : Prop := ∀ x ∈ l, x.kind = 1 ∨ x.kind = 2
theorem KOK.nil : KOK [] := by simp [KOK]
theorem KOK.sub {l l' : List Th} (h : KOK l) (hs : ∀ x ∈ l', x ∈ l) : KOK l' := fun x hx => h x (hs x hx)
theorem KOK.put {l : List Th} (h : KOK l) (x : Th) (hx : x.kind = 1 ∨ x.kind = 2) : KOK (putL l x).1 := by
  unfold putL
  split
  · exact h
  · intro y hy
    rcases List.mem_cons.1 ((insT_perm x l).mem_iff.1 hy) with rfl | hy
    · exact hx
    · exact h y hy
theorem KOK.apply {l : List Th} (h : KOK l) (run : Int) (e : Ev) : KOK (applyL l run e).1 := by
  unfold applyL
  split
  · split
    · exact h.put _ (.inr rfl)
    · exact h
  · split
    · exact h.put _ (.inl rfl)
    · split
      · split
        · exact h.sub fun x hx => (List.mem_filter.1 hx).1
        · exact h
      · split
        · exact h.sub fun x hx => (List.mem_filter.1 hx).1
        · exact h
def evOf (f : Fr) : Ev := ⟨0, f.time, f.kind, f.a, 0, .empty, .empty, 0, 0, .empty, none, 0, 0⟩
/-- is it still there when those of P were written? -/
def stays (P : List Th) (y : Th) : Bool := !(decide (y ∈ P)) && !(over (firesM P []) y.run)
structure FireInv (l : List Th) (now : Int) (F : List Fr) (k : Nat) (lk : List Th) : Prop where
  ex : ∃ P R, dueTh now l = P ++ R ∧ F.drop k = firesL now R (firesM P []) ∧ lk = l.filter (stays P)
theorem over_upd (m : List (Int × Bool)) (r s : Int) : over (upd m r true) s = (decide (s = r) || over m s) := by
  unfold over
  rw [get_upd]
  by_cases h : s = r <;> simp [h]
theorem FireInv.zero (l : List Th) (now : Int) : FireInv l now (firesL now (dueTh now l) []) 0 l :=
  ⟨[], dueTh now l, rfl, rfl, (List.filter_eq_self.2 fun y _ => by simp [stays, over, firesM, MapTy.get]).symm⟩
theorem due_mem {l : List Th} {now : Int} {x : Th} (h : x ∈ dueTh now l) : x ∈ l ∧ x.due ≤ now := by
  have := List.mem_filter.1 h
  exact ⟨this.1, by simpa using this.2⟩
theorem keyT_inj {l : List Th} (hk : (l.map Th.key).Nodup) {x y : Th} (hx : x ∈ l) (hy : y ∈ l) (h : x.key = y.key) : x = y := by
  obtain ⟨i, hi, rfl⟩ := List.getElem_of_mem hx
  obtain ⟨j, hj, rfl⟩ := List.getElem_of_mem hy
  have : i = j := by
    refine (List.getElem?_inj (by simpa using hi) hk).1 ?_
    simp [hi, hj, h]
  subst this; rfl
theorem stays_over {P : List Th} {x : Th} (ho : over (firesM P []) x.run = true) (y : Th) : stays (P ++ [x]) y = stays P y := by
  unfold stays
  have hm : firesM (P ++ [x]) [] = firesM P [] := by rw [firesM_append]; simp only [firesM]; unfold fireM; rw [if_pos ho]
  rw [hm]
  by_cases hy : y = x
  · subst hy; rw [ho]; simp
  · have : (y ∈ P ++ [x]) ↔ y ∈ P := by simp [hy]
    simp only [this]
/-- the next that is written -/
theorem fire_step {l : List Th} {now : Int} (hnd : (l.map Th.key).Nodup) (hK : KOK l) : ∀ (R P : List Th) (f : Fr) (r : List Fr), dueTh now l = P ++ R → firesL now R (firesM P []) = f :: r →
    f.time = now ∧ (f.kind = 12 ∨ f.kind = 20) ∧ (f.kind = 12 → (l.filter (stays P)).any (fun y => decide (y.key = ⟨f.run, 1, f.a⟩)) = true) ∧ (applyL (l.filter (stays P)) f.run (evOf f)).2 = 0 ∧
      ∃ P' R', dueTh now l = P' ++ R' ∧ r = firesL now R' (firesM P' []) ∧ (applyL (l.filter (stays P)) f.run (evOf f)).1 = l.filter (stays P')
  | [], P, f, r, _, h => by simp [firesL] at h
  | x :: R, P, f, r, hD, h => by
    have hD' : dueTh now l = (P ++ [x]) ++ R := by rw [hD]; simp
    have hx : x ∈ l := (due_mem (now := now) (by rw [hD]; simp)).1
    have hdn : (dueTh now l).Nodup := by
      have h1 : l.Nodup := List.Pairwise.imp (fun h e => h (by rw [e])) (List.pairwise_map.1 hnd)
      exact h1.filter _
    have hxP : x ∉ P := by
      rw [hD] at hdn
      exact fun hm => (List.nodup_append.1 hdn).2.2 x hm x (by simp) rfl
    simp only [firesL] at h
    by_cases ho : over (firesM P []) x.run = true
    · rw [if_pos ho] at h
      have hm : firesM (P ++ [x]) [] = firesM P [] := by rw [firesM_append]; simp only [firesM]; unfold fireM; rw [if_pos ho]
      have hs : l.filter (stays (P ++ [x])) = l.filter (stays P) := List.filter_congr fun y _ => stays_over ho y
      have := fire_step hnd hK R (P ++ [x]) f r hD' (by rw [hm]; exact h)
      rw [hs] at this
      exact this
    · rw [if_neg ho] at h
      simp only [List.cons.injEq] at h
      obtain ⟨rfl, rfl⟩ := h
      have hm : firesM (P ++ [x]) [] = fireM (firesM P []) x := by rw [firesM_append]; rfl
      have hin : x ∈ l.filter (stays P) := List.mem_filter.2 ⟨hx, by simp [stays, hxP, ho]⟩
      rcases hK x hx with hk | hk
      · have hf : fireOf now x = ⟨x.run, now, 12, x.id⟩ := by unfold fireOf; rw [if_neg (by omega)]
        have hkey : x.key = ⟨x.run, 1, x.id⟩ := by unfold Th.key; rw [hk]
        have hany : (l.filter (stays P)).any (fun y => decide (y.key = ⟨x.run, 1, x.id⟩)) = true := List.any_eq_true.2 ⟨x, hin, by simp [hkey]⟩
        have ha : applyL (l.filter (stays P)) x.run (evOf ⟨x.run, now, 12, x.id⟩) = ((l.filter (stays P)).filter (fun y => !decide (y.key = ⟨x.run, 1, x.id⟩)), 0) := by
          unfold applyL
          rw [if_neg (by show ¬ (12 : Int) = 1; decide), if_neg (by show ¬ (12 : Int) = 11; decide), if_pos (by left; rfl)]
          exact if_pos hany
        rw [hf, ha]
        refine ⟨rfl, .inl rfl, fun _ => hany, rfl, P ++ [x], R, hD', by rw [hm], ?_⟩
        rw [List.filter_filter]
        refine List.filter_congr fun y hy => ?_
        have h1 : firesM (P ++ [x]) [] = firesM P [] := by rw [hm]; unfold fireM; rw [if_neg ho, if_neg (by omega)]
        unfold stays
        rw [h1, ← hkey]
        by_cases hyx : y = x
        · subst hyx; simp
        · have h2 : ¬ y.key = x.key := fun e => hyx (keyT_inj hnd hy hx e)
          have h3 : (y ∈ P ++ [x]) ↔ y ∈ P := by simp [hyx]
          simp [h2, hyx]
      · have hf : fireOf now x = ⟨x.run, now, 20, 0⟩ := by unfold fireOf; rw [if_pos hk]
        have ha : applyL (l.filter (stays P)) x.run (evOf ⟨x.run, now, 20, 0⟩) = ((l.filter (stays P)).filter (fun y => !(y.run == x.run)), 0) := by
          unfold applyL
          rw [if_neg (by show ¬ (20 : Int) = 1; decide), if_neg (by show ¬ (20 : Int) = 11; decide), if_neg (by show ¬ ((20 : Int) = 12 ∨ (20 : Int) = 13); decide), if_pos (by show (16 : Int) ≤ 20 ∧ (20 : Int) ≤ 21; decide)]
        rw [hf, ha]
        refine ⟨rfl, .inr rfl, fun h => absurd h (by show ¬ (20 : Int) = 12; decide), rfl, P ++ [x], R, hD', by rw [hm], ?_⟩
        rw [List.filter_filter]
        refine List.filter_congr fun y hy => ?_
        have h1 : firesM (P ++ [x]) [] = upd (firesM P []) x.run true := by rw [hm]; unfold fireM; rw [if_neg ho, if_pos hk]
        unfold stays
        rw [h1, over_upd]
        by_cases hyx : y.run = x.run
        · simp [hyx]
        · have h2 : ¬ y = x := fun e => hyx (by rw [e])
          simp [hyx, h2]
theorem FireInv.step {l : List Th} {now : Int} {F : List Fr} {k : Nat} {lk : List Th} (h : FireInv l now F k lk) (hnd : (l.map Th.key).Nodup) (hK : KOK l) {f : Fr} (hf : F[k]? = some f) :
    f.time = now ∧ (f.kind = 12 ∨ f.kind = 20) ∧ (f.kind = 12 → lk.any (fun y => decide (y.key = ⟨f.run, 1, f.a⟩)) = true) ∧ (applyL lk f.run (evOf f)).2 = 0 ∧ FireInv l now F (k + 1) (applyL lk f.run (evOf f)).1 := by
  obtain ⟨P, R, h1, h2, h3⟩ := h.ex
  obtain ⟨hk, rfl⟩ := List.getElem?_eq_some_iff.1 hf
  rw [List.drop_eq_getElem_cons hk] at h2
  obtain ⟨a1, a2, a3, a4, P', R', a5, a6, a7⟩ := fire_step hnd hK R P _ _ h1 h2.symm
  subst h3
  exact ⟨a1, a2, a3, a4, ⟨P', R', a5, a6, a7⟩⟩
theorem firesL_over (now : Int) : ∀ (R P : List Th), firesL now R (firesM P []) = [] → ∀ x ∈ R, over (firesM P []) x.run = true
  | [], _, _, x, hx => by simp at hx
  | y :: R, P, h, x, hx => by
    simp only [firesL] at h
    by_cases ho : over (firesM P []) y.run = true
    · rw [if_pos ho] at h
      rcases List.mem_cons.1 hx with rfl | hx
      · exact ho
      · exact firesL_over now R P h x hx
    · rw [if_neg ho] at h; cases h
/-- behind the last nothing is due -/
theorem FireInv.last {l : List Th} {now : Int} {F : List Fr} {lk : List Th} (h : FireInv l now F F.length lk) : (∀ x ∈ lk, now < x.due) ∧ lk.length ≤ l.length := by
  obtain ⟨P, R, h1, h2, h3⟩ := h.ex
  rw [List.drop_length] at h2
  subst h3
  refine ⟨fun x hx => ?_, List.length_filter_le _ _⟩
  obtain ⟨h4, h5⟩ := List.mem_filter.1 hx
  by_cases hd : x.due ≤ now
  · exfalso
    have hm : x ∈ P ++ R := by rw [← h1]; exact List.mem_filter.2 ⟨h4, by simpa using hd⟩
    unfold stays at h5
    simp only [Bool.and_eq_true, Bool.not_eq_true', decide_eq_false_iff_not] at h5
    rcases List.mem_append.1 hm with hm | hm
    · exact h5.1 hm
    · have := firesL_over now R P h2.symm x hm
      rw [h5.2] at this; cases this
  · omega
theorem FireInv.none_due {l : List Th} {now : Int} {F : List Fr} {lk : List Th} (h : FireInv l now F F.length lk) : firesL now (dueTh now lk) [] = [] := by
  have : dueTh now lk = [] := List.filter_eq_nil_iff.2 fun x hx => by have := h.last.1 x hx; simp; omega
  rw [this]; rfl
end Go.Hm
