/- slices.SortFunc at a heap's things, by any comparison; the timers' comparison. -/
import Derived.Test.YtkhphnidopbjjaaSo
import Derived.Test.YtkhphnidopbjjaaT1
namespace Go.Proofs.Ytkhphnidopbjjaa
open Go.RowKit Go.Own Go.Own.MapTy Go.Hm Go.Sort Go.Lib
open Go.Own.Cells (sz enc)
theorem pairwise_sorted_by {cmp : It → It → Int} {d : Array It} {n : Nat} (hn : d.size = n) (h : SortedIn (ltOf cmp) 0 n d) : d.toList.Pairwise (fun a b => ltOf cmp b a = false) := by
  rw [List.pairwise_iff_getElem]
  intro i j hi hj hij
  have := h i j (Nat.zero_le _) hij (by simpa [← hn] using hj)
  rw [getElem!_pos d i (by simpa using hi), getElem!_pos d j (by simpa using hj)] at this
  simpa using this
/-- slices.SortFunc by a comparison of one's own -/
theorem sort_by (F : FuncId) (cmp : It → It → Int) (swo : SWO (ltOf cmp)) (eg : ∀ args w, (callFunc F args).run Try.prog w = .ok (.enter F args) w)
    (hc : ∀ (a b : It) (w : World), Calls Try.prog F #[.agg #[.int .i64 a.run, .int .i64 a.kind, .int .i64 a.id, .int .i64 a.due, .int .u64 a.seq], .agg #[.int .i64 b.run, .int .i64 b.kind, .int .i64 b.id, .int .i64 b.due, .int .u64 b.seq]] w fun e w' => e = .returned (.int .i64 (cmp a b)) ∧ ∃ q os', w' = grow (w.drewN q) os')
    (v : Value) (xs : List It) (w : World) (h : RowAt w 35 v xs) (hn : xs.length < 4611686018427387904) :
    Calls Try.prog 46 #[v, .func (.func F) #[] #[]] w fun e w' =>
      e = .returned (.tuple #[]) ∧ ∃ ys : List It, ys.Perm xs ∧ ys.Pairwise (fun a b => ltOf cmp b a = false) ∧ RowAt w' 35 v ys ∧ Keeps (fun j => v.ownBlock = some j) w w' := by
  by_cases hv : v = .slice none 0 0
  · subst hv
    have hx : xs = [] := by
      rcases h with ⟨_, h⟩ | ⟨g, off, cap, _, h, _⟩
      · exact h
      · cases h
    subst hx
    exact (AnyF.slices_SortFunc_none (P := Try.prog) Try.sortItem none 0 _ w).mono fun e w' ⟨he, hw⟩ => ⟨he, [], List.Perm.refl _, List.Pairwise.nil, by rw [hw]; exact h, by rw [hw]; exact Keeps.refl _ w⟩
  · obtain ⟨g, off, cap, rfl⟩ : ∃ g off cap, v = .slice (some ⟨g, off, none⟩) xs.length cap := by
      rcases h with ⟨h, _⟩ | ⟨g, off, cap, _, h, _⟩
      · exact absurd h hv
      · exact ⟨g, off, cap, h⟩
    have hH := holds_of_row h
    have hb : g < w.heap.size := h.lt (g := g) rfl
    have hcon := AnyQ.slices_SortFunc Try.sortItem 5 Try.isAgg35 Try.sizeOf35 itEnc (fun _ => rfl) (fun x v hv => by simp [itEnc] at hv; rcases hv with rfl | rfl | rfl | rfl | rfl <;> rfl) cmp swo F #[] g off cap xs.toArray w eg (fun _ _ _ _ x y => hc x y _) hH hb (by simpa using hn)
    rw [List.size_toArray] at hcon
    refine hcon.mono ?_
    rintro e w' ⟨he, d', n, os, hp, hs, rfl⟩
    have hp' := perm_of_permIn (d := xs.toArray) hp
    have hsz : d'.size = xs.length := by simpa using hp.1
    exact ⟨he, d'.toList, by simpa using hp', pairwise_sorted_by hsz hs, row_sorted h d' hsz n os, (keeps_sorted w g off n d' os).mono (fun j _ e => by rw [e]; rfl)⟩

set_option maxHeartbeats 400000 in
theorem isNaNint (a : Int) (w : World) :
    Calls Try.prog 75 #[.int .i64 a] w fun e w' => e = .returned (.bool false) ∧ w = w' := by
  go_enter Try.func75, Try.ntmps75
  go_wp2
  go_ret
  exact ⟨by simp, rfl⟩
set_option maxHeartbeats 400000 in
theorem cmpint (a b : Int) (w : World) :
    Calls Try.prog 61 #[.int .i64 a, .int .i64 b] w fun e w' => e = .returned (.int .i64 (cmpI a b)) ∧ w = w' := by
  go_enter Try.func61, Try.ntmps61
  go_wp2_with (go_at_call 75; refine (isNaNint _ _).mono ?_; rintro e w' ⟨rfl, rfl⟩)
  all_goals (go_ret; refine ⟨ret_i64 ?_, rfl⟩; unfold cmpI)
  · rw [if_pos (by assumption)]
  · rw [if_neg (by omega), if_pos (by assumption)]
  · rw [if_neg (by omega), if_neg (by omega)]
set_option maxHeartbeats 2000000 in
theorem compareT_grow (a b : It) (w : World) :
    Calls Try.prog 51 #[.agg #[.int .i64 a.run, .int .i64 a.kind, .int .i64 a.id, .int .i64 a.due, .int .u64 a.seq], .agg #[.int .i64 b.run, .int .i64 b.kind, .int .i64 b.id, .int .i64 b.due, .int .u64 b.seq]] w fun e w' => e = .returned (.int .i64 (cmpT a b)) ∧ ∃ q os', w' = grow (w.drewN q) os' := by
  unfold cmpT
  by_cases h1 : cmpI a.due b.due = 0
  · rw [if_neg (by simpa using h1)]
    have t1 : (cmpI a.due b.due == 0) = true := by simp [h1]
    clear h1
    by_cases h2 : cmpI a.run b.run = 0
    · rw [if_neg (by simpa using h2)]
      have t2 : (cmpI a.run b.run == 0) = true := by simp [h2]
      clear h2
      by_cases h3 : cmpI a.kind b.kind = 0
      · rw [if_neg (by simpa using h3)]
        have t3 : (cmpI a.kind b.kind == 0) = true := by simp [h3]
        clear h3
        go_enter Try.func51, Try.ntmps51
        go_wp2_with (first | (go_at_call 57; refine (cmp64 _ _ _).mono ?_; rintro e w' ⟨rfl, rfl⟩) | (go_at_call 61; refine (cmpint _ _ _).mono ?_; rintro e w' ⟨rfl, rfl⟩))
        go_ret
        exact ⟨rfl, 0, _, by rw [alloc_eq_grow, alloc_eq_grow, grow_grow]; rfl⟩
      · rw [if_pos (by simpa using h3)]
        have t3 : (cmpI a.kind b.kind == 0) = false := by simp [h3]
        clear h3
        go_enter Try.func51, Try.ntmps51
        go_wp2_with (first | (go_at_call 57; refine (cmp64 _ _ _).mono ?_; rintro e w' ⟨rfl, rfl⟩) | (go_at_call 61; refine (cmpint _ _ _).mono ?_; rintro e w' ⟨rfl, rfl⟩))
        go_ret
        exact ⟨rfl, 0, _, by rw [alloc_eq_grow, alloc_eq_grow, grow_grow]; rfl⟩
    · rw [if_pos (by simpa using h2)]
      have t2 : (cmpI a.run b.run == 0) = false := by simp [h2]
      clear h2
      go_enter Try.func51, Try.ntmps51
      go_wp2_with (first | (go_at_call 57; refine (cmp64 _ _ _).mono ?_; rintro e w' ⟨rfl, rfl⟩) | (go_at_call 61; refine (cmpint _ _ _).mono ?_; rintro e w' ⟨rfl, rfl⟩))
      go_ret
      exact ⟨rfl, 0, _, by rw [alloc_eq_grow, alloc_eq_grow, grow_grow]; rfl⟩
  · rw [if_pos (by simpa using h1)]
    have t1 : (cmpI a.due b.due == 0) = false := by simp [h1]
    clear h1
    go_enter Try.func51, Try.ntmps51
    go_wp2_with (first | (go_at_call 57; refine (cmp64 _ _ _).mono ?_; rintro e w' ⟨rfl, rfl⟩) | (go_at_call 61; refine (cmpint _ _ _).mono ?_; rintro e w' ⟨rfl, rfl⟩))
    go_ret
    exact ⟨rfl, 0, _, by rw [alloc_eq_grow, alloc_eq_grow, grow_grow]; rfl⟩
end Go.Proofs.Ytkhphnidopbjjaa
