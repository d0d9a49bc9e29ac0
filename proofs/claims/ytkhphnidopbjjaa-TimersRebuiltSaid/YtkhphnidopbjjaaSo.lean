/- slices.SortFunc and slices.Clone at a heap's things: the shelf's contracts, in the words of this proof: a slice that reads as a list reads as a sorted permutation of it afterwards. -/
import Derived.Test.YtkhphnidopbjjaaShelf
import Derived.Test.YtkhphnidopbjjaaH7
import Derived.Test.YtkhphnidopbjjaaHm3
namespace Go.Proofs.Ytkhphnidopbjjaa
open Go.RowKit Go.Own Go.Own.MapTy Go.Hm Go.Sort Go.Lib
open Go.Own.Cells (sz enc)

set_option maxHeartbeats 1000000 in
/-- compare lays at most blocks -/
theorem compare_grow (a b : It) (w : World) :
    Calls Try.prog 44 #[.agg #[.int .i64 a.run, .int .i64 a.kind, .int .i64 a.id, .int .i64 a.due, .int .u64 a.seq], .agg #[.int .i64 b.run, .int .i64 b.kind, .int .i64 b.id, .int .i64 b.due, .int .u64 b.seq]] w fun e w' => e = .returned (.int .i64 (cmpIt a b)) ∧ ∃ q os', w' = grow (w.drewN q) os' := by
  by_cases h : cmpI a.due b.due = 0
  · have h1 : (cmpI a.due b.due == 0) = true := by simp [h]
    have H := Lib.hid h
    clear h
    go_enter Try.func44, Try.ntmps44
    go_wp2_with (first | (go_at_call 57; refine (cmp64 _ _ _).mono ?_; rintro e w' ⟨rfl, rfl⟩) | (go_at_call 58; refine (cmpu64 _ _ _).mono ?_; rintro e w' ⟨rfl, rfl⟩))
    go_ret
    exact ⟨ret_i64 (by unfold cmpIt; rw [if_neg (by simpa using H.out)]), 0, _, by rw [alloc_eq_grow, alloc_eq_grow, grow_grow]; rfl⟩
  · have h1 : (cmpI a.due b.due == 0) = false := by simp [h]
    have H := Lib.hid h
    clear h
    go_enter Try.func44, Try.ntmps44
    go_wp2_with (first | (go_at_call 57; refine (cmp64 _ _ _).mono ?_; rintro e w' ⟨rfl, rfl⟩) | (go_at_call 58; refine (cmpu64 _ _ _).mono ?_; rintro e w' ⟨rfl, rfl⟩))
    go_ret
    exact ⟨ret_i64 (by unfold cmpIt; rw [if_pos (by simpa using H.out)]), 0, _, by rw [alloc_eq_grow, alloc_eq_grow, grow_grow]; rfl⟩

theorem ltItem (x y : It) : ltOf cmpIt x y = true ↔ x.due < y.due ∨ (x.due = y.due ∧ x.seq < y.seq) := by
  rw [← lt_iff]
  simp [ltOf]
theorem ltItem_false (x y : It) : ltOf cmpIt x y = false ↔ Hm.le y x := by
  have := ltItem x y
  unfold Hm.le
  cases h : ltOf cmpIt x y with
  | true => rw [h] at this; have := this.1 rfl; simp; omega
  | false =>
    rw [h] at this
    have h2 : ¬ (x.due < y.due ∨ (x.due = y.due ∧ x.seq < y.seq)) := fun h => by have := this.2 h; cases this
    simp
    omega
theorem swoItem : SWO (ltOf cmpIt) where
  irrefl x := (ltItem_false x x).2 (Hm.le_refl x)
  trans x y z h1 h2 := by rw [ltItem] at *; omega
  ntrans x y z h1 h2 := by rw [ltItem_false] at *; exact Hm.le_trans h2 h1

theorem holds_of_row {w : World} {e : TypeId} {g off n cap : Nat} {xs : List It} (h : RowAt w e (.slice (some ⟨g, off, none⟩) n cap) xs) : HoldsK itEnc 5 w g off xs.toArray := by
  rcases h with ⟨h, _⟩ | ⟨g', off', cap', cur, hv, hb, hl, hm, hs, hc⟩
  · cases h
  · cases hv
    intro j hj
    have hj' : j < xs.length * 5 := by simpa using hj
    have hd : j / 5 < xs.length := by omega
    have hx : xs[j / 5]? = some xs[j / 5] := by simp [hd]
    have hg := flat_get xs (j / 5) (j % 5) _ hx (show j % 5 < 5 by omega)
    have he : j / 5 * sz It + j % 5 = j := by simp only [sz]; omega
    rw [he] at hg
    have hlen : j % 5 < (enc xs[j / 5]).length := by
      rw [Cells.len]
      simp only [sz]
      omega
    rw [List.getElem?_eq_getElem hlen] at hg
    have hcur := hc j _ hg
    constructor
    · rw [Own.cell_of_heap hb, hcur, get_flatK _ _ _ _ (by simpa using hj)]
      have h1 : (xs.toArray)[j / 5]! = xs[j / 5] := by simp [hd]
      rw [h1]
      exact congrArg some (getElem!_pos (enc xs[j / 5]) (j % 5) hlen).symm
    · simp [World.frozen?, hb]

theorem heap_sorted (w : World) (g off m : Nat) (d : Array It) (os : Array Obj) {k : Nat} (hk : k < w.heap.size) : (sortWorldK itEnc 5 w g off m d os).heap[k]? = if g = k then (w.heap[k]?).map (onCells (putCells id off (flatK itEnc 5 d))) else w.heap[k]? := by
  show ((w.heap.modify g (onCells (putCells id off (flatK itEnc 5 d)))) ++ os)[k]? = _
  rw [Array.getElem?_append_left (by simpa using hk), Array.getElem?_modify]
theorem keeps_sorted (w : World) (g off m : Nat) (d : Array It) (os : Array Obj) : Keeps (fun j => j = g) w (sortWorldK itEnc 5 w g off m d os) := by
  refine ⟨rfl, rfl, rfl, ?_, fun k hk hn => ?_⟩
  · show w.heap.size ≤ ((w.heap.modify g (onCells (putCells id off (flatK itEnc 5 d)))) ++ os).size
    simp
  · rw [heap_sorted w g off m d os hk, if_neg (fun e => hn e.symm)]
theorem row_sorted {w : World} {e : TypeId} {g off n cap : Nat} {xs : List It} (h : RowAt w e (.slice (some ⟨g, off, none⟩) n cap) xs) (d : Array It) (hd : d.size = xs.length) (m : Nat) (os : Array Obj) :
    RowAt (sortWorldK itEnc 5 w g off m d os) e (.slice (some ⟨g, off, none⟩) n cap) d.toList := by
  rcases h with ⟨h, _⟩ | ⟨g', off', cap', cur, hv, hb, hl, hm, hs, hc⟩
  · cases h
  · cases hv
    refine .inr ⟨g, off, cap, putCells id off (flatK itEnc 5 d) cur, by simp [hd], ?_, by simpa [hd] using hl, hm, by simpa [putCells] using hs, fun j u hu => ?_⟩
    · rw [heap_sorted w g off m d os (by have := (Array.getElem?_eq_some_iff.1 hb).1; exact this), if_pos rfl, hb]
      rfl
    · have hj : j < d.toList.length * 5 := by
        have := (List.getElem?_eq_some_iff.1 hu).1
        rw [flat_len] at this
        exact this
      have hj' : j < d.size * 5 := by simpa using hj
      have hd5 : j / 5 < d.toList.length := by omega
      have hx : d.toList[j / 5]? = some d.toList[j / 5] := List.getElem?_eq_getElem hd5
      have hg := flat_get d.toList (j / 5) (j % 5) _ hx (show j % 5 < 5 by omega)
      have he : j / 5 * sz It + j % 5 = j := by simp only [sz]; omega
      rw [he, hu] at hg
      have hlen : j % 5 < (enc d.toList[j / 5]).length := by
        rw [Cells.len]
        simp only [sz]
        omega
      rw [List.getElem?_eq_getElem hlen] at hg
      have hoff : off + j < cur.size := by
        have : xs.length * 5 ≤ cap * 5 := Nat.mul_le_mul_right 5 hl
        simp only [sz] at hs
        omega
      unfold putCells
      rw [Array.getElem?_mapIdx, Array.getElem?_eq_getElem hoff, Option.map_some, if_pos (by simp; omega), show off + j - off = j by omega, get_flatK _ _ _ _ hj', hg]
      have h1 : d[j / 5]! = d.toList[j / 5] := by
        rw [getElem!_pos d (j / 5) (by simpa using hd5)]
        simp
      rw [h1]
      exact congrArg some (getElem!_pos (enc d.toList[j / 5]) (j % 5) hlen)

theorem perm_of_permIn {d d' : Array It} (h : PermIn 0 d.size d d') : d'.toList.Perm d.toList := by
  have := h.2.2
  rw [show d'.extract 0 d.size = d' by rw [← h.1]; simp, show d.extract 0 d.size = d by simp] at this
  exact this
theorem pairwise_of_sorted {d : Array It} {n : Nat} (hn : d.size = n) (h : SortedIn (ltOf cmpIt) 0 n d) : d.toList.Pairwise Hm.le := by
  rw [List.pairwise_iff_getElem]
  intro i j hi hj hij
  have := h i j (Nat.zero_le _) hij (by simpa [← hn] using hj)
  rw [ltItem_false] at this
  rw [getElem!_pos d i (by simpa using hi), getElem!_pos d j (by simpa using hj)] at this
  simpa using this

theorem info35' : (Try.prog.info? 35).map (fun i => (i.zero, i.size, i.bytes)) = some (some (.agg #[.int .i64 0, .int .i64 0, .int .i64 0, .int .i64 0, .int .u64 0]), 5, 40) := by kernel_rfl

/-- slices.SortFunc with compare -/
theorem sort_items (v : Value) (xs : List It) (w : World) (h : RowAt w 35 v xs) (hn : xs.length < 4611686018427387904) :
    Calls Try.prog 46 #[v, .func (.func 44) #[] #[]] w fun e w' =>
      e = .returned (.tuple #[]) ∧ ∃ ys : List It, ys.Perm xs ∧ ys.Pairwise Hm.le ∧ RowAt w' 35 v ys ∧ Keeps (fun j => v.ownBlock = some j) w w' := by
  by_cases hv : v = .slice none 0 0
  · subst hv
    have hx : xs = [] := by
      rcases h with ⟨_, h⟩ | ⟨g, off, cap, _, h, _⟩
      · exact h
      · cases h
    subst hx
    exact (AnyF.slices_SortFunc_none (P := Try.prog) Try.sortItem none 0 _ w).mono fun e w' ⟨he, hw⟩ => ⟨he, [], List.Perm.refl _, List.Pairwise.nil, by rw [hw]; exact h, by rw [hw]; exact Keeps.refl _ w⟩
  · obtain ⟨g, off, cap, rfl⟩ : ∃ g off cap, v = .slice (some ⟨g, off, none⟩) xs.length cap := by
      rcases h with ⟨h, _⟩ | ⟨g, off, cap, _, h, _⟩
      · exact absurd h hv
      · exact ⟨g, off, cap, h⟩
    have hH := holds_of_row h
    have hb : g < w.heap.size := h.lt (g := g) rfl
    have eg : ∀ args w, (callFunc 44 args).run Try.prog w = .ok (.enter 44 args) w := enters_of Try.func44 (by kernel_rfl) rfl
    have hcon := AnyQ.slices_SortFunc Try.sortItem 5 Try.isAgg35 Try.sizeOf35 itEnc (fun _ => rfl) (fun x v hv => by simp [itEnc] at hv; rcases hv with rfl | rfl | rfl | rfl | rfl <;> rfl) cmpIt swoItem 44 #[] g off cap xs.toArray w eg (fun _ _ _ _ x y => compare_grow x y _) hH hb (by simpa using hn)
    rw [List.size_toArray] at hcon
    refine hcon.mono ?_
    rintro e w' ⟨he, d', n, os, hp, hs, rfl⟩
    have hp' := perm_of_permIn (d := xs.toArray) hp
    have hsz : d'.size = xs.length := by simpa using hp.1
    exact ⟨he, d'.toList, by simpa using hp', pairwise_of_sorted hsz hs, row_sorted h d' hsz n os, (keeps_sorted w g off n d' os).mono (fun j _ e => by rw [e]; rfl)⟩
end Go.Proofs.Ytkhphnidopbjjaa
