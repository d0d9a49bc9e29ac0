/- Maps that are ranged over: when each entry was born; what was seen. -/
import Derived.Test.YtkhphnidopbjjaaLib5
import Derived.Maps.RangeRun
import Derived.Maps.Range
namespace Go.Own
open Go.RowKit Go.Own.MapTy
theorem map_inj_of_nodup {α β : Type} {f : α → β} : ∀ {l : List α}, (l.map f).Nodup → ∀ {x y : α}, x ∈ l → y ∈ l → f x = f y → x = y
  | [], _, _, _, hx, _, _ => by cases hx
  | z :: r, h, x, y, hx, hy, e => by
    rw [List.map_cons, List.nodup_cons] at h
    rcases List.mem_cons.1 hx with ex | hx'
    · rcases List.mem_cons.1 hy with ey | hy'
      · rw [ex, ey]
      · exact absurd (List.mem_map.2 ⟨y, hy', by rw [← e, ex]⟩) h.1
    · rcases List.mem_cons.1 hy with ey | hy'
      · exact absurd (List.mem_map.2 ⟨x, hx', by rw [e, ey]⟩) h.1
      · exact map_inj_of_nodup h.2 hx' hy' e
/-- as MapAt; no two entries were born at one tick, none after now -/
def MapSt {κ ν : Type} (M : MapTy κ ν) (w : World) (b : Nat) (m : List (κ × ν)) : Prop :=
  ∃ es clock, w.heap[b]? = some (.map es clock) ∧ es.toList.map (fun (y : MapEntry) => (y.key, y.val)) = m.map (fun p => (M.ke p.1, M.ve p.2)) ∧ (m.map (·.1)).Nodup ∧ (∀ x ∈ es.toList, x.born < clock) ∧ (es.toList.map (·.born)).Nodup
section
variable {κ ν : Type} [DecidableEq κ] {M : MapTy κ ν} {P : Program} {k e t : TypeId} {w w' : World} {b r : Nat} {m : List (κ × ν)}
omit [DecidableEq κ] in
theorem MapSt.at_ (h : MapSt M w b m) : MapAt M w b m := by
  obtain ⟨es, clock, h1, h2, h3, _⟩ := h
  exact ⟨es, clock, h1, h2, h3⟩
omit [DecidableEq κ] in
theorem MapSt.frame (h : MapSt M w b m) (hb : w'.heap[b]? = w.heap[b]?) : MapSt M w' b m := by
  obtain ⟨es, clock, h1, h⟩ := h
  exact ⟨es, clock, by rw [hb]; exact h1, h⟩
omit [DecidableEq κ] in
theorem MapSt.keep {S : Nat → Prop} (h : MapSt M w b m) (hk : Keeps S w w') (hs : ¬ S b) : MapSt M w' b m := h.frame (hk.block b h.at_.lt hs)
omit [DecidableEq κ] in
theorem MapSt.made (w : World) (M : MapTy κ ν) : MapSt M (w.alloc (.map #[] 0)) w.heap.size [] :=
  ⟨#[], 0, heap_alloc_new w _, rfl, by simp, by simp, by simp⟩
theorem MapSt.store (h : MapSt M w b m) (K : KLaw M P k) (ht : P.underlying t = some (.map k e)) (x : κ) (v : ν) :
    ∃ o, (∀ W : World, blk W b = blk w b → (Instr.mapUpdate t (.map (some b)) (M.ke x) (M.ve v)).run P W = .ok () (setBlock W b o)) ∧
      ∀ W : World, W.heap[b]? = some o → MapSt M W b (upd m x v) := by
  have hn := h.at_.nodup
  obtain ⟨es, clock, h1, h2, h3, h4, h5⟩ := h
  have hr := fun W => K.find W x m es.toList h2
  cases hs : seek x m 0 with
  | none =>
    simp only [hs, Option.map_none] at hr
    have hl := seek_none hs
    refine ⟨.map (es.push ⟨M.ke x, M.ve v, clock⟩) (clock + 1), fun W hW => ?_, fun W hW => ⟨_, _, hW, ?_, MapTy.upd_nodup hn x v, fun y hy => ?_, ?_⟩⟩
    · have hb : W.heap[b]? = some (.map es clock) := hW.trans h1
      simp [Instr.mapUpdate, run_underlying ht, MapKept.run_getObj_map hb, K.check W false x, hr, MapKept.run_setObj_map _ hb, Result.andThen, setBlock]
    · simp [MapTy.upd, hl, h2]
    · rw [Array.toList_push] at hy
      rcases List.mem_append.1 hy with hy | hy
      · have := h4 y hy; omega
      · simp at hy; subst hy; simp
    · rw [Array.toList_push, List.map_append]
      refine List.nodup_append.2 ⟨h5, by simp, fun a ha c hc => ?_⟩
      simp at hc; subst hc
      obtain ⟨y, hy, rfl⟩ := List.mem_map.1 ha
      have := h4 y hy; omega
  | some p =>
    obtain ⟨j, v0⟩ := p
    simp only [hs, Option.map_some] at hr
    obtain ⟨hl, _, hmj⟩ := seek_some hs
    rw [Nat.sub_zero] at hmj
    have hse : ∃ e0 : MapEntry, es.toList[j]? = some e0 ∧ e0.key = M.ke x := by
      have : (m.map (fun p => (M.ke p.1, M.ve p.2)))[j]? = some (M.ke x, M.ve v0) := by simp [hmj]
      rw [← h2] at this
      simp only [List.getElem?_map, Option.map_eq_some_iff] at this
      obtain ⟨e0, he, heq⟩ := this
      exact ⟨e0, he, congrArg Prod.fst heq⟩
    obtain ⟨e0, hj, hk0⟩ := hse
    have hje : es[j]? = some e0 := by simpa using hj
    have hmod : (es.modify j fun e' => { e' with key := M.ke x, val := M.ve v }).toList = es.toList.set j { e0 with key := M.ke x, val := M.ve v } := by rw [Array.toList_modify, ChangeMaps.modify_eq_set _ _ _ _ hj]
    have hborn : (es.toList.set j { e0 with key := M.ke x, val := M.ve v }).map (·.born) = es.toList.map (·.born) := by
      rw [List.map_set]
      refine List.ext_getElem? fun i => ?_
      rw [List.getElem?_set]
      split
      · rename_i hij
        subst hij
        simp only [List.getElem?_map, hj, Option.map_some, List.length_map]
        rw [if_pos (List.getElem?_eq_some_iff.1 hj).1]
      · rfl
    refine ⟨.map (es.modify j fun e' => { e' with key := M.ke x, val := M.ve v }) clock, fun W hW => ?_, fun W hW => ⟨_, _, hW, ?_, MapTy.upd_nodup hn x v, fun y hy => ?_, by rw [hmod, hborn]; exact h5⟩⟩
    · have hb : W.heap[b]? = some (.map es clock) := hW.trans h1
      simp [Instr.mapUpdate, run_underlying ht, MapKept.run_getObj_map hb, K.check W false x, hr, hje, hk0, K.stays W x, MapKept.run_setObj_map _ hb, Result.andThen, setBlock]
    · have e1 : MapTy.upd m x v = m.set j (x, v) := by
        unfold MapTy.upd
        rw [hl]
        simp only [Option.isSome_some, if_true]
        refine List.ext_getElem? fun i => ?_
        rw [List.getElem?_map, List.getElem?_set]
        by_cases hij : j = i
        · subst hij
          rw [hmj, if_pos rfl, if_pos (List.getElem?_eq_some_iff.1 hmj).1]
          simp
        · rw [if_neg hij]
          cases hmi : m[i]? with
          | none => rfl
          | some p =>
            simp only [Option.map_some]
            rw [if_neg]
            intro hp
            apply hij
            have a1 : (m.map (·.1))[j]? = some x := by simp [hmj]
            have a2 : (m.map (·.1))[i]? = some x := by simp [hmi, hp]
            exact (List.getElem?_inj (List.getElem?_eq_some_iff.1 a1).1 hn).1 (a1.trans a2.symm)
      rw [e1, List.map_set, ← h2, Array.toList_modify, ChangeMaps.modify_eq_set _ _ _ _ hj, List.map_set]
    · rw [hmod] at hy
      have hb' : y.born ∈ (es.toList.set j { e0 with key := M.ke x, val := M.ve v }).map (·.born) := List.mem_map.2 ⟨y, hy, rfl⟩
      rw [hborn] at hb'
      obtain ⟨z, hz, e2⟩ := List.mem_map.1 hb'
      have := h4 z hz; omega
/-- 'for k := range m' under way: the keys vs have come -/
def RangeAt {κ ν : Type} (M : MapTy κ ν) (w : World) (b r : Nat) (m : List (κ × ν)) (vs : List κ) : Prop :=
  ∃ es clock since seen c0, w.heap[b]? = some (.map es clock) ∧ es.toList.map (fun (y : MapEntry) => (y.key, y.val)) = m.map (fun p => (M.ke p.1, M.ve p.2)) ∧ (m.map (·.1)).Nodup ∧ (es.toList.map (·.born)).Nodup ∧
    w.heap[r]? = some (.mapIter (some b) since seen c0) ∧ (∀ x ∈ es.toList, x.born < since) ∧ since ≤ c0 ∧ since ≤ clock ∧ vs.Nodup ∧ (∀ k ∈ vs, k ∈ m.map (·.1)) ∧
    ∀ x ∈ es.toList, ∀ k, x.key = M.ke k → (k ∈ vs ↔ seen.contains x.born = true)
omit [DecidableEq κ] in
theorem RangeAt.keep {S : Nat → Prop} {vs : List κ} (h : RangeAt M w b r m vs) (hk : Keeps S w w') (hs : ¬ S b) (hr : ¬ S r) : RangeAt M w' b r m vs ∧ w'.rangeLeft b r = w.rangeLeft b r := by
  obtain ⟨es, clock, since, seen, c0, h1, h2, h3, h4, h5, h6⟩ := h
  have e1 := hk.block b (lt_of_heap h1) hs
  have e2 := hk.block r (lt_of_heap h5) hr
  refine ⟨⟨es, clock, since, seen, c0, e1.trans h1, h2, h3, h4, e2.trans h5, h6⟩, ?_⟩
  unfold World.rangeLeft
  rw [e1, e2]
omit [DecidableEq κ] in
theorem RangeAt.lt {vs : List κ} (h : RangeAt M w b r m vs) : b < w.heap.size ∧ r < w.heap.size := by
  obtain ⟨es, clock, since, seen, c0, h1, h2, h3, h4, h5, h6⟩ := h
  exact ⟨lt_of_heap h1, lt_of_heap h5⟩
omit [DecidableEq κ] in
theorem RangeAt.start (h : MapSt M w b m) (ht : P.underlying t = some (.map k e)) :
    ∃ o, (∀ W : World, blk W b = blk w b → (Instr.range t (.map (some b))).run P W = .ok (.pointer (some ⟨W.heap.size, 0, none⟩)) (W.alloc o)) ∧ RangeAt M (w.alloc o) b w.heap.size m [] := by
  have hlt := h.at_.lt
  obtain ⟨es, clock, h1, h2, h3, h4, h5⟩ := h
  refine ⟨.mapIter (some b) clock #[] clock, fun W hW => run_range_map W t k e b es clock ht (hW.trans h1), es, clock, clock, #[], clock, (Below.heap_alloc _ _ _ hlt).trans h1, h2, h3, h5, heap_alloc_new w _, h4, Nat.le_refl _, Nat.le_refl _, by simp, by simp, fun x _ k _ => by simp⟩
omit [DecidableEq κ] in
theorem RangeAt.next {vs : List κ} (h : RangeAt M w b r m vs) (ty : TypeId) :
    ((∀ k ∈ m.map (·.1), k ∈ vs) ∧ (Instr.next (.pointer (some ⟨r, 0, none⟩)) false ty).run P w = .ok (.tuple #[.bool false]) w) ∨
    ∃ x v w', (Instr.next (.pointer (some ⟨r, 0, none⟩)) false ty).run P w = .ok (.tuple #[.bool true, M.ke x, M.ve v]) w' ∧ RangeAt M w' b r m (vs ++ [x]) ∧ Keeps (fun j => j = r) w w' ∧ w'.heap.size = w.heap.size ∧ w'.rangeLeft b r < w.rangeLeft b r ∧
      ∀ W : World, blk W b = blk w' b → blk W r = blk w' r → (Instr.entry (.pointer (some ⟨r, 0, none⟩))).run P W = .ok (.tuple #[M.ke x, M.ve v]) W := by
  obtain ⟨es, clock, since, seen, c0, h1, h2, h3, h4, h5, h6, h7, h8, h9, h10, h11⟩ := h
  have hne : r ≠ b := by
    intro e
    rw [e, h1] at h5
    cases h5
  have ent : ∀ y ∈ es.toList, ∃ p ∈ m, y.key = M.ke p.1 ∧ y.val = M.ve p.2 := fun y hy => by
    have hm : (y.key, y.val) ∈ es.toList.map (fun (y : MapEntry) => (y.key, y.val)) := List.mem_map.2 ⟨y, hy, rfl⟩
    rw [h2] at hm
    obtain ⟨p, hp, e⟩ := List.mem_map.1 hm
    simp only [Prod.mk.injEq] at e
    exact ⟨p, hp, e.1.symm, e.2.symm⟩
  rcases run_next_at (P := P) w ty r b since c0 seen es clock h5 h1 h6 h7 with ⟨h0, hrun⟩ | ⟨y, hy, w1, hal, hrun⟩
  · refine .inl ⟨fun k hk => ?_, hrun⟩
    obtain ⟨p, hp, rfl⟩ := List.mem_map.1 hk
    have hm : (M.ke p.1, M.ve p.2) ∈ m.map (fun p => (M.ke p.1, M.ve p.2)) := List.mem_map.2 ⟨p, hp, rfl⟩
    rw [← h2] at hm
    obtain ⟨y, hy, e⟩ := List.mem_map.1 hm
    simp only [Prod.mk.injEq] at e
    exact (h11 y hy p.1 e.1).2 (all_seen es seen h0 y hy)
  · obtain ⟨hem, hes⟩ := mem_left hy
    obtain ⟨⟨x, v⟩, hp, hk1, hv1⟩ := ent y hem
    have hxn : x ∉ vs := fun hx => by have := (h11 y hem x hk1).1 hx; rw [hes] at this; cases this
    have hr1 : w1.heap[r]? = some (.mapIter (some b) since seen c0) := by rcases hal with rfl | rfl <;> exact h5
    have hb1 : w1.heap[b]? = some (.map es clock) := by rcases hal with rfl | rfl <;> exact h1
    have hset := MapKept.heap_set (o' := .mapIter (some b) since (seen.push y.born) clock) hr1
    have hb' := (hset.2 b (fun e1 => hne e1.symm)).trans hb1
    rw [hk1, hv1] at hrun
    refine .inr ⟨x, v, _, hrun, ⟨es, clock, since, seen.push y.born, clock, hb', h2, h3, h4, hset.1, h6, h8, h8, ?_, ?_, ?_⟩, ?_, ?_, ?_, ?_⟩
    · exact List.nodup_append.2 ⟨h9, by simp, fun a ha c hc => by simp at hc; subst hc; exact fun e => hxn (e ▸ ha)⟩
    · intro k hk
      rcases List.mem_append.1 hk with hk | hk
      · exact h10 k hk
      · simp at hk; subst hk; exact List.mem_map.2 ⟨_, hp, rfl⟩
    · intro z hz k hzk
      rw [contains_push]
      by_cases hb2 : z.born = y.born
      · have hzy : z = y := map_inj_of_nodup h4 hz hem hb2
        subst hzy
        have : k = x := M.inj _ _ (hzk.symm.trans hk1)
        subst this
        simp
      · have hkx : k ≠ x := fun e => by
          subst e
          have a1 : (es.toList.map (fun (y : MapEntry) => y.key)) = m.map (fun p => M.ke p.1) := by
            have := congrArg (List.map Prod.fst) h2
            rw [List.map_map, List.map_map] at this
            exact this
          have a3 : (es.toList.map (fun (y : MapEntry) => y.key)).Nodup := by
            rw [a1]
            exact List.pairwise_map.2 ((List.pairwise_map.1 h3).imp fun h e => h (M.inj _ _ e))
          have := map_inj_of_nodup a3 hz hem (hzk.trans hk1.symm)
          exact hb2 (by rw [this])
        rw [List.mem_append, List.mem_singleton]
        have hbb : (z.born == y.born) = false := beq_eq_false_iff_ne.2 hb2
        rw [hbb, Bool.or_false]
        exact ⟨fun h => (h11 z hz k hzk).1 (h.resolve_right hkx), fun h => .inl ((h11 z hz k hzk).2 h)⟩
    · rcases hal with rfl | rfl <;> exact ⟨rfl, rfl, rfl, by simp [ChangeMaps.setBlock], fun i _ hi => hset.2 i hi⟩
    · rcases hal with rfl | rfl <;> simp [ChangeMaps.setBlock]
    · have hl := left_shrinks es seen y hy
      simp only [World.rangeLeft, ChangeMaps.setBlock]
      rw [hb', hset.1, h1, h5]
      exact hl
    · intro W hWb hWr
      have := run_entry_at (P := P) W r b since seen es clock y (hWr.trans hset.1) (hWb.trans hb') hem h4
      rw [hk1, hv1] at this
      exact this
end
end Go.Own
