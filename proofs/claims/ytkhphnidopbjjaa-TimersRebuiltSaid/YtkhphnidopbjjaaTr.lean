/- What the runs' histories say: each read by itself they make the same queue: plain lists. -/
import Derived.Test.YtkhphnidopbjjaaTf
namespace Go.Hm
open Go.Own Go.Own.MapTy
abbrev Srt (l : List Th) : Prop := l.Pairwise (fun a b => bef a b = true)
def runL (l : List Th) (r : Int) : List Th := l.filter (fun y => y.run == r)
theorem runL_any {l : List Th} {r : Int} {k : Ky} (hk : k.run = r) : (runL l r).any (fun y => decide (y.key = k)) = l.any (fun y => decide (y.key = k)) := by
  unfold runL
  rw [List.any_filter]
  congr 1
  funext y
  by_cases h : y.key = k
  · have : y.run = r := by rw [← hk, ← h]; rfl
    simp [h, this]
  · simp [h]
theorem insT_other {x : Th} {r : Int} (h : x.run ≠ r) : ∀ l : List Th, runL (insT x l) r = runL l r
  | [] => by simp [insT, runL, h]
  | y :: l => by
    have ih := insT_other h l
    simp only [insT]
    split
    · unfold runL at *
      rw [List.filter_cons, List.filter_cons, ih]
    · unfold runL at *
      rw [List.filter_cons, if_neg (by simpa using h)]
theorem runL_insT {x : Th} {l : List Th} (hs : Srt l) (hk : ∀ y ∈ l, y.key ≠ x.key) : runL (insT x l) x.run = insT x (runL l x.run) := by
  have h1 : Srt (insT x (runL l x.run)) := insT_sorted x _ (hs.sublist List.filter_sublist) (fun y hy => hk y (List.mem_filter.1 hy).1)
  have h2 : Srt (runL (insT x l) x.run) := (insT_sorted x l hs hk).sublist List.filter_sublist
  refine perm_sorted bef (fun _ _ h => bef_asymm h) _ _ ?_ (h2.imp fun h => bef_asymm h) h1
  have h3 := (insT_perm x l).filter (fun y => y.run == x.run)
  rw [List.filter_cons, if_pos (by simp)] at h3
  exact h3.trans (insT_perm x _).symm
theorem putL_run {l : List Th} (hs : Srt l) (x : Th) : (putL (runL l x.run) x).2 = (putL l x).2 ∧ runL (putL l x).1 x.run = (putL (runL l x.run) x).1 ∧ ∀ r, r ≠ x.run → runL (putL l x).1 r = runL l r := by
  unfold putL
  rw [runL_any (r := x.run) (k := x.key) rfl]
  by_cases h : l.any (fun y => decide (y.key = x.key)) = true
  · rw [if_pos h, if_pos h]; exact ⟨rfl, rfl, fun _ _ => rfl⟩
  · rw [if_neg h, if_neg h]
    refine ⟨rfl, runL_insT hs (fun y hy e => h (List.any_eq_true.2 ⟨y, hy, by simpa using e⟩)), fun r hr => insT_other (fun e => hr e.symm) l⟩
theorem runL_comm (l : List Th) (p : Th → Bool) (r : Int) : runL (l.filter p) r = (runL l r).filter p := by
  unfold runL; rw [List.filter_filter, List.filter_filter]; congr 1; funext y; exact Bool.and_comm _ _
/-- an event of one run hangs on what waits of that run, and turns nothing of another one -/
theorem applyL_run {l : List Th} (hs : Srt l) (r : Int) (e : Ev) : (applyL (runL l r) r e).2 = (applyL l r e).2 ∧ runL (applyL l r e).1 r = (applyL (runL l r) r e).1 ∧ ∀ s, s ≠ r → runL (applyL l r e).1 s = runL l s := by
  unfold applyL
  split
  · split
    · exact putL_run hs ⟨r, 2, 0, _⟩
    · exact ⟨rfl, rfl, fun _ _ => rfl⟩
  · split
    · exact putL_run hs ⟨r, 1, e.a, _⟩
    · split
      · rw [runL_any (r := r) (k := ⟨r, 1, e.a⟩) rfl]
        split
        · refine ⟨rfl, runL_comm _ _ _, fun s hsr => ?_⟩
          show runL (l.filter _) s = runL l s
          rw [runL_comm]
          refine List.filter_eq_self.2 fun y hy => ?_
          have hy' : y.run = s := by simpa [runL] using (List.mem_filter.1 hy).2
          have : y.key ≠ ⟨r, 1, e.a⟩ := fun h => hsr (by rw [← hy']; exact congrArg Ky.run h)
          simpa using this
        · exact ⟨rfl, rfl, fun _ _ => rfl⟩
      · split
        · refine ⟨rfl, runL_comm _ _ _, fun s hsr => ?_⟩
          show runL (l.filter _) s = runL l s
          rw [runL_comm]
          refine List.filter_eq_self.2 fun y hy => ?_
          have hy' : y.run = s := by simpa [runL] using (List.mem_filter.1 hy).2
          simp [hy', hsr]
        · exact ⟨rfl, rfl, fun _ _ => rfl⟩
theorem applyL_refused {l : List Th} {r : Int} {e : Ev} (h : (applyL l r e).2 ≠ 0) : (applyL l r e).1 = l := by
  unfold applyL putL at *
  repeat' split at h
  all_goals first | exact absurd rfl h | skip
  all_goals repeat' split
  all_goals first | rfl | contradiction
theorem applyL_sorted {l : List Th} (hs : Srt l) (r : Int) (e : Ev) : Srt (applyL l r e).1 := by
  have hp : ∀ x, Srt (putL l x).1 := fun x => by
    unfold putL
    split
    · exact hs
    · rename_i h
      exact insT_sorted _ _ hs (fun y hy e => h (List.any_eq_true.2 ⟨y, hy, by simpa using e⟩))
  unfold applyL
  split
  · split
    · exact hp _
    · exact hs
  · split
    · exact hp _
    · split
      · split
        · exact hs.sublist List.filter_sublist
        · exact hs
      · split
        · exact hs.sublist List.filter_sublist
        · exact hs
/-- what a run's history makes -/
def histL (r : Int) (E : List Ev) : List Th := E.foldl (fun l e => (applyL l r e).1) []
theorem histL_snoc (r : Int) (E : List Ev) (e : Ev) : histL r (E ++ [e]) = (applyL (histL r E) r e).1 := by unfold histL; rw [List.foldl_append]; rfl
/-- each event of a run's history is taken -/
def HistOK (r : Int) (E : List Ev) : Prop := ∀ (k : Nat) (e : Ev), E[k]? = some e → (applyL (histL r (E.take k)) r e).2 = 0
theorem HistOK.snoc {r : Int} {E : List Ev} {e : Ev} (h : HistOK r E) (he : (applyL (histL r E) r e).2 = 0) : HistOK r (E ++ [e]) := by
  intro k x hx
  rcases Nat.lt_or_ge k E.length with hk | hk
  · rw [List.getElem?_append_left hk] at hx
    rw [List.take_append_of_le_length (by omega)]
    exact h k x hx
  · rw [List.getElem?_append_right hk] at hx
    obtain ⟨h0, hx'⟩ := List.getElem?_eq_some_iff.1 hx
    have hk' : k = E.length := by simp at h0; omega
    subst hk'
    simp at hx
    subst hx
    rw [List.take_left]
    exact he
/-- the runs' histories: what waits of each run is what its history makes -/
structure Hist (l : List Th) (m : List (Int × List Ev)) : Prop where
  nd : (m.map (·.1)).Nodup
  ok : ∀ p ∈ m, HistOK p.1 p.2
  eq : ∀ r, runL l r = histL r ((get m r).getD [])
theorem Hist.zero : Hist [] [] := ⟨by simp, by simp, fun r => by simp [runL, histL, MapTy.get]⟩
theorem Hist.get_ok {l : List Th} {m : List (Int × List Ev)} (h : Hist l m) (r : Int) : HistOK r ((MapTy.get m r).getD []) := by
  cases hg : MapTy.get m r with
  | none => intro k e he; simp at he
  | some E => exact h.ok (r, E) (get_mem hg)
theorem Hist.step {l : List Th} {m : List (Int × List Ev)} (h : Hist l m) (hs : Srt l) {r : Int} {e : Ev} (he : (applyL l r e).2 = 0) : Hist (applyL l r e).1 (upd m r (((MapTy.get m r).getD []) ++ [e])) := by
  obtain ⟨h1, h2, h3⟩ := applyL_run hs r e
  have h4 : (applyL (histL r ((MapTy.get m r).getD [])) r e).2 = 0 := by rw [← h.eq, h1]; exact he
  refine ⟨upd_nodup h.nd _ _, fun p hp => ?_, fun s => ?_⟩
  · have hg := get_of_mem (upd_nodup h.nd r (((MapTy.get m r).getD []) ++ [e])) (show (p.1, p.2) ∈ _ from hp)
    rw [get_upd] at hg
    split at hg
    · rename_i hpr
      rw [← Option.some.inj hg, hpr]
      exact (h.get_ok r).snoc h4
    · exact h.ok _ (get_mem hg)
  · rw [get_upd]
    by_cases hsr : s = r
    · subst hsr
      rw [if_pos rfl, h2, h.eq]
      exact (histL_snoc _ _ _).symm
    · rw [if_neg hsr, h3 s hsr, h.eq]
theorem Hist.same {l : List Th} {m : List (Int × List Ev)} (h : Hist l m) {r : Int} {e : Ev} (he : (applyL l r e).2 ≠ 0) : Hist (applyL l r e).1 m := by rw [applyL_refused he]; exact h
/-- the histories read one run after the other: the runs of vs are read, of r the first k events -/
structure Rebuilt (m : List (Int × List Ev)) (vs : List Int) (r : Int) (k : Nat) (p : List Th) : Prop where
  srt : Srt p
  done : ∀ s ∈ vs, s ≠ r → runL p s = histL s ((get m s).getD [])
  here : runL p r = histL r (((get m r).getD []).take k)
  rest : ∀ s, s ∉ vs → s ≠ r → runL p s = []
theorem Rebuilt.step {l : List Th} {m : List (Int × List Ev)} (h : Hist l m) {vs : List Int} {r : Int} {k : Nat} {p : List Th} (R : Rebuilt m vs r k p) {e : Ev} (he : ((MapTy.get m r).getD [])[k]? = some e) :
    (applyL p r e).2 = 0 ∧ Rebuilt m vs r (k + 1) (applyL p r e).1 := by
  obtain ⟨h1, h2, h3⟩ := applyL_run R.srt r e
  have h4 := h.get_ok r k e he
  refine ⟨by rw [← h1, R.here]; exact h4, ⟨applyL_sorted R.srt r e, fun s hs hr => by rw [h3 s hr]; exact R.done s hs hr, ?_, fun s hs hr => by rw [h3 s hr]; exact R.rest s hs hr⟩⟩
  rw [h2, R.here, ← histL_snoc]
  congr 1
  rw [List.take_add_one, he]; rfl
theorem Rebuilt.next {m : List (Int × List Ev)} {vs : List Int} {r : Int} {p : List Th} (R : Rebuilt m vs r ((MapTy.get m r).getD []).length p) {s : Int} (hs : s ∉ vs) (hsr : s ≠ r) : Rebuilt m (vs ++ [r]) s 0 p := by
  have hr := R.here
  rw [List.take_length] at hr
  refine ⟨R.srt, fun t ht hts => ?_, by rw [R.rest s hs hsr]; rfl, fun t ht hts => R.rest t (fun h => ht (by simp [h])) (fun h => ht (by simp [h]))⟩
  rcases List.mem_append.1 ht with ht | ht
  · by_cases htr : t = r
    · rw [htr]; exact hr
    · exact R.done t ht htr
  · simp at ht; subst ht; exact hr
/-- between two runs: the runs of vs are read -/
structure ReadL (m : List (Int × List Ev)) (vs : List Int) (p : List Th) : Prop where
  srt : Srt p
  done : ∀ s ∈ vs, runL p s = histL s ((get m s).getD [])
  rest : ∀ s, s ∉ vs → runL p s = []
theorem ReadL.zero (m : List (Int × List Ev)) : ReadL m [] [] := ⟨.nil, by simp, fun s _ => by simp [runL]⟩
theorem ReadL.into {m : List (Int × List Ev)} {vs : List Int} {p : List Th} (R : ReadL m vs p) {r : Int} (hr : r ∉ vs) : Rebuilt m vs r 0 p :=
  ⟨R.srt, fun s hs _ => R.done s hs, by rw [R.rest r hr]; rfl, fun s hs _ => R.rest s hs⟩
theorem Rebuilt.out {m : List (Int × List Ev)} {vs : List Int} {r : Int} {p : List Th} (R : Rebuilt m vs r ((MapTy.get m r).getD []).length p) : ReadL m (vs ++ [r]) p := by
  have hr := R.here
  rw [List.take_length] at hr
  refine ⟨R.srt, fun t ht => ?_, fun t ht => R.rest t (fun h => ht (by simp [h])) (fun h => ht (by simp [h]))⟩
  by_cases htr : t = r
  · rw [htr]; exact hr
  · rcases List.mem_append.1 ht with ht | ht
    · exact R.done t ht htr
    · simp at ht; exact absurd ht htr
theorem mem_runL {l : List Th} {x : Th} : x ∈ l ↔ x ∈ runL l x.run := by unfold runL; simp
theorem srt_nodup {l : List Th} (h : Srt l) : l.Nodup := h.imp fun {a b} h e => by subst e; rw [bef_irrefl] at h; cases h
theorem ReadL.last {l : List Th} {m : List (Int × List Ev)} (h : Hist l m) (hs : Srt l) {vs : List Int} {p : List Th} (R : ReadL m vs p) (hv : ∀ r ∈ m.map (·.1), r ∈ vs) : p = l := by
  have hr : ∀ r, runL p r = runL l r := fun r => by
    by_cases hrv : r ∈ vs
    · rw [R.done r hrv, h.eq]
    · have : MapTy.get m r = none := get_none.2 fun q hq e => hrv (hv r (List.mem_map.2 ⟨q, hq, e⟩))
      rw [R.rest r hrv, h.eq, this]; rfl
  have hmem : ∀ x, x ∈ p ↔ x ∈ l := fun x => by rw [mem_runL, mem_runL (l := l), hr]
  refine perm_sorted bef (fun _ _ h => bef_asymm h) l p ?_ (R.srt.imp fun h => bef_asymm h) hs
  exact (List.perm_ext_iff_of_nodup (srt_nodup R.srt) (srt_nodup hs)).2 hmem
end Go.Hm
