/- The heap, as plain Lean: what Put and take keep, and that the earliest is on top. -/
import Derived.Test.YtkhphnidopbjjaaHm
namespace Go.Hm
open Go.Own Go.Own.MapTy

theorem le_iff (a b : It) : cmpIt a b ≤ 0 ↔ a.due < b.due ∨ (a.due = b.due ∧ a.seq ≤ b.seq) := by
  unfold cmpIt cmpI
  by_cases h1 : a.due < b.due
  · simp [h1]
  · by_cases h2 : b.due < a.due
    · simp [h1, h2]; omega
    · have : a.due = b.due := by omega
      simp [this]
      by_cases h3 : a.seq < b.seq
      · simp [h3]; omega
      · by_cases h4 : b.seq < a.seq
        · simp [h3, h4]
        · simp [h3, h4]; omega
theorem lt_iff (a b : It) : cmpIt a b < 0 ↔ a.due < b.due ∨ (a.due = b.due ∧ a.seq < b.seq) := by
  unfold cmpIt cmpI
  by_cases h1 : a.due < b.due
  · simp [h1]
  · by_cases h2 : b.due < a.due
    · simp [h1, h2]; omega
    · have : a.due = b.due := by omega
      simp [this]
      by_cases h3 : a.seq < b.seq
      · simp [h3]
      · by_cases h4 : b.seq < a.seq
        · simp [h3, h4]
        · simp [h3, h4]
def le (a b : It) : Prop := a.due < b.due ∨ (a.due = b.due ∧ a.seq ≤ b.seq)
theorem le_refl (a : It) : le a a := .inr ⟨rfl, Int.le_refl _⟩
theorem le_trans {a b c : It} (h : le a b) (k : le b c) : le a c := by unfold le at *; omega
theorem le_of_not {a b : It} (h : ¬ le a b) : le b a := by unfold le at *; omega

/-- a heap but for what hangs on place k: 'up' and 'down' -/
def Order (V : List It) (ex : Nat → Prop) : Prop := ∀ i a b, 0 < i → ¬ ex i → V[(i - 1) / 2]? = some a → V[i]? = some b → le a b
def Over (V : List It) (k : Nat) : Prop := ∀ c a b, 0 < k → (c - 1) / 2 = k → 0 < c → V[(k - 1) / 2]? = some a → V[c]? = some b → le a b
def Heap (V : List It) : Prop := Order V (fun _ => False)
def UpInv (V : List It) (k : Nat) : Prop := Order V (fun i => i = k) ∧ Over V k
def DownInv (V : List It) (k : Nat) : Prop := Order V (fun i => (i - 1) / 2 = k) ∧ Over V k
def ExInv (V : List It) (k : Nat) : Prop := Order V (fun i => i = k ∨ (i - 1) / 2 = k) ∧ Over V k

/-- each key stands where it is, but for place k's own -/
structure IdxHole (V : List It) (M : List (Ky × Int)) (k : Nat) (x : It) : Prop where
  nodup : (V.map It.key).Nodup
  mnodup : (M.map (·.1)).Nodup
  at_ : ∀ (j : Nat) y, j ≠ k → V[j]? = some y → get M y.key = some (j : Int)
  only : ∀ key v, get M key = some v → key = x.key ∨ ∃ (j : Nat) (y : It), j ≠ k ∧ v = (j : Int) ∧ V[j]? = some y ∧ y.key = key
  here : V[k]? = some x

structure Idx (V : List It) (M : List (Ky × Int)) : Prop where
  nodup : (V.map It.key).Nodup
  mnodup : (M.map (·.1)).Nodup
  at_ : ∀ (j : Nat) y, V[j]? = some y → get M y.key = some (j : Int)
  only : ∀ key v, get M key = some v → ∃ (j : Nat) (y : It), v = (j : Int) ∧ V[j]? = some y ∧ y.key = key

theorem key_inj {V : List It} (h : (V.map It.key).Nodup) {i j : Nat} {x y : It} (hx : V[i]? = some x) (hy : V[j]? = some y) (e : x.key = y.key) : i = j := by
  have a1 : (V.map It.key)[i]? = some x.key := by simp [hx]
  have a2 : (V.map It.key)[j]? = some x.key := by simp [hy, e]
  exact (List.getElem?_inj (List.getElem?_eq_some_iff.1 a1).1 h).1 (a1.trans a2.symm)

/-- the last step: the thing is laid at its place -/
theorem Idx.of_hole {s : Hp} {k : Nat} {x : It} (h : IdxHole (s.L.set k x) s.M k x) : Idx (s.set k x).L (s.set k x).M := by
  refine ⟨h.nodup, MapTy.upd_nodup h.mnodup _ _, ?_, ?_⟩
  · intro j y hy
    simp only [Hp.set] at hy ⊢
    rw [get_upd]
    by_cases hj : j = k
    · subst hj
      have := h.here
      rw [this] at hy; cases hy
      simp
    · rw [if_neg]
      · exact h.at_ j y hj hy
      · intro e
        exact hj (key_inj h.nodup hy h.here e)
  · intro key v hv
    simp only [Hp.set] at hv ⊢
    rw [get_upd] at hv
    by_cases hk : key = x.key
    · rw [if_pos hk] at hv; cases hv
      exact ⟨k, x, rfl, h.here, hk.symm⟩
    · rw [if_neg hk] at hv
      rcases h.only key v hv with h' | ⟨j, y, _, h1, h2, h3⟩
      · exact absurd h' hk
      · exact ⟨j, y, h1, h2, h3⟩

theorem swap_perm {L : List It} {k p : Nat} {x y : It} (hy : L[p]? = some y) (hpk : p ≠ k) (hk : k < L.length) : ((L.set k y).set p x).Perm (L.set k x) := by
  have hp : p < L.length := (List.getElem?_eq_some_iff.1 hy).1
  have hyp : L[p] = y := (List.getElem?_eq_some_iff.1 hy).2
  rw [List.perm_iff_count]
  intro a
  rw [List.count_set (by simpa using hp), List.count_set hk, List.count_set hk]
  have e : (L.set k y)[p]'(by simpa using hp) = y := by rw [List.getElem_set_ne (Ne.symm hpk)]; exact hyp
  rw [e]
  have hc : (if L[k] == a then 1 else 0) ≤ List.count a L := by
    split
    · rename_i h; exact List.one_le_count_iff.2 (by simp at h; rw [← h]; exact List.getElem_mem _)
    · omega
  split <;> split <;> split <;> omega

/-- one step of a sift: the hole goes from k to p -/
theorem IdxHole.step {s : Hp} {k p : Nat} {x y : It} (h : IdxHole (s.L.set k x) s.M k x) (hy : s.L[p]? = some y) (hpk : p ≠ k) (hk : k < s.L.length) :
    IdxHole ((s.set k y).L.set p x) (s.set k y).M p x := by
  have hp : p < s.L.length := (List.getElem?_eq_some_iff.1 hy).1
  have hVy : (s.L.set k x)[p]? = some y := by rw [List.getElem?_set_ne (Ne.symm hpk)]; exact hy
  have hyx : y.key ≠ x.key := fun e => hpk (key_inj h.nodup hVy h.here e)
  refine ⟨?_, MapTy.upd_nodup h.mnodup _ _, ?_, ?_, by simp [Hp.set, hp]⟩
  · exact ((swap_perm hy hpk hk).map It.key).nodup_iff.2 h.nodup
  · intro j z hj hz
    simp only [Hp.set] at hz ⊢
    rw [List.getElem?_set_ne (Ne.symm hj)] at hz
    rw [get_upd]
    by_cases hjk : j = k
    · subst hjk
      rw [List.getElem?_set_self hk] at hz; cases hz
      simp
    · rw [List.getElem?_set_ne (Ne.symm hjk)] at hz
      have hz' : (s.L.set k x)[j]? = some z := by rw [List.getElem?_set_ne (Ne.symm hjk)]; exact hz
      rw [if_neg]
      · exact h.at_ j z hjk hz'
      · intro e
        exact hj (key_inj h.nodup hz' hVy e)
  · intro key v hv
    simp only [Hp.set] at hv ⊢
    rw [get_upd] at hv
    by_cases hky : key = y.key
    · rw [if_pos hky] at hv; cases hv
      exact .inr ⟨k, y, Ne.symm hpk, rfl, by rw [List.getElem?_set_ne hpk, List.getElem?_set_self hk], hky.symm⟩
    · rw [if_neg hky] at hv
      rcases h.only key v hv with h' | ⟨j, z, h0, h1, h2, h3⟩
      · exact .inl h'
      · refine .inr ⟨j, z, ?_, h1, ?_, h3⟩
        · intro e; subst e
          rw [hVy] at h2; cases h2; exact hky h3.symm
        · have hjp : j ≠ p := by
            intro e; subst e
            rw [hVy] at h2; cases h2; exact hky h3.symm
          rw [List.getElem?_set_ne (Ne.symm hjp), List.getElem?_set_ne (Ne.symm h0)]
          rwa [List.getElem?_set_ne (Ne.symm h0)] at h2

theorem par_lt {i : Nat} (h : 0 < i) : (i - 1) / 2 < i := by omega

theorem get_set2 {L : List It} {k p : Nat} {x y : It} (hp : p < L.length) (hk : k < L.length) (hpk : p ≠ k) (i : Nat) :
    ((L.set k y).set p x)[i]? = if i = p then some x else if i = k then some y else L[i]? := by
  by_cases h1 : i = p
  · subst h1; simp [hp]
  · rw [List.getElem?_set_ne (Ne.symm h1), if_neg h1]
    by_cases h2 : i = k
    · subst h2; simp [hk]
    · rw [List.getElem?_set_ne (Ne.symm h2), if_neg h2]
theorem get_set1 {L : List It} {k : Nat} {x : It} (hk : k < L.length) (i : Nat) : (L.set k x)[i]? = if i = k then some x else L[i]? := by
  by_cases h2 : i = k
  · subst h2; simp [hk]
  · rw [List.getElem?_set_ne (Ne.symm h2), if_neg h2]

theorem UpInv.ex {V : List It} {k : Nat} (h : UpInv V k) : ExInv V k := ⟨fun i a b hi hn ha hb => h.1 i a b hi (fun e => hn (.inl e)) ha hb, h.2⟩
theorem Heap.down {V : List It} (h : Heap V) (k : Nat) : DownInv V k := by
  refine ⟨fun i a b hi _ ha hb => h i a b hi id ha hb, fun c a b hk hc hc0 ha hb => ?_⟩
  have hkl : k < V.length := by
    have := (List.getElem?_eq_some_iff.1 hb).1
    omega
  have hk' : V[k]? = some V[k] := by simp [hkl]
  exact le_trans (h k a _ hk id ha hk') (h c _ b hc0 id (by rw [hc]; exact hk') hb)

theorem up_step {L : List It} {k : Nat} {x y : It} (hk : k < L.length) (hk0 : 0 < k) (hy : L[(k - 1) / 2]? = some y) (hlt : ¬ le y x) (h : ExInv (L.set k x) k) : UpInv ((L.set k y).set ((k - 1) / 2) x) ((k - 1) / 2) := by
  have hpk : (k - 1) / 2 ≠ k := by omega
  have hp : (k - 1) / 2 < L.length := by omega
  have hxy := le_of_not hlt
  obtain ⟨h1, h2⟩ := h
  have g1 := get_set1 (L := L) (x := x) hk
  have g2 := get_set2 (L := L) (x := x) (y := y) hp hk hpk
  have hVp : (L.set k x)[(k - 1) / 2]? = some y := by rw [g1, if_neg hpk]; exact hy
  refine ⟨?_, ?_⟩
  · intro i a b hi hn ha hb
    rw [g2] at ha hb
    rw [if_neg hn] at hb
    by_cases hik : i = k
    · subst hik
      rw [if_pos rfl] at ha hb
      cases ha; cases hb
      exact hxy
    · rw [if_neg hik] at hb
      by_cases hpi : (i - 1) / 2 = k
      · rw [if_neg (by omega), if_pos hpi] at ha
        cases ha
        exact h2 i y b hk0 hpi hi hVp (by rw [g1, if_neg hik]; exact hb)
      · by_cases hpp : (i - 1) / 2 = (k - 1) / 2
        · rw [if_pos hpp] at ha
          cases ha
          exact le_trans hxy (h1 i y b hi (by omega) (by rw [hpp]; exact hVp) (by rw [g1, if_neg hik]; exact hb))
        · rw [if_neg hpp, if_neg hpi] at ha
          exact h1 i a b hi (by omega) (by rw [g1, if_neg hpi]; exact ha) (by rw [g1, if_neg hik]; exact hb)
  · intro c a b hp0 hc hc0 ha hb
    rw [g2] at ha hb
    rw [if_neg (by omega), if_neg (by omega)] at ha
    have hap : le a y := h1 ((k - 1) / 2) a y hp0 (by omega) (by rw [g1, if_neg (by omega)]; exact ha) hVp
    rw [if_neg (by omega)] at hb
    by_cases hck : c = k
    · rw [if_pos hck] at hb; cases hb; exact hap
    · rw [if_neg hck] at hb
      exact le_trans hap (h1 c y b hc0 (by omega) (by rw [hc]; exact hVp) (by rw [g1, if_neg hck]; exact hb))
theorem up_halt {L : List It} {k : Nat} {x : It} (hk : k < L.length) (hs : ∀ y, 0 < k → L[(k - 1) / 2]? = some y → le y x) (h : ExInv (L.set k x) k) : DownInv (L.set k x) k := by
  refine ⟨fun i a b hi hn ha hb => ?_, h.2⟩
  by_cases hik : i = k
  · subst hik
    rw [get_set1 hk] at ha hb
    rw [if_pos rfl] at hb; cases hb
    rw [if_neg (by omega)] at ha
    exact hs a hi ha
  · exact h.1 i a b hi (by rintro (h | h); exact hik h; exact hn h) ha hb
theorem up_heap {L : List It} {k : Nat} {x : It} (hk : k < L.length) (hs : ∀ y, 0 < k → L[(k - 1) / 2]? = some y → le y x) (h : UpInv (L.set k x) k) : Heap (L.set k x) := by
  intro i a b hi _ ha hb
  by_cases hik : i = k
  · subst hik
    rw [get_set1 hk] at ha hb
    rw [if_pos rfl] at hb; cases hb
    rw [if_neg (by omega)] at ha
    exact hs a hi ha
  · exact h.1 i a b hi hik ha hb

theorem kid_spec {s : Hp} {k : Nat} (hk : 2 * k + 1 < s.L.length) : ∃ y, s.L[s.kid k]? = some y ∧ (s.kid k = 2 * k + 1 ∨ s.kid k = 2 * k + 2) ∧ ∀ c b, (c - 1) / 2 = k → 0 < c → s.L[c]? = some b → le y b := by
  have ha : s.L[2 * k + 1]? = some s.L[2 * k + 1] := by simp [hk]
  generalize s.L[2 * k + 1] = a at ha
  by_cases h2 : 2 * k + 1 + 1 < s.L.length
  · have hb : s.L[2 * k + 1 + 1]? = some s.L[2 * k + 1 + 1] := by simp [h2]
    generalize s.L[2 * k + 1 + 1] = b at hb
    by_cases hlt : cmpIt b a < 0
    · rw [kid_right ha hb hlt]
      refine ⟨b, hb, .inr rfl, fun c d hc hc0 hd => ?_⟩
      rw [lt_iff] at hlt
      have : c = 2 * k + 1 ∨ c = 2 * k + 1 + 1 := by omega
      rcases this with rfl | rfl
      · rw [ha] at hd; cases hd; unfold le; omega
      · rw [hb] at hd; cases hd; exact le_refl _
    · rw [kid_left ha hb hlt]
      refine ⟨a, ha, .inl rfl, fun c d hc hc0 hd => ?_⟩
      rw [lt_iff] at hlt
      have : c = 2 * k + 1 ∨ c = 2 * k + 1 + 1 := by omega
      rcases this with rfl | rfl
      · rw [ha] at hd; cases hd; exact le_refl _
      · rw [hb] at hd; cases hd; unfold le; omega
  · rw [kid_one h2]
    refine ⟨a, ha, .inl rfl, fun c d hc hc0 hd => ?_⟩
    have := (List.getElem?_eq_some_iff.1 hd).1
    have : c = 2 * k + 1 := by omega
    subst this
    rw [ha] at hd; cases hd; exact le_refl _

theorem down_step {L : List It} {k c : Nat} {x y : It} (hc : c = 2 * k + 1 ∨ c = 2 * k + 2) (hy : L[c]? = some y) (hmin : ∀ d b, (d - 1) / 2 = k → 0 < d → L[d]? = some b → le y b) (hlt : ¬ le x y) (h : DownInv (L.set k x) k) : DownInv ((L.set k y).set c x) c := by
  have hcl : c < L.length := (List.getElem?_eq_some_iff.1 hy).1
  have hck : c ≠ k := by omega
  have hk : k < L.length := by omega
  have hyx := le_of_not hlt
  obtain ⟨h1, h2⟩ := h
  have g1 := get_set1 (L := L) (x := x) hk
  have g2 := get_set2 (L := L) (x := x) (y := y) hcl hk hck
  have hVc : (L.set k x)[c]? = some y := by rw [g1, if_neg hck]; exact hy
  refine ⟨?_, ?_⟩
  · intro i a b hi hn ha hb
    rw [g2] at ha hb
    rw [if_neg hn] at ha
    by_cases hic : i = c
    · rw [if_pos hic] at hb
      rw [if_pos (by omega)] at ha
      cases ha; cases hb
      exact hyx
    · rw [if_neg hic] at hb
      by_cases hpi : (i - 1) / 2 = k
      · rw [if_pos hpi] at ha
        rw [if_neg (by omega)] at hb
        cases ha
        exact hmin i b hpi hi hb
      · rw [if_neg hpi] at ha
        by_cases hik : i = k
        · rw [if_pos hik] at hb; cases hb
          subst hik
          exact h2 c a y hi (by omega) (by omega) (by rw [g1, if_neg (by omega)]; exact ha) hVc
        · rw [if_neg hik] at hb
          exact h1 i a b hi hpi (by rw [g1, if_neg hpi]; exact ha) (by rw [g1, if_neg hik]; exact hb)
  · intro d a b hc0 hd hd0 ha hb
    rw [g2] at ha hb
    have hcp : (c - 1) / 2 = k := by omega
    rw [hcp, if_neg (Ne.symm hck), if_pos rfl] at ha
    cases ha
    rw [if_neg (by omega), if_neg (by omega)] at hb
    exact h1 d y b hd0 (by omega) (by rw [hd]; exact hVc) (by rw [g1, if_neg (by omega)]; exact hb)
theorem down_heap {L : List It} {k : Nat} {x : It} (hk : k < L.length) (hs : ∀ c b, (c - 1) / 2 = k → 0 < c → L[c]? = some b → le x b) (h : DownInv (L.set k x) k) : Heap (L.set k x) := by
  intro i a b hi _ ha hb
  by_cases hpi : (i - 1) / 2 = k
  · rw [get_set1 hk] at ha hb
    rw [if_pos hpi] at ha; cases ha
    rw [if_neg (by omega)] at hb
    exact hs i b hpi hi hb
  · exact h.1 i a b hi hpi ha hb

theorem up_spec (f : Nat) : ∀ (s : Hp) (k : Nat) (x : It), k ≤ f → k < s.L.length → IdxHole (s.L.set k x) s.M k x →
    Idx (Hp.up f s k x).L (Hp.up f s k x).M ∧ (Hp.up f s k x).L.Perm (s.L.set k x) ∧ (Hp.up f s k x).seq = s.seq ∧ (UpInv (s.L.set k x) k → Heap (Hp.up f s k x).L) ∧
    (ExInv (s.L.set k x) k → ∀ j, (Hp.up f s k x).L[j]? = some x → DownInv (Hp.up f s k x).L j) := by
  have stop : ∀ (s : Hp) (k : Nat) (x : It), k < s.L.length → IdxHole (s.L.set k x) s.M k x → (∀ y, 0 < k → s.L[(k - 1) / 2]? = some y → le y x) →
      Idx (s.set k x).L (s.set k x).M ∧ (s.set k x).L.Perm (s.L.set k x) ∧ (s.set k x).seq = s.seq ∧ (UpInv (s.L.set k x) k → Heap (s.set k x).L) ∧
      (ExInv (s.L.set k x) k → ∀ j, (s.set k x).L[j]? = some x → DownInv (s.set k x).L j) := by
    intro s k x hk hI hs
    refine ⟨Idx.of_hole hI, List.Perm.refl _, rfl, up_heap hk hs, fun h j hj => ?_⟩
    have : j = k := key_inj hI.nodup hj hI.here rfl
    subst this
    exact up_halt hk hs h
  induction f with
  | zero =>
    intro s k x hf hk hI
    have : k = 0 := by omega
    subst this
    exact stop s 0 x hk hI (fun y h => by omega)
  | succ f ih =>
    intro s k x hf hk hI
    by_cases hk0 : k = 0
    · subst hk0
      rw [up_zero]
      exact stop s 0 x hk hI (fun y h => by omega)
    · have hp : (k - 1) / 2 < s.L.length := by omega
      have hy : s.L[(k - 1) / 2]? = some s.L[(k - 1) / 2] := by simp [hp]
      generalize s.L[(k - 1) / 2] = y at hy
      by_cases hc : cmpIt y x ≤ 0
      · rw [up_stop hy hc]
        refine stop s k x hk hI (fun z _ hz => ?_)
        rw [hy] at hz; cases hz
        exact (le_iff y x).1 hc
      · rw [up_go hy hc (by omega) (by omega)]
        have hlt : ¬ le y x := fun h => hc ((le_iff y x).2 h)
        have hpk : (k - 1) / 2 ≠ k := by omega
        have hI' := hI.step hy hpk hk
        obtain ⟨r1, r2, r3, r4, r5⟩ := ih (s.set k y) ((k - 1) / 2) x (by omega) (by rw [set_len]; omega) hI'
        have hP : ((s.set k y).L.set ((k - 1) / 2) x).Perm (s.L.set k x) := swap_perm hy hpk hk
        have hU : ExInv (s.L.set k x) k → Heap (Hp.up f (s.set k y) ((k - 1) / 2) x).L := fun h => r4 (up_step hk (by omega) hy hlt h)
        exact ⟨r1, r2.trans hP, r3, fun h => hU h.ex, fun h j _ => (hU h).down j⟩

theorem down_spec (f : Nat) : ∀ (s : Hp) (k : Nat) (x : It), s.L.length ≤ f + k → k < s.L.length → IdxHole (s.L.set k x) s.M k x → DownInv (s.L.set k x) k →
    Idx (Hp.down f s k x).L (Hp.down f s k x).M ∧ (Hp.down f s k x).L.Perm (s.L.set k x) ∧ (Hp.down f s k x).seq = s.seq ∧ Heap (Hp.down f s k x).L := by
  induction f with
  | zero => intro s k x hf hk; omega
  | succ f ih =>
    intro s k x hf hk hI hD
    by_cases hend : s.L.length ≤ 2 * k + 1
    · rw [down_end hend]
      exact ⟨Idx.of_hole hI, List.Perm.refl _, rfl, down_heap hk (fun c b hc hc0 hb => by have := (List.getElem?_eq_some_iff.1 hb).1; omega) hD⟩
    · obtain ⟨y, hy, hc, hmin⟩ := kid_spec (s := s) (k := k) (by omega)
      by_cases hle : cmpIt x y ≤ 0
      · rw [down_stop rfl hy hle]
        exact ⟨Idx.of_hole hI, List.Perm.refl _, rfl, down_heap hk (fun c b hc hc0 hb => le_trans ((le_iff x y).1 hle) (hmin c b hc hc0 hb)) hD⟩
      · have hcl := (List.getElem?_eq_some_iff.1 hy).1
        rw [down_go hend rfl hy hle hf]
        have hck : s.kid k ≠ k := by omega
        obtain ⟨r1, r2, r3, r4⟩ := ih (s.set k y) (s.kid k) x (by rw [set_len]; omega) (by rw [set_len]; exact hcl) (hI.step hy hck hk) (down_step hc hy hmin (fun h => hle ((le_iff x y).2 h)) hD)
        exact ⟨r1, r2.trans (swap_perm hy hck hk), r3, r4⟩

/-- what always holds of a heap -/
structure Good (s : Hp) : Prop where
  idx : Idx s.L s.M
  heap : Heap s.L

theorem Good.zero : Good ⟨[], [], 0⟩ :=
  ⟨⟨by simp, by simp, fun j y h => by simp at h, fun key v h => by simp [MapTy.get] at h⟩, fun i a b _ _ ha _ => by simp at ha⟩

theorem Good.put {s : Hp} (h : Good s) {k : Ky} {due : Int} (hk : (get s.M k).isSome = false) (hf : ¬ 16384 ≤ s.L.length) :
    Good (s.put k due).1 ∧ (s.put k due).1.L.Perm (s.L ++ [⟨k.run, k.kind, k.id, due, s.seq + 1⟩]) ∧ (s.put k due).1.seq = s.seq + 1 ∧ (s.put k due).2 = 0 := by
  rw [put_new hk hf]
  have hkn : get s.M k = none := by simpa using hk
  generalize hx : (⟨k.run, k.kind, k.id, due, s.seq + 1⟩ : It) = x
  have hxk : x.key = k := by rw [← hx]; rfl
  have hset : (s.L ++ [x]).set s.L.length x = s.L ++ [x] := by simp
  have hV : ∀ i y, (s.L ++ [x])[i]? = some y → i ≠ s.L.length → s.L[i]? = some y := by
    intro i y hy hi
    have hlt := (List.getElem?_eq_some_iff.1 hy).1
    simp at hlt
    rw [List.getElem?_append_left (by omega)] at hy
    exact hy
  have hI : IdxHole ((s.L ++ [x]).set s.L.length x) s.M s.L.length x := by
    rw [hset]
    refine ⟨?_, h.idx.mnodup, fun j y hj hy => h.idx.at_ j y (hV j y hy hj), fun key v hv => ?_, by simp⟩
    · rw [List.map_append]
      refine List.nodup_append.2 ⟨h.idx.nodup, by simp, ?_⟩
      intro a ha b hb
      simp at hb; subst hb
      obtain ⟨y, hy, rfl⟩ := List.mem_map.1 ha
      intro e
      obtain ⟨i, hi, hyi⟩ := List.getElem_of_mem hy
      have := h.idx.at_ i y (by rw [List.getElem?_eq_getElem hi, hyi])
      rw [e, hxk, hkn] at this
      cases this
    · obtain ⟨j, y, h1, h2, h3⟩ := h.idx.only key v hv
      have := (List.getElem?_eq_some_iff.1 h2).1
      exact .inr ⟨j, y, by omega, h1, by rw [List.getElem?_append_left this]; exact h2, h3⟩
  have hU : UpInv ((s.L ++ [x]).set s.L.length x) s.L.length := by
    rw [hset]
    refine ⟨fun i a b hi hn ha hb => ?_, fun c a b hk hc hc0 ha hb => ?_⟩
    · have hbl := hV i b hb hn
      have := (List.getElem?_eq_some_iff.1 hbl).1
      exact h.heap i a b hi id (hV _ a ha (by omega)) hbl
    · have := (List.getElem?_eq_some_iff.1 hb).1
      simp at this
      omega
  obtain ⟨r1, r2, r3, r4, _⟩ := up_spec s.L.length { L := s.L ++ [x], M := s.M, seq := s.seq + 1 } s.L.length x (Nat.le_refl _) (by simp) hI
  exact ⟨⟨r1, r4 hU⟩, by rw [hset] at r2; exact r2, r3, rfl⟩

theorem set_same {L : List It} {j : Nat} {z : It} (h : L[j]? = some z) : L.set j z = L := by
  refine List.ext_getElem? fun i => ?_
  have hj := (List.getElem?_eq_some_iff.1 h).1
  rw [get_set1 hj]
  split
  · rename_i e; rw [e, h]
  · rfl
theorem Idx.hole {L : List It} {M : List (Ky × Int)} (h : Idx L M) {j : Nat} {z : It} (hj : L[j]? = some z) : IdxHole (L.set j z) M j z := by
  rw [set_same hj]
  refine ⟨h.nodup, h.mnodup, fun i y _ hy => h.at_ i y hy, fun key v hv => ?_, hj⟩
  obtain ⟨i, y, h1, h2, h3⟩ := h.only key v hv
  by_cases hij : i = j
  · subst hij
    rw [hj] at h2; cases h2
    exact .inl h3.symm
  · exact .inr ⟨i, y, hij, h1, h2, h3⟩

theorem cons_erase_perm {α : Type} : ∀ (l : List α) (i : Nat) (h : i < l.length), (l[i] :: l.eraseIdx i).Perm l
  | [], _, h => by simp at h
  | a :: r, 0, _ => by simp
  | a :: r, i + 1, h => by
    have := cons_erase_perm r i (by simpa using h)
    simp only [List.getElem_cons_succ, List.eraseIdx_cons_succ]
    exact (List.Perm.swap _ _ _).trans (this.cons a)
theorem Good.take {s : Hp} (h : Good s) {i : Nat} {x : It} (hx : s.L[i]? = some x) : Good (s.take i) ∧ (x :: (s.take i).L).Perm s.L ∧ (s.take i).seq = s.seq := by
  have hi := (List.getElem?_eq_some_iff.1 hx).1
  obtain ⟨n, hn⟩ : ∃ n, s.L.length = n + 1 := ⟨s.L.length - 1, by omega⟩
  have hz : s.L[n]? = some s.L[n] := by simp
  generalize s.L[n] = z at hz
  have hsplit : s.L = s.L.take n ++ [z] := by
    have := List.take_append_drop n s.L
    rw [List.drop_eq_getElem_cons (by omega), List.drop_of_length_le (by omega)] at this
    rw [(List.getElem?_eq_some_iff.1 hz).2] at this
    exact this.symm
  have htl : (s.L.take n).length = n := by simp; omega
  have htk : ∀ j, j < n → (s.L.take n)[j]? = s.L[j]? := fun j hj => by rw [List.getElem?_take, if_pos hj]
  have hcut : (s.cutAt i).L = s.L.take n ∧ (s.cutAt i).M = del s.M x.key ∧ (s.cutAt i).seq = s.seq := by
    simp [Hp.cutAt, hn, hx]
  have hxm : ∀ (j : Nat) y, j ≠ i → s.L[j]? = some y → y.key ≠ x.key := fun j y hj hy e => hj (key_inj h.idx.nodup hy hx e)
  by_cases hin : i < n
  · have hzx : z.key ≠ x.key := hxm n z (by omega) hz
    have hzm : ∀ (j : Nat) y, j ≠ n → s.L[j]? = some y → y.key ≠ z.key := fun j y hj hy e => hj (key_inj h.idx.nodup hy hz e)
    generalize hs2 : (s.cutAt i).set i z = s2
    have hL2 : s2.L = (s.L.take n).set i z := by rw [← hs2, Hp.set, hcut.1]
    have hM2 : s2.M = upd (del s.M x.key) z.key (i : Int) := by rw [← hs2, Hp.set, hcut.2.1]
    have hq2 : s2.seq = s.seq := by rw [← hs2]; exact hcut.2.2
    have hl2 : s2.L.length = n := by rw [hL2]; simpa using htl
    have hii : s2.L[i]? = some z := by rw [hL2, List.getElem?_set_self (by omega)]
    have hss : s2.L.set i z = s2.L := set_same hii
    have hV : ∀ j, j ≠ i → j < n → s2.L[j]? = s.L[j]? := fun j hj hjn => by rw [hL2, List.getElem?_set_ne (Ne.symm hj)]; exact htk j hjn
    have hperm : (x :: s2.L).Perm s.L := by
      have e1 : (s.L.take n).Perm (x :: (s.L.take n).eraseIdx i) := by
        have := cons_erase_perm (s.L.take n) i (by omega)
        have hxx : (s.L.take n)[i]'(by omega) = x := by
          have := htk i hin
          rw [hx] at this
          exact (List.getElem?_eq_some_iff.1 this).2
        rw [hxx] at this
        exact this.symm
      have e2 : s2.L.Perm (z :: (s.L.take n).eraseIdx i) := by
        have := cons_erase_perm s2.L i (by omega)
        rw [(List.getElem?_eq_some_iff.1 hii).2] at this
        refine this.symm.trans ?_
        rw [hL2]
        have : ((s.L.take n).set i z).eraseIdx i = (s.L.take n).eraseIdx i := by
          refine List.ext_getElem? fun j => ?_
          simp only [List.getElem?_eraseIdx]
          split
          · rw [List.getElem?_set_ne (by omega)]
          · rw [List.getElem?_set_ne (by omega)]
        rw [this]
      have e3 : s.L.Perm (z :: s.L.take n) := by
        rw [hsplit]
        have : (s.L.take n ++ [z]).take n = s.L.take n := by rw [← hsplit]
        rw [this]
        exact List.perm_append_singleton _ _
      exact (e2.cons x).trans ((List.Perm.swap _ _ _).trans ((e1.symm.cons z).trans e3.symm))
    have hI : IdxHole (s2.L.set i z) s2.M i z := by
      rw [hss]
      refine ⟨?_, ?_, fun j y hj hy => ?_, fun key v hv => ?_, hii⟩
      · have := (hperm.map It.key).nodup_iff.2 h.idx.nodup
        simp only [List.map_cons, List.nodup_cons] at this
        exact this.2
      · rw [hM2]; exact MapTy.upd_nodup (MapTy.del_nodup h.idx.mnodup _) _ _
      · have hjn : j < n := by have := (List.getElem?_eq_some_iff.1 hy).1; omega
        rw [hV j hj hjn] at hy
        rw [hM2, get_upd, if_neg (hzm j y (by omega) hy), get_del, if_neg (hxm j y hj hy)]
        exact h.idx.at_ j y hy
      · rw [hM2, get_upd] at hv
        by_cases hkz : key = z.key
        · exact .inl hkz
        · rw [if_neg hkz, get_del] at hv
          by_cases hkx : key = x.key
          · rw [if_pos hkx] at hv; cases hv
          · rw [if_neg hkx] at hv
            obtain ⟨j, y, h1, h2, h3⟩ := h.idx.only key v hv
            have hji : j ≠ i := by intro e; subst e; rw [hx] at h2; cases h2; exact hkx h3.symm
            have hjn : j ≠ n := by intro e; subst e; rw [hz] at h2; cases h2; exact hkz h3.symm
            have hjl := (List.getElem?_eq_some_iff.1 h2).1
            exact .inr ⟨j, y, hji, h1, by rw [hV j hji (by omega)]; exact h2, h3⟩
    have hE : ExInv (s2.L.set i z) i := by
      rw [hss]
      refine ⟨fun j a b hj hne ha hb => ?_, fun c a b hi0 hc hc0 ha hb => ?_⟩
      · have hjl := (List.getElem?_eq_some_iff.1 hb).1
        exact h.heap j a b hj id (by rw [← hV _ (fun e => hne (.inr e)) (by omega)]; exact ha) (by rw [← hV j (fun e => hne (.inl e)) (by omega)]; exact hb)
      · have hcl := (List.getElem?_eq_some_iff.1 hb).1
        have h1 := h.heap i a x hi0 id (by rw [← hV _ (by omega) (by omega)]; exact ha) hx
        have h2 := h.heap c x b hc0 id (by rw [hc]; exact hx) (by rw [← hV c (by omega) (by omega)]; exact hb)
        exact le_trans h1 h2
    obtain ⟨r1, r2, r3, _, r5⟩ := up_spec i s2 i z (Nat.le_refl _) (by omega) hI
    obtain ⟨j, hj1, hj2⟩ := up_at i s2 i z (by omega)
    have htake : s.take i = Hp.down n (Hp.up i s2 i z) j z := by
      have h1 : s.L.length - 1 = n := by omega
      unfold Hp.take
      rw [h1, getD_of hz, if_pos hin, hs2, hj1]
      rfl
    have hul : (Hp.up i s2 i z).L.length = n := by rw [up_len]; exact hl2
    have hju := (List.getElem?_eq_some_iff.1 hj2).1
    have hD := r5 hE j hj2
    have hss2 := set_same hj2
    obtain ⟨t1, t2, t3, t4⟩ := down_spec n (Hp.up i s2 i z) j z (by omega) hju (r1.hole hj2) (by rw [hss2]; exact hD)
    rw [hss2] at t2
    rw [htake]
    refine ⟨⟨t1, t4⟩, ?_, by rw [t3, r3, hq2]⟩
    exact ((t2.trans (r2.trans (by rw [hss]))).cons x).trans hperm
  · have hin' : i = n := by omega
    subst hin'
    rw [hx] at hz; cases hz
    have htake : s.take i = s.cutAt i := by unfold Hp.take; rw [if_neg (by omega)]
    rw [htake]
    have hperm : (x :: (s.cutAt i).L).Perm s.L := by
      rw [hcut.1]
      have : s.L.Perm (x :: s.L.take i) := by
        rw [hsplit]
        have : (s.L.take i ++ [x]).take i = s.L.take i := by rw [← hsplit]
        rw [this]
        exact List.perm_append_singleton _ _
      exact this.symm
    refine ⟨⟨⟨?_, ?_, fun j y hy => ?_, fun key v hv => ?_⟩, fun j a b hj _ ha hb => ?_⟩, hperm, hcut.2.2⟩
    · have := (hperm.map It.key).nodup_iff.2 h.idx.nodup
      simp only [List.map_cons, List.nodup_cons] at this
      exact this.2
    · rw [hcut.2.1]; exact MapTy.del_nodup h.idx.mnodup _
    · rw [hcut.1] at hy
      have hjl := (List.getElem?_eq_some_iff.1 hy).1
      rw [htk j (by omega)] at hy
      rw [hcut.2.1, get_del, if_neg (hxm j y (by omega) hy)]
      exact h.idx.at_ j y hy
    · rw [hcut.2.1, get_del] at hv
      by_cases hkx : key = x.key
      · rw [if_pos hkx] at hv; cases hv
      · rw [if_neg hkx] at hv
        obtain ⟨j, y, h1, h2, h3⟩ := h.idx.only key v hv
        have hji : j ≠ i := by intro e; subst e; rw [hx] at h2; cases h2; exact hkx h3.symm
        have hjl := (List.getElem?_eq_some_iff.1 h2).1
        exact ⟨j, y, h1, by rw [hcut.1, htk j (by omega)]; exact h2, h3⟩
    · rw [hcut.1] at ha hb
      have hjl := (List.getElem?_eq_some_iff.1 hb).1
      rw [htk _ (by omega)] at ha hb
      exact h.heap j a b hj id ha hb

/-- the earliest is on top -/
theorem Heap.min {V : List It} (h : Heap V) {a : It} (ha : V[0]? = some a) : ∀ (i : Nat) (b : It), V[i]? = some b → le a b := by
  intro i
  induction i using Nat.strongRecOn with
  | _ i ih =>
    intro b hb
    by_cases hi : i = 0
    · subst hi; rw [ha] at hb; cases hb; exact le_refl _
    · have hil := (List.getElem?_eq_some_iff.1 hb).1
      have hp : V[(i - 1) / 2]? = some (V[(i - 1) / 2]'(by omega)) := List.getElem?_eq_getElem _
      exact le_trans (ih ((i - 1) / 2) (by omega) _ hp) (h i _ b (by omega) id hp hb)
theorem Good.M_ne {s : Hp} (h : Good s) {x : It} {i : Nat} (hx : s.L[i]? = some x) : s.M ≠ [] := by
  intro e
  have := h.idx.at_ i x hx
  rw [e] at this
  simp [MapTy.get] at this
theorem Good.right {s : Hp} (h : Good s) : s.M.length = s.L.length ∧ ∀ i x y, 0 < i → s.L[i]? = some x → s.L[(i - 1) / 2]? = some y → cmpIt y x ≤ 0 := by
  refine ⟨?_, fun i x y hi hx hy => (le_iff y x).2 (h.heap i y x hi id hy hx)⟩
  have : (s.M.map (·.1)).Perm (s.L.map It.key) := by
    refine (List.perm_ext_iff_of_nodup h.idx.mnodup h.idx.nodup).2 fun k => ?_
    constructor
    · intro hk
      obtain ⟨p, hp, rfl⟩ := List.mem_map.1 hk
      obtain ⟨j, y, _, h2, h3⟩ := h.idx.only p.1 p.2 (MapTy.get_of_mem h.idx.mnodup hp)
      exact List.mem_map.2 ⟨y, List.mem_of_getElem? h2, h3⟩
    · intro hk
      obtain ⟨y, hy, rfl⟩ := List.mem_map.1 hk
      obtain ⟨j, hj, hyj⟩ := List.getElem_of_mem hy
      have := h.idx.at_ j y (by rw [List.getElem?_eq_getElem hj, hyj])
      exact List.mem_map.2 ⟨_, MapTy.get_mem this, rfl⟩
  simpa using this.length_eq
end Go.Hm
