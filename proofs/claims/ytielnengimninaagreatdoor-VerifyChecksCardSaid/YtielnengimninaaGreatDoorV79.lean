/- the document's signs of an instruction and what may follow one, walked (foliotref11.Ends, Blocks, takes, In, Out, foliotref13.rests, Next). -/
import Derived.Test.YtielnengimninaaGreatDoorV78
import Derived.Test.YtielnengimninaaGreatDoorV60
namespace Go.Proofs.YtielnengimninaaGreatDoor
open Go.RowKit Go.Own Go.Own.MapTy Go.Va Go.Sort
open Go.Own.Cells (sz enc)
theorem heap_newT {w : World} {X Y Z : Obj} : (((w.alloc X).alloc Y).alloc Z).heap[w.heap.size + 1 + 1]? = some Z := by
  have := heap_alloc_new ((w.alloc X).alloc Y) Z
  simpa using this
--[[ends
set_option maxRecDepth 100000 in
set_option maxHeartbeats 8000000 in
theorem rends_any (op : Int) (h : (ofL op).2 = true) (w : World) : Calls Tryz.prog 84 #[.int .i64 op] w fun e w' => e = .returned (.bool (ofL op).1.ends) ∧ w' = w := by
  rw [(inf_signs op h).2.2.1]
  clear h
  cases h1 : (op == 25) <;> cases h2 : (op == 26) <;> cases h3 : (op == 27) <;>
  · go_enter Tryz.func84, Tryz.ntmps84
    go_wp2_with fail
    go_ret
    exact ⟨by first | rfl | simp [h1, h2, h3], rfl⟩
--]]ends
--[[blocks
set_option maxRecDepth 100000 in
set_option maxHeartbeats 8000000 in
theorem rblocks_any (op : Int) (h : (ofL op).2 = true) (w : World) : Calls Tryz.prog 85 #[.int .i64 op] w fun e w' => e = .returned (.bool (ofL op).1.blocks) ∧ w' = w := by
  rw [(inf_signs op h).2.2.2.1]
  clear h
  cases h1 : (op == 18) <;> cases h2 : (op == 21) <;> cases h3 : (op == 22) <;> cases h4 : (op == 28) <;>
  · go_enter Tryz.func85, Tryz.ntmps85
    go_wp2_with fail
    go_ret
    exact ⟨by first | rfl | simp [h1, h2, h3, h4], rfl⟩
--]]blocks
def inVs : List Value := [.int .i64 0, .int .i64 0, .int .i64 1, .int .i64 1, .int .i64 2, .int .i64 2, .int .i64 2, .int .i64 2, .int .i64 2, .int .i64 2, .int .i64 1, .int .i64 0, .int .i64 1, .int .i64 0, .int .i64 1, .int .i64 0, .int .i64 0, .int .i64 1, .int .i64 1, .int .i64 1, .int .i64 2, .int .i64 1, .int .i64 0, .int .i64 0, .int .i64 0, .int .i64 1, .int .i64 0, .int .i64 1, .int .i64 1, .int .i64 0, .int .i64 2, .int .i64 1, .int .i64 2]
def outVs : List Value := [.int .i64 0, .int .i64 1, .int .i64 0, .int .i64 2, .int .i64 2, .int .i64 1, .int .i64 1, .int .i64 1, .int .i64 1, .int .i64 1, .int .i64 1, .int .i64 0, .int .i64 0, .int .i64 1, .int .i64 0, .int .i64 1, .int .i64 1, .int .i64 1, .int .i64 1, .int .i64 1, .int .i64 1, .int .i64 2, .int .i64 1, .int .i64 2, .int .i64 1, .int .i64 0, .int .i64 0, .int .i64 0, .int .i64 2, .int .i64 1, .int .i64 1, .int .i64 1, .int .i64 1]
theorem inVs_fin : ∀ k : Fin 33, inVs[k.1]? = some (.int .i64 (ofL (k.1 : Int)).1.i) ∧ outVs[k.1]? = some (.int .i64 (ofL (k.1 : Int)).1.o) := by
  intro k
  rcases op_cases (op := (k.1 : Int)) (by omega) (by omega) with h | h | h | h | h | h | h | h | h | h | h | h | h | h | h | h | h | h | h | h | h | h | h | h | h | h | h | h | h | h | h | h | h <;>
  · rw [h]
    have e : k.1 = (k.1 : Int).toNat := by simp
    rw [e, h]
    exact ⟨rfl, rfl⟩
--[[takes
set_option maxRecDepth 100000 in
set_option maxHeartbeats 8000000 in
theorem rtakes_any (op : Int) (h0 : 0 ≤ op) (h1 : op < 33) (w : World) : Calls Tryz.prog 83 #[.int .i64 op] w fun e w' => e = .returned (.int .i64 (ofL op).1.i) ∧ Below w.heap.size w w' := by
  obtain ⟨k, rfl⟩ : ∃ k : Nat, op = k := ⟨op.toNat, by omega⟩
  have hk : k < 33 := by omega
  have e : inVs[k]? = some (.int .i64 (ofL (k : Int)).1.i) := (inVs_fin ⟨k, hk⟩).1
  have hl : k < inVs.length := hk
  have HN : Hid (inVs[k] = .int .i64 (ofL (k : Int)).1.i) := Lib.hid (List.getElem?_eq_some_iff.1 e).2
  clear e
  generalize (ofL (k : Int)).1.i = nm at *
  go_enter Tryz.func83, Tryz.ntmps83
  go_wp2_with fail
  go_ret
  exact ⟨congrArg Ending.returned HN.out, (Below.refl _ _).alloc (Nat.le_refl _) _⟩
--]]takes
--[[out
set_option maxRecDepth 100000 in
set_option maxHeartbeats 8000000 in
theorem rout_any (op : Int) (h0 : 0 ≤ op) (h1 : op < 33) (w : World) : Calls Tryz.prog 43 #[.int .i64 op] w fun e w' => e = .returned (.int .i64 (ofL op).1.o) ∧ Below w.heap.size w w' := by
  obtain ⟨k, rfl⟩ : ∃ k : Nat, op = k := ⟨op.toNat, by omega⟩
  have hk : k < 33 := by omega
  have e : outVs[k]? = some (.int .i64 (ofL (k : Int)).1.o) := (inVs_fin ⟨k, hk⟩).2
  have hl : k < outVs.length := hk
  have HN : Hid (outVs[k] = .int .i64 (ofL (k : Int)).1.o) := Lib.hid (List.getElem?_eq_some_iff.1 e).2
  clear e
  generalize (ofL (k : Int)).1.o = nm at *
  go_enter Tryz.func43, Tryz.ntmps43
  go_wp2_with fail
  go_ret
  exact ⟨congrArg Ending.returned HN.out, (Below.refl _ _).alloc (Nat.le_refl _) _⟩
--]]out
--[[inn
set_option maxRecDepth 100000 in
set_option maxHeartbeats 8000000 in
theorem rin_any (op a : Int) (h0 : 0 ≤ op) (h1 : op < 33) (w : World) : Calls Tryz.prog 42 #[.agg #[.int .i64 op, .int .i64 a]] w fun e w' => e = .returned (.int .i64 (takesL ⟨op, a⟩)) ∧ Below w.heap.size w w' := by
  have TK := Lib.hid (rtakes_any op h0 h1)
  have hr : takesL ⟨op, a⟩ = bif op == 29 then a else (ofL op).1.i := rfl
  rw [hr]
  generalize (ofL op).1.i = nm at *
  clear hr h0 h1
  cases h29 : (op == 29) with
  | true =>
    go_enter Tryz.func42, Tryz.ntmps42
    go_wp2_with fail
    go_ret
    exact ⟨rfl, (Below.refl _ _).alloc (Nat.le_refl _) _⟩
  | false =>
    go_enter Tryz.func42, Tryz.ntmps42
    go_wp2_with fail
    refine (TK.out _).mono ?_
    rintro e w5 ⟨rfl, hB5⟩
    have B5 := Lib.hid (show Below w.heap.size w w5 from ((Below.refl _ _).alloc (Nat.le_refl _) _).trans (hB5.mono (by simp)))
    clear hB5
    go_wp2_with fail
    go_ret
    exact ⟨rfl, B5.out⟩
--]]inn
--[[rests
set_option maxRecDepth 100000 in
set_option maxHeartbeats 8000000 in
theorem rrests_any (op a : Int) (h : (ofL op).2 = true) (w : World) : Calls Tryz.prog 45 #[.agg #[.int .i64 op, .int .i64 a]] w fun e w' => e = .returned (.bool (restsL ⟨op, a⟩)) ∧ Below w.heap.size w w' := by
  have EN := Lib.hid (rends_any op h)
  have BL := Lib.hid (rblocks_any op h)
  have hr : restsL ⟨op, a⟩ = ((ofL op).1.blocks || (ofL op).1.ends) := rfl
  rw [hr]
  generalize (ofL op).1.ends = en at *
  generalize (ofL op).1.blocks = bl at *
  clear hr h
  cases bl with
  | true =>
    go_enter Tryz.func45, Tryz.ntmps45
    go_wp2_with fail
    refine (BL.out _).mono ?_
    rintro e w5 ⟨rfl, hw⟩
    rw [hw]
    clear hw w5
    go_wp2_with fail
    go_ret
    exact ⟨rfl, (Below.refl _ _).alloc (Nat.le_refl _) _⟩
  | false =>
    go_enter Tryz.func45, Tryz.ntmps45
    go_wp2_with fail
    refine (BL.out _).mono ?_
    rintro e w5 ⟨rfl, hw⟩
    rw [hw]
    clear hw w5
    go_wp2_with fail
    refine (EN.out _).mono ?_
    rintro e w5 ⟨rfl, hw⟩
    rw [hw]
    clear hw w5
    go_wp2_with fail
    go_ret
    exact ⟨rfl, (Below.refl _ _).alloc (Nat.le_refl _) _⟩
--]]rests
--[[next
set_option maxRecDepth 100000 in
set_option maxHeartbeats 8000000 in
theorem rnext_any {F : Nat → Prop} {w : World} {i : IC} {p : Img} (H : IAt F w i p) (k : Nat) (c : In) (hc : p.code[k]? = some c) (hok : (ofL c.op).2 = true) (ha : 0 ≤ c.a) (hk : k < 65536) :
    Calls Tryz.prog 44 #[.agg #[.slice i.ca i.cn i.cc, .slice i.ka i.kn i.kc, .slice i.na i.nn i.nc, .int .i64 i.pl], .int .i64 k] w fun e w' => ∃ v, e = .returned v ∧ RowAt w' 3 v (followN c k) ∧ (∀ g, v.ownBlock = some g → w.heap.size ≤ g) ∧ Below w.heap.size w w' := by
  have l1 := H.lens.1
  obtain ⟨g, off, had, _, hg, _, m0, m1⟩ := H.code_at (Below.refl _ _) hc
  have hkn : (k : Int) < i.cn := by have := (List.getElem?_eq_some_iff.1 hc).1; omega
  obtain ⟨ca, cn, cc, ka, kn, kc, na, nn, nc, pl⟩ := i
  dsimp only at had hkn
  subst had
  have hw1 : IntKind.i64.wrap ((k : Int) + 1) = (k : Int) + 1 := IntWalk.i64_in _ (by omega)
  have hw2 : wrap64 ((k : Int) + 1) = (k : Int) + 1 := by unfold wrap64; omega
  obtain ⟨op, a⟩ := c
  have EN := Lib.hid (rends_any op hok)
  have hfl := (inf_signs op hok).2.2.2.2
  have hr : followN ⟨op, a⟩ k = bif (ofL op).1.ends then [] else bif op == 11 then [a.toNat] else bif op == 12 then [k + 1, a.toNat] else [k + 1] := by
    unfold followN
    rw [hfl]
    cases h1 : (op == 11) <;> cases h2 : (op == 12) <;> rfl
  rw [hr]
  dsimp only at ha m0 m1
  obtain ⟨an, rfl⟩ : ∃ an : Nat, a = an := ⟨a.toNat, by omega⟩
  rw [Int.toNat_natCast]
  have B6 := Lib.hid (((Below.refl w.heap.size w).alloc (Nat.le_refl _) (.cells #[.slice (some ⟨g, off, none⟩) cn cc, .slice ka kn kc, .slice na nn nc, .int .i64 pl] 26)).alloc (by simp) (.cells #[.int .i64 op, .int .i64 an] 45))
  generalize (ofL op).1.ends = en at *
  clear hr hfl hok hc H l1
  dsimp only
  go_enter Tryz.func44, Tryz.ntmps44
  go_wp2_with fail
  refine (EN.out _).mono ?_
  rintro e w5 ⟨rfl, hw⟩
  rw [hw]
  clear hw w5 EN
  cases en with
  | true =>
    go_wp2_with fail
    go_ret
    exact ⟨_, rfl, by simp only [cond_true]; exact RowAt.nil _ _, fun g h => (by cases h), B6.out⟩
  | false =>
    cases h2 : (op == 11) with
    | true =>
      go_wp2_with fail
      go_ret
      exact ⟨_, rfl, by simp only [h2, cond_true, cond_false]; exact RowAt.made heap_newT rfl rfl (by decide), own_lit (by omega), B6.out.alloc B6.out.size _⟩
    | false =>
      cases h3 : (op == 12) with
      | true =>
        go_wp2_with fail
        go_ret
        exact ⟨_, rfl, by simp only [h2, h3, cond_true, cond_false]; exact RowAt.made heap_newT rfl rfl (by decide), own_lit (by omega), B6.out.alloc B6.out.size _⟩
      | false =>
        go_wp2_with fail
        go_ret
        exact ⟨_, rfl, by simp only [h2, h3, cond_false]; exact RowAt.made heap_newT rfl rfl (by decide), own_lit (by omega), B6.out.alloc B6.out.size _⟩
--]]next
end Go.Proofs.YtielnengimninaaGreatDoor
