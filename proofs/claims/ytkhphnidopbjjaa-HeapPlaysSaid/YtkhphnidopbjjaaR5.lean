/- The law's own functions like and all, walked where they answer true. -/
import Derived.Test.YtkhphnidopbjjaaHm7
import Derived.Test.YtkhphnidopbjjaaLib3
namespace Go.Proofs.Ytkhphnidopbjjaa
open Go.RowKit Go.Own Go.Own.MapTy Go.Hm
open Go.Own.Cells (sz enc)
def itAgg (x : It) : Value := .agg #[.int .i64 x.run, .int .i64 x.kind, .int .i64 x.id, .int .i64 x.due, .int .u64 x.seq]
def ritAgg (x : It) : Value := .agg #[.int .i64 x.run, .int .i64 x.kind, .int .i64 x.id, .int .i64 x.due, .int .i64 x.seq]
set_option maxRecDepth 100000 in
set_option maxHeartbeats 2000000 in
theorem like_true (x : It) (w : World) (h0 : 0 ≤ x.seq) (h1 : x.seq ≤ 60000) :
    Calls Try.prog 23 #[.agg #[.int .i64 x.run, .int .i64 x.kind, .int .i64 x.id, .int .i64 x.due, .int .u64 x.seq], .agg #[.int .i64 x.run, .int .i64 x.kind, .int .i64 x.id, .int .i64 x.due, .int .i64 x.seq]] w fun e w' => e = .returned (.bool true) ∧ Below w.heap.size w w' := by
  have hw : IntKind.u64.wrap x.seq = x.seq := by unfold IntKind.wrap; simp [IntKind.signed, IntKind.bits]; omega
  go_enter Try.func23, Try.ntmps23
  go_wp2_with fail
  go_ret
  exact ⟨rfl, ((Below.refl _ _).alloc (Nat.le_refl _) _).alloc (by simp) _⟩
set_option maxRecDepth 100000 in
set_option maxHeartbeats 2000000 in
theorem all_true (v u : Value) (Z : List It) (w : World) (H : RowAt w 35 v Z) (HR : RowAt w 57 u (Z.map toR)) (hn : Z.length ≤ 16384) (hs : ∀ x ∈ Z, 0 ≤ x.seq ∧ x.seq ≤ 60000) :
    Calls Try.prog 26 #[v, u] w fun e w' => e = .returned (.bool true) ∧ Below w.heap.size w w' := by
  obtain ⟨ad, cap, rfl⟩ := H.slice
  obtain ⟨ae, cae, rfl⟩ := HR.slice
  simp only [List.length_map] at *
  have H1 := Lib.hid H
  have H2 := Lib.hid HR
  have HS := Lib.hid hs
  clear H HR hs
  go_enter Try.func26, Try.ntmps26
  go_wp2_with fail
  go_loopw [13] (fun v wr => ∃ k : Nat, v = .int .i64 k ∧ k ≤ Z.length ∧ Below w.heap.size w wr) (fun v _ => Z.length - (intOf v).toNat)
  case atStart => exact ⟨0, rfl, Nat.zero_le _, Below.refl _ _⟩
  case round =>
    obtain ⟨k, rfl, hk, hB⟩ := hrel
    by_cases hkn : k < Z.length
    · have hx : Z[k]? = some Z[k] := by simp [hkn]
      generalize Z[k] = x at hx
      have R1 := H1.out.keep (Keeps.of_below hB) (fun _ _ h => h)
      have R2 := H2.out.keep (Keeps.of_below hB) (fun _ _ h => h)
      obtain ⟨g, off, rfl, hg1⟩ := R1.addr hx
      obtain ⟨g2, off2, rfl, hg2⟩ := R2.addr (x := toR x) (i := k) (by simp [hx])
      obtain ⟨x0, x1, x2, x3, x4⟩ := row_cells R1 hx
      obtain ⟨y0, y1, y2, y3, y4⟩ := row_rit R2 (x := toR x) (i := k) (by simp [hx])
      simp only [toR] at y0 y1 y2 y3 y4
      have hk0 : (0 : Int) ≤ (k : Int) := by omega
      have hkI : (k : Int) < (Z.length : Int) := by omega
      have LT := Lib.hid (fun W => like_true x W (HS.out x (List.mem_of_getElem? hx)).1 (HS.out x (List.mem_of_getElem? hx)).2)
      clear hx R1 R2
      go_wp2_with fail
      go_region_held3 (fun W => W.cell? ⟨g, off + k * 5, none⟩ = some (.int .i64 x.run) ∧ W.cell? ⟨g, off + k * 5 + 1, none⟩ = some (.int .i64 x.kind) ∧ W.cell? ⟨g, off + k * 5 + 2, none⟩ = some (.int .i64 x.id) ∧ W.cell? ⟨g, off + k * 5 + 3, none⟩ = some (.int .i64 x.due) ∧ W.cell? ⟨g, off + k * 5 + 4, none⟩ = some (.int .u64 x.seq) ∧
        W.cell? ⟨g2, off2 + k * 5, none⟩ = some (.int .i64 x.run) ∧ W.cell? ⟨g2, off2 + k * 5 + 1, none⟩ = some (.int .i64 x.kind) ∧ W.cell? ⟨g2, off2 + k * 5 + 2, none⟩ = some (.int .i64 x.id) ∧ W.cell? ⟨g2, off2 + k * 5 + 3, none⟩ = some (.int .i64 x.due) ∧ W.cell? ⟨g2, off2 + k * 5 + 4, none⟩ = some (.int .i64 x.seq)) (first | exact ⟨x0, x1, x2, x3, x4, y0, y1, y2, y3, y4⟩ | exact ⟨(hc1 _ _ hg1).trans x0, (hc1 _ _ hg1).trans x1, (hc1 _ _ hg1).trans x2, (hc1 _ _ hg1).trans x3, (hc1 _ _ hg1).trans x4, (hc1 _ _ hg2).trans y0, (hc1 _ _ hg2).trans y1, (hc1 _ _ hg2).trans y2, (hc1 _ _ hg2).trans y3, (hc1 _ _ hg2).trans y4⟩) ((go_at_call 23; refine (LT.out _).mono ?_; rintro e w1 ⟨rfl, hB1⟩; obtain ⟨hc1, hf1⟩ := bcell hB1))
      all_goals
        go_wp2_with fail
        go_roundw
        case rel => exact ⟨k + 1, by simp, hkn, hB.drew.trans (hB1.mono hB.size)⟩
        case measure => simp [intOf]; omega
    · obtain rfl : k = Z.length := by omega
      go_wp2_with fail
      go_ret
      exact ⟨rfl, hB⟩
end Go.Proofs.Ytkhphnidopbjjaa
