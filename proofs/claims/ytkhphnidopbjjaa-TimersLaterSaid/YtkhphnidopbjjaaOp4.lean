/- Arguments opened: an array of two integers. -/
import Derived.Test.YtkhphnidopbjjaaRows
import Derived.OpenShut
namespace Go.Proofs.Ytkhphnidopbjjaa
open Go.ChangeShapes Go.WideShapes Go.RowKit
theorem open_arr2 {H : Type} {enc : TypeId × Value → H} {P : Program} {w : World} {base : Nat} {spare : Nat → Bool} {held : Bool} {r : Reach} {b0 : Nat} {t e : TypeId} {v : Value} {d : DataW H} {p : List MemPlace} (ht : P.underlying t = some (.array 2 e)) (he : P.underlying e = some (.int .i64)) (hC : P.cellsOf t = 2) (hCe : P.cellsOf e = 1)
    (hv : Value.okWide P w r b0 t v) (h : DataW.Trod enc P w base spare held t v d p) : ∃ x y : Int, v = .agg #[.int .i64 x, .int .i64 y] := by
  simp only [Value.okWide, ht] at hv
  obtain ⟨cs, rfl, hsz, _⟩ := hv
  obtain ⟨fuel, hf⟩ := h
  rw [hC] at hsz
  obtain ⟨c0, c1, hl⟩ : ∃ c0 c1, cs.toList = [c0, c1] := by
    match hcs : cs.toList, (show cs.toList.length = 2 by simpa using hsz) with
    | [c0, c1], _ => exact ⟨c0, c1, rfl⟩
  obtain ⟨xs, m, _, _, _, hxl, hat⟩ := DataW.trod_array ht hf
  have h0 := hat 0 (by omega)
  have h1 := hat 1 (by omega)
  simp [Value.cells, hl, hCe] at h0 h1
  match xs, hxl with
  | [y0, y1], _ =>
    simp at h0 h1
    obtain ⟨n0, e0, _, _⟩ := DataW.trod_int he h0
    obtain ⟨n1, e1, _, _⟩ := DataW.trod_int he h1
    simp at e0 e1
    subst e0 e1
    refine ⟨n0, n1, ?_⟩
    congr 1
    exact Array.ext' (by simpa using hl)
end Go.Proofs.Ytkhphnidopbjjaa
