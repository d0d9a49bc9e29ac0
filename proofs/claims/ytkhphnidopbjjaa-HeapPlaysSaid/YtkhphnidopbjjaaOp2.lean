/- Arguments opened: a slice of structs whose fields have one cell each; the law's operations. -/
import Derived.Test.YtkhphnidopbjjaaR6
import Derived.Deep.Slices
import Derived.Deep.Fields
import Derived.ChangeSame
import Derived.OpenShut
namespace Go.Proofs.Ytkhphnidopbjjaa
open Go.ChangeShapes Go.WideShapes Go.Deep Go.RowKit
section
variable {H : Type} {enc : TypeId × Value → H} {P : Program} {w : World} {base : Nat} {spare : Nat → Bool} {held : Bool}
theorem open_slice_fields {t e : TypeId} {fs : Array Field} {fuel : Nat} {cs : List Value} {x : DataW H × List MemPlace} (ht : P.underlying t = some (.slice e)) (he : P.underlying e = some (.struct fs))
    (hone : oneCellFields P fs = true) (hC : P.cellsOf e = fs.size) (h : DataW.trod enc P w base spare held fuel t cs = some x) :
    (cs = [.slice none 0 0] ∧ x = (.nil, [])) ∨
    ∃ (a : Addr) (len cap m : Nat) (D : Nat → DataW H) (Pl : Nat → List MemPlace), cs = [.slice (some a) len cap] ∧ base ≤ a.block ∧ len ≤ cap ∧ cap ≤ maxLen ∧ m = (if spare a.block then cap else len) ∧
      x = (.slice ((List.range len).map D) ((List.range (m - len)).map fun j => D (len + j)), MemPlace.row a (m * fs.size) ++ (List.range m).flatMap Pl) ∧
      ∀ i, i < m → ∃ (ys : List (DataW H × List MemPlace)) (n : Nat), D i = .agg (ys.map (·.1)) ∧ Pl i = ys.flatMap (·.2) ∧ ys.length = fs.size ∧
        ∀ (j : Nat) (f : Field), fs[j]? = some f → ∃ (v : Value) (y : DataW H × List MemPlace), w.cell? (a.add (i * fs.size + j)) = some v ∧ ys[j]? = some y ∧ DataW.trod enc P w base spare held n f.type [v] = some y := by
  rcases open_slice ht h with h0 | ⟨a, len, cap, m, n, D, Pl, hcs, hb, hl, hm, hmm, hx, hi⟩
  · exact .inl h0
  · refine .inr ⟨a, len, cap, m, D, Pl, hcs, hb, hl, hm, hmm, by rw [hC] at hx; exact hx, fun i him => ?_⟩
    obtain ⟨cs', hc, ht'⟩ := hi i him
    rw [hC] at hc
    obtain ⟨ys, n', hn', hy, hlen, hyl, hf⟩ := DataW.trod_struct he ht'
    obtain ⟨_, hcl, hat⟩ := World.cells?_some hc
    simp only [Prod.mk.injEq] at hy
    refine ⟨ys, n', hy.1, hy.2, hyl, fun j f hj => ?_⟩
    obtain ⟨ho, hk⟩ := hone_of hone j f hj
    have hjl : j < fs.size := (Array.getElem?_eq_some_iff.1 hj).1
    have hcell := hat j hjl
    have hv : cs'[j]? = some (cs'[j]'(by omega)) := List.getElem?_eq_getElem (by omega)
    have h1 := hf j f hj
    rw [ho, hk] at h1
    have hone' : (cs'.drop j).take 1 = [cs'[j]'(by omega)] := by
      rw [List.drop_eq_getElem_cons (by omega)]
      rfl
    rw [hone'] at h1
    have hys : ys[j]? = some (ys[j]'(by omega)) := List.getElem?_eq_getElem (by omega)
    refine ⟨_, _, ?_, hys, h1.trans hys⟩
    rw [← Go.Deep.add_add, hcell, hv]

theorem addr_plain2 {a : Addr} {n : Nat} {u : Value} (h : w.cell? (a.add n) = some u) (h0 : n = 0) : ∃ b off, a = ⟨b, off, none⟩ ∧ b < w.heap.size := by
  subst h0
  obtain ⟨b, off, spot⟩ := a
  have hs : spot = none := by simpa [Addr.add] using World.cell?_spot h
  subst hs
  exact ⟨b, off, rfl, by simpa [Addr.add] using World.block_lt_of_cell? w _ h⟩
def vint : Value → Int
  | .int _ n => n
  | _ => 0
theorem reads_ops {t e ti t64 : TypeId} {a : Option Addr} {len cap : Nat} {d : DataW H} {p : List MemPlace} {fs : Array Field} (ht : P.underlying t = some (.slice e)) (he : P.underlying e = some (.struct fs))
    (hf : fs.toList.map (fun f : Field => f.type) = [ti, ti, ti, t64, t64])
    (hi : P.underlying ti = some (.int .i64)) (h64 : P.underlying t64 = some (.int .i64)) (hone : oneCellFields P fs = true) (hC : P.cellsOf e = fs.size)
    (h : DataW.Trod enc P w base spare held t (.slice a len cap) d p) : len ≤ maxLen ∧ ∃ l : List Opn, l.length = len ∧ ReadsOps w a l := by
  have hsz : fs.size = 5 := by have := congrArg List.length hf; simpa using this
  have hty : ∀ (j : Nat) (f : Field), fs[j]? = some f → f.type = ti ∨ f.type = t64 := by
    intro j f hj
    have : (fs.toList.map (fun f : Field => f.type))[j]? = some f.type := by simp [hj]
    rw [hf] at this
    have := List.mem_of_getElem? this
    simp at this
    exact this
  obtain ⟨fuel, hf'⟩ := h
  rcases open_slice_fields ht he hone hC hf' with ⟨hcs, _⟩ | ⟨x, l, c, m, D, Pl, hcs, _, hl, hm, hmm, _, hi'⟩
  · simp [Value.cells] at hcs
    obtain ⟨rfl, rfl, rfl⟩ := hcs
    exact ⟨by simp [maxLen], [], rfl, by intro k z hz; simp at hz⟩
  · simp [Value.cells] at hcs
    obtain ⟨rfl, rfl, rfl⟩ := hcs
    have hml : len ≤ m := by rw [hmm]; split <;> omega
    have cell : ∀ k, k < len → ∀ j, j < 5 → ∃ z : Int, w.cell? (x.add (k * 5 + j)) = some (.int .i64 z) := by
      intro k hk j hj
      obtain ⟨ys, n, _, _, hyl, hcell⟩ := hi' k (by omega)
      have hjf : fs[j]? = some (fs[j]'(by omega)) := Array.getElem?_eq_getElem _
      obtain ⟨v, y, hc, hy, htr⟩ := hcell j _ hjf
      rw [hsz] at hc
      rcases hty j _ hjf with e | e
      · rw [e] at htr
        obtain ⟨q, hq, _⟩ := DataW.trod_int hi htr
        simp at hq
        exact ⟨q, by rw [hc, hq]⟩
      · rw [e] at htr
        obtain ⟨q, hq, _⟩ := DataW.trod_int h64 htr
        simp at hq
        exact ⟨q, by rw [hc, hq]⟩
    refine ⟨by omega, (List.range len).map (fun i => (⟨vint ((w.cell? (x.add (i * 5 + 0))).getD default), vint ((w.cell? (x.add (i * 5 + 1))).getD default), vint ((w.cell? (x.add (i * 5 + 2))).getD default), vint ((w.cell? (x.add (i * 5 + 3))).getD default), vint ((w.cell? (x.add (i * 5 + 4))).getD default)⟩ : Opn)), by simp, ?_⟩
    intro k z hz
    have hk : k < len := by have := (List.getElem?_eq_some_iff.1 hz).1; simpa using this
    obtain ⟨z00, hz00⟩ := cell 0 (by omega) 0 (by omega)
    obtain ⟨b, off, rfl, hb⟩ := addr_plain2 hz00 rfl
    simp [hk] at hz
    subst hz
    obtain ⟨y0, c0⟩ := cell k hk 0 (by omega)
    obtain ⟨y1, c1⟩ := cell k hk 1 (by omega)
    obtain ⟨y2, c2⟩ := cell k hk 2 (by omega)
    obtain ⟨y3, c3⟩ := cell k hk 3 (by omega)
    obtain ⟨y4, c4⟩ := cell k hk 4 (by omega)
    simp only [Nat.add_zero] at c0
    rw [c0, c1, c2, c3, c4]
    simp only [Go.WideShapes.add_plain] at c0 c1 c2 c3 c4
    exact ⟨b, off, rfl, hb, c0, c1, c2, c3, c4⟩
end
end Go.Proofs.Ytkhphnidopbjjaa
