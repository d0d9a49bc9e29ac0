/- Arguments opened: a slice of integers, of bools, as what the walks ask for. -/
import Derived.Test.YtkhphnidopbjjaaS3
import Derived.Deep.Slices
import Derived.Deep.Fields
import Derived.ChangeSame
import Derived.OpenShut
namespace Go.Proofs.Ytkhphnidopbjjaa
open Go.ChangeShapes Go.WideShapes Go.Deep Go.RowKit
section
variable {H : Type} {enc : TypeId × Value → H} {P : Program} {w : World} {base : Nat} {spare : Nat → Bool} {held : Bool}

theorem addr_plain {a : Addr} {u : Value} (h : w.cell? (a.add 0) = some u) : ∃ b off, a = ⟨b, off, none⟩ ∧ b < w.heap.size := by
  obtain ⟨b, off, spot⟩ := a
  have hs : spot = none := by simpa [Addr.add] using World.cell?_spot h
  subst hs
  exact ⟨b, off, rfl, by simpa [Addr.add] using World.block_lt_of_cell? w _ h⟩

theorem reads_bools {t e : TypeId} {a : Option Addr} {len cap : Nat} {d : DataW H} {p : List MemPlace} (ht : P.underlying t = some (.slice e)) (he : P.underlying e = some .bool) (hc : P.cellsOf e = 1)
    (h : DataW.Trod enc P w base spare held t (.slice a len cap) d p) : len ≤ maxLen ∧ ∃ bs : List Bool, bs.length = len ∧ ReadsBools w a bs := by
  obtain ⟨fuel, hf⟩ := h
  rcases open_slice1 ht hc hf with ⟨hcs, _⟩ | ⟨x, l, c, m, n, V, D, Pl, hcs, _, hl, hm, hmm, _, hi⟩
  · simp [Value.cells] at hcs
    obtain ⟨rfl, rfl, rfl⟩ := hcs
    exact ⟨by simp [maxLen], [], rfl, by intro k z hz; simp at hz⟩
  · simp [Value.cells] at hcs
    obtain ⟨rfl, rfl, rfl⟩ := hcs
    have hml : len ≤ m := by rw [hmm]; split <;> omega
    refine ⟨by omega, (List.range len).map (fun i => match V i with | .bool q => q | _ => false), by simp, ?_⟩
    intro k z hz
    have hk : k < len := by have := (List.getElem?_eq_some_iff.1 hz).1; simpa using this
    obtain ⟨b, off, rfl, hb⟩ := addr_plain (hi 0 (by omega)).1
    obtain ⟨q, hq, _⟩ := DataW.trod_bool he (hi k (by omega)).2
    simp at hq
    have hz' : q = z := by
      simp [hk, hq] at hz
      exact hz
    refine ⟨b, off, rfl, ?_, hb⟩
    have := (hi k (by omega)).1
    rw [hq, hz', Go.WideShapes.add_plain] at this
    exact this

theorem reads_ints {t e : TypeId} {a : Option Addr} {len cap : Nat} {d : DataW H} {p : List MemPlace} (ht : P.underlying t = some (.slice e)) (he : P.underlying e = some (.int .i64)) (hc : P.cellsOf e = 1)
    (h : DataW.Trod enc P w base spare held t (.slice a len cap) d p) : len ≤ maxLen ∧ ∃ zs : List Int, zs.length = len ∧ ReadsInts w a zs := by
  obtain ⟨fuel, hf⟩ := h
  rcases open_slice1 ht hc hf with ⟨hcs, _⟩ | ⟨x, l, c, m, n, V, D, Pl, hcs, _, hl, hm, hmm, _, hi⟩
  · simp [Value.cells] at hcs
    obtain ⟨rfl, rfl, rfl⟩ := hcs
    exact ⟨by simp [maxLen], [], rfl, by intro k z hz; simp at hz⟩
  · simp [Value.cells] at hcs
    obtain ⟨rfl, rfl, rfl⟩ := hcs
    have hml : len ≤ m := by rw [hmm]; split <;> omega
    refine ⟨by omega, (List.range len).map (fun i => match V i with | .int _ q => q | _ => 0), by simp, ?_⟩
    intro k z hz
    have hk : k < len := by have := (List.getElem?_eq_some_iff.1 hz).1; simpa using this
    obtain ⟨b, off, rfl, hb⟩ := addr_plain (hi 0 (by omega)).1
    obtain ⟨q, hq, _⟩ := DataW.trod_int he (hi k (by omega)).2
    simp at hq
    have hz' : q = z := by
      simp [hk, hq] at hz
      exact hz
    refine ⟨b, off, rfl, ?_, hb⟩
    have := (hi k (by omega)).1
    rw [hq, hz', Go.WideShapes.add_plain] at this
    exact this
end
end Go.Proofs.Ytkhphnidopbjjaa
