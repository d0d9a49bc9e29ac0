/- Arguments opened: a slice of events of runs. -/
import Derived.Test.YtkhphnidopbjjaaT9
import Derived.Deep.Slices
import Derived.Deep.Fields
import Derived.ChangeSame
import Derived.OpenShut
namespace Go.Proofs.Ytkhphnidopbjjaa
open Go.ChangeShapes Go.WideShapes Go.Deep Go.RowKit Go.Hm
section
variable {H : Type} {enc : TypeId × Value → H} {w : World} {base : Nat} {spare : Nat → Bool} {held : Bool}
theorem wf64 {n : Int} (h : (Lit.int .i64 n).wf = true) : IntKind.i64.min ≤ n ∧ n ≤ 9223372036854775807 := by
  simpa [Lit.wf, IntKind.bits, IntKind.signed] using h
theorem step_cells {cs : List Value} {x : DataW H × List MemPlace} {fuel : Nat} (hlen : cs.length = 12) (h : DataW.trod enc Try.prog w base spare held fuel 73 cs = some x) : ∃ (run : Int) (v : Ev), cs = (stCells run v).toList ∧ v.time ≤ 9223372036854775807 := by
  have k3 : Try.prog.cellsOf 3 = 1 := by kernel_rfl
  have k2 : Try.prog.cellsOf 2 = 1 := by kernel_rfl
  have k9 : Try.prog.cellsOf 9 = 1 := by kernel_rfl
  have k71 : Try.prog.cellsOf 71 = 11 := by kernel_rfl
  have k69 : Try.prog.cellsOf 69 = 4 := by kernel_rfl
  have k67 : Try.prog.cellsOf 67 = 1 := by kernel_rfl
  match cs, hlen with
  | [c0, c1, c2, c3, c4, c5, c6, c7, c8, c9, c10, c11], _ =>
    obtain ⟨ys, m, _, rfl, _, hl, hf⟩ := DataW.trod_struct Try.underlying73 h
    match ys, hl with
    | [y0, y1], _ =>
      have h0 := hf 0 _ rfl
      have h1 := hf 1 _ rfl
      simp [k3, k71] at h0 h1
      obtain ⟨n0, e0, _, _⟩ := DataW.trod_int Try.underlying3 h0
      obtain ⟨zs, m2, _, rfl, _, hl2, hf2⟩ := DataW.trod_struct Try.underlying71 h1
      match zs, hl2 with
      | [z0, z1, z2, z3, z4, z5, z6, z7], _ =>
        have g0 := hf2 0 _ rfl
        have g1 := hf2 1 _ rfl
        have g2 := hf2 2 _ rfl
        have g3 := hf2 3 _ rfl
        have g4 := hf2 4 _ rfl
        have g5 := hf2 5 _ rfl
        have g6 := hf2 6 _ rfl
        have g7 := hf2 7 _ rfl
        simp [k3, k2, k9, k69] at g0 g1 g2 g3 g4 g5 g6 g7
        obtain ⟨n1, e1, _, _⟩ := DataW.trod_int Try.underlying3 g0
        obtain ⟨n2, e2, _, b2⟩ := DataW.trod_int Try.underlying2 g1
        obtain ⟨n3, e3, _, _⟩ := DataW.trod_int Try.underlying3 g2
        obtain ⟨n4, e4, _, _⟩ := DataW.trod_int Try.underlying2 g3
        obtain ⟨n5, e5, _, _⟩ := DataW.trod_int Try.underlying2 g4
        obtain ⟨s6, e6, _, _⟩ := DataW.trod_string Try.underlying9 g5
        obtain ⟨s7, e7, _, _⟩ := DataW.trod_string Try.underlying9 g6
        obtain ⟨us, m3, _, rfl, _, hl3, hf3⟩ := DataW.trod_struct Try.underlying69 g7
        match us, hl3 with
        | [u0, u1, u2, u3], _ =>
          have t0 := hf3 0 _ rfl
          have t1 := hf3 1 _ rfl
          have t2 := hf3 2 _ rfl
          have t3 := hf3 3 _ rfl
          simp [k3, k2, k9, k67] at t0 t1 t2 t3
          obtain ⟨n8, e8, _, _⟩ := DataW.trod_int Try.underlying3 t0
          obtain ⟨n9, e9, _, _⟩ := DataW.trod_int Try.underlying2 t1
          obtain ⟨s10, e10, _, _⟩ := DataW.trod_string Try.underlying9 t2
          obtain ⟨la, ln, lc, e11⟩ : ∃ la ln lc, c11 = .slice la ln lc := by
            rcases DataW.trod_slice Try.underlying67 t3 with ⟨e, _⟩ | ⟨a, ln, lc, _, _, _, _, e, _⟩
            · simp at e; exact ⟨_, _, _, e⟩
            · simp at e; exact ⟨_, _, _, e⟩
          simp at e0 e1 e2 e3 e4 e5 e6 e7 e8 e9 e10
          subst e0 e1 e2 e3 e4 e5 e6 e7 e8 e9 e10 e11
          exact ⟨n0, ⟨n1, n2, n3, n4, n5, s6, s7, n8, n9, s10, la, ln, lc⟩, rfl, (wf64 b2).2⟩
theorem reads_steps {a : Option Addr} {len cap : Nat} {d : DataW H} {p : List MemPlace} (h : DataW.Trod enc Try.prog w base spare held 63 (.slice a len cap) d p) : len ≤ maxLen ∧ ∃ l : List (Int × Ev), l.length = len ∧ ReadsSteps w a l := by
  have k73 : Try.prog.cellsOf 73 = 12 := by kernel_rfl
  obtain ⟨fuel, hf'⟩ := h
  rcases open_slice Try.underlying63 hf' with ⟨hcs, _⟩ | ⟨x, l, c, m, n, D, Pl, hcs, _, hl, hm, hmm, _, hi⟩
  · simp [Value.cells] at hcs
    obtain ⟨rfl, rfl, rfl⟩ := hcs
    exact ⟨by simp [maxLen], [], rfl, by intro k z hz; simp at hz⟩
  · simp [Value.cells] at hcs
    obtain ⟨rfl, rfl, rfl⟩ := hcs
    have hml : len ≤ m := by rw [hmm]; split <;> omega
    rw [k73] at hi
    have cell : ∀ k, k < len → ∃ p : Int × Ev, p.2.time ≤ 9223372036854775807 ∧ ∀ j u, (stCells p.1 p.2)[j]? = some u → w.cell? (x.add (k * 12 + j)) = some u := by
      intro k hk
      obtain ⟨cs', hc, htr⟩ := hi k (by omega)
      obtain ⟨_, hcl, hat⟩ := World.cells?_some hc
      obtain ⟨run, v, he, ht⟩ := step_cells hcl htr
      refine ⟨(run, v), ht, fun j u hj => ?_⟩
      have hjl : j < 12 := (Array.getElem?_eq_some_iff.1 hj).1
      rw [← Go.Deep.add_add, hat j hjl, he]
      simpa using hj
    have hch := Classical.axiomOfChoice (fun k => show ∃ p : Int × Ev, k < len → p.2.time ≤ 9223372036854775807 ∧ ∀ j u, (stCells p.1 p.2)[j]? = some u → w.cell? (x.add (k * 12 + j)) = some u from by
      by_cases hk : k < len
      · obtain ⟨p, h⟩ := cell k hk; exact ⟨p, fun _ => h⟩
      · exact ⟨(0, ⟨0, 0, 0, 0, 0, .empty, .empty, 0, 0, .empty, none, 0, 0⟩), fun h => absurd h hk⟩)
    obtain ⟨f, hfx⟩ := hch
    refine ⟨by omega, (List.range len).map f, by simp, ?_⟩
    intro k z hz
    have hk : k < len := by have := (List.getElem?_eq_some_iff.1 hz).1; simpa using this
    simp [hk] at hz
    subst hz
    obtain ⟨h1, h2⟩ := hfx k hk
    obtain ⟨b, off, rfl, hb⟩ : ∃ b off, x = ⟨b, off, none⟩ ∧ b < w.heap.size := by
      have hc := (hfx 0 (by omega)).2 0 _ rfl
      simp only [Nat.zero_mul, Nat.add_zero] at hc
      obtain ⟨b, off, spot⟩ := x
      have hs : spot = none := by simpa [Addr.add] using World.cell?_spot hc
      subst hs
      exact ⟨b, off, rfl, by simpa [Addr.add] using World.block_lt_of_cell? w _ hc⟩
    refine ⟨b, off, rfl, hb, h1, fun j u hj => ?_⟩
    have := h2 j u hj
    simp only [Go.WideShapes.add_plain] at this
    rw [Nat.add_assoc]
    exact this
end
end Go.Proofs.Ytkhphnidopbjjaa
