/- A region that draws its order, whose operations only read what was there and whose callees make memory and hand back one value: one walk in the order of the text. -/
import Derived.Test.YtielnengimninaaGreatDoorLib3
namespace Go.Own
open Go.RowKit Go.Own.MapTy
/-- a world in which all that w has reads as it does in w -/
def Ext (w : World) : Type := { W : World // Below w.heap.size w W }
instance (w : World) : Nonempty (Ext w) := ⟨⟨w, Below.refl _ w⟩⟩
def ext {w : World} (e : Ext w) : World := e.1
theorem ext_below {w : World} (e : Ext w) : Below w.heap.size w (ext e) := e.2
@[go_sem] theorem ext_cell {w : World} (e : Ext w) (b o : Nat) (h : b < w.heap.size) : (ext e).cell? ⟨b, o, none⟩ = w.cell? ⟨b, o, none⟩ := e.2.cell (p := ⟨b, o, none⟩) h
@[go_sem] theorem ext_frozen {w : World} (e : Ext w) (b o : Nat) (h : b < w.heap.size) : (ext e).frozen? ⟨b, o, none⟩ = w.frozen? ⟨b, o, none⟩ := e.2.frozen (p := ⟨b, o, none⟩) h
@[go_sem] theorem ext_blk {w : World} (e : Ext w) (k : Nat) (h : k < w.heap.size) : blk (ext e) k = blk w k := e.2.block k h
@[go_sem] theorem ext_same {w w0 : World} (e : Ext w) (k : Nat) (h : k < w.heap.size) : Same w0 k (ext e) ↔ Same w0 k w := by unfold Same; rw [ext_blk e k h]
theorem wp_region_ext {P : Program} {id : Nat} {Q : Exit → Act → World → Prop} {a : Act} {w : World} {l : List Oper} (hm : P.follows .mixedOrders = true) (hB : Region.lexB .any l.toArray = true)
    (h : wpQuiet P l.toArray (fun W => ∃ e : Ext w, W = ext e) (fun a' => ∀ W, Below w.heap.size w W → Q .normal a' W) l a) : (Code.region id l.toArray true).wp P Q a w := by
  have e1 : (fun a' => ∀ W, Below w.heap.size w W → Q .normal a' W) = (fun a' => ∀ W, (∃ e : Ext w, W = ext e) → Q .normal a' W) := by
    funext a'
    refine propext ⟨fun h W ⟨e, he⟩ => h W (he ▸ e.2), fun h W hW => h W ⟨⟨W, hW⟩, rfl⟩⟩
  rw [e1] at h
  exact wp_region_quiet (C := fun W => ∃ e : Ext w, W = ext e) hm hB ⟨⟨{ w with drawn := w.drawn + 1 }, (Below.refl _ w).drew⟩, rfl⟩ (by simpa using h)
theorem ext_call {P : Program} {f : FuncId} {args : Array Value} {w : World} {e : Ext w} {v : Value} (h : Calls P f args (ext e) fun en w' => en = .returned v ∧ Below (ext e).heap.size (ext e) w') :
    Calls P f args (ext e) fun en w'' => en = .returned v ∧ ∃ e' : Ext w, w'' = ext e' :=
  h.mono fun _ w' ⟨h1, h2⟩ => ⟨h1, ⟨w', e.2.trans (h2.mono e.2.size)⟩, rfl⟩
theorem ext_call_same {P : Program} {f : FuncId} {args : Array Value} {w : World} {e : Ext w} {v : Value} (h : Calls P f args (ext e) fun en w' => en = .returned v ∧ ext e = w') :
    Calls P f args (ext e) fun en w'' => en = .returned v ∧ ∃ e' : Ext w, w'' = ext e' :=
  h.mono fun _ _ ⟨h1, h2⟩ => ⟨h1, e, h2.symm⟩
end Go.Own
