/- A region that draws its order, whose operations read and whose callees make new blocks alone: one walk in the order of the text, over the worlds that hold what the first one held ('w.plus x'). -/
import Derived.Test.YtcdfbcmhikhnjaaDoorBase
import Derived.BigQuiet
namespace Go.RowKit
/-- What a world may have besides: new blocks, another count of draws. -/
structure Ext where
  more : Array Obj
  drawn : Nat
instance : Nonempty Ext := ⟨⟨#[], 0⟩⟩
/-- The world w with new blocks behind its own, and another count of draws. -/
def World.plus (w : World) (x : Ext) : World := { w with heap := w.heap ++ x.more, drawn := x.drawn }
theorem World.plus_below (w : World) (x : Ext) : Below w.heap.size w (World.plus w x) :=
  ⟨rfl, rfl, rfl, by simp [World.plus], fun k hk => by simp [World.plus, Array.getElem?_append_left hk]⟩
theorem World.plus_of_below {w w' : World} (h : Below w.heap.size w w') : ∃ x, w' = World.plus w x := by
  refine ⟨⟨w'.heap.extract w.heap.size w'.heap.size, w'.drawn⟩, ?_⟩
  obtain ⟨h1, h2, h3, h4, h5⟩ := h
  have e : w.heap ++ w'.heap.extract w.heap.size w'.heap.size = w'.heap := by
    apply Array.ext_getElem?
    intro i
    by_cases hi : i < w.heap.size
    · rw [Array.getElem?_append_left hi, h5 i hi]
    · rw [Array.getElem?_append_right (by omega), Array.getElem?_extract]
      by_cases hj : i < w'.heap.size
      · rw [if_pos (by omega), show w.heap.size + (i - w.heap.size) = i from by omega]
      · rw [if_neg (by omega)]; simp; omega
  cases w'
  simp only [World.plus] at *
  simp [h1, h2, h3, e]
theorem World.plus_cell {w : World} {a : Addr} {v : Value} (h : w.cell? a = some v) (x : Ext) : (World.plus w x).cell? a = some v :=
  ((World.plus_below w x).cell (World.block_lt_of_cell? _ _ h)).trans h
theorem World.plus_drew (w : World) : ∃ x, { w with drawn := w.drawn + 1 } = World.plus w x := World.plus_of_below ⟨rfl, rfl, rfl, Nat.le_refl _, fun _ _ => rfl⟩
end Go.RowKit
namespace Go
open Go.RowKit
theorem Calls.plus_of {P : Program} {f : FuncId} {args : Array Value} {w : World} {x : Ext} {v : Value}
    (h : Calls P f args (World.plus w x) fun e w' => e = .returned v ∧ Below (World.plus w x).heap.size (World.plus w x) w') : Calls P f args (World.plus w x) fun e w'' => e = .returned v ∧ ∃ y, w'' = World.plus w y :=
  h.mono fun _ _ ⟨he, hb⟩ => ⟨he, World.plus_of_below ((World.plus_below w x).step hb)⟩
theorem Calls.plus_of_same {P : Program} {f : FuncId} {args : Array Value} {w : World} {x : Ext} {v : Value}
    (h : Calls P f args (World.plus w x) fun e w' => e = .returned v ∧ World.plus w x = w') : Calls P f args (World.plus w x) fun e w'' => e = .returned v ∧ ∃ y, w'' = World.plus w y :=
  h.mono fun _ _ ⟨he, hb⟩ => ⟨he, x, hb.symm⟩
theorem Calls.bool_is {P : Program} {f : FuncId} {args : Array Value} {w : World} {b v : Bool} {R : World → Prop} (h : Calls P f args w fun e w' => e = .returned (.bool b) ∧ R w') (hb : b = v) : Calls P f args w fun e w' => e = .returned (.bool v) ∧ R w' := hb ▸ h
theorem wp_region_plus {P : Program} {id : Nat} {Q : Exit → Act → World → Prop} {a : Act} {w : World} {l : List Oper} (hm : P.follows .mixedOrders = true) (hB : Region.lexB .any l.toArray = true)
    (h : wpQuiet P l.toArray (fun w' => ∃ x, w' = World.plus w x) (fun a' => ∀ w', (∃ x, w' = World.plus w x) → Q .normal a' w') l a) : (Code.region id l.toArray true).wp P Q a w :=
  wp_region_quiet (C := fun w' => ∃ x, w' = World.plus w x) hm hB (World.plus_drew w) (by simpa using h)
end Go
