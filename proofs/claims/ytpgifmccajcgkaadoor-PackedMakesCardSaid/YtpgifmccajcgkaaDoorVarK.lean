/- Varints: the program's 'Get', 'Unpack'. -/
import Derived.Test.YtpgifmccajcgkaaDoorVarJ
import Derived.Test.YtpgifmccajcgkaaDoorVarH
import Derived.Lib.Hide
namespace Go.Proofs.YtpgifmccajcgkaaDoor
set_option linter.unusedVariables false
set_option linter.unusedSimpArgs false
open Go.ChangeShapes Go.WideShapes Go.ChangeAt Go.RowKit

theorem next_is (am an : Addr) (s : ByteArray) (hs : s.size ≤ 9223372036854775807) {C N K : Nat} (hv : nextV (bytesOf s) = (C, N, K)) (b : Nat) (w : World) (hb : w.heap[b]? = some (.cells #[.string s] 76 (0, 0))) (hsent : Sent am an w) :
    Calls Tryd.prog 53 #[.pointer (some ⟨b, 0, none⟩)] w fun e w' => e = .returned (.tuple #[.int .u64 (N : Int), errOf am an C]) ∧ w'.heap[b]? = some (.cells #[.string (s.extract K s.size)] 76 (0, 0)) ∧ OnlyAt b w w' :=
  (next_any am an s hs b w hb hsent).mono fun e w' h => by
    unfold NextP at h
    rw [hv] at h
    exact h
theorem Sent.lt {am an : Addr} {w : World} (h : Sent am an w) : 0 < w.heap.size ∧ 1 < w.heap.size ∧ am.block < w.heap.size ∧ an.block < w.heap.size := by
  obtain ⟨g1, g2, g3, ⟨c, t, g4⟩, c', t', g5⟩ := h
  exact ⟨World.block_lt_of_cell? _ _ g1, World.block_lt_of_cell? _ _ g2, heap_lt g4, heap_lt g5⟩
theorem Sent.past {am an : Addr} {b : Nat} {w w1 w2 : World} (h : Sent am an w) (h1 : Below w.heap.size w w1) (h2 : OnlyAt b w1 w2) (hb : w.heap.size ≤ b) : Sent am an w2 :=
  have hl := h.lt
  (h.below h1).only h2 (by omega) (by omega) (by omega) (by omega)
theorem Sent.plus {am an : Addr} {w : World} (h : Sent am an w) (x : Ext) : Sent am an (World.plus w x) := h.below (World.plus_below w x)
theorem code_or {l : List UInt8} {C N K : Nat} (hv : nextV l = (C, N, K)) : C = 0 ∨ C = 20 ∨ C = 21 := by
  have := nextV_code l; rw [hv] at this; exact this

set_option maxRecDepth 100000 in
set_option maxHeartbeats 1000000 in
theorem get_is (am an : Addr) (s : ByteArray) (hs : s.size ≤ 9223372036854775807) {C N K : Nat} (hv : nextV (bytesOf s) = (C, N, K)) (w : World) (hsent : Sent am an w) :
    Calls Tryd.prog 18 #[.string s] w fun e w' => e = .returned (.tuple #[.int .u64 (N : Int), .string (s.extract K s.size), .int .i64 (C : Int)]) ∧ Below w.heap.size w w' := by
  have HC := hid (code_or hv)
  have HN := hid (fun b W h1 h2 => next_is am an s hs hv b W h1 h2)
  have HS := hid hsent
  clear hv hsent
  go_enter Tryd.func18, Tryd.ntmps18
  go_wp2_with (go_at_call 53; refine (HN.out _ _ (heap_at rfl) (HS.out.below (by (repeat' (first | (with_reducible exact Below.refl _ _) | (with_reducible assumption) | (with_reducible refine Below.new ?_ _) | (with_reducible refine Below.alloc ?_ ?_ _) | (with_reducible refine Below.drew ?_) | (with_reducible refine Below.setCell ?_ ?_ _) | (refine Below.step ?_ (by assumption)) | go_size))))).mono ?_; rintro e w1 ⟨rfl, hb1, ho1⟩)
  have HB := hid (show Below w.heap.size w w1 from ho1.below (by (repeat' (first | (with_reducible exact Below.refl _ _) | (with_reducible assumption) | (with_reducible refine Below.new ?_ _) | (with_reducible refine Below.alloc ?_ ?_ _) | (with_reducible refine Below.drew ?_) | (with_reducible refine Below.setCell ?_ ?_ _) | (refine Below.step ?_ (by assumption)) | go_size))) (Nat.le_refl _) (by simp))
  have HS1 := hid (HS.out.below HB.out)
  have c1 := cell_of_one hb1
  have p1 := World.plus_cell c1
  clear hb1 ho1
  refine wp_region_plus (by kernel_rfl) (by kernel_rfl) ?_
  repeat (first | go_big_quiet_skip | (go_big_quiet_want; go_big_quiet_op; first | go_big_quiet_on | go_big_quiet_call (((go_at_call 54; exact Calls.plus_of_same (told_any am an _ HC.out _ (HS1.out.plus _)))))))
  refine wpQuiet_nil ?_
  rintro _ ⟨xq, rfl⟩
  go_wp2
  go_ret3
  exact ⟨rfl, HB.out.trans ((World.plus_below _ _).mono HB.out.size)⟩
end Go.Proofs.YtpgifmccajcgkaaDoor
