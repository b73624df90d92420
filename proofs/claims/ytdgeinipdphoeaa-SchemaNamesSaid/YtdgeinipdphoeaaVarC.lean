/- Varints: the program's iterator over a number's bytes. -/
import Derived.Test.YtdgeinipdphoeaaVarB
import Derived.Test.YtdgeinipdphoeaaSeqW
namespace Go.Proofs.Ytdgeinipdphoeaa
set_option linter.unusedVariables false
set_option linter.unusedSimpArgs false
open Go.ChangeShapes Go.WideShapes Go.ChangeAt Go.RowKit Go.Shelf
attribute [local go_sem] Oper.semAt_some

theorem bytes_any (n : Int) (w : World) :
    Calls Try.prog 118 #[.int .u64 n] w fun e w' => e = .returned (.func (.func 129) #[] #[.pointer (some ⟨w.heap.size, 0, none⟩)]) ∧ w' = w.alloc (.cells #[.int .u64 n] 56) := by
  go_enter Try.func118, Try.ntmps118
  go_wp2
  go_ret
  exact ⟨rfl, rfl⟩

theorem putB_big {m : Nat} (h : 128 ≤ m) : putB m = UInt8.ofNat (128 + m % 128) :: putB (m / 128) := by rw [putB, if_neg (by omega)]
theorem putB_small {m : Nat} (h : m < 128) : putB m = [UInt8.ofNat m] := by rw [putB, if_pos h]
theorem putB_pos (m : Nat) : 0 < (putB m).length := by rw [putB]; split <;> simp
theorem bits_or_u8 (x : Nat) (hx : x < 256) : bits .or .u8 (x : Int) 128 = ((128 + x % 128 : Nat) : Int) := by
  have h : ∀ x : Fin 256, bits .or .u8 (x.val : Int) 128 = ((128 + x.val % 128 : Nat) : Int) := by decide +kernel
  exact h ⟨x, hx⟩

/-- What a box of one number holds. -/
def boxN (b : Nat) (w : World) : Nat := match w.cell? ⟨b, 0, none⟩ with | some (.int _ n) => n.toNat | _ => 0

/-- The k-th byte of a list, as a value. -/
abbrev byteV (l : List UInt8) (k : Nat) : Value := .int .u8 ((l[k]?.getD 0).toNat : Int)

set_option maxRecDepth 100000 in
set_option maxHeartbeats 1000000 in
theorem bytes_seq (n : Nat) (hn : n ≤ 18446744073709551615) (b1 n₀ lo hi : Nat) (w : World) (hb1 : lo ≤ b1 ∧ b1 < hi) (hw : hi ≤ w.heap.size)
    (c0 : w.heap[b1]? = some (.cells #[.int .u64 (n : Int)] 56 (0, 0))) :
    SeqW Try.prog 129 #[.pointer (some ⟨b1, 0, none⟩)] (fun k : Nat => #[byteV (putB n) k]) n₀ lo hi (putB n).length w := by
  intro m0 l J Jx W hm0 hW hJ hJx hO hY h0
  have d0 := (hW.block b1 (by omega)).trans c0
  obtain ⟨m1, rfl⟩ : ∃ m1, m0 = m1 + 1 := ⟨m0 - 1, by omega⟩
  obtain ⟨L, hL⟩ : ∃ L, putB n = L := ⟨_, rfl⟩
  rw [hL] at hY ⊢
  clear c0
  refine callsIn_of_wp Try.func129 rfl trivial ?_ rfl
  simp only [Try.ntmps129, List.size_toArray, List.length_cons, List.length_nil, Nat.reduceAdd, Nat.reduceSub, Array.replicate_succ, Array.replicate_zero, List.push_toArray, List.append_toArray, List.nil_append, List.cons_append]
  gi_wp2
  gi_loopw [] (fun wr => ∃ k m : Nat, m ≤ n ∧ putB m = L.drop k ∧ wr.heap[b1]? = some (.cells #[.int .u64 (m : Int)] 56 (0, 0)) ∧ J k wr ∧ W.heap.size ≤ wr.heap.size) (fun wr => boxN b1 wr)
  case atStart => exact ⟨0, n, Nat.le_refl _, by rw [hL]; rfl, d0, h0, Nat.le_refl _⟩
  case round =>
    obtain ⟨k, m, hm, hp, hbox, hJs, hsz⟩ := hrel
    have hc := cell_of_one hbox
    have hfz := free_of_one hbox
    have hmeas : boxN b1 wr = m := by simp [boxN, hc]
    by_cases hbig : 128 ≤ m
    · rw [putB_big hbig] at hp
      have hk : k < L.length := by
        rcases Nat.lt_or_ge k L.length with h | h
        · exact h
        · rw [List.drop_eq_nil_of_le h] at hp; cases hp
      have hcons := List.drop_eq_getElem_cons hk
      rw [hcons] at hp
      obtain ⟨hp1, hp2⟩ := List.cons.inj hp
      obtain ⟨fn, tmps, assign, body, hy, hR⟩ := hY k hk wr hJs
      have hb : byteV L k = .int .u8 ((128 + m % 128 : Nat) : Int) := by
        simp only [byteV, List.getElem?_eq_getElem hk, Option.getD_some, ← hp1]
        congr 1
        simp
        omega
      rw [hb] at hy
      obtain ⟨Y, hY1⟩ : ∃ Y : Int, ((128 + m % 128 : Nat) : Int) = Y := ⟨_, rfl⟩
      have hor : bits .or .u8 ((m : Int) % 256) 128 = Y := by
        rw [← hY1, show (m : Int) % 256 = ((m % 256 : Nat) : Int) by omega, bits_or_u8 _ (by omega)]
        omega
      rw [hY1] at hy
      have hdn := hid (show ((m : Int) / 128) = ((m / 128 : Nat) : Int) by omega)
      have hp3 := hid hp2
      have hms := hid hmeas
      clear hY hJ hJx hY1 hb hp hp1 hp2 hcons hmeas hL
      gi_wp2
      refine hR.mono ?_
      rintro e W3 (⟨rfl, hJ3, hP3⟩ | ⟨rfl, hJx3⟩)
      · have hbox3 := (hP3.mid b1 hb1.1 hb1.2).trans hbox
        have hc3 := cell_of_one hbox3
        have hfz3 := free_of_one hbox3
        have hz3 := hP3.size
        gi_wp2
        go_roundw
        case rel => exact ⟨k + 1, m / 128, by omega, hp3.out, by rw [heap_set_same hbox3, hdn.out], hO _ _ _ _ hb1.1 hb1.2 hJ3, by simp; omega⟩
        case measure =>
          have hq := cell_of_one (heap_set_same (u := .int .u64 ((m : Int) / 128)) hbox3)
          have hq2 : boxN b1 (W3.setCell ⟨b1, 0, none⟩ (.int .u64 ((m : Int) / 128))) = m / 128 := by simp only [boxN, hq]; omega
          rw [hms.out, hq2]
          omega
      · gi_wp2
        refine bodyPost_ret (results_none rfl _ _ _) rfl ?_
        exact ⟨⟨_, rfl⟩, .inr ⟨k, hk, hJx3⟩⟩
    · have hsm : m < 128 := by omega
      rw [putB_small hsm] at hp
      have hk : k < L.length := by
        rcases Nat.lt_or_ge k L.length with h | h
        · exact h
        · rw [List.drop_eq_nil_of_le h] at hp; cases hp
      have hcons := List.drop_eq_getElem_cons hk
      rw [hcons] at hp
      obtain ⟨hp1, hp2⟩ := List.cons.inj hp
      have hlast : k + 1 = L.length := by
        have := congrArg List.length hp2
        simp at this
        omega
      obtain ⟨fn, tmps, assign, body, hy, hR⟩ := hY k hk wr hJs
      have hb : byteV L k = .int .u8 (m : Int) := by
        simp only [byteV, List.getElem?_eq_getElem hk, Option.getD_some, ← hp1]
        congr 1
        simp
        omega
      rw [hb] at hy
      rw [hlast] at hR
      clear hY hJ hJx hb hp hp1 hp2 hcons hmeas hL hbig
      gi_wp2
      refine hR.mono ?_
      rintro e W3 (⟨rfl, hJ3, hP3⟩ | ⟨rfl, hJx3⟩)
      · gi_wp2
        go_end0
        exact ⟨⟨_, rfl⟩, .inl hJ3⟩
      · gi_wp2
        go_end0
        exact ⟨⟨_, rfl⟩, .inr ⟨k, hk, hJx3⟩⟩
end Go.Proofs.Ytdgeinipdphoeaa
