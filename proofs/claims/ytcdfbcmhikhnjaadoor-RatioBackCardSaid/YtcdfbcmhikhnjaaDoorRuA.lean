/- Ratio: the program's reader: a sign taken; the digits of a text. -/
import Derived.Test.YtcdfbcmhikhnjaaDoorRtX
import Derived.Test.YtcdfbcmhikhnjaaDoorSeqN
import Derived.Laws.RangeAny
namespace Go.Proofs.YtcdfbcmhikhnjaaDoor
set_option linter.unusedVariables false
set_option linter.unusedSimpArgs false
set_option maxRecDepth 100000
open Go.ChangeShapes Go.WideShapes Go.ChangeAt Go.RowKit Go.Fl Go.Shelf
attribute [local go_sem] Oper.semAt_some

def isDig (c : UInt8) : Bool := decide (48 ≤ c.toNat) && decide (c.toNat ≤ 57)
/-- The digits that a text begins with. -/
def digL (l : List UInt8) : List UInt8 := l.takeWhile isDig

theorem next_at {W : World} {s : ByteArray} {pos r : Nat} (h : W.heap[r]? = some (.stringIter s pos)) (hp : pos < s.size) (ty : TypeId) :
    (Instr.next (.pointer (some ⟨r, 0, none⟩)) true ty).run Tryd.prog W = .ok (.tuple #[.bool true, .int .i64 pos, .int .i32 (Utf8.decode s pos).1]) (W.putObj r (.stringIter s (pos + (Utf8.decode s pos).2))) := by
  simp [Instr.next, getObj, setObj, Sem.run_bind, Sem.run, h, Result.andThen, hp, World.putObj, goInt]
theorem next_end {W : World} {s : ByteArray} {pos r : Nat} (h : W.heap[r]? = some (.stringIter s pos)) (hp : ¬ pos < s.size) (ty : TypeId) :
    (Instr.next (.pointer (some ⟨r, 0, none⟩)) true ty).run Tryd.prog W = .ok (.tuple #[.bool false]) W := by
  simp [Instr.next, getObj, Sem.run, h, hp]
theorem digits_any (s : ByteArray) (w : World) :
    Calls Tryd.prog 76 #[.string s] w fun e w' => e = .returned (.func (.func 89) #[] #[.pointer (some ⟨w.heap.size, 0, none⟩)]) ∧ w' = w.alloc (.cells #[.string s] 9) := by
  go_enter Tryd.func76, Tryd.ntmps76
  go_wp2
  go_ret
  exact ⟨rfl, rfl⟩
theorem digL_at {l : List UInt8} {k : Nat} (h : k < (digL l).length) : ∃ c, l[k]? = some c ∧ isDig c = true := by
  induction l generalizing k with
  | nil => simp [digL] at h
  | cons a l ih =>
    unfold digL at h ih
    rw [List.takeWhile_cons] at h
    cases ha : isDig a
    · rw [ha] at h; simp at h
    · rw [ha] at h
      cases k with
      | zero => exact ⟨a, rfl, ha⟩
      | succ k => exact ih (k := k) (by simpa using h)
theorem digL_end {l : List UInt8} {c : UInt8} (h : l[(digL l).length]? = some c) : isDig c = false := by
  induction l with
  | nil => simp at h
  | cons a l ih =>
    unfold digL at h ih
    rw [List.takeWhile_cons] at h
    cases ha : isDig a
    · rw [ha] at h
      simp at h
      rw [← h]; exact ha
    · rw [ha] at h
      simp at h
      exact ih h
theorem digL_le (l : List UInt8) : (digL l).length ≤ l.length := by unfold digL; exact (List.takeWhile_sublist _).length_le

set_option maxHeartbeats 1000000 in
theorem digits_seq (l : List UInt8) (hl : l.length ≤ 1000) (b1 n₀ lo hi : Nat) (w : World) (hb1 : lo ≤ b1 ∧ b1 < hi) (hw : hi ≤ w.heap.size) (hn : n₀ ≤ w.heap.size)
    (c0 : w.cell? ⟨b1, 0, none⟩ = some (strL l)) :
    SeqN Tryd.prog 89 #[.pointer (some ⟨b1, 0, none⟩)] (fun k : Nat => #[Value.int .i32 ((l[k]?.getD 0).toNat : Int)]) n₀ lo hi (digL l).length w := by
  intro n y J Jx W hW hJ hJx hY h0
  have hsz := hW.size
  have d0 := (hW.cell (p := ⟨b1, 0, none⟩) (by simp; omega)).trans c0
  have hle := digL_le l
  obtain ⟨N, hN⟩ : ∃ N, (digL l).length = N := ⟨_, rfl⟩
  have HA : Hid (∀ k, k < N → ∃ c, l[k]? = some c ∧ isDig c = true) := fun k hk => digL_at (by rw [hN]; exact hk)
  have HE : Hid (∀ c, l[N]? = some c → isDig c = false) := fun c hc => digL_end (by rw [hN]; exact hc)
  rw [hN] at hY hle ⊢
  obtain ⟨s, hs⟩ : ∃ s : ByteArray, s = { data := l.toArray } := ⟨_, rfl⟩
  have hss : s.size = l.length := by rw [hs]; rfl
  have hd0 : W.cell? ⟨b1, 0, none⟩ = some (.string s) := by rw [hs]; exact d0
  have HS : Hid (∀ k c, l[k]? = some c → ∃ h : k < s.size, s[k]'h = c) := fun k c hc => by
    obtain ⟨h1, h2⟩ := List.getElem?_eq_some_iff.1 hc
    exact ⟨by rw [hss]; exact h1, by subst hs; exact h2⟩
  have HSS := hid hss
  clear hN c0 d0 hs hss
  refine (callsIn_wide (n := n + 1)).1 (callsIn_of_wp Tryd.func89 rfl trivial ?_ rfl)
  simp only [Tryd.ntmps89, List.size_toArray, List.length_cons, List.length_nil, Nat.reduceAdd, Nat.reduceSub, Array.replicate_succ, Array.replicate_zero, List.push_toArray, List.append_toArray, List.nil_append, List.cons_append]
  gi_wp2
  gi_loopw [4] (fun _ wr => ∃ k : Nat, k ≤ N ∧ wr.heap[W.heap.size]? = some (.stringIter s k) ∧ J k wr ∧ W.heap.size + 1 ≤ wr.heap.size) (fun _ wr => N - wr.iterPos W.heap.size)
  case atStart => exact ⟨0, Nat.zero_le _, World.iter_heap _ _ _, (hJ 0).alloc _ h0, by simp [World.iter]⟩
  case round =>
    obtain ⟨k, hk, hit, hJs, hz⟩ := hrel
    have hpos : wr.iterPos W.heap.size = k := by simp [World.iterPos, hit]
    by_cases hlt : k < N
    · obtain ⟨c, hc, hD⟩ := HA.out k hlt
      obtain ⟨hks, hkc⟩ := HS.out k c hc
      have hDc : 48 ≤ c.toNat ∧ c.toNat ≤ 57 := by unfold isDig at hD; simpa using hD
      have hnx := next_at hit hks
      have hdec := decode_ascii s k hks (by rw [hkc]; omega)
      rw [hkc] at hdec
      rw [hdec] at hnx
      have hlW : W.heap.size < wr.heap.size := by omega
      have hJ2 : J k (wr.putObj W.heap.size (.stringIter s (k + 1))) := (hJ k).putObj _ hJs (Nat.le_refl _) hit rfl
      have hit2 : (wr.putObj W.heap.size (.stringIter s (k + 1))).heap[W.heap.size]? = some (.stringIter s (k + 1)) := World.putObj_heap_same hlW
      have hz2 : (wr.putObj W.heap.size (.stringIter s (k + 1))).heap.size = wr.heap.size := by simp
      obtain ⟨X, hX⟩ : ∃ X, wr.putObj W.heap.size (.stringIter s (k + 1)) = X := ⟨_, rfl⟩
      dsimp only at hnx
      rw [hX] at hnx hJ2 hit2 hz2
      obtain ⟨fn, tmps, assign, body, hy, hR⟩ := hY k hlt X (by omega) hJ2
      (try dsimp only at hy)
      have hcv : l[k]?.getD 0 = c := by rw [hc]; rfl
      rw [hcv] at hy
      obtain ⟨v, hv⟩ : ∃ v : Int, (c.toNat : Int) = v := ⟨_, rfl⟩
      have hv1 : ¬ v < 48 := by omega
      have hv2 : ¬ 57 < v := by omega
      rw [hv] at hy hnx
      have HP := hid hpos
      have HL := hid hlt
      clear hY hJ hJx hc hD hks hkc hDc hdec hcv hv hX hit hJs hJ2 hpos hlt
      gi_wp2
      refine hR.mono ?_
      rintro e W3 (⟨rfl, hJ3, hP3⟩ | ⟨rfl, hJx3, hP3⟩)
      · have hit3 := (hP3.high W.heap.size (Nat.le_refl _) (by omega)).trans hit2
        have hz3 := hP3.size
        gi_wp2
        go_roundw
        case rel => exact ⟨k + 1, HL.out, hit3, hJ3, by omega⟩
        case measure =>
          have : W3.iterPos W.heap.size = k + 1 := by simp [World.iterPos, hit3]
          rw [this, HP.out]
          have := HL.out
          omega
      · gi_wp2
        refine bodyPost_ret (results_none rfl _ _ _) rfl ?_
        exact ⟨⟨_, rfl⟩, .inr ⟨k, HL.out, hJx3⟩⟩
    · obtain rfl : k = N := by omega
      clear hY hJx
      by_cases hend : k < l.length
      · obtain ⟨c, hc⟩ : ∃ c, l[k]? = some c := ⟨l[k], List.getElem?_eq_getElem hend⟩
        have hD := HE.out c hc
        obtain ⟨hks, hkc⟩ := HS.out k c hc
        have hnx := next_at hit hks
        have hDc : c.toNat < 48 ∨ 57 < c.toNat := by unfold isDig at hD; simp at hD; omega
        have hrune : ((Utf8.decode s k).1 : Int) < 48 ∨ 57 < ((Utf8.decode s k).1 : Int) := by
          by_cases ha : c.toNat < 128
          · rw [decode_ascii s k hks (by rw [hkc]; exact ha), hkc]
            dsimp only
            omega
          · have := (decode_high s k hks (by rw [hkc]; omega)).1
            omega
        have hJ2 : J k (wr.putObj W.heap.size (.stringIter s (k + (Utf8.decode s k).2))) := (hJ k).putObj _ hJs (Nat.le_refl _) hit rfl
        obtain ⟨X, hX⟩ : ∃ X, wr.putObj W.heap.size (.stringIter s (k + (Utf8.decode s k).2)) = X := ⟨_, rfl⟩
        rw [hX] at hnx hJ2
        obtain ⟨v, hv⟩ : ∃ v : Int, ((Utf8.decode s k).1 : Int) = v := ⟨_, rfl⟩
        rw [hv] at hnx hrune
        have HJ2 := hid hJ2
        clear hv hX hDc hkc hD hc hJ hJs hit hks hJ2
        rcases hrune with h1 | h1
        · gi_wp2
          refine ⟨(fun _ h => by cases h), ?_⟩
          gi_wp2
          refine bodyPost_ret (results_none rfl _ _ _) rfl ?_
          exact ⟨⟨_, rfl⟩, .inl HJ2.out⟩
        · have h2 : ¬ v < 48 := by omega
          gi_wp2
          refine ⟨(fun _ h => by cases h), ?_⟩
          gi_wp2
          refine bodyPost_ret (results_none rfl _ _ _) rfl ?_
          exact ⟨⟨_, rfl⟩, .inl HJ2.out⟩
      · have hnx := next_end hit (by rw [HSS.out]; exact hend)
        clear hJ
        gi_wp2
        go_end0
        exact ⟨⟨_, rfl⟩, .inl hJs⟩
end Go.Proofs.YtcdfbcmhikhnjaaDoor
