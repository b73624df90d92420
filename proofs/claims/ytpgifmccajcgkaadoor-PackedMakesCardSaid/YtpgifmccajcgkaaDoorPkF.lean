/- Packed lists: the program's 'Pack'. -/
import Derived.Test.YtpgifmccajcgkaaDoorPkD
import Derived.Test.YtpgifmccajcgkaaDoorPkE
import Derived.Test.YtpgifmccajcgkaaDoorVarE
namespace Go.Proofs.YtpgifmccajcgkaaDoor
set_option linter.unusedVariables false
set_option linter.unusedSimpArgs false
open Go.ChangeShapes Go.WideShapes Go.ChangeAt Go.RowKit

theorem conv_cells {w : World} {g cap n : Nat} {l : List UInt8} (hn : l.length = n) (h : ∀ j, j < n → w.cell? ⟨g, j, none⟩ = some (.int .u8 ((l[j]?.getD 0).toNat : Int))) :
    (convert 82 9 (.slice (some ⟨g, 0, none⟩) n cap)).run Tryd.prog w = .ok (strV l) w := by
  subst hn
  refine run_convert_bytes_back (l := l) w _ _ _ _ cap Tryd.underlying82 Tryd.underlying5 Tryd.underlying9 (fun j hj => ?_)
  have e4 : (⟨g, 0, none⟩ : Addr).add j = ⟨g, j, none⟩ := by unfold Addr.add; split <;> simp_all
  rw [e4, h j hj, List.getElem?_eq_getElem hj]
  rfl
theorem bytes_cells {w : World} {B g cap n : Nat} {l : List UInt8} (h : w.ownsRow B 5 1 (.slice (some ⟨g, 0, none⟩) n cap) n (u8s l)) (hn : l.length = n) : ∀ j, j < n → w.cell? ⟨g, j, none⟩ = some (.int .u8 ((l[j]?.getD 0).toNat : Int)) := fun j hj => by
  have := h.cellAt j (by omega)
  rw [this, u8s, List.getElem?_map, List.getElem?_eq_getElem (by omega)]
  rfl
theorem natsOf_get (xs : List Int) (j : Nat) (hj : j < xs.length) (h : ∀ x ∈ xs, 0 ≤ x ∧ x ≤ 65535) : xs[j]?.getD 0 = (((natsOf xs)[j]?.getD 0 : Nat) : Int) := by
  have hx := h xs[j] (List.getElem_mem hj)
  simp only [natsOf, List.getElem?_map, List.getElem?_eq_getElem hj, Option.map_some, Option.getD_some]
  omega
theorem pad_end (D E Q : List Nat) (h : E ++ Q = D) (h8 : E.length % 8 = 0) (hq : Q.length < 8) : (Q.length = 0 → bytesD E = bytesD (padD D)) ∧ (∀ E' Q', E' ++ Q' = E ++ Q ++ flatD (8 - Q.length) [0] → E'.length % 8 = 0 → Q'.length < 8 → 0 < Q.length → bytesD E' = bytesD (padD D) ∧ E'.length = (padD D).length) := by
  have hl := congrArg List.length h
  simp only [List.length_append] at hl
  constructor
  · intro h0
    have hQ : Q = [] := List.length_eq_zero_iff.1 h0
    subst hQ
    rw [List.append_nil] at h
    subst h
    have : padN E.length = 0 := by unfold padN; omega
    unfold padD
    rw [this]; simp
  · intro E' Q' he h8' hq' hp
    have hz : flatD (8 - Q.length) [0] = List.replicate (8 - Q.length) 0 := by
      have e1 : flatD (8 - Q.length) [0] = dig (8 - Q.length) 0 := by simp [flatD]
      rw [e1]
      generalize 8 - Q.length = n
      induction n with
      | zero => rfl
      | succ n ih => rw [dig, ih, List.replicate_succ]; simp
    have hpad : padN D.length = 8 - Q.length := by unfold padN; omega
    rw [hz, h] at he
    have hl2 := congrArg List.length he
    simp only [List.length_append, List.length_replicate] at hl2
    have hQ : Q' = [] := List.length_eq_zero_iff.1 (by omega)
    subst hQ
    rw [List.append_nil] at he
    unfold padD
    rw [hpad, ← he]
    exact ⟨rfl, rfl⟩

theorem wr_start (B k bl : Nat) (w1 : World) (hk : k ≤ 16) (hB : B ≤ w1.heap.size) (hbl : bl < w1.heap.size) :
    WrQ B (w1.heap.size + 1) [w1.heap.size + 1, bl] [UInt8.ofNat k] [] [] ((w1.alloc (.cells #[.int .u8 (k : Int)] 5)).alloc (.cells #[.int .u64 0, .int .i64 0, .slice (some ⟨w1.heap.size, 0, none⟩) 1 1] 89)) := by
  refine ⟨_, heap_at (by simp), ?_, ?_⟩
  · have h := (World.ownsRow_lit (base := B) (e := 5) (size := 1) w1 #[.int .u8 (k : Int)] 1 hB (by unfold maxLen; omega) rfl).alloc (.cells #[.int .u64 0, .int .i64 0, .slice (some ⟨w1.heap.size, 0, none⟩) 1 1] 89)
    have e : u8s ([UInt8.ofNat k] ++ bytesD []) = [.int .u8 (k : Int)] := by
      rw [bytesD_small (l := []) (by simp)]
      simp [u8s]; omega
    rw [e]
    exact h
  · intro g hg
    simp only [Value.ownBlock, Option.some.injEq] at hg
    subst hg
    simp; omega

theorem strV_app (a b : List UInt8) (x y : ByteArray) (hx : strV a = .string x) (hy : strV b = .string y) : Value.string (x ++ y) = strV (a ++ b) := by
  simp only [Value.string.injEq] at hx hy
  subst hx hy
  congr 1
theorem strV_is (l : List UInt8) : ∃ s : ByteArray, strV l = .string s ∧ s.size = l.length := ⟨⟨l.toArray⟩, rfl, by simp [ByteArray.size]⟩

set_option maxRecDepth 100000 in
theorem ppack_bad (v : Value) (xs : List Int) (w : World) (hv : IntsAt w v xs) (hlen : xs.length ≤ 1000000000) (h : okW xs = false) :
    Calls Tryd.prog 31 #[v] w fun e w' => e = .returned (.tuple #[strV [], .int .i64 40]) ∧ Below w.heap.size w w' := by
  have HW := hid (width_bad v xs w hv hlen h)
  clear h hv
  go_enter Tryd.func31, Tryd.ntmps31
  go_wp2_with (go_at_call 34; ((with_reducible refine (HW.out).mono ?_); rintro e w2 ⟨rfl, rfl⟩))
  go_ret2
  exact ⟨rfl, Below.refl _ _⟩

set_option maxRecDepth 100000 in
set_option maxHeartbeats 2000000 in
theorem ppack_ok (v : Value) (xs : List Int) (w : World) (hv : SliceAt w v xs) (h : okW xs = true) (hw0 : 0 < w.heap.size) :
    Calls Tryd.prog 31 #[v] w fun e w' => e = .returned (.tuple #[strV (packBy (natsOf xs)), .int .i64 0]) ∧ Below w.heap.size w w' := by
  obtain ⟨hl, hm⟩ := okW_mem h
  have HW := hid (width_ok v xs w hv h)
  have hsm := natsOf_mem hm
  have hk := widN_le hsm
  have hnl : (natsOf xs).length = xs.length := by simp [natsOf]
  obtain ⟨k, hkk⟩ : ∃ k, widN (natsOf xs) = k := ⟨_, rfl⟩
  have hxk : ∀ x ∈ natsOf xs, x < 2 ^ k := hkk ▸ widN_lt
  have HPK : Hid (packBy (natsOf xs) = putB xs.length ++ UInt8.ofNat k :: bytesD (padD (flatD k (natsOf xs)))) := by
    unfold packBy packD; rw [hkk, hnl]; rfl
  rw [hkk] at HW hk
  have HP := hid (fun W => put1_any xs.length (by omega) W)
  have hfl := flatD_length k (natsOf xs)
  have hfl2 : (flatD k (natsOf xs)).length ≤ 16000 := by
    rw [hfl, hnl]; have := Nat.mul_le_mul hl hk; omega
  obtain ⟨ao, cap, rfl, hl1, hl2, hl3, hA⟩ := hv
  obtain ⟨bl, hbl, hr⟩ : ∃ bl, bl < w.heap.size ∧ (0 < xs.length → ∃ off, ao = some ⟨bl, off, none⟩ ∧ ∀ j, j < xs.length → w.cell? ⟨bl, off + j, none⟩ = some (.int .i64 (((natsOf xs)[j]?.getD 0 : Nat) : Int))) := by
    by_cases h0 : 0 < xs.length
    · obtain ⟨b, off, rfl, hc⟩ := hA h0
      have hc' := fun j hj => (natsOf_get xs j hj hm) ▸ hc j hj
      exact ⟨b, World.block_lt_of_cell? _ _ (hc 0 h0), fun _ => ⟨off, rfl, hc'⟩⟩
    · exact ⟨0, hw0, fun h => absurd h h0⟩
  obtain ⟨N, hN⟩ : ∃ N, xs.length = N := ⟨_, rfl⟩
  have HWP := hid (fun (b : Nat) (E0 Q0 : List Nat) (W : World) => wput_any w.heap.size b k bl [UInt8.ofNat k] E0 Q0 (natsOf xs) ao N cap (by rw [hnl, hN]) W w)
  have HNX := hid hxk; have HSM := hid hsm
  obtain ⟨D, hD⟩ : ∃ D, flatD k (natsOf xs) = D := ⟨_, rfl⟩
  rw [hN] at HW HPK HP hr hl ⊢
  rw [hD] at HPK hfl2 HWP
  have HR := hid hr
  have hwrap : IntKind.u8.wrap (k : Int) = (k : Int) := by simp [IntKind.wrap, IntKind.bits, IntKind.signed]; omega
  have hku : ((UInt8.ofNat k).toNat : Int) = (k : Int) := by simp; omega
  have HKU := hid hku
  clear hA hr h hm hsm hnl hxk hfl hD hkk hku hl1 hl2 hl3 hN
  go_enter Tryd.func31, Tryd.ntmps31
  go_wp2_with (first
    | (go_at_call 34; ((with_reducible refine (HW.out).mono ?_); rintro e w1 ⟨rfl, hb1⟩; have hz1 := hb1.size))
    | (go_at_call 55; fail))
  have hB2 : Below w.heap.size w ((w1.alloc (.cells #[.int .u8 (k : Int)] 5)).alloc (.cells #[.int .u64 0, .int .i64 0, .slice (some ⟨w1.heap.size, 0, none⟩) 1 1] 89)) := by (repeat' (first | (with_reducible exact Below.refl _ _) | (with_reducible assumption) | (with_reducible refine Below.new ?_ _) | (with_reducible refine Below.alloc ?_ ?_ _) | (with_reducible refine Below.drew ?_) | (with_reducible refine Below.setCell ?_ ?_ _) | (refine Below.step ?_ (by assumption)) | go_size))
  have hW2 := wr_start w.heap.size k bl w1 hk hz1 (by omega)
  have hsz2 : ((w1.alloc (.cells #[.int .u8 (k : Int)] 5)).alloc (.cells #[.int .u64 0, .int .i64 0, .slice (some ⟨w1.heap.size, 0, none⟩) 1 1] 89)).heap.size = w1.heap.size + 1 + 1 := by simp
  obtain ⟨W2, hWW⟩ : ∃ W2, (w1.alloc (.cells #[.int .u8 (k : Int)] 5)).alloc (.cells #[.int .u64 0, .int .i64 0, .slice (some ⟨w1.heap.size, 0, none⟩) 1 1] 89) = W2 := ⟨_, rfl⟩
  rw [hWW] at hB2 hW2 hsz2 ⊢
  have hrow2 := hid (fun (h : 0 < N) => (HR.out h).elim fun off h2 => (⟨off, h2.1, fun j hj => cell_step (h2.2 j hj) hB2⟩ : ∃ off, ao = some ⟨bl, off, none⟩ ∧ ∀ j, j < N → W2.cell? ⟨bl, off + j, none⟩ = some (.int .i64 (((natsOf xs)[j]?.getD 0 : Nat) : Int))))
  refine (HWP.out (w1.heap.size + 1) [] [] W2 hW2 rfl (by simp) (fun d h => by cases h) hB2 (by omega) (Nat.le_refl _) hk HNX.out HSM.out hl (by simp) (by omega) (by omega) hrow2.out).mono ?_
  rintro e w3 ⟨⟨r, rfl⟩, ⟨E, Q, hEQ, hE8, hQ8, hQD, hwr⟩, hbel⟩
  simp only [List.append_nil, List.nil_append] at hEQ
  have hpe := hid (pad_end D E Q hEQ hE8 hQ8)
  have hEl : E.length ≤ 16000 := by have := congrArg List.length hEQ; simp at this; omega
  have HD3 := hid hQD
  have HEQ := hid hEQ
  obtain ⟨v, hblk, hown, hvX⟩ := hwr
  have c1 : w3.cell? ⟨w1.heap.size + 1, 1, none⟩ = some (.int .i64 (Q.length : Int)) := by rw [blk_cell hblk]; rfl
  have hz3 := blk_lt hblk
  clear hB2 hWW hW2 hEQ hrow2 HWP HNX hsz2
  have hl10 := putB_ten (n := N) (by omega)
  obtain ⟨sn, hsn, hsnl⟩ := strV_is (putB N)
  rw [hsn] at HP
  rcases Nat.eq_zero_or_pos Q.length with hq | hq
  · rw [hq] at c1
    have hby := hpe.out.1 hq
    have hn1 : 0 < 1 + E.length / 8 := by omega
    have hown1 : w3.ownsRow w.heap.size 5 1 v (1 + E.length / 8) (u8s (UInt8.ofNat k :: bytesD (padD D))) := by rw [← hby]; exact hown
    have hln : (UInt8.ofNat k :: bytesD (padD D)).length = 1 + E.length / 8 := by rw [← hby, List.length_cons, bytesD_length]; omega
    obtain ⟨g, cap', rfl, _, _⟩ := hown1.form hn1
    have hbc := bytes_cells hown1 hln
    have hcv := hid (fun x => conv_cells (w := World.plus w3 x) (cap := cap') hln (fun j hj => World.plus_cell (hbc j hj) x))
    obtain ⟨sb, hsb, hsbl⟩ := strV_is (UInt8.ofNat k :: bytesD (padD D))
    rw [hsb] at hcv
    have hfin := hid (strV_app _ _ sn sb hsn hsb)
    have hsz : sn.size + sb.size ≤ 9223372036854775807 := by rw [hsnl, hsbl, hln]; omega
    have c2 : w3.cell? ⟨w1.heap.size + 1, 2, none⟩ = some (.slice (some ⟨g, 0, none⟩) (1 + E.length / 8) cap') := by rw [blk_cell hblk]; rfl
    have p2 := World.plus_cell c2
    have hcv2 := hcv.out
    have HN1 := hid hln; have HBY := hid hby
    clear hbc hsb hsbl hln hown1 hby
    go_wp2
    refine wp_region_plus (by kernel_rfl) (by kernel_rfl) ?_
    repeat (first | go_big_quiet_skip | (go_big_quiet_want; go_big_quiet_op; first | go_big_quiet_on | go_big_quiet_call (((go_at_call 17; exact Calls.plus_of (HP.out _))))))
    refine wpQuiet_nil ?_
    rintro _ ⟨xq, rfl⟩
    go_wp2
    go_ret2
    exact ⟨by rw [HPK.out, ← hfin.out]; rfl, hbel.trans ((World.plus_below _ _).mono (hbel.size))⟩
  · obtain ⟨q', hq'⟩ : ∃ q', Q.length + q' = 8 := ⟨8 - Q.length, by omega⟩
    have hq1 : (Q.length : Int) ≤ 7 := by omega
    have hW4 : WrQ w.heap.size (w1.heap.size + 1) [w1.heap.size + 1, w3.heap.size] [UInt8.ofNat k] E Q (w3.alloc (.cells #[.int .i64 0] 3)) :=
      ⟨v, (heap_past hz3).trans hblk, hown.alloc _, fun g hg => by
        have h1 := hvX g hg
        have h2 := (hown.lt g hg).2
        simp at h1 ⊢
        exact ⟨h1.1, by omega⟩⟩
    have HWQ := hid hW4
    clear hblk hown hvX hW4
    go_wp2_with (fail)
    rw [show (8 : Int) - (Q.length : Int) = (q' : Int) by omega]
    refine (wput_any w.heap.size (w1.heap.size + 1) q' w3.heap.size [UInt8.ofNat k] E Q [0] _ 1 1 rfl _ w HWQ.out hE8 hQ8 HD3.out (hbel.alloc hbel.size _) (by omega) (Nat.le_refl _) (by omega) (fun x hx => by simp at hx; subst hx; exact Nat.two_pow_pos _) (fun x hx => by simp at hx; omega) (by omega) (by simp; omega) (by omega) (by simp)
      (fun _ => ⟨0, rfl, fun j hj => by (obtain rfl : j = 0 := by omega); go_simp⟩)).mono ?_
    rintro e w5 ⟨⟨r, rfl⟩, ⟨E', Q', hEQ', hE8', hQ8', hQD', hwr'⟩, hbel'⟩
    have hEl' : E'.length ≤ 17000 := by
      have h1 := congrArg List.length hEQ'
      have h2 : (flatD q' [0]).length = q' := by simp [flatD, dig_length]
      simp only [List.length_append, h2] at h1
      omega
    obtain ⟨v', hblk', hown', hvX'⟩ := hwr'
    have hby := (hpe.out.2 E' Q' (by rw [show 8 - Q.length = q' by omega]; exact hEQ') hE8' hQ8' hq).1
    clear hEQ' hQD' HWQ
    have hn1 : 0 < 1 + E'.length / 8 := by omega
    have hown1 : w5.ownsRow w.heap.size 5 1 v' (1 + E'.length / 8) (u8s (UInt8.ofNat k :: bytesD (padD D))) := by rw [← hby]; exact hown'
    have hln : (UInt8.ofNat k :: bytesD (padD D)).length = 1 + E'.length / 8 := by rw [← hby, List.length_cons, bytesD_length]; omega
    obtain ⟨g, cap', rfl, _, _⟩ := hown1.form hn1
    have hbc := bytes_cells hown1 hln
    have hcv := hid (fun x => conv_cells (w := World.plus w5 x) (cap := cap') hln (fun j hj => World.plus_cell (hbc j hj) x))
    obtain ⟨sb, hsb, hsbl⟩ := strV_is (UInt8.ofNat k :: bytesD (padD D))
    rw [hsb] at hcv
    have hfin := hid (strV_app _ _ sn sb hsn hsb)
    have hsz : sn.size + sb.size ≤ 9223372036854775807 := by rw [hsnl, hsbl, hln]; omega
    have c2 : w5.cell? ⟨w1.heap.size + 1, 2, none⟩ = some (.slice (some ⟨g, 0, none⟩) (1 + E'.length / 8) cap') := by rw [blk_cell hblk']; rfl
    have p2 := World.plus_cell c2
    have hcv2 := hcv.out
    have HN1 := hid hln; have HBY := hid hby
    clear hbc hsb hsbl hln hown1 hby
    go_wp2
    refine wp_region_plus (by kernel_rfl) (by kernel_rfl) ?_
    repeat (first | go_big_quiet_skip | (go_big_quiet_want; go_big_quiet_op; first | go_big_quiet_on | go_big_quiet_call (((go_at_call 17; exact Calls.plus_of (HP.out _))))))
    refine wpQuiet_nil ?_
    rintro _ ⟨xq, rfl⟩
    go_wp2
    go_ret2
    exact ⟨by rw [HPK.out, ← hfin.out]; rfl, hbel'.trans ((World.plus_below _ _).mono (hbel'.size))⟩
end Go.Proofs.YtpgifmccajcgkaaDoor
