/- Packed lists: the reader's iterator. -/
import Derived.Test.YtpgifmccajcgkaaDoorPkD
import Derived.Test.YtpgifmccajcgkaaDoorSeqR
import Derived.Test.YtpgifmccajcgkaaDoorVarD
import Derived.Stop.RegionWithIn
import Derived.Sort.QuietIn
namespace Go.Proofs.YtpgifmccajcgkaaDoor
set_option linter.unusedVariables false
set_option linter.unusedSimpArgs false
open Go.ChangeShapes Go.WideShapes Go.ChangeAt Go.RowKit Go.Shelf
attribute [local go_sem] Oper.semAt_some

theorem pnumbers_any (R : Nat) (n k : Int) (w : World) :
    Calls Tryd.prog 61 #[.pointer (some ⟨R, 0, none⟩), .int .i64 n, .int .i64 k] w fun e w' => e = .returned (.func (.func 82) #[] #[.pointer (some ⟨w.heap.size + 1, 0, none⟩), .pointer (some ⟨w.heap.size, 0, none⟩), .pointer (some ⟨w.heap.size + 1 + 1, 0, none⟩)]) ∧
      w' = ((w.alloc (.cells #[.pointer (some ⟨R, 0, none⟩)] 96)).alloc (.cells #[.int .i64 n] 3)).alloc (.cells #[.int .i64 k] 3) := by
  go_enter Tryd.func61, Tryd.ntmps61
  go_wp2
  go_ret
  exact ⟨rfl, rfl⟩

/-- A reader in block R: the digits that it has still to give. -/
def RdAt (R : Nat) (l : List Nat) (w : World) : Prop :=
  ∃ (Q : List Nat) (s : ByteArray), isD Q ∧ Q.length < 8 ∧ Q ++ digsB (bytesOf s) = l ∧ w.heap[R]? = some (.cells #[.int .u64 ((valD Q : Nat) : Int), .int .i64 ((Q.length : Nat) : Int), .string s] 98 (0, 0))
theorem OnlyAt.in_ {b lo hi : Nat} {w w' : World} (h : OnlyAt b w w') (hb : lo ≤ b ∧ b < hi) : OnlyIn lo hi w w' := ⟨h.os, h.tape, h.output, h.size, fun k hk ho => h.block k hk (by omega)⟩

theorem size_bytesOf' (s : ByteArray) : (bytesOf s).length = s.size := by simp
theorem callsIn_w {n : Nat} {P : Program} {f : FuncId} {args : Array Value} {w : World} {R : Ending → World → Prop} (h : Calls P f args w R) : CallsIn Fence.wide n P f args w R := (callsIn_wide (n := n)).2 h
theorem bytes_head (s : ByteArray) (h : 0 < s.size) : bytesOf s = s[0] :: bytesOf (s.extract 1 s.size) := by
  rw [bytesOf_extract]
  have h2 : 0 < (bytesOf s).length := by simpa using h
  have h3 := List.drop_eq_getElem_cons h2
  rw [List.drop_zero] at h3
  exact h3
theorem digsB_cons (c : UInt8) (t : List UInt8) : digsB (c :: t) = dig 8 c.toNat ++ digsB t := by simp [digsB]
theorem valD_cutN (Q : List Nat) (d m : Nat) (h : isD Q) (hl : Q.length = d + m) : valD Q / 2 ^ d = valD (Q.take m) ∧ valD Q % 2 ^ d = valD (Q.drop m) := by
  have e : Q = Q.take m ++ Q.drop m := (List.take_append_drop m Q).symm
  have hd : (Q.drop m).length = d := by simp; omega
  have h2 : isD (Q.drop m) := by rw [e] at h; exact isD_right h
  have h3 := valD_lt h2
  have h4 := valD_append (Q.take m) (Q.drop m)
  rw [← e, hd] at h4
  rw [hd] at h3
  rw [h4]
  constructor
  · rw [Nat.add_comm, Nat.add_mul_div_right _ _ (Nat.two_pow_pos d), Nat.div_eq_of_lt h3, Nat.zero_add]
  · rw [Nat.add_comm, Nat.add_mul_mod_self_right, Nat.mod_eq_of_lt h3]
theorem yield_form {e : Ending} {A B C : Prop} (h : (e = .returned (.bool true) ∧ A ∧ B) ∨ (e = .returned (.bool false) ∧ C)) : ∃ bb : Bool, e = .returned (.bool bb) ∧ ((bb = true ∧ A ∧ B) ∨ (bb = false ∧ C)) := by
  rcases h with ⟨h1, h2⟩ | ⟨h1, h2⟩
  · exact ⟨true, h1, .inl ⟨rfl, h2⟩⟩
  · exact ⟨false, h1, .inr ⟨rfl, h2⟩⟩
/-- The number at place i. -/
abbrev numV (l : List Nat) (k i : Nat) : Value := .int .i64 ((valD ((l.drop (i * k)).take k) : Nat) : Int)

set_option maxRecDepth 100000 in
set_option maxHeartbeats 4000000 in
theorem pnumbers_seq (R rb nb wb N k : Nat) (l : List Nat) (n₀ lo hi : Nat) (w : World) (hR : lo ≤ R ∧ R < hi) (hrb : lo ≤ rb ∧ rb < hi) (hnb : lo ≤ nb ∧ nb < hi) (hwb : lo ≤ wb ∧ wb < hi) (hne : rb ≠ R ∧ nb ≠ R ∧ wb ≠ R) (hw : hi ≤ w.heap.size)
    (hk : k ≤ 16) (hN : N ≤ 1000) (hl : N * k ≤ l.length) (hld : isD l) (hll : l.length ≤ 20000)
    (cr : w.heap[rb]? = some (.cells #[.pointer (some ⟨R, 0, none⟩)] 96 (0, 0))) (cn : w.heap[nb]? = some (.cells #[.int .i64 (N : Int)] 3 (0, 0))) (cw : w.heap[wb]? = some (.cells #[.int .i64 (k : Int)] 3 (0, 0)))
    (hrd : RdAt R l w) :
    SeqR Tryd.prog 82 #[.pointer (some ⟨nb, 0, none⟩), .pointer (some ⟨rb, 0, none⟩), .pointer (some ⟨wb, 0, none⟩)] (fun i : Nat => #[numV l k i]) (fun i W => RdAt R (l.drop (min (i + 1) N * k)) W) n₀ lo hi N w := by
  intro m0 lp J Jx W hm0 hW hJ hJx hO hY h0
  obtain ⟨m1, rfl⟩ : ∃ m1, m0 = m1 + 1 := ⟨m0 - 1, by omega⟩
  have hzW := hW.size
  have dr := (hW.block rb (by omega)).trans cr
  have dn := cell_of_one ((hW.block nb (by omega)).trans cn)
  have dw := (hW.block wb (by omega)).trans cw
  have hrW : RdAt R l W := by
    obtain ⟨Q, s, h1, h2, h3, h4⟩ := hrd
    exact ⟨Q, s, h1, h2, h3, (hW.block R (by omega)).trans h4⟩
  have HLD := hid hld
  clear cr cn cw hrd hld
  refine callsIn_of_wp Tryd.func82 rfl trivial ?_ rfl
  simp only [Tryd.ntmps82, List.size_toArray, List.length_cons, List.length_nil, Nat.reduceAdd, Nat.reduceSub, Array.replicate_succ, Array.replicate_zero, List.push_toArray, List.append_toArray, List.nil_append, List.cons_append]
  gi_wp2
  gi_loopw [6] (fun iv wr => ∃ i : Nat, i ≤ N ∧ iv = .int .i64 i ∧ J i wr ∧ RdAt R (l.drop (i * k)) wr ∧ wr.heap[rb]? = some (.cells #[.pointer (some ⟨R, 0, none⟩)] 96 (0, 0)) ∧ wr.heap[wb]? = some (.cells #[.int .i64 (k : Int)] 3 (0, 0)) ∧ W.heap.size ≤ wr.heap.size) (fun iv _ => N - (intOf iv).toNat)
  case atStart => exact ⟨0, Nat.zero_le _, rfl, h0, by rw [Nat.zero_mul]; exact hrW, dr, dw, Nat.le_refl _⟩
  case round =>
    obtain ⟨i, hi1, rfl, hJi, hrd, hbr, hbw, hzr⟩ := hrel
    by_cases hlt : i < N
    · obtain ⟨wo, hwo⟩ : ∃ wo : World, wo = wr := ⟨_, rfl⟩
      rw [← hwo] at hJi hrd hbr hbw hzr ⊢
      clear hwo
      have hmul : i * k + k ≤ l.length := by
        have h1 : (i + 1) * k ≤ N * k := Nat.mul_le_mul_right k hlt
        rw [Nat.add_mul] at h1; omega
      have hcr := cell_of_one hbr; have hcw := cell_of_one hbw
      have HY := hid (hY i hlt)
      clear hY hJ hJx
      gi_wp2
      gi_loopw [] (fun wi => ∃ (Q : List Nat) (s : ByteArray), isD Q ∧ Q.length < k + 8 ∧ Q ++ digsB (bytesOf s) = l.drop (i * k) ∧ wi.heap[R]? = some (.cells #[.int .u64 ((valD Q : Nat) : Int), .int .i64 ((Q.length : Nat) : Int), .string s] 98 (0, 0)) ∧ J i wi ∧ wi.heap[rb]? = some (.cells #[.pointer (some ⟨R, 0, none⟩)] 96 (0, 0)) ∧ wi.heap[wb]? = some (.cells #[.int .i64 (k : Int)] 3 (0, 0)) ∧ W.heap.size ≤ wi.heap.size) (fun wi => k + 8 - cntAt R wi)
      case atStart =>
        obtain ⟨Q, s, h1, h2, h3, h4⟩ := hrd
        exact ⟨Q, s, h1, by omega, h3, h4, hJi, hbr, hbw, hzr⟩
      case round =>
        clear hrd hbr hbw hzr hcr hcw hJi
        obtain ⟨Q, s, hQD, hQl, hQs, hblk, hJi, hbr, hbw, hzr⟩ := hrel
        have hcr := cell_of_one hbr; have hcw := cell_of_one hbw
        have c0 : wr.cell? ⟨R, 0, none⟩ = some (.int .u64 ((valD Q : Nat) : Int)) := by rw [blk_cell hblk]; rfl
        have c1 : wr.cell? ⟨R, 1, none⟩ = some (.int .i64 ((Q.length : Nat) : Int)) := by rw [blk_cell hblk]; rfl
        have c2 : wr.cell? ⟨R, 2, none⟩ = some (.string s) := by rw [blk_cell hblk]; rfl
        have f2 : wr.frozen? ⟨R, 2, none⟩ = false := blk_free hblk
        by_cases hc : Q.length < k
        · have hlen := congrArg List.length hQs
          simp only [List.length_append, List.length_drop, digsB_length, size_bytesOf'] at hlen
          have hs0 : 0 < s.size := by omega
          have hsm : s.size ≤ 20000 := by omega
          have hbh := bytes_head s hs0
          have hc8 := (s[0]'hs0).toNat_lt
          obtain ⟨c, hcc⟩ : ∃ c, (s[0]'hs0).toNat = c := ⟨_, rfl⟩
          have hQ2 : Q ++ dig 8 c ++ digsB (bytesOf (s.extract 1 s.size)) = l.drop (i * k) := by
            rw [← hQs, hbh, digsB_cons, hcc, List.append_assoc]
          rw [hcc] at hc8
          have hval : valD Q * 2 ^ 8 + c = valD (Q ++ dig 8 c) := by rw [valD_append, dig_length, valD_dig, Nat.mod_eq_of_lt hc8]
          have hl2 : Q.length + 8 = (Q ++ dig 8 c).length := by rw [List.length_append, dig_length]
          have HA := hid (fun W h => add_any R (valD Q) Q.length c 8 (.string s) 98 W h (by omega) (by omega) (valD_lt hQD) hc8)
          rw [hval, hl2] at HA
          have hc255 : (c : Int) ≤ 255 := by omega
          have hwr : IntKind.u64.wrap (c : Int) = (c : Int) := by rw [IntKind.wrap_u64]; omega
          have HK := hid hblk
          have HQ2 := hid hQ2; have HD2 := hid (isD_append hQD (dig_is 8 c)); have HL2 := hid hl2
          have HJ := hid hJi; have HO := hid (hO i); have HBR := hid hbr; have HBW := hid hbw
          have hRz := blk_lt hblk
          have hcnt : Hid (cntAt R wr = Q.length) := by unfold Hid cntAt; rw [blk_cell hblk]; simp
          clear hval hQs hbh hlen hblk hQ2 hJi hbr hbw hQD hl2
          gi_wp2
          gi_region
          gi_wp2
          gi_region_with (refine ⟨trivial, (callsIn_w (HA.out _ ?_)).mono ?_⟩; exact HK.out; rintro e w2 ⟨⟨r, rfl⟩, hd2, ho2'⟩; have ho2 : OnlyAt R wr w2 := ⟨ho2'.os, ho2'.tape, ho2'.output, ho2'.size, ho2'.block⟩; clear ho2')
          all_goals
            have hz2 := ho2.size
            have d2 : w2.cell? ⟨R, 2, none⟩ = some (.string s) := by rw [blk_cell hd2]; rfl
            have g2 : w2.frozen? ⟨R, 2, none⟩ = false := blk_free hd2
            have hbr2 := (ho2.block rb (blk_lt HBR.out) hne.1).trans HBR.out
            have hbw2 := (ho2.block wb (blk_lt HBW.out) hne.2.2).trans HBW.out
            have hcr2 := cell_of_one hbr2
            have HD3 := hid hd2
            have HB3 := hid hbr2; have HB4 := hid hbw2
            clear hd2 hbr2 hbw2
            gi_wp2
            gi_region
            gi_wp2
            have hblk3 := blk_set (o := 2) (v := .string (s.extract 1 s.size)) HD3.out
            have hcnt3 : cntAt R (w2.setCell ⟨R, 2, none⟩ (.string (s.extract 1 s.size))) = (Q ++ dig 8 c).length := by unfold cntAt; rw [blk_cell hblk3]; simp; omega
            have hcnt4 : cntAt R (w2.setCell ⟨R, 2, none⟩ (.string (s.extract 1 s.size))).drew = (Q ++ dig 8 c).length := hcnt3
            go_roundw
            case rel => exact ⟨Q ++ dig 8 c, s.extract 1 s.size, HD2.out, by rw [← HL2.out]; omega, HQ2.out, hblk3, HO.out wr _ (by omega) HJ.out ((ho2.in_ hR).setCell hR _).drew, (heap_set_other hne.1).trans HB3.out, (heap_set_other hne.2.2).trans HB4.out, by simp; omega⟩
            case measure =>
              have e2 := hcnt.out
              have e3 := HL2.out
              rw [hcnt4, e2]; omega
        · obtain ⟨d, hd⟩ : ∃ d, Q.length = d + k := ⟨Q.length - k, by omega⟩
          have hvl := valD_lt hQD
          have hvc := valD_cutN Q d k hQD hd
          have htD : isD (Q.take k) := fun z hz => hQD z (List.mem_of_mem_take hz)
          have hdD : isD (Q.drop k) := fun z hz => hQD z (List.mem_of_mem_drop hz)
          have htl : (Q.take k).length = k := by simp; omega
          have hdl : (Q.drop k).length = d := by simp; omega
          have hy16 : valD (Q.take k) ≤ 65535 := by
            have h1 := valD_lt htD
            rw [htl] at h1
            have h2 : (2 : Nat) ^ k ≤ 2 ^ 16 := Nat.pow_le_pow_right (by decide) hk
            have h3 : (2 : Nat) ^ 16 = 65536 := by decide
            omega
          have htake : (l.drop (i * k)).take k = Q.take k := by
            rw [← hQs, List.take_append_of_le_length (by omega)]
          have hdrop : l.drop (min (i + 1) N * k) = Q.drop k ++ digsB (bytesOf s) := by
            rw [Nat.min_eq_left (show i + 1 ≤ N from hlt), Nat.add_mul, Nat.one_mul, ← List.drop_drop, ← hQs, List.drop_append, show k - Q.length = 0 by omega, List.drop_zero]
          rw [hd] at hvl
          have HT := hid (fun W h => take_any R (valD Q) d k (.string s) 98 W h (by omega) hvl)
          rw [hvc.1, hvc.2] at HT
          have hK : DigAt wr R (valD Q) (d + k) (.string s) 98 := by have := hblk; rw [hd] at this; exact this
          have HK := hid hK
          have HRD : Hid (∀ W, DigAt W R (valD (Q.drop k)) d (.string s) 98 → RdAt R (l.drop (min (i + 1) N * k)) W) := fun W h => ⟨Q.drop k, s, hdD, by omega, hdrop.symm, by rw [hdl]; exact h⟩
          obtain ⟨y, hy⟩ : ∃ y, valD (Q.take k) = y := ⟨_, rfl⟩
          have HNV : Hid (numV l k i = .int .i64 (y : Int)) := by unfold Hid numV; rw [htake, hy]
          rw [hy] at HT hy16
          have HJ := hid hJi; have HO := hid (hO i); have HBR := hid hbr; have HBW := hid hbw
          have hRz := blk_lt hblk
          have HLT := hid hlt
          have hwy : IntKind.i64.wrap (y : Int) = (y : Int) := by rw [IntKind.wrap_i64]; omega
          have hwy2 : wrap64 (y : Int) = (y : Int) := by unfold wrap64; omega
          rw [hd] at c1
          clear hvc hvl hK hblk hy htake hdrop htD hdD htl hdl hQs hQD hJi hbr hbw
          gi_wp2
          gi_region
          gi_wp2
          gi_region_with (first
            | (refine ⟨trivial, (callsIn_w (HT.out _ ?_)).mono ?_⟩; exact HK.out; rintro e w4 ⟨rfl, hd4, ho4'⟩; have ho4 : OnlyAt R wr w4 := ⟨ho4'.os, ho4'.tape, ho4'.output, ho4'.size, ho4'.block⟩; clear ho4'; have hz4 := ho4.size; obtain ⟨fn, tmps, assign, body, hy, hR4⟩ := HY.out w4 (HO.out wr w4 (by omega) HJ.out (ho4.in_ hR)) (HRD.out w4 hd4); (try dsimp only at hy); rw [HNV.out] at hy; have HD4 := hid (HRD.out w4 hd4); clear hd4)
            | (refine (hR4.mono (fun _ _ h => yield_form h)).mono ?_; rintro e W5 ⟨bb, rfl, h5'⟩; have h5 := hid h5'; clear h5'))
          all_goals
            rcases h5.out with ⟨rfl, hJ5, hP5⟩ | ⟨rfl, hJx5⟩
            · gi_wp2
              go_roundw
              case rel =>
                have hrd5 : RdAt R (l.drop ((i + 1) * k)) W5 := by
                  obtain ⟨Q', s', q1, q2, q3, q4⟩ := HD4.out
                  rw [Nat.min_eq_left (show i + 1 ≤ N from HLT.out)] at q3
                  exact ⟨Q', s', q1, q2, q3, (hP5.mid R hR.1 hR.2).trans q4⟩
                exact ⟨i + 1, HLT.out, by go_num, hJ5, hrd5, (hP5.mid rb hrb.1 hrb.2).trans ((ho4.block rb (blk_lt HBR.out) hne.1).trans HBR.out), (hP5.mid wb hwb.1 hwb.2).trans ((ho4.block wb (blk_lt HBW.out) hne.2.2).trans HBW.out), by have := hP5.size; omega⟩
              case measure => simp [intOf]; omega
            · gi_wp2
              refine bodyPost_ret (results_none rfl _ _ _) rfl ?_
              exact ⟨⟨_, rfl⟩, .inr ⟨i, HLT.out, hJx5⟩⟩
    · obtain rfl : i = N := by omega
      have hrN : RdAt R (l.drop (min (i + 1) i * k)) wr := by rw [Nat.min_eq_right (by omega)]; exact hrd
      clear hY hJ hJx
      gi_wp2
      go_end0
      exact ⟨⟨_, rfl⟩, .inl ⟨hJi, hrN⟩⟩
end Go.Proofs.YtpgifmccajcgkaaDoor
