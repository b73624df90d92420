/- Packed lists: the program's 'Unpack'. -/
import Derived.Test.YtpgifmccajcgkaaDoorPkF
import Derived.Test.YtpgifmccajcgkaaDoorPkG
import Derived.Test.YtpgifmccajcgkaaDoorVarK
namespace Go.Proofs.YtpgifmccajcgkaaDoor
set_option linter.unusedVariables false
set_option linter.unusedSimpArgs false
open Go.ChangeShapes Go.WideShapes Go.ChangeAt Go.RowKit Go.Shelf

theorem punV_next {s : List UInt8} {c n k : Nat} (h : nextV s = (c, n, k)) (hc : c ≠ 0) : punV s = (c, [], 0) := by unfold punV; rw [h]; simp [hc]
theorem punV_many {s : List UInt8} {n k : Nat} (h : nextV s = (0, n, k)) (hn : 1000 < n) : punV s = (40, [], 0) := by unfold punV; rw [h]; simp [hn]
theorem punV_none {s : List UInt8} {n k : Nat} (h : nextV s = (0, n, k)) (hn : n ≤ 1000) (hd : s.drop k = []) : punV s = (21, [], 0) := by
  unfold punV; rw [h]; simp only [ne_eq, not_true_eq_false, if_false]; rw [if_neg (by omega), hd]
theorem punV_wide {s : List UInt8} {n k : Nat} {b : UInt8} {t : List UInt8} (h : nextV s = (0, n, k)) (hn : n ≤ 1000) (hd : s.drop k = b :: t) (hb : 16 < b.toNat) : punV s = (40, [], 0) := by
  unfold punV; rw [h]; simp only [ne_eq, not_true_eq_false, if_false]; rw [if_neg (by omega), hd]; simp only; rw [if_pos hb]

set_option maxRecDepth 100000 in
set_option maxHeartbeats 1000000 in
theorem pun_early (am an : Addr) (s : ByteArray) (hs : s.size ≤ 1000000) {C N K : Nat} (hv : nextV (bytesOf s) = (C, N, K)) (w : World) (hsent : Sent am an w) (c : Nat)
    (hcase : (C ≠ 0 ∧ c = C) ∨ (C = 0 ∧ 1000 < N ∧ c = 40) ∨ (C = 0 ∧ N ≤ 1000 ∧ K = s.size ∧ c = 21)) :
    Calls Tryd.prog 36 #[.string s] w fun e w' => e = .returned (.tuple #[.slice none 0 0, .string s, .int .i64 (c : Int)]) ∧ Below w.heap.size w w' := by
  have HG := hid (fun W h => get_is am an s (by omega) hv W h)
  have HS := hid hsent
  have hN := (nextV_is (bytesOf s)).1
  rw [hv] at hN
  have hN2 : N ≤ 18446744073709551615 := hN
  clear hv hsent hN
  rcases hcase with ⟨h1, rfl⟩ | ⟨rfl, h2, rfl⟩ | ⟨rfl, h2, rfl, rfl⟩
  · have hne : ((c : Int) != 0) = true := by simpa using h1
    have hne2 : ((c : Int) == 0) = false := by simpa using h1
    refine calls_marks Tryd.func36 rfl ?_
    simp only [Tryd.ntmps36, List.size_toArray, List.length_cons, List.length_nil, Nat.reduceAdd, Nat.reduceSub, Array.replicate_succ, Array.replicate_zero, List.push_toArray, List.append_toArray, List.nil_append, List.cons_append]
    go_wp2
    refine wp_scope_fwd ?_
    go_wp2_with (go_at_call 18; ((with_reducible refine (HG.out _ (HS.out.below (by (repeat' (first | (with_reducible exact Below.refl _ _) | (with_reducible assumption) | (with_reducible refine Below.new ?_ _) | (with_reducible refine Below.alloc ?_ ?_ _) | (with_reducible refine Below.drew ?_) | (with_reducible refine Below.setCell ?_ ?_ _) | (refine Below.step ?_ (by assumption)) | go_size))))).mono ?_); rintro e w1 ⟨rfl, hb1⟩; have hz1 := hb1.size; (try simp only [World.size_alloc] at hz1)))
    (refine wp_goto ?_; go_step; refine jumpFwd_goto rfl ?_; go_wp2)
    rw [Exit.noGoto_ret]
    refine ret_plain (.inl rfl) (by simp only [results, Tryd.results36]; go_simp; try rfl) ?_
    exact ⟨rfl, by (repeat' (first | (with_reducible exact Below.refl _ _) | (with_reducible assumption) | (with_reducible refine Below.new ?_ _) | (with_reducible refine Below.alloc ?_ ?_ _) | (with_reducible refine Below.drew ?_) | (with_reducible refine Below.setCell ?_ ?_ _) | (refine Below.step ?_ (by assumption)) | go_size))⟩
  · refine calls_marks Tryd.func36 rfl ?_
    simp only [Tryd.ntmps36, List.size_toArray, List.length_cons, List.length_nil, Nat.reduceAdd, Nat.reduceSub, Array.replicate_succ, Array.replicate_zero, List.push_toArray, List.append_toArray, List.nil_append, List.cons_append]
    go_wp2
    refine wp_scope_fwd ?_
    go_wp2_with (go_at_call 18; ((with_reducible refine (HG.out _ (HS.out.below (by (repeat' (first | (with_reducible exact Below.refl _ _) | (with_reducible assumption) | (with_reducible refine Below.new ?_ _) | (with_reducible refine Below.alloc ?_ ?_ _) | (with_reducible refine Below.drew ?_) | (with_reducible refine Below.setCell ?_ ?_ _) | (refine Below.step ?_ (by assumption)) | go_size))))).mono ?_); rintro e w1 ⟨rfl, hb1⟩; have hz1 := hb1.size; (try simp only [World.size_alloc] at hz1)))
    (refine wp_goto ?_; go_step; refine jumpFwd_goto rfl ?_; go_wp2)
    rw [Exit.noGoto_ret]
    refine ret_plain (.inl rfl) (by simp only [results, Tryd.results36]; go_simp; try rfl) ?_
    exact ⟨rfl, by (repeat' (first | (with_reducible exact Below.refl _ _) | (with_reducible assumption) | (with_reducible refine Below.new ?_ _) | (with_reducible refine Below.alloc ?_ ?_ _) | (with_reducible refine Below.drew ?_) | (with_reducible refine Below.setCell ?_ ?_ _) | (refine Below.step ?_ (by assumption)) | go_size))⟩
  · have he : s.extract s.size s.size = { data := #[] } := by
      apply bytesOf_inj
      rw [bytesOf_extract, List.drop_of_length_le (by simp)]
    rw [he] at HG
    clear he
    refine calls_marks Tryd.func36 rfl ?_
    simp only [Tryd.ntmps36, List.size_toArray, List.length_cons, List.length_nil, Nat.reduceAdd, Nat.reduceSub, Array.replicate_succ, Array.replicate_zero, List.push_toArray, List.append_toArray, List.nil_append, List.cons_append]
    go_wp2
    refine wp_scope_fwd ?_
    go_wp2_with (go_at_call 18; ((with_reducible refine (HG.out _ (HS.out.below (by (repeat' (first | (with_reducible exact Below.refl _ _) | (with_reducible assumption) | (with_reducible refine Below.new ?_ _) | (with_reducible refine Below.alloc ?_ ?_ _) | (with_reducible refine Below.drew ?_) | (with_reducible refine Below.setCell ?_ ?_ _) | (refine Below.step ?_ (by assumption)) | go_size))))).mono ?_); rintro e w1 ⟨rfl, hb1⟩; have hz1 := hb1.size; (try simp only [World.size_alloc] at hz1)))
    (refine wp_goto ?_; go_step; refine jumpFwd_goto rfl ?_; go_wp2)
    rw [Exit.noGoto_ret]
    refine ret_plain (.inl rfl) (by simp only [results, Tryd.results36]; go_simp; try rfl) ?_
    exact ⟨rfl, by (repeat' (first | (with_reducible exact Below.refl _ _) | (with_reducible assumption) | (with_reducible refine Below.new ?_ _) | (with_reducible refine Below.alloc ?_ ?_ _) | (with_reducible refine Below.drew ?_) | (with_reducible refine Below.setCell ?_ ?_ _) | (refine Below.step ?_ (by assumption)) | go_size))⟩

theorem sizeV_nat (n k : Nat) : sizeV (n : Int) (k : Int) = (((n * k + 7) / 8 : Nat) : Int) := by
  unfold sizeV
  rw [if_neg (by omega)]
  simp
theorem mul_le_16 {n k : Nat} (hn : n ≤ 1000) (hk : k ≤ 16) : n * k ≤ 16000 := by have := Nat.mul_le_mul hn hk; omega

set_option maxRecDepth 100000 in
set_option maxHeartbeats 1000000 in
theorem pun_head (am an : Addr) (s : ByteArray) (hs : s.size ≤ 1000000) {N K : Nat} (hv : nextV (bytesOf s) = (0, N, K)) (hN : N ≤ 1000) (r : ByteArray) (hr : s.extract K s.size = r) (hr0 : 0 < r.size) (w : World) (hsent : Sent am an w) (c : Nat)
    (hcase : (16 < (r[0]'hr0).toNat ∧ c = 40) ∨ ((r[0]'hr0).toNat ≤ 16 ∧ r.size < 1 + (N * (r[0]'hr0).toNat + 7) / 8 ∧ c = 21)) :
    Calls Tryd.prog 36 #[.string s] w fun e w' => e = .returned (.tuple #[.slice none 0 0, .string s, .int .i64 (c : Int)]) ∧ Below w.heap.size w w' := by
  have HG := hid (fun W h => get_is am an s (by omega) hv W h)
  rw [hr] at HG
  have HS := hid hsent
  have hrs : r.size ≤ 1000000 := by rw [← hr]; simp; omega
  have hb8 := (r[0]'hr0).toNat_lt
  obtain ⟨b, hb⟩ : ∃ b, (r[0]'hr0).toNat = b := ⟨_, rfl⟩
  rw [hb] at hcase hb8
  have hne : r.toList.isEmpty = false := by
    rw [ByteArray.toList_eq]
    have : 0 < r.data.toList.length := by simpa using hr0
    cases hd : r.data.toList with
    | nil => rw [hd] at this; simp at this
    | cons a l => rfl
  clear hv hsent hr
  rcases hcase with ⟨h1, rfl⟩ | ⟨h1, h2, rfl⟩
  · have hbl : (16 : Int) < (b : Int) := by omega
    refine calls_marks Tryd.func36 rfl ?_
    simp only [Tryd.ntmps36, List.size_toArray, List.length_cons, List.length_nil, Nat.reduceAdd, Nat.reduceSub, Array.replicate_succ, Array.replicate_zero, List.push_toArray, List.append_toArray, List.nil_append, List.cons_append]
    go_wp2
    refine wp_scope_fwd ?_
    go_wp2_with (go_at_call 18; ((with_reducible refine (HG.out _ (HS.out.below (by (repeat' (first | (with_reducible exact Below.refl _ _) | (with_reducible assumption) | (with_reducible refine Below.new ?_ _) | (with_reducible refine Below.alloc ?_ ?_ _) | (with_reducible refine Below.drew ?_) | (with_reducible refine Below.setCell ?_ ?_ _) | (refine Below.step ?_ (by assumption)) | go_size))))).mono ?_); rintro e w1 ⟨rfl, hb1⟩; have hz1 := hb1.size; (try simp only [World.size_alloc] at hz1)))
    (refine wp_goto ?_; go_step; refine jumpFwd_goto rfl ?_; go_wp2)
    rw [Exit.noGoto_ret]
    refine ret_plain (.inl rfl) (by simp only [results, Tryd.results36]; go_simp; try rfl) ?_
    exact ⟨rfl, by (repeat' (first | (with_reducible exact Below.refl _ _) | (with_reducible assumption) | (with_reducible refine Below.new ?_ _) | (with_reducible refine Below.alloc ?_ ?_ _) | (with_reducible refine Below.drew ?_) | (with_reducible refine Below.setCell ?_ ?_ _) | (refine Below.step ?_ (by assumption)) | go_size))⟩
  · have HZ := hid (fun W => size_any (N : Int) (b : Int) W (fun _ => by have h5 := mul_le_16 hN h1; have h6 : ((N * b : Nat) : Int) = (N : Int) * (b : Int) := (by simp); omega))
    rw [sizeV_nat] at HZ
    have hz16 := mul_le_16 hN h1
    obtain ⟨Z, hZ⟩ : ∃ Z, (N * b + 7) / 8 = Z := ⟨_, rfl⟩
    have hZ2 : Z ≤ 2001 := by omega
    rw [hZ] at HZ h2
    clear hZ hz16
    refine calls_marks Tryd.func36 rfl ?_
    simp only [Tryd.ntmps36, List.size_toArray, List.length_cons, List.length_nil, Nat.reduceAdd, Nat.reduceSub, Array.replicate_succ, Array.replicate_zero, List.push_toArray, List.append_toArray, List.nil_append, List.cons_append]
    go_wp2
    refine wp_scope_fwd ?_
    go_wp2_with (first | (go_at_call 41; ((with_reducible refine (HZ.out _).mono ?_); rintro e w2 ⟨rfl, rfl⟩)) | (go_at_call 18; ((with_reducible refine (HG.out _ (HS.out.below (by (repeat' (first | (with_reducible exact Below.refl _ _) | (with_reducible assumption) | (with_reducible refine Below.new ?_ _) | (with_reducible refine Below.alloc ?_ ?_ _) | (with_reducible refine Below.drew ?_) | (with_reducible refine Below.setCell ?_ ?_ _) | (refine Below.step ?_ (by assumption)) | go_size))))).mono ?_); rintro e w1 ⟨rfl, hb1⟩; have hz1 := hb1.size; (try simp only [World.size_alloc] at hz1))))
    (refine wp_goto ?_; go_step; refine jumpFwd_goto rfl ?_; go_wp2)
    rw [Exit.noGoto_ret]
    refine ret_plain (.inl rfl) (by simp only [results, Tryd.results36]; go_simp; try rfl) ?_
    exact ⟨rfl, by (repeat' (first | (with_reducible exact Below.refl _ _) | (with_reducible assumption) | (with_reducible refine Below.new ?_ _) | (with_reducible refine Below.alloc ?_ ?_ _) | (with_reducible refine Below.drew ?_) | (with_reducible refine Below.setCell ?_ ?_ _) | (refine Below.step ?_ (by assumption)) | go_size))⟩
end Go.Proofs.YtpgifmccajcgkaaDoor
