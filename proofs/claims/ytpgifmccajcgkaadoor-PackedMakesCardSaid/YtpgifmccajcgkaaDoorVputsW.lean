/- Varints: the walks of VarintPuts and VarintBack. -/
import Derived.Test.YtpgifmccajcgkaaDoorVarS
import Derived.Test.YtpgifmccajcgkaaDoorVarL
import Derived.Test.YtpgifmccajcgkaaDoorVarF
import Derived.Test.YtpgifmccajcgkaaDoorOpenA
namespace Go.Proofs.YtpgifmccajcgkaaDoor
set_option linter.unusedVariables false
set_option linter.unusedSimpArgs false
open Go.ChangeShapes Go.WideShapes Go.ChangeAt Go.RowKit Go.Joins

set_option maxRecDepth 100000 in
set_option maxHeartbeats 2000000 in
theorem VarintPuts_walk (n : Int) (hn : U64 n) (s : ByteArray) (hs : s.size ≤ 9223372036854775807) (m : Int) (hm : I64 m) (W : World) (am an : Addr) (hS : Sent am an W) :
    Calls Tryd.prog 4 #[.int .u64 n, .string s, .int .i64 m] W fun e w' => e = .returned (.bool true) ∧ Below W.heap.size W w' := by
  obtain ⟨n, rfl⟩ := Int.eq_ofNat_of_zero_le hn.1
  have hn2 : n ≤ 18446744073709551615 := by have := hn.2; omega
  have HP := hid (fun w => put1_any n hn2 w)
  have HR := hid (fun w => refPut_any n hn2 w)
  have HT := hid (fun w => turn_any m hm w)
  have HRT := hid (fun w => refTurn_any m hm w)
  have HB := hid (fun w => back_any n hn w)
  have HRB := hid (fun w => refBack_any n hn w)
  have HC := hid (fun w => vcut_any s hs w)
  obtain ⟨t, ht⟩ : ∃ t, s.extract 0 (min s.size 2000) = t := ⟨_, rfl⟩
  have htz : t.size ≤ 9223372036854775807 := by rw [← ht]; simp; omega
  obtain ⟨C, N, K, hv⟩ : ∃ C N K, nextV (bytesOf t) = (C, N, K) := ⟨_, _, _, rfl⟩
  have HG := hid (fun w h => get_is am an t htz hv w h)
  have HRG := hid (fun w => refGet_is t htz hv w)
  generalize t.extract K t.size = r at HG HRG
  generalize (C : Int) = c at HG HRG
  generalize (N : Int) = x at HG HRG
  obtain ⟨sn, hsn⟩ : ∃ sn : ByteArray, strV (putB n) = .string sn := ⟨⟨(putB n).toArray⟩, rfl⟩
  rw [hsn] at HP HR
  generalize turnV m = tm at HT HRT
  generalize backV (n : Int) = bn at HB HRB
  rw [ht] at HC
  have HS := hid hS
  have HSH := hid (shown_any am an W hS)
  clear hsn hv ht hS hn hm hs htz hn2
  go_enter Tryd.func4, Tryd.ntmps4
  go_wp2_with (first
    | (go_at_call 16; ((with_reducible refine (HSH.out).mono ?_); rintro e w1 ⟨rfl, hb1⟩; have HB1 := hid hb1; clear hb1; have HS1 := hid (HS.out.below HB1.out)))
    | (go_at_call 19; ((with_reducible refine (HC.out _).mono ?_); rintro e w2 ⟨rfl, rfl⟩))
    | (go_at_call 18; ((with_reducible refine (HG.out _ HS1.out).mono ?_); rintro e w2 ⟨rfl, hb2⟩; have HB2 := hid (HB1.out.step hb2); clear hb2))
    | (go_at_call 20; ((with_reducible refine (HRG.out _).mono ?_); rintro e w3 ⟨rfl, hb3⟩; have HB3 := hid (HB2.out.step hb3); clear hb3))
    | (go_at_call 17; ((with_reducible refine (HP.out _).mono ?_); rintro e w4 ⟨rfl, hb4⟩; have HB4 := hid (HB3.out.step hb4); clear hb4))
    | (go_at_call 21; ((with_reducible refine (HR.out _).mono ?_); rintro e w5 ⟨rfl, hb5⟩; have HB5 := hid (HB4.out.step hb5); clear hb5))
    | (go_at_call 22; ((with_reducible refine (HT.out _).mono ?_); rintro e w6 ⟨rfl, hb6⟩; have HB6 := hid (HB5.out.step hb6); clear hb6))
    | (go_at_call 23; ((with_reducible refine (HRT.out _).mono ?_); rintro e w7 ⟨rfl, hb7⟩; have HB7 := hid (HB6.out.step hb7); clear hb7))
    | (go_at_call 24; ((with_reducible refine (HB.out _).mono ?_); rintro e w8 ⟨rfl, hb8⟩; have HB8 := hid (HB7.out.step hb8); clear hb8))
    | (go_at_call 25; ((with_reducible refine (HRB.out _).mono ?_); rintro e w9 ⟨rfl, hb9⟩; have HB9 := hid (HB8.out.step hb9); clear hb9)))
  go_ret
  exact ⟨rfl, HB9.out⟩

theorem bytesOf_append (a b : ByteArray) : bytesOf (a ++ b) = bytesOf a ++ bytesOf b := by
  show (a ++ b).data.toList = a.data.toList ++ b.data.toList
  simp
theorem extract_append (a b : ByteArray) : (a ++ b).extract a.size (a ++ b).size = b := by
  apply bytesOf_inj
  rw [bytesOf_extract, bytesOf_append]
  have : (bytesOf a).length = a.size := by simp
  rw [← this, List.drop_left]
theorem size_bytesOf (s : ByteArray) : (bytesOf s).length = s.size := by simp

set_option maxRecDepth 100000 in
set_option maxHeartbeats 2000000 in
theorem VarintBack_walk (n : Int) (hn : U64 n) (s : ByteArray) (hs : s.size ≤ 9223372036854775807) (m : Int) (hm : I64 m) (W : World) (am an : Addr) (hS : Sent am an W) :
    Calls Tryd.prog 5 #[.int .u64 n, .string s, .int .i64 m] W fun e w' => e = .returned (.bool true) ∧ Below W.heap.size W w' := by
  obtain ⟨n, rfl⟩ := Int.eq_ofNat_of_zero_le hn.1
  have hn2 : n ≤ 18446744073709551615 := by have := hn.2; omega
  have HP := hid (fun w => put1_any n hn2 w)
  have HT := hid (fun w => turn_any m hm w)
  have HBT := hid (fun w => back_any (turnV m) (turnV_is hm) w)
  rw [backV_turnV] at HBT
  have HB := hid (fun w => back_any n hn w)
  have HTB := hid (fun w => turn_any (backV (n : Int)) (backV_is hn) w)
  rw [turnV_backV hn.1] at HTB
  have HC := hid (fun w => vcut_any s hs w)
  obtain ⟨t, ht⟩ : ∃ t, s.extract 0 (min s.size 2000) = t := ⟨_, rfl⟩
  have htz : t.size ≤ 2000 := by rw [← ht]; simp; omega
  obtain ⟨sn, hsn, hsb⟩ : ∃ sn : ByteArray, strV (putB n) = .string sn ∧ bytesOf sn = putB n := ⟨⟨(putB n).toArray⟩, rfl, by simp [bytesOf]⟩
  have hl1 := putB_ten hn2
  have hl2 := putB_pos n
  rw [← hsb, size_bytesOf] at hl1 hl2
  have hv1 : nextV (bytesOf (sn ++ t)) = (0, n, sn.size) := by
    rw [bytesOf_append, hsb, nextV_putB hn2, ← hsb, size_bytesOf]
  have HG1 := hid (fun w h => get_is am an (sn ++ t) (by simp [ByteArray.size_append]; omega) hv1 w h)
  rw [extract_append] at HG1
  obtain ⟨C, N, K, hv⟩ : ∃ C N K, nextV (bytesOf t) = (C, N, K) := ⟨_, _, _, rfl⟩
  have HG := hid (fun w h => get_is am an t (by omega) hv w h)
  have hcase : C = 0 → N ≤ 18446744073709551615 ∧ ∃ sb : ByteArray, strV (putB N) = .string sb ∧ sb ++ t.extract K t.size = t := fun hC => by
    subst hC
    obtain ⟨h1, h2, h3⟩ := nextV_ok hv
    refine ⟨h2, ⟨(putB N).toArray⟩, rfl, bytesOf_inj ?_⟩
    rw [bytesOf_append, bytesOf_extract]
    rw [show bytesOf (⟨(putB N).toArray⟩ : ByteArray) = putB N by simp [bytesOf], ← h1]
  generalize t.extract K t.size = r at HG hcase
  rw [hsn] at HP
  generalize turnV m = tm at HT HBT
  generalize backV (n : Int) = bn at HB HTB
  rw [ht] at HC
  have HS := hid hS
  have HSH := hid (shown_any am an W hS)
  clear hsn hsb hv hv1 ht hS hm hs hn
  by_cases hC : C = 0
  · obtain ⟨hN, sb, hsb, heq⟩ := hcase hC
    subst hC
    have HP2 := hid (fun w => put1_any N hN w)
    rw [hsb] at HP2
    have hsz3 : sb.size + r.size ≤ 2000 := by rw [← ByteArray.size_append, heq]; exact htz
    clear hsb hcase hN hn2
    go_enter Tryd.func5, Tryd.ntmps5
    go_wp2_with (first
      | (go_at_call 16; ((with_reducible refine (HSH.out).mono ?_); rintro e w1 ⟨rfl, hb1⟩))
      | (go_at_call 19; ((with_reducible refine (HC.out _).mono ?_); rintro e w2 ⟨rfl, rfl⟩))
      | (go_at_call 18; first
        | ((with_reducible refine (HG1.out _ (HS.out.below (by (repeat' (first | (with_reducible exact Below.refl _ _) | (with_reducible assumption) | (with_reducible refine Below.new ?_ _) | (with_reducible refine Below.alloc ?_ ?_ _) | (with_reducible refine Below.drew ?_) | (with_reducible refine Below.setCell ?_ ?_ _) | (refine Below.step ?_ (by assumption)) | go_size))))).mono ?_); rintro e w3 ⟨rfl, hb3⟩)
        | ((with_reducible refine (HG.out _ (HS.out.below (by (repeat' (first | (with_reducible exact Below.refl _ _) | (with_reducible assumption) | (with_reducible refine Below.new ?_ _) | (with_reducible refine Below.alloc ?_ ?_ _) | (with_reducible refine Below.drew ?_) | (with_reducible refine Below.setCell ?_ ?_ _) | (refine Below.step ?_ (by assumption)) | go_size))))).mono ?_); rintro e w4 ⟨rfl, hb4⟩))
      | (go_at_call 17; first
        | ((with_reducible refine (HP.out _).mono ?_); rintro e w2 ⟨rfl, hb2⟩)
        | ((with_reducible refine (HP2.out _).mono ?_); rintro e w5 ⟨rfl, hb5⟩))
      | (go_at_call 22; first
        | ((with_reducible refine (HT.out _).mono ?_); rintro e w6 ⟨rfl, hb6⟩)
        | ((with_reducible refine (HTB.out _).mono ?_); rintro e w7 ⟨rfl, hb7⟩))
      | (go_at_call 24; first
        | ((with_reducible refine (HBT.out _).mono ?_); rintro e w8 ⟨rfl, hb8⟩)
        | ((with_reducible refine (HB.out _).mono ?_); rintro e w9 ⟨rfl, hb9⟩)))
    go_ret
    exact ⟨rfl, by (repeat' (first | (with_reducible exact Below.refl _ _) | (with_reducible assumption) | (with_reducible refine Below.new ?_ _) | (with_reducible refine Below.alloc ?_ ?_ _) | (with_reducible refine Below.drew ?_) | (with_reducible refine Below.setCell ?_ ?_ _) | (refine Below.step ?_ (by assumption)) | go_size))⟩
  · have hCb : ((C : Int) == 0) = false := by simpa using hC
    generalize (C : Int) = c at HG hCb
    clear hcase hC hn2
    go_enter Tryd.func5, Tryd.ntmps5
    go_wp2_with (first
      | (go_at_call 16; ((with_reducible refine (HSH.out).mono ?_); rintro e w1 ⟨rfl, hb1⟩))
      | (go_at_call 19; ((with_reducible refine (HC.out _).mono ?_); rintro e w2 ⟨rfl, rfl⟩))
      | (go_at_call 18; first
        | ((with_reducible refine (HG1.out _ (HS.out.below (by (repeat' (first | (with_reducible exact Below.refl _ _) | (with_reducible assumption) | (with_reducible refine Below.new ?_ _) | (with_reducible refine Below.alloc ?_ ?_ _) | (with_reducible refine Below.drew ?_) | (with_reducible refine Below.setCell ?_ ?_ _) | (refine Below.step ?_ (by assumption)) | go_size))))).mono ?_); rintro e w3 ⟨rfl, hb3⟩)
        | ((with_reducible refine (HG.out _ (HS.out.below (by (repeat' (first | (with_reducible exact Below.refl _ _) | (with_reducible assumption) | (with_reducible refine Below.new ?_ _) | (with_reducible refine Below.alloc ?_ ?_ _) | (with_reducible refine Below.drew ?_) | (with_reducible refine Below.setCell ?_ ?_ _) | (refine Below.step ?_ (by assumption)) | go_size))))).mono ?_); rintro e w4 ⟨rfl, hb4⟩))
      | (go_at_call 17; ((with_reducible refine (HP.out _).mono ?_); rintro e w2 ⟨rfl, hb2⟩))
      | (go_at_call 22; first
        | ((with_reducible refine (HT.out _).mono ?_); rintro e w6 ⟨rfl, hb6⟩)
        | ((with_reducible refine (HTB.out _).mono ?_); rintro e w7 ⟨rfl, hb7⟩))
      | (go_at_call 24; first
        | ((with_reducible refine (HBT.out _).mono ?_); rintro e w8 ⟨rfl, hb8⟩)
        | ((with_reducible refine (HB.out _).mono ?_); rintro e w9 ⟨rfl, hb9⟩)))
    go_ret
    exact ⟨rfl, by (repeat' (first | (with_reducible exact Below.refl _ _) | (with_reducible assumption) | (with_reducible refine Below.new ?_ _) | (with_reducible refine Below.alloc ?_ ?_ _) | (with_reducible refine Below.drew ?_) | (with_reducible refine Below.setCell ?_ ?_ _) | (refine Below.step ?_ (by assumption)) | go_size))⟩
end Go.Proofs.YtpgifmccajcgkaaDoor
