/- Packed lists: the reference's 'Unpack'. -/
import Derived.Test.YtpgifmccajcgkaaDoorPkQ
import Derived.Test.YtpgifmccajcgkaaDoorVarL
namespace Go.Proofs.YtpgifmccajcgkaaDoor
set_option linter.unusedVariables false
set_option linter.unusedSimpArgs false
open Go.ChangeShapes Go.WideShapes Go.ChangeAt Go.RowKit Go.Joins

set_option maxRecDepth 100000 in
set_option maxHeartbeats 1000000 in
theorem rpun_early (s : ByteArray) (hs : s.size ≤ 1000000) {C N K : Nat} (hv : nextV (bytesOf s) = (C, N, K)) (w : World) (c : Nat)
    (hcase : (C ≠ 0 ∧ c = C) ∨ (C = 0 ∧ 1000 < N ∧ c = 40) ∨ (C = 0 ∧ N ≤ 1000 ∧ K = s.size ∧ c = 21)) :
    Calls Tryd.prog 38 #[.string s] w fun e w' => e = .returned (.tuple #[.slice none 0 0, .string s, .int .i64 (c : Int)]) ∧ Below w.heap.size w w' := by
  have HG := hid (fun W => refGet_is s (by omega) hv W)
  have hN := (nextV_is (bytesOf s)).1
  rw [hv] at hN
  have hN2 : N ≤ 18446744073709551615 := hN
  clear hv hN
  rcases hcase with ⟨h1, rfl⟩ | ⟨rfl, h2, rfl⟩ | ⟨rfl, h2, rfl, rfl⟩
  · have hne : ((c : Int) != 0) = true := by simpa using h1
    have hne2 : ((c : Int) == 0) = false := by simpa using h1
    go_enter Tryd.func38, Tryd.ntmps38
    go_wp2_with (go_at_call 20; ((with_reducible refine (HG.out _).mono ?_); rintro e w1 ⟨rfl, hb1⟩; have hz1 := hb1.size; (try simp only [World.size_alloc] at hz1)))
    ((show bodyPost _ _ _ _ _ _); refine bodyPost_ret (by simp only [results, Tryd.results38]; go_simp; try rfl) rfl ?_)
    exact ⟨rfl, by (repeat' (first | (with_reducible exact Below.refl _ _) | (with_reducible assumption) | (with_reducible refine Below.new ?_ _) | (with_reducible refine Below.alloc ?_ ?_ _) | (with_reducible refine Below.drew ?_) | (with_reducible refine Below.setCell ?_ ?_ _) | (refine Below.step ?_ (by assumption)) | go_size))⟩
  · go_enter Tryd.func38, Tryd.ntmps38
    go_wp2_with (go_at_call 20; ((with_reducible refine (HG.out _).mono ?_); rintro e w1 ⟨rfl, hb1⟩; have hz1 := hb1.size; (try simp only [World.size_alloc] at hz1)))
    ((show bodyPost _ _ _ _ _ _); refine bodyPost_ret (by simp only [results, Tryd.results38]; go_simp; try rfl) rfl ?_)
    exact ⟨rfl, by (repeat' (first | (with_reducible exact Below.refl _ _) | (with_reducible assumption) | (with_reducible refine Below.new ?_ _) | (with_reducible refine Below.alloc ?_ ?_ _) | (with_reducible refine Below.drew ?_) | (with_reducible refine Below.setCell ?_ ?_ _) | (refine Below.step ?_ (by assumption)) | go_size))⟩
  · have he : s.extract s.size s.size = { data := #[] } := by
      apply bytesOf_inj
      rw [bytesOf_extract, List.drop_of_length_le (by simp)]
    rw [he] at HG
    clear he
    go_enter Tryd.func38, Tryd.ntmps38
    go_wp2_with (go_at_call 20; ((with_reducible refine (HG.out _).mono ?_); rintro e w1 ⟨rfl, hb1⟩; have hz1 := hb1.size; (try simp only [World.size_alloc] at hz1)))
    ((show bodyPost _ _ _ _ _ _); refine bodyPost_ret (by simp only [results, Tryd.results38]; go_simp; try rfl) rfl ?_)
    exact ⟨rfl, by (repeat' (first | (with_reducible exact Below.refl _ _) | (with_reducible assumption) | (with_reducible refine Below.new ?_ _) | (with_reducible refine Below.alloc ?_ ?_ _) | (with_reducible refine Below.drew ?_) | (with_reducible refine Below.setCell ?_ ?_ _) | (refine Below.step ?_ (by assumption)) | go_size))⟩

set_option maxRecDepth 100000 in
set_option maxHeartbeats 1000000 in
theorem rpun_head (s : ByteArray) (hs : s.size ≤ 1000000) {N K : Nat} (hv : nextV (bytesOf s) = (0, N, K)) (hN : N ≤ 1000) (r : ByteArray) (hr : s.extract K s.size = r) (hr0 : 0 < r.size) (w : World) (c : Nat)
    (hcase : (16 < (r[0]'hr0).toNat ∧ c = 40) ∨ ((r[0]'hr0).toNat ≤ 16 ∧ r.size < 1 + (N * (r[0]'hr0).toNat + 7) / 8 ∧ c = 21)) :
    Calls Tryd.prog 38 #[.string s] w fun e w' => e = .returned (.tuple #[.slice none 0 0, .string s, .int .i64 (c : Int)]) ∧ Below w.heap.size w w' := by
  have HG := hid (fun W => refGet_is s (by omega) hv W)
  rw [hr] at HG
  have hrs : r.size ≤ 1000000 := by rw [← hr]; simp; omega
  have hb8 := (r[0]'hr0).toNat_lt
  obtain ⟨b, hb⟩ : ∃ b, (r[0]'hr0).toNat = b := ⟨_, rfl⟩
  rw [hb] at hcase hb8
  have hne : r.toList.isEmpty = false := by
    rw [ByteArray.toList_eq]
    have : 0 < r.data.toList.length := by simpa using hr0
    cases hd : r.data.toList with
    | nil => rw [hd] at this; simp at this
    | cons a l => rfl
  clear hv hr
  rcases hcase with ⟨h1, rfl⟩ | ⟨h1, h2, rfl⟩
  · have hbl : (16 : Int) < (b : Int) := by omega
    go_enter Tryd.func38, Tryd.ntmps38
    go_wp2_with (go_at_call 20; ((with_reducible refine (HG.out _).mono ?_); rintro e w1 ⟨rfl, hb1⟩; have hz1 := hb1.size; (try simp only [World.size_alloc] at hz1)))
    ((show bodyPost _ _ _ _ _ _); refine bodyPost_ret (by simp only [results, Tryd.results38]; go_simp; try rfl) rfl ?_)
    exact ⟨rfl, by (repeat' (first | (with_reducible exact Below.refl _ _) | (with_reducible assumption) | (with_reducible refine Below.new ?_ _) | (with_reducible refine Below.alloc ?_ ?_ _) | (with_reducible refine Below.drew ?_) | (with_reducible refine Below.setCell ?_ ?_ _) | (refine Below.step ?_ (by assumption)) | go_size))⟩
  · have HZ := hid (fun W => refSize_any (N : Int) (b : Int) W (fun _ => by have h5 := mul_le_16 hN h1; have h6 : ((N * b : Nat) : Int) = (N : Int) * (b : Int) := (by simp); omega))
    rw [sizeV_nat] at HZ
    have hz16 := mul_le_16 hN h1
    obtain ⟨Z, hZ⟩ : ∃ Z, (N * b + 7) / 8 = Z := ⟨_, rfl⟩
    have hZ2 : Z ≤ 2001 := by omega
    rw [hZ] at HZ h2
    clear hZ hz16
    go_enter Tryd.func38, Tryd.ntmps38
    go_wp2_with (first | (go_at_call 42; ((with_reducible refine (HZ.out _).mono ?_); rintro e w2 ⟨rfl, rfl⟩)) | (go_at_call 20; ((with_reducible refine (HG.out _).mono ?_); rintro e w1 ⟨rfl, hb1⟩; have hz1 := hb1.size; (try simp only [World.size_alloc] at hz1))))
    ((show bodyPost _ _ _ _ _ _); refine bodyPost_ret (by simp only [results, Tryd.results38]; go_simp; try rfl) rfl ?_)
    exact ⟨rfl, by (repeat' (first | (with_reducible exact Below.refl _ _) | (with_reducible assumption) | (with_reducible refine Below.new ?_ _) | (with_reducible refine Below.alloc ?_ ?_ _) | (with_reducible refine Below.drew ?_) | (with_reducible refine Below.setCell ?_ ?_ _) | (refine Below.step ?_ (by assumption)) | go_size))⟩
theorem string_at (r : ByteArray) (q Z : Nat) (h : q < Z) (hZ : 1 + Z ≤ r.size) : (bytesOf (r.extract 1 (1 + Z))).take (q + 1) = (bytesOf (r.extract 1 (1 + Z))).take q ++ [r[1 + q]'(by omega)] := by
  have hl : (bytesOf (r.extract 1 (1 + Z))).length = Z := by rw [size_bytesOf']; simp; omega
  rw [List.take_succ_eq_append_getElem (by omega)]
  congr 2
  have e : bytesOf (r.extract 1 (1 + Z)) = (r.data.toList.drop 1).take Z := by
    show (r.extract 1 (1 + Z)).data.toList = (r.data.toList.drop 1).take Z
    simp
  have e2 : (bytesOf (r.extract 1 (1 + Z)))[q]? = some (r[1 + q]'(by omega)) := by
    rw [e, List.getElem?_take_of_lt h, List.getElem?_drop]
    have h5 : 1 + q < r.data.toList.length := by simp; omega
    rw [List.getElem?_eq_getElem h5]
    rfl
  rw [List.getElem?_eq_getElem (by omega)] at e2
  exact Option.some.inj e2
/-- Does the packed list begin the bytes? -/
theorem pack_begins {s : List UInt8} {N K b Z : Nat} {c : UInt8} {t : List UInt8} (hv : nextV s = (0, N, K)) (hd : s.drop K = c :: t) (hc : c.toNat = b) (hb : b ≤ 16) (hZ : (N * b + 7) / 8 = Z) (hZt : Z ≤ t.length) (hN : N ≤ 1000) :
    (packBy (getN b N (digsB (t.take Z))) = s.take (K + 1 + Z)) ↔ (valD ((digsB (t.take Z)).drop (N * b)) = 0 ∧ widN (getN b N (digsB (t.take Z))) = b) := by
  obtain ⟨h1, h2, h3⟩ := nextV_ok hv
  have hl : (t.take Z).length = (N * b + 7) / 8 := by rw [List.length_take]; omega
  have hn : (getN b N (digsB (t.take Z))).length = N := getN_length _ _ _
  have hs : s.take (K + 1 + Z) = putB N ++ c :: t.take Z := by
    conv => lhs; rw [h1, hd]
    rw [h3, show (putB N).length + 1 + Z = (putB N).length + (1 + Z) by omega, List.take_append, List.take_of_length_le (by omega), Nat.add_sub_cancel_left, Nat.add_comm 1 Z, List.take_succ_cons]
  rw [hs]
  unfold packBy
  rw [hn]
  have hw : widN (getN b N (digsB (t.take Z))) ≤ 16 := widN_le fun x hx => by
    have h5 := getN_lt N _ (digsB_is _) (by rw [digsB_length]; omega) x hx
    have h6 : (2 : Nat) ^ b ≤ 2 ^ 16 := Nat.pow_le_pow_right (by decide) hb
    have h7 : (2 : Nat) ^ 16 = 65536 := by decide
    omega
  constructor
  · intro h
    have h5 := List.append_cancel_left h
    rw [List.cons.injEq] at h5
    obtain ⟨h6, h7⟩ := h5
    have h8 : widN (getN b N (digsB (t.take Z))) = b := by
      have h9 := congrArg UInt8.toNat h6
      simp only [UInt8.toNat_ofNat'] at h9
      omega
    rw [h8] at h7
    exact ⟨(packD_getN _ hl).1 h7, h8⟩
  · rintro ⟨h5, h6⟩
    rw [h6, (packD_getN _ hl).2 h5]
    congr 2
    rw [← hc]; simp
theorem valD_take {dd : List Nat} {j : Nat} (h : j < dd.length) : valD (dd.take (j + 1)) = 2 * valD (dd.take j) + dd[j]?.getD 0 := by
  rw [List.take_succ_eq_append_getElem h, valD_append, List.getElem?_eq_getElem h]
  simp [valD]
  omega
theorem digsB_snoc (l : List UInt8) (c : UInt8) : digsB (l ++ [c]) = digsB l ++ dig 8 c.toNat := by rw [digsB_append]; simp [digsB]

theorem wrap_u8 (c : UInt8) : wrap64 (c.toNat : Int) = (c.toNat : Int) := by
  have := c.toNat_lt
  unfold wrap64; omega
theorem u8_le (c : UInt8) : c.toNat ≤ 65535 := by
  have := c.toNat_lt
  omega
theorem digits_u8 (c : UInt8) (w : World) : Calls Tryd.prog 56 #[.int .i64 (c.toNat : Int), .int .i64 8] w fun e w' => ∃ v, e = .returned v ∧ w'.ownsRow w.heap.size 3 1 v 8 ((intsOf (dig 8 c.toNat)).map (Value.int .i64)) ∧ Below w.heap.size w w' := by
  have h := digits_any c.toNat 8 (u8_le c) (by decide) w
  rw [show ((8 : Nat) : Int) = 8 from rfl] at h
  exact h.mono fun e w' ⟨v, h1, h2, _, h4⟩ => ⟨v, h1, h2, h4⟩

set_option maxRecDepth 100000 in
set_option maxHeartbeats 4000000 in
theorem rpun_main (s : ByteArray) (hs : s.size ≤ 1000000) {N K : Nat} (hv : nextV (bytesOf s) = (0, N, K)) (hN : N ≤ 1000) (r : ByteArray) (hr : s.extract K s.size = r) (hr0 : 0 < r.size) (b : Nat) (hb : (r[0]'hr0).toNat = b) (hb16 : b ≤ 16)
    (Z : Nat) (hZ : (N * b + 7) / 8 = Z) (hZr : 1 + Z ≤ r.size) (l : List Nat) (hl : digsB (bytesOf (r.extract 1 (1 + Z))) = l) (w : World)
    (good : Bool) (hgood : (decide (valD (l.drop (N * b)) = 0) && decide (widN (getN b N l) = b)) = good) :
    Calls Tryd.prog 38 #[.string s] w fun e w' => ∃ v, e = .returned (.tuple (if good = true then #[v, .string (r.extract (1 + Z) r.size), .int .i64 0] else #[.slice none 0 0, .string s, .int .i64 40])) ∧
      (good = true → w'.ownsRow w.heap.size 3 1 v N ((intsOf (getN b N l)).map (Value.int .i64)) ∧ (v = .slice none 0 0 ↔ N = 0)) ∧ Below w.heap.size w w' := by
  have HG := hid (fun W => refGet_is s (by omega) hv W)
  rw [hr] at HG
  obtain ⟨i0, hi, hiz0, hiz1, hiz2⟩ := info_parts info_int
  have hrz : r.size = s.size - K := by rw [← hr]; simp
  have hrs : r.size ≤ 1000000 := by omega
  have hKs : (s.size : Int) - (r.size : Int) = (K : Int) := by omega
  have hb8 : b ≤ 255 := by omega
  have hne : r.toList.isEmpty = false := by
    rw [ByteArray.toList_eq]
    have : 0 < r.data.toList.length := by simpa using hr0
    cases hd : r.data.toList with
    | nil => rw [hd] at this; simp at this
    | cons a l => rfl
  have hz16 := mul_le_16 hN hb16
  have HZ := hid (fun W => refSize_any (N : Int) (b : Int) W (fun _ => by have h6 : ((N * b : Nat) : Int) = (N : Int) * (b : Int) := (by simp); omega))
  rw [sizeV_nat, hZ] at HZ
  have hZ2 : Z ≤ 2001 := by omega
  have hSA := hid (fun q (h : q < Z) => string_at r q Z h hZr)
  obtain ⟨s0, hs0⟩ : ∃ s0, r.extract 1 (1 + Z) = s0 := ⟨_, rfl⟩
  have hbeg : (packBy (getN b N l) = (bytesOf s).take (K + 1 + Z)) ↔ good = true := by
    have hbr : bytesOf r = (bytesOf s).drop K := by rw [← hr, bytesOf_extract]
    have hd : (bytesOf s).drop K = (r[0]'hr0) :: bytesOf (r.extract 1 r.size) := by rw [← hbr]; exact bytes_head r hr0
    have htk : (bytesOf (r.extract 1 r.size)).take Z = bytesOf (r.extract 1 (1 + Z)) := by
      rw [bytesOf_extract]
      show (r.data.toList.drop 1).take Z = (r.extract 1 (1 + Z)).data.toList
      simp
    have := pack_begins hv hd hb hb16 hZ (by rw [size_bytesOf']; simp; omega) hN
    rw [htk, hl] at this
    rw [this, ← hgood]
    simp
  rw [hs0] at hl hSA
  have hs0z : s0.size = Z := by rw [← hs0]; simp; omega
  have hll : l.length = 8 * Z := by rw [← hl, digsB_length, size_bytesOf', hs0z]
  have hlN : N * b ≤ l.length := by omega
  have hlD : isD l := hl ▸ digsB_is _
  obtain ⟨ns, hns⟩ : ∃ ns, getN b N l = ns := ⟨_, rfl⟩
  have hnl : ns.length = N := hns ▸ getN_length _ _ _
  have hnb : ∀ x ∈ ns, x < 2 ^ b := hns ▸ getN_lt N l hlD hlN
  have hsm : small ns := fun x hx => by
    have h5 := hnb x hx
    have h6 : (2 : Nat) ^ b ≤ 2 ^ 16 := Nat.pow_le_pow_right (by decide) hb16
    have h7 : (2 : Nat) ^ 16 = 65536 := by decide
    omega
  have hnum : ∀ i, i < N → ns[i]?.getD 0 = valD ((l.drop (i * b)).take b) := fun i hi => by rw [← hns, getN_get b N i l hi]
  have hok := okW_intsOf (by omega) hsm
  rw [hns] at hbeg ⊢
  obtain ⟨sp, hsp, hspb⟩ : ∃ sp : ByteArray, strV (packBy ns) = .string sp ∧ bytesOf sp = packBy ns := ⟨⟨(packBy ns).toArray⟩, rfl, by simp [bytesOf]⟩
  obtain ⟨sx, hsx⟩ : ∃ sx, s.extract 0 (K + 1 + Z) = sx := ⟨_, rfl⟩
  have hcmp : (sp.toList == sx.toList) = good := by
    have e1 : sp.toList = bytesOf sp := ByteArray.toList_eq ..
    have e2 : sx.toList = (bytesOf s).take (K + 1 + Z) := by
      rw [ByteArray.toList_eq, ← hsx]
      show (s.extract 0 (K + 1 + Z)).data.toList = s.data.toList.take (K + 1 + Z)
      simp
    rw [e1, e2, hspb]
    cases good with
    | true => simpa using hbeg
    | false => simpa using hbeg
  have HPK := hid (fun ao cap W (h : RowAt W ao (intsOf ns)) => refPack_ok ao cap (intsOf ns) W h hok)
  rw [natsOf_intsOf, hsp, intsOf_length, hnl] at HPK
  have hslx : ∀ W, (Instr.slice 9 (.string s) none (some (.int .i64 ((K : Int) + 1 + (Z : Int)))) none).run Tryd.prog W = .ok (.string sx) W := fun W => by
    rw [run_slice_string_h (P := Tryd.prog) (w := W) (t := 9) (s := s) (ht := Tryd.underlying9) .i64 ((K : Int) + 1 + (Z : Int)) (by omega) (by omega)]
    have e : ((K : Int) + 1 + (Z : Int)).toNat = K + 1 + Z := by omega
    rw [e, hsx]
  have hsl2 : ∀ W, (Instr.slice 9 (.string r) (some (.int .i64 (1 + (Z : Int)))) none none).run Tryd.prog W = .ok (.string (r.extract (1 + Z) r.size)) W := fun W => by
    rw [run_slice_string_l (P := Tryd.prog) (w := W) (t := 9) (s := r) (ht := Tryd.underlying9) .i64 (1 + (Z : Int)) (by omega) (by omega)]
    have e : (1 + (Z : Int)).toNat = 1 + Z := by omega
    rw [e]
  have hKl : K ≤ 1000000 := by omega
  have HL := hid hl; have HLN := hid hlN; have HLD := hid hlD; have HNL := hid hnl; have HNUM := hid hnum; have HLL := hid hll; have HS0 := hid hs0z; have HCMP := hid hcmp
  clear hv hr hZ hl hlN hlD hns hnl hnb hsm hnum hok hgood hll hs0 hbeg hsp hspb hsx hs0z hcmp hrz
  go_enter Tryd.func38, Tryd.ntmps38
  go_wp2_with (first
    | (go_at_call 42; ((with_reducible refine (HZ.out _).mono ?_); rintro e w2 ⟨rfl, rfl⟩))
    | (go_at_call 20; ((with_reducible refine (HG.out _).mono ?_); rintro e w1 ⟨rfl, hb1⟩; have hz1 := hb1.size)))
  go_loopw [11, 12] (fun v i wr => ∃ q m : Nat, q ≤ Z ∧ m = q + 1 ∧ i = .int .i64 m ∧ wr.ownsRow w1.heap.size 3 1 v (8 * q) ((intsOf (digsB ((bytesOf s0).take q))).map (Value.int .i64)) ∧ Below w1.heap.size w1 wr) (fun _ i _ => Z + 1 - (intOf i).toNat)
  case atStart => exact ⟨0, 1, Nat.zero_le _, rfl, rfl, World.ownsRow_nil _ _ _ _, Below.refl _ _⟩
  case round =>
    obtain ⟨q, m, hq, hm, rfl, hown, hbel⟩ := hrel
    have hsz := hbel.size
    by_cases hlt : q < Z
    · subst hm
      have hmr : q + 1 < r.size := by omega
      have hsa := hSA.out q hlt
      have hwr := wrap_u8 (r[q + 1]'hmr)
      have HD := hid (fun w => digits_u8 (r[q + 1]'hmr) w)
      have HST : Hid (digsB ((bytesOf s0).take (q + 1)) = digsB ((bytesOf s0).take q) ++ dig 8 (r[q + 1]'hmr).toNat) := by
        unfold Hid
        rw [hsa, digsB_snoc]
        have : (r[1 + q]'(by omega)) = r[q + 1]'hmr := by congr 1; omega
        rw [this]
      have hmz : ((q + 1 : Nat) : Int) ≤ (Z : Int) := by omega
      clear hsa
      go_wp2_with (first
        | (go_at_call 56; go_loud ((with_reducible refine (HD.out _).mono ?_); rintro e w3 ⟨v3, rfl, hownD, hb3⟩; obtain ⟨g3, c3, rfl, -, -⟩ := hownD.form (by omega); have hown3 := below_row hb3 hown; have hz3 := hb3.size; have hnews := hownD.cells (g := g3) rfl))
        | (at_builtin; go_loud (refine wpList_append_own _ rfl _ _ 42 rfl w1.heap.size 3 i0 (.int .i64 0) 1 8 Tryd.underlying42 hi hiz0 hiz1 hiz2 rfl (by decide) _ _ _ rfl hown3 ⟨g3, 0, none⟩ 8 c3 ((intsOf (dig 8 (r[q + 1]'hmr).toNat)).map (Value.int .i64)) rfl (by simp [intsOf, dig_length]) hnews (ints_one _) (by unfold maxLen; omega) (by omega) (by omega) ?_); intro v' w1' hown' hgrow' hnil'))
      go_roundw
      case rel => exact ⟨q + 1, q + 1 + 1, by omega, rfl, by go_num, by rw [HST.out, intsOf_app]; exact hown', (hbel.step hb3).grown hgrow' (by omega) (fun r e => (hown3.lt r e).1)⟩
      case measure => simp [intOf]; omega
    · obtain rfl : q = Z := by omega
      rw [show (bytesOf s0).take q = bytesOf s0 by rw [List.take_of_length_le]; rw [size_bytesOf', HS0.out]; exact Nat.le_refl _, HL.out] at hown
      have hmz : (q : Int) < (m : Int) := by omega
      have hall := row_get (by rw [HLL.out]) hown
      obtain ⟨X0, hX0⟩ : ∃ X0 : World, X0 = wr := ⟨_, rfl⟩
      rw [← hX0] at hbel hsz hall hown ⊢
      clear hX0
      obtain ⟨ao, cap, rfl⟩ := hown.shape
      have HALL := hid hall
      have hm1 : m ≤ 2002 := by omega
      clear hall hown
      go_wp2
      go_loopw [13, 14, 15, 16] (fun v i _ _ wr => ∃ k : Nat, k ≤ N ∧ i = .int .i64 k ∧ wr.ownsRow X0.heap.size 3 1 v k ((intsOf (ns.take k)).map (Value.int .i64)) ∧ (v = .slice none 0 0 ↔ k = 0) ∧ Below X0.heap.size X0 wr) (fun _ i _ _ _ => N - (intOf i).toNat)
      case atStart => exact ⟨0, Nat.zero_le _, rfl, World.ownsRow_nil _ _ _ _, by simp, Below.refl _ _⟩
      case round =>
        obtain ⟨k, hk, rfl, hown, hnilO, hbx⟩ := hrel
        have hsx9 := hbx.size
        by_cases hlt2 : k < N
        · have hnk := HNUM.out k hlt2
          have hkN : k * b + b ≤ N * b := by
            have h5 : (k + 1) * b ≤ N * b := Nat.mul_le_mul_right b hlt2
            rw [Nat.add_mul, Nat.one_mul] at h5; exact h5
          obtain ⟨dd, hdd⟩ : ∃ dd, l.drop (k * b) = dd := ⟨_, rfl⟩
          have hddl : b ≤ dd.length := by have h8 := HLN.out; have h9 := HLL.out; rw [← hdd, List.length_drop]; omega
          have hddD : isD dd := by rw [← hdd]; exact fun d hd => HLD.out d (List.mem_of_mem_drop hd)
          have hdg : ∀ q, dd[q]?.getD 0 = l[k * b + q]?.getD 0 := fun q => by rw [← hdd, List.getElem?_drop]
          rw [hdd] at hnk
          have htk : (intsOf (ns.take (k + 1))).map (Value.int .i64) = (intsOf (ns.take k)).map (Value.int .i64) ++ [.int .i64 ((ns[k]?.getD 0 : Nat) : Int)] := intsOf_take_succ (by rw [HNL.out]; exact hlt2)
          rw [hnk] at htk
          have hkb : (k : Int) * (b : Int) = ((k * b : Nat) : Int) := by simp
          obtain ⟨P, hP⟩ : ∃ P, k * b = P := ⟨_, rfl⟩
          rw [hP] at hkN hkb hdg
          have hPb : P + b ≤ 16000 := by omega
          have HTK := hid htk; have HDD := hid hddD; have HDG := hid hdg; have HDL := hid hddl
          clear hnk hdd hddD hdg htk hP hddl
          go_wp2
          go_loop [15, 16] (fun v j => ∃ q : Nat, q ≤ b ∧ j = .int .i64 q ∧ v = .int .i64 (valD (dd.take q) : Int)) (fun _ j => b - (intOf j).toNat)
          case atStart => exact ⟨0, Nat.zero_le _, rfl, rfl⟩
          case round =>
            obtain ⟨q9, hq9, rfl, rfl⟩ := hrel
            have hvl : valD (dd.take q9) ≤ 65535 := by
              have h5 := valD_lt (l := dd.take q9) (fun d hd => HDD.out d (List.mem_of_mem_take hd))
              have h6 : (2 : Nat) ^ (dd.take q9).length ≤ 2 ^ 16 := Nat.pow_le_pow_right (by decide) (by rw [List.length_take]; omega)
              have h7 : (2 : Nat) ^ 16 = 65536 := by decide
              omega
            by_cases hlt3 : q9 < b
            · have hst := valD_take (dd := dd) (j := q9) (by have := HDL.out; omega)
              have hd1 : dd[q9]?.getD 0 < 2 := by
                have h5 : q9 < dd.length := by have := HDL.out; omega
                rw [List.getElem?_eq_getElem h5]
                exact HDD.out _ (List.getElem_mem _)
              obtain ⟨ao3, cap3, hs1, -, -, -, hs2⟩ := HALL.out.below hbx
              rw [intsOf_length, HLL.out] at hs1 hs2
              simp only [Value.slice.injEq] at hs1
              obtain ⟨rfl, -, rfl⟩ := hs1
              obtain ⟨b3, o3, rfl, hcell⟩ := hs2 (by have := HLN.out; have := HLL.out; omega)
              have hidx : P + q9 < 8 * q := by have := HLN.out; have := HLL.out; omega
              have e2 := hcell (P + q9) hidx
              rw [intsOf_get l (P + q9) (by rw [HLL.out]; exact hidx), ← HDG.out q9] at e2
              obtain ⟨d, hd⟩ : ∃ d, dd[q9]?.getD 0 = d := ⟨_, rfl⟩
              obtain ⟨vv, hvv⟩ : ∃ vv, valD (dd.take q9) = vv := ⟨_, rfl⟩
              rw [hd] at e2 hst hd1
              rw [hvv] at hvl hst ⊢
              have hPq : (P : Int) + (q9 : Int) = ((P + q9 : Nat) : Int) := by simp
              obtain ⟨t, ht⟩ : ∃ t, P + q9 = t := ⟨_, rfl⟩
              rw [ht] at e2 hPq hidx
              have HST := hid hst
              clear hst hcell hs2 hd hvv ht
              go_wp2
              go_round
              case rel => exact ⟨q9 + 1, by omega, by go_num, by rw [HST.out]; go_num⟩
              case measure => simp [intOf]; omega
            · obtain rfl : q9 = b := by omega
              obtain ⟨x, hx⟩ : ∃ x, valD (dd.take q9) = x := ⟨_, rfl⟩
              rw [hx] at hvl ⊢
              have HTK2 : Hid ((intsOf (ns.take (k + 1))).map (Value.int .i64) = (intsOf (ns.take k)).map (Value.int .i64) ++ [.int .i64 (x : Int)]) := by rw [← hx]; exact HTK.out
              clear hx HTK hnilO
              go_wp2_with (at_builtin; go_loud (refine wpList_append_own _ rfl _ _ 42 rfl (X0.heap.size) 3 i0 (.int .i64 0) 1 8 Tryd.underlying42 hi hiz0 hiz1 hiz2 rfl (by decide) _ _ _ rfl (hown.alloc _) ⟨wr.heap.size, 0, none⟩ 1 1 [.int .i64 ((x : Int))] rfl rfl (one_new _ _ _) (one_int _ _) (by unfold maxLen; omega) (by omega) (by simp; omega) ?_); intro v' w1' hown' hgrow' hnil')
              have hown2 : w1'.ownsRow X0.heap.size 3 1 v' (k + 1) ((intsOf (ns.take (k + 1))).map (Value.int .i64)) := by rw [HTK2.out]; exact hown'
              have hb2 : Below X0.heap.size X0 w1' := (hbx.alloc hsx9 _).grown hgrow' (by simp; omega) (fun r e => (hown.lt r e).1)
              go_roundw
              case rel => exact ⟨k + 1, by omega, by go_num, hown2, by simp, hb2⟩
              case measure => simp [intOf]; omega
        · obtain rfl : k = N := by omega
          rw [show ns.take k = ns by rw [← HNL.out, List.take_length]] at hown
          have hsl := row_get HNL.out.symm hown
          obtain ⟨ao5, cap5, rfl, -, -, -, hrow5⟩ := id hsl
          rw [intsOf_length, HNL.out] at hnilO hown ⊢
          have HP1 := hid (fun W h => HPK.out ao5 cap5 W h)
          have HR5 : Hid (RowAt wr ao5 (intsOf ns)) := hrow5
          have HOW := hid hown; have HNO := hid hnilO
          clear hsl hrow5 hown hnilO
          cases good with
          | true =>
            have hcm := HCMP.out
            go_wp2_with (go_at_call 33; ((with_reducible refine (HP1.out _ HR5.out).mono ?_); rintro e w4 ⟨rfl, hb4⟩))
            go_region
            go_wp2
            ((show bodyPost _ _ _ _ _ _); refine bodyPost_ret (by simp only [results, Tryd.results38]; go_simp; try rfl) rfl ?_)
            exact ⟨_, rfl, ⟨(below_row hb4 HOW.out).drew.base_le (by omega), HNO.out⟩, by (repeat' (first | (with_reducible exact Below.refl _ _) | (with_reducible assumption) | (with_reducible refine Below.new ?_ _) | (with_reducible refine Below.alloc ?_ ?_ _) | (with_reducible refine Below.drew ?_) | (with_reducible refine Below.setCell ?_ ?_ _) | (refine Below.step ?_ (by assumption)) | go_size))⟩
          | false =>
            have hcm := HCMP.out
            go_wp2_with (go_at_call 33; ((with_reducible refine (HP1.out _ HR5.out).mono ?_); rintro e w4 ⟨rfl, hb4⟩))
            ((show bodyPost _ _ _ _ _ _); refine bodyPost_ret (by simp only [results, Tryd.results38]; go_simp; try rfl) rfl ?_)
            exact ⟨rfl, by (repeat' (first | (with_reducible exact Below.refl _ _) | (with_reducible assumption) | (with_reducible refine Below.new ?_ _) | (with_reducible refine Below.alloc ?_ ?_ _) | (with_reducible refine Below.drew ?_) | (with_reducible refine Below.setCell ?_ ?_ _) | (refine Below.step ?_ (by assumption)) | go_size))⟩
end Go.Proofs.YtpgifmccajcgkaaDoor
