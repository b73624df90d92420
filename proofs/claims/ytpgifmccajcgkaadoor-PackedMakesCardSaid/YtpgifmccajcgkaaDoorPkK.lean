/- Packed lists: the program's 'At'. -/
import Derived.Test.YtpgifmccajcgkaaDoorPkJ
namespace Go.Proofs.YtpgifmccajcgkaaDoor
set_option linter.unusedVariables false
set_option linter.unusedSimpArgs false
open Go.ChangeShapes Go.WideShapes Go.ChangeAt Go.RowKit Go.Shelf

/-- What 'At' answers. -/
def atV (C : Nat) (xs : List Nat) (p : Int) : Nat × Nat := if C ≠ 0 then (0, C) else if p < 0 ∨ (xs.length : Int) ≤ p then (0, 40) else (xs[p.toNat]?.getD 0, 0)
theorem intsOf_length (ns : List Nat) : (intsOf ns).length = ns.length := by simp [intsOf]
theorem intsOf_get (ns : List Nat) (k : Nat) (h : k < ns.length) : (intsOf ns)[k]?.getD 0 = ((ns[k]?.getD 0 : Nat) : Int) := by
  unfold intsOf
  rw [List.getElem?_map, List.getElem?_eq_getElem h]; rfl
theorem row_get {w : World} {base e n : Nat} {v : Value} {ns : List Nat} (hn : n = ns.length) (h : w.ownsRow base e 1 v n ((intsOf ns).map (Value.int .i64))) : SliceAt w v (intsOf ns) :=
  SliceAt.own (by rw [intsOf_length, ← hn]; exact h)
theorem pun_len {s : List UInt8} {C T : Nat} {xs : List Nat} (h : punV s = (C, xs, T)) : xs.length ≤ 1000 ∧ small xs := by
  by_cases hc : C = 0
  · subst hc
    obtain ⟨_, h2, h3, _⟩ := pun_ok h
    exact ⟨h2, h3⟩
  · have := punV_bad (s := s) (by rw [h]; exact hc)
    rw [h] at this
    simp only [Prod.mk.injEq] at this
    obtain rfl : xs = [] := this.2.1
    exact ⟨by simp, fun x hx => absurd hx List.not_mem_nil⟩

set_option maxRecDepth 100000 in
set_option maxHeartbeats 2000000 in
theorem at_is (am an : Addr) (s : ByteArray) (hs : s.size ≤ 1000000) {C T : Nat} {xs : List Nat} (hp : punV (bytesOf s) = (C, xs, T)) (p : Int) (w : World) (hsent : Sent am an w) (n c : Nat) (hv : atV C xs p = (n, c)) :
    Calls Tryd.prog 39 #[.string s, .int .i64 p] w fun e w' => e = .returned (.tuple #[.int .i64 (n : Int), .int .i64 (c : Int)]) ∧ Below w.heap.size w w' := by
  have HU := hid (fun W h => punpack_is am an s hs hp W h)
  have HS := hid hsent
  obtain ⟨hl, hsm⟩ := pun_len hp
  generalize s.extract T s.size = r at HU
  clear hp hsent
  by_cases hC : C = 0
  · subst hC
    by_cases h0 : p < 0
    · obtain ⟨rfl, rfl⟩ : n = 0 ∧ c = 40 := by simp [atV, h0] at hv; omega
      clear hv
      go_enter Tryd.func39, Tryd.ntmps39
      go_wp2_with (go_at_call 36; ((with_reducible refine (HU.out _ HS.out).mono ?_); rintro e w1 ⟨v, rfl, hown, hnil, hb1⟩; have HN := hid hnil; clear hnil; obtain ⟨ao, cap, rfl⟩ := hown.shape; have HO := hid hown; clear hown))
      go_ret2
      exact ⟨rfl, hb1⟩
    · obtain ⟨J, rfl⟩ := Int.eq_ofNat_of_zero_le (show 0 ≤ p by omega)
      by_cases h1 : xs.length ≤ J
      · obtain ⟨rfl, rfl⟩ : n = 0 ∧ c = 40 := by simp [atV, h1] at hv; omega
        clear hv h0
        go_enter Tryd.func39, Tryd.ntmps39
        go_wp2_with (go_at_call 36; ((with_reducible refine (HU.out _ HS.out).mono ?_); rintro e w1 ⟨v, rfl, hown, hnil, hb1⟩; have HN := hid hnil; clear hnil; obtain ⟨ao, cap, rfl⟩ := hown.shape; have HO := hid hown; clear hown))
        go_ret2
        exact ⟨rfl, hb1⟩
      · have h2 : J < xs.length := by omega
        obtain ⟨hnx, rfl⟩ : n = xs[J]?.getD 0 ∧ c = 0 := by
          have : ¬ ((J : Int) < 0 ∨ (xs.length : Int) ≤ J) := by omega
          unfold atV at hv
          rw [if_neg (by simp), if_neg this] at hv
          simp only [Int.toNat_natCast, Prod.mk.injEq] at hv
          exact ⟨hv.1.symm, hv.2.symm⟩
        have hget := intsOf_get xs J h2
        rw [← hnx] at hget
        have HG := hid hget
        clear hv h0 hget h1 hnx
        go_enter Tryd.func39, Tryd.ntmps39
        go_wp2_with (go_at_call 36; ((with_reducible refine (HU.out _ HS.out).mono ?_); rintro e w1 ⟨v, rfl, hown, hnil, hb1⟩; clear hnil; obtain ⟨ao, cap, hsl, hcap, hmx, hn0, hrow⟩ := row_get rfl hown; clear hown; rw [intsOf_length] at hsl; subst hsl; obtain ⟨g, off, rfl, hcell⟩ := hrow (by rw [intsOf_length]; omega); have hcJ := hcell J (by rw [intsOf_length]; exact h2); rw [HG.out] at hcJ; clear hcell hrow hn0 hcap))
        go_ret2
        exact ⟨rfl, hb1⟩
  · obtain ⟨rfl, rfl⟩ : n = 0 ∧ c = C := by simp [atV, hC] at hv; omega
    have hCb : ((c : Int) == 0) = false := by simpa using hC
    have hCn : ((c : Int) != 0) = true := by simpa using hC
    clear hv
    generalize (c : Int) = cc at HU hCb hCn ⊢
    clear hC
    go_enter Tryd.func39, Tryd.ntmps39
    go_wp2_with (go_at_call 36; ((with_reducible refine (HU.out _ HS.out).mono ?_); rintro e w1 ⟨v, rfl, hown, hnil, hb1⟩; have HN := hid hnil; clear hnil; obtain ⟨ao, cap, rfl⟩ := hown.shape; have HO := hid hown; clear hown))
    go_ret2
    exact ⟨rfl, hb1⟩
end Go.Proofs.YtpgifmccajcgkaaDoor
