/- Packed lists: the writer. -/
import Derived.Test.YtpgifmccajcgkaaDoorPkC
import Derived.Test.YtpgifmccajcgkaaDoorVarM
import Derived.Deep.AppendLies
namespace Go.Proofs.YtpgifmccajcgkaaDoor
set_option linter.unusedVariables false
set_option linter.unusedSimpArgs false
open Go.ChangeShapes Go.WideShapes Go.ChangeAt Go.RowKit

def u8s (l : List UInt8) : List Value := l.map fun (c : UInt8) => Value.int .u8 (c.toNat : Int)
theorem u8s_snoc (l : List UInt8) (c : UInt8) : u8s (l ++ [c]) = u8s l ++ [Value.int .u8 (c.toNat : Int)] := by simp [u8s]
theorem u8s_length (l : List UInt8) : (u8s l).length = l.length := by simp [u8s]

/-- A writer in block b: its whole bytes, the digits that wait; the row of its bytes lies in none of the blocks X. -/
def WrQ (B b : Nat) (X : List Nat) (o0 : List UInt8) (E Q : List Nat) (w : World) : Prop :=
  ∃ v, w.heap[b]? = some (.cells #[.int .u64 ((valD Q : Nat) : Int), .int .i64 ((Q.length : Nat) : Int), v] 89 (0, 0)) ∧
    w.ownsRow B 5 1 v (o0.length + E.length / 8) (u8s (o0 ++ bytesD E)) ∧ ∀ g, v.ownBlock = some g → g ∉ X
/-- What the count's cell says. -/
def cntAt (b : Nat) (w : World) : Nat := match w.cell? ⟨b, 1, none⟩ with | some (.int _ n) => n.toNat | _ => 0
theorem WrQ.cnt {B b : Nat} {X : List Nat} {o0 : List UInt8} {E Q : List Nat} {w : World} (h : WrQ B b X o0 E Q w) : cntAt b w = Q.length := by
  obtain ⟨v, h1, _⟩ := h
  unfold cntAt
  rw [blk_cell h1]
  simp
theorem grown_far {w w' : World} {row : Option Nat} (h : w.grownBy w' row) {k : Nat} {o : Obj} (hk : w.heap[k]? = some o) (hne : row ≠ some k) : w'.heap[k]? = some o := (h.block k (blk_lt hk) (fun e => hne e.symm)).trans hk

theorem bytesD_step {E A : List Nat} (h : E.length % 8 = 0) (hA : A.length = 8) : bytesD (E ++ A) = bytesD E ++ [UInt8.ofNat (valD A)] := by
  rw [bytesD_append h]
  have : bytesD A = bytesD (A ++ []) := by simp
  rw [this, bytesD_cons hA, bytesD_small (l := []) (by simp)]
theorem valD_cut (Q : List Nat) (d : Nat) (h : isD Q) (hl : Q.length = d + 8) : valD Q / 2 ^ d = valD (Q.take 8) ∧ valD Q % 2 ^ d = valD (Q.drop 8) := by
  have e : Q = Q.take 8 ++ Q.drop 8 := (List.take_append_drop 8 Q).symm
  have hd : (Q.drop 8).length = d := by simp; omega
  have h2 : isD (Q.drop 8) := by rw [e] at h; exact isD_right h
  have h3 := valD_lt h2
  have h4 := valD_append (Q.take 8) (Q.drop 8)
  rw [← e, hd] at h4
  rw [hd] at h3
  rw [h4]
  constructor
  · rw [Nat.add_comm, Nat.add_mul_div_right _ _ (Nat.two_pow_pos d), Nat.div_eq_of_lt h3, Nat.zero_add]
  · rw [Nat.add_comm, Nat.add_mul_mod_self_right, Nat.mod_eq_of_lt h3]

set_option maxRecDepth 100000 in
set_option maxHeartbeats 4000000 in
theorem wput_any (B b k : Nat) (bl : Nat) (o0 : List UInt8) (E0 Q0 : List Nat) (xs : List Nat) (ao : Option Addr) (L cap : Nat) (hL : xs.length = L) (w W0 : World) (hW : WrQ B b [b, bl] o0 E0 Q0 w) (hE0 : E0.length % 8 = 0) (hQ0 : Q0.length < 8) (hD : isD Q0)
    (hb : Below B W0 w) (hBb : B ≤ b) (hB0 : B ≤ W0.heap.size) (hk : k ≤ 16) (hx : ∀ x ∈ xs, x < 2 ^ k) (hx2 : ∀ x ∈ xs, x ≤ 65535) (hL2 : L ≤ 1000) (hE2 : o0.length + E0.length ≤ 100000) (hblb : bl ≠ b) (hblw : bl < w.heap.size)
    (hr : 0 < L → ∃ off, ao = some ⟨bl, off, none⟩ ∧ ∀ j, j < L → w.cell? ⟨bl, off + j, none⟩ = some (.int .i64 ((xs[j]?.getD 0 : Nat) : Int))) :
    Calls Tryd.prog 55 #[.pointer (some ⟨b, 0, none⟩), .int .i64 (k : Int), .slice ao L cap] w fun e w' => (∃ r, e = .returned r) ∧ (∃ E Q, E ++ Q = E0 ++ Q0 ++ flatD k xs ∧ E.length % 8 = 0 ∧ Q.length < 8 ∧ isD Q ∧ WrQ B b [b, bl] o0 E Q w') ∧ Below B W0 w' := by
  obtain ⟨iu, hui, huz0, huz1, huz2⟩ := info_parts info_u8
  have HX := hid hx; have HX2 := hid hx2; have HL := hid hL; have HR := hid hr; have HD := hid hD
  have HW := hid hW; have HB := hid hb
  clear hx hx2 hL hr hD hW hb
  go_enter Tryd.func55, Tryd.ntmps55
  go_wp2
  go_loopw [10] (fun i wr => ∃ (n : Nat) (E Q : List Nat), n ≤ L ∧ i = .int .i64 n ∧ E ++ Q = E0 ++ Q0 ++ flatD k (xs.take n) ∧ E.length % 8 = 0 ∧ Q.length < 8 ∧ isD Q ∧ WrQ B b [b, bl] o0 E Q wr ∧ Below B W0 wr ∧ wr.heap[bl]? = w.heap[bl]?) (fun i _ => L - (intOf i).toNat)
  case atStart => exact ⟨0, E0, Q0, Nat.zero_le _, rfl, by simp [flatD], hE0, hQ0, HD.out, HW.out, HB.out, rfl⟩
  case round =>
    obtain ⟨n, E, Q, hn, rfl, hEQ, hE8, hQ8, hQD, hwr, hbel, hbl⟩ := hrel
    by_cases hlt : n < L
    · obtain ⟨off, rfl, hc⟩ := HR.out (by omega)
      have e0 : wr.cell? ⟨bl, off + n, none⟩ = some (.int .i64 ((xs[n]?.getD 0 : Nat) : Int)) := by
        rw [← hc n hlt]
        unfold World.cell?
        rw [hbl]
      have hx0 : xs[n]?.getD 0 ∈ xs := by
        rw [List.getElem?_eq_getElem (by rw [HL.out]; exact hlt)]; exact List.getElem_mem _
      have htk : flatD k (xs.take (n + 1)) = flatD k (xs.take n) ++ dig k (xs[n]?.getD 0) := by
        rw [List.take_succ_eq_append_getElem (by rw [HL.out]; exact hlt), flatD_snoc, List.getElem?_eq_getElem (by rw [HL.out]; exact hlt)]; rfl
      obtain ⟨x, hxx⟩ : ∃ x, xs[n]?.getD 0 = x := ⟨_, rfl⟩
      rw [hxx] at e0 hx0 htk
      have hxk := HX.out x hx0
      have hx65 := HX2.out x hx0
      obtain ⟨v, hblk, hown, hvX⟩ := hwr
      have hvQ := valD_lt hQD
      have HA := hid (fun W h => add_any b (valD Q) Q.length x k v 89 W h hk (by omega) hvQ hxk)
      have HK := hid hblk
      have hval : valD Q * 2 ^ k + x = valD (Q ++ dig k x) := by rw [valD_append, dig_length, valD_dig, Nat.mod_eq_of_lt hxk]
      have hlen : Q.length + k = (Q ++ dig k x).length := by rw [List.length_append, dig_length]
      rw [hval, hlen] at HA
      have hQ2D : isD (Q ++ dig k x) := isD_append hQD (dig_is _ _)
      have hQ2l : (Q ++ dig k x).length ≤ 23 := by rw [← hlen]; omega
      have hEQ2 := hid (show E ++ (Q ++ dig k x) = E0 ++ Q0 ++ flatD k (xs.take (n + 1)) by rw [htk, ← List.append_assoc, hEQ, List.append_assoc])
      clear hc hxx htk hx0 hEQ hblk hval hlen hvQ
      go_wp2_with (go_at_call 77; refine (HA.out _ HK.out).mono ?_; rintro e w2 ⟨⟨r, rfl⟩, hd2, ho2⟩)
      have hw2b : w2.heap[bl]? = w.heap[bl]? := by
        have hz := blk_lt HK.out
        have hlw : bl < wr.heap.size := by
          have := hbl ▸ (Array.getElem?_eq_some_iff.2 ⟨hblw, rfl⟩ : w.heap[bl]? = some w.heap[bl])
          exact blk_lt this
        rw [ho2.block bl hlw hblb]; exact hbl
      have hbel2 : Below B W0 w2 := ho2.below hbel hBb (Nat.le_trans hB0 hbel.size)
      have hown2 : w2.ownsRow B 5 1 v (o0.length + E.length / 8) (u8s (o0 ++ bytesD E)) := hown.kept ho2.grown (by
        cases hv : v.ownBlock with
        | none => exact .inl rfl
        | some g => exact .inr fun e => by cases e; exact hvX _ hv (by simp))
      have hFl : E.length + (Q ++ dig k x).length ≤ 120000 := by
        have h1 := congrArg List.length hEQ2.out
        simp only [List.length_append, flatD_length] at h1
        have h2 : (xs.take (n + 1)).length ≤ 1000 := by rw [List.length_take]; omega
        have h3 : (xs.take (n + 1)).length * k ≤ 1000 * 16 := Nat.mul_le_mul h2 hk
        rw [List.length_append]
        omega
      obtain ⟨Q2, hQ2⟩ : ∃ Q2, Q ++ dig k x = Q2 := ⟨_, rfl⟩
      rw [hQ2] at hd2 hQ2D hQ2l hEQ2 hFl
      clear hQ2 HK ho2 hown hbel hbl HA hQD
      go_loopw [] (fun wi => ∃ (E' Q' : List Nat), E' ++ Q' = E ++ Q2 ∧ E'.length % 8 = 0 ∧ Q'.length ≤ 23 ∧ isD Q' ∧ WrQ B b [b, bl] o0 E' Q' wi ∧ Below B W0 wi ∧ wi.heap[bl]? = w.heap[bl]?) (fun wi => cntAt b wi)
      case atStart => exact ⟨E, Q2, rfl, hE8, hQ2l, hQ2D, ⟨v, hd2, hown2, hvX⟩, hbel2, hw2b⟩
      case round =>
        clear hd2 hown2 hvX hbel2 hw2b hQ2l hQ2D
        obtain ⟨E', Q', hEQ', hE8', hQ8', hQD', hwr', hbel', hbl'⟩ := hrel
        have hcnt := hid hwr'.cnt
        obtain ⟨v, hblk, hown, hvX⟩ := hwr'
        have hEl : E'.length + Q'.length ≤ 120000 := by
          have h1 := congrArg List.length hEQ'
          simp only [List.length_append] at h1
          omega
        have c1 : wr.cell? ⟨b, 1, none⟩ = some (.int .i64 (Q'.length : Int)) := by rw [blk_cell hblk]; rfl
        by_cases h8 : 8 ≤ Q'.length
        · obtain ⟨d, hd⟩ : ∃ d, Q'.length = d + 8 := ⟨Q'.length - 8, by omega⟩
          have hvl := valD_lt hQD'
          have hvc := valD_cut Q' d hQD' hd
          rw [hd] at hvl
          have HT := hid (fun W h => take_any b (valD Q') d 8 v 89 W h (by omega) hvl)
          rw [hvc.1, hvc.2] at HT
          have h8d : isD (Q'.take 8) := fun z hz => hQD' z (List.mem_of_mem_take hz)
          have h8l : (Q'.take 8).length = 8 := by simp; omega
          have h8v : valD (Q'.take 8) < 256 := by have := valD_lt h8d; rw [h8l] at this; simpa using this
          have hst := bytesD_step hE8' h8l
          obtain ⟨y, hy⟩ : ∃ y, valD (Q'.take 8) = y := ⟨_, rfl⟩
          rw [hy] at HT h8v hst
          have hyu : ((UInt8.ofNat y).toNat : Int) = (y : Int) := by simp; omega
          have hE2' : (E' ++ Q'.take 8).length = E'.length + 8 := by rw [List.length_append, h8l]
          have hwrap : IntKind.u8.wrap (y : Int) = (y : Int) := by simp [IntKind.wrap, IntKind.bits, IntKind.signed]; omega
          have c2 : wr.cell? ⟨b, 2, none⟩ = some v := by rw [blk_cell hblk]; rfl
          have f2 : wr.frozen? ⟨b, 2, none⟩ = false := blk_free hblk
          have hK : DigAt wr b (valD Q') (d + 8) v 89 := by have := hblk; rw [hd] at this; exact this
          have HK := hid hK
          rw [hd] at c1
          have hz := blk_lt hblk
          have hBw : B ≤ wr.heap.size := by omega
          have HO := hid hown; have HV := hid hvX
          have hQD2 := hid (show isD (Q'.drop 8) from fun z hz => hQD' z (List.mem_of_mem_drop hz))
          have hblw2 : bl < wr.heap.size := by
            have := hbl' ▸ (Array.getElem?_eq_some_iff.2 ⟨hblw, rfl⟩ : w.heap[bl]? = some w.heap[bl])
            exact blk_lt this
          have HEQ := hid hEQ'; have HST := hid hst; have HYU := hid hyu; have HE2 := hid hE2'; have HHD := hid hd; have HBL := hid hbl'
          have hdl : (Q'.drop 8).length = d := by simp; omega
          have HDL := hid hdl
          clear hvc hvl hK hblk hy hQD' h8d hEQ' hst hyu hE2' hbl' hdl h8l
          go_wp2
          go_region_law (first
            | (refine step_append_lies _ (by rfl) _ _ _ (by rfl) B 5 iu _ 1 1 Tryd.underlying82 hui huz0 huz1 huz2 rfl (by omega) v (o0.length + E'.length / 8) (u8s (o0 ++ bytesD E')) (by rfl) (hown3.alloc _)
                ⟨w3.heap.size, 0, none⟩ 1 1 [.int .u8 (y : Int)] (by rfl) (by rfl) (one_new _ _ _) (one_int _ _) (by omega) (by unfold maxLen; omega) (by omega) (by simp; omega) (w3.heap.size + 1) (by simp) ?_; intro g cap' w1 hown1 hgrow hat hlt1; have hb4 := grown_far hgrow ((heap_past (by omega)).trans hd3) (fun e => HV.out b e (by simp)); have hc4 : w1.cell? ⟨b, 2, none⟩ = some v := (by rw [blk_cell hb4]; rfl); have hf4 : w1.frozen? ⟨b, 2, none⟩ = false := (blk_free hb4))
            | (go_simp; go_at_call 78; refine (HT.out _ ?_).mono ?_; exact HK.out; rintro e w3 ⟨rfl, hd3, ho3'⟩; have ho3 : OnlyAt b wr w3 := ⟨ho3'.os, ho3'.tape, ho3'.output, ho3'.size, ho3'.block⟩; clear ho3'; have hc3 : w3.cell? ⟨b, 2, none⟩ = some v := (by rw [blk_cell hd3]; rfl); have hf3 : w3.frozen? ⟨b, 2, none⟩ = false := (blk_free hd3); have hz3 := ho3.size; (try simp only [World.size_drew] at hz3); have hlt3 : b < w3.heap.size := (by omega); have hown3 : w3.ownsRow B 5 1 v (o0.length + E'.length / 8) (u8s (o0 ++ bytesD E')) := (HO.out.kept ho3.grown (by cases hv : v.ownBlock with | none => exact .inl rfl | some g => exact .inr fun e => by cases e; exact HV.out _ hv (by simp)))))
          all_goals
            go_wp2
            have hX1 : ∀ g', (Value.slice (some ⟨g, 0, none⟩) (o0.length + E'.length / 8 + 1) cap').ownBlock = some g' → g' ∉ [b, bl] := by
              intro g' e
              obtain rfl : g = g' := by simpa [Value.ownBlock] using e
              rcases hat with h | h
              · exact HV.out _ h
              · simp; omega
            have hgb : g ≠ b := fun e => hX1 g rfl (by simp [e])
            have hB4 : Below B W0 w1 := (((ho3.below hbel' hBb hBw).alloc (by omega) _).grown hgrow (by simp; omega) (fun r e => (HO.out.lt r e).1))
            have hown4 : w1.ownsRow B 5 1 (.slice (some ⟨g, 0, none⟩) (o0.length + E'.length / 8 + 1) cap') (o0.length + (E' ++ Q'.take 8).length / 8) (u8s (o0 ++ bytesD (E' ++ Q'.take 8))) := by
              rw [HST.out, ← List.append_assoc, u8s_snoc, HYU.out, HE2.out, show o0.length + (E'.length + 8) / 8 = o0.length + E'.length / 8 + 1 by omega]; exact hown1
            have hblk4 := blk_set (o := 2) (v := .slice (some ⟨g, 0, none⟩) (o0.length + E'.length / 8 + 1) cap') hb4
            have hbl4 : (w1.setCell ⟨b, 2, none⟩ (.slice (some ⟨g, 0, none⟩) (o0.length + E'.length / 8 + 1) cap')).heap[bl]? = w.heap[bl]? := by
              rw [heap_set_other hblb, hgrow.block bl (by simp; omega) (fun e => HV.out bl e.symm (by simp)), heap_past (by omega), ho3.block bl hblw2 hblb]; exact HBL.out
            go_roundw
            case rel => exact ⟨E' ++ Q'.take 8, Q'.drop 8, by rw [List.append_assoc, List.take_append_drop]; exact HEQ.out, by rw [HE2.out]; omega, by rw [HDL.out]; omega, hQD2.out, ⟨_, by rw [HDL.out]; exact hblk4, ownsRow_setCell_other hown4 (by simp [Value.ownBlock]; exact hgb) _, hX1⟩, hB4.setCell (by simp; omega) _, hbl4⟩
            case measure =>
              have e1 : cntAt b (w1.setCell ⟨b, 2, none⟩ (.slice (some ⟨g, 0, none⟩) (o0.length + E'.length / 8 + 1) cap')) = d := by
                unfold cntAt; rw [blk_cell hblk4]; simp
              have e2 := hcnt.out
              rw [HHD.out] at e2
              first | (rw [e1, e2]; omega) | (show cntAt b _ < _; rw [e1, e2]; omega)
        · have h8l : Q'.length < 8 := by omega
          have HEQ := hid (hEQ'.trans hEQ2.out); have HV := hid hvX; have HO := hid hown; have HK := hid hblk; have HBL := hid hbl'
          clear hEQ' hblk hbl' hown
          go_wp2
          go_roundw
          case rel => exact ⟨n + 1, E', Q', by omega, by go_num, HEQ.out, hE8', h8l, hQD', ⟨v, HK.out, HO.out, HV.out⟩, hbel', HBL.out⟩
          case measure => simp [intOf]; omega
    · obtain rfl : n = L := by omega
      have hall : xs.take n = xs := by rw [← HL.out, List.take_length]
      rw [hall] at hEQ
      have HEQ := hid hEQ
      clear hEQ hall hbl
      go_wp2
      go_end0
      exact ⟨⟨_, rfl⟩, ⟨E, Q, HEQ.out, hE8, hQ8, hQD, hwr⟩, hbel⟩
end Go.Proofs.YtpgifmccajcgkaaDoor
