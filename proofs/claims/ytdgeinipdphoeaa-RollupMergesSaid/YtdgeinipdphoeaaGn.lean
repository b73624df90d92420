/- Texts joined: RoqF, RoqG, RoqH, RoqI, RoqJ, RoqK. -/
import Derived.Test.YtdgeinipdphoeaaGm
import Derived.Test.YtdgeinipdphoeaaGd
import Derived.Test.YtdgeinipdphoeaaGe
import Derived.Test.YtdgeinipdphoeaaGc
import Derived.Test.YtdgeinipdphoeaaGl
import Derived.Test.YtdgeinipdphoeaaGg
import Derived.Test.YtdgeinipdphoeaaGa
/- Rollup: is a cell right, by the reference. -/
namespace Go.Proofs.Ytdgeinipdphoeaa
set_option linter.unusedVariables false
set_option linter.unusedSimpArgs false
set_option maxRecDepth 100000
open Go.ChangeShapes Go.WideShapes Go.ChangeAt Go.RowKit

def cellR (s : SchD) (c : CellD) : Bool := fitsC s c && ((cutV c.t s.g == c.t) && ((decide (1 ≤ c.n) && decide (c.n ≤ 1000000)) && ((c.sums.length == s.ms.length) && (c.maxs.length == s.ms.length))))
theorem cellR_is (s : SchD) (c : CellD) : cellH s c = cellR s c := by
  unfold cellH cellR
  cases hF : fitsC s c with
  | false => simp
  | true =>
    have hf := hF
    unfold fitsC fitsS rightS at hf
    simp only [Bool.and_eq_true, decide_eq_true_eq] at hf
    obtain ⟨⟨_, _, h1, _⟩, h2, _, h3, _⟩ := hf
    have hE : cutE c.t s.g = 0 := by
      unfold cutE
      rw [(isTimeB_iff _).2 (by omega), (isGrainB_iff _).2 (by omega)]
      rfl
    rw [hE, h3]
    simp only [beq_self_eq_true, Bool.true_and, Bool.and_assoc]
theorem cellR_len {s : SchD} {c : CellD} (h : cellR s c = true) : fitsC s c = true ∧ cutV c.t s.g = c.t ∧ 1 ≤ c.n ∧ c.n ≤ 1000000 ∧ c.sums.length = s.ms.length ∧ c.maxs.length = s.ms.length ∧ c.mins.length = s.ms.length := by
  unfold cellR at h
  simp only [Bool.and_eq_true, decide_eq_true_eq, beq_iff_eq] at h
  obtain ⟨h1, h2, ⟨h3, h4⟩, h5, h6⟩ := h
  refine ⟨h1, h2, h3, h4, h5, h6, ?_⟩
  unfold fitsC fitsS at h1
  simp only [Bool.and_eq_true, decide_eq_true_eq] at h1
  exact h1.2.2.2.1

set_option maxHeartbeats 4000000 in
theorem refCell_early (s : SchD) (c : CellD) (vd vm vl vs vn vx : Value) (w : World) (hd : StrsSl w vd s.ds) (hm : StrsSl w vm s.ms) (td : Texts s.ds) (tm : Texts s.ms) (hl : ValsSl w vl c.l) (tl : Vals c.l) (hs : WidesSl w vs c.sums) (hn : IntsSl w vn c.mins) (hx : IntsSl w vx c.maxs)
    (hno : cellR s c = false) :
    Calls Try.prog 74 #[.agg #[vd, vm, .int .i64 s.g], .agg #[.int .i64 c.t, vl, .int .i64 c.n, vs, vn, vx]] w fun e w' => e = .returned (.bool false) ∧ Below w.heap.size w w' := by
  have HG := hid (fun W => gRefCut_any c.t s.g W)
  have HF := hid (fun W (h : Below w.heap.size w W) => refFits_any vd vm vl vn s.ds s.ms s.g c.t c.l c.mins.length _ W (hd.below h) (hm.below h) td tm (hl.below h) tl (SlAt.below hn h))
  obtain ⟨ad, cd, rfl, _, _, _⟩ := SlAt.shape hd
  obtain ⟨am, cm, rfl, _, _, _⟩ := SlAt.shape hm
  obtain ⟨al, cl, rfl, _, _, _⟩ := SlAt.shape hl
  obtain ⟨as', cs, rfl, _, _, _⟩ := SlAt.shape hs
  obtain ⟨an, cn, rfl, _, _, _⟩ := SlAt.shape hn
  obtain ⟨ax, cx, rfl, _, _, _⟩ := SlAt.shape hx
  unfold cellR fitsC at hno
  clear hd hm hl hs hn hx td tm tl
  generalize fitsS s.ds s.ms s.g c.t c.l c.mins.length = F at *
  generalize cutE c.t s.g = E at *
  generalize cutV c.t s.g = T at *
  generalize c.t = t at *
  generalize c.n = n at *
  generalize c.l.length = nl at *
  generalize c.sums.length = ns at *
  generalize c.mins.length = nn at *
  generalize c.maxs.length = nx at *
  generalize s.ds.length = nd at *
  generalize s.ms.length = nm at *
  generalize s.g = g at *
  cases F with
  | false =>
    clear hno
    go_enter Try.func74, Try.ntmps74
    go_wp2_with (first
      | (go_at_call 62; ((with_reducible refine (HG.out _).mono ?_); rintro e w3 ⟨rfl, rfl⟩))
      | (go_at_call 24; ((with_reducible refine (HF.out _ (by (repeat' (first | (with_reducible exact Below.refl _ _) | (with_reducible assumption) | (with_reducible refine Below.new ?_ _) | (with_reducible refine Below.alloc ?_ ?_ _) | (with_reducible refine Below.drew ?_) | (with_reducible refine Below.drewN ?_ _) | (with_reducible refine Below.setCell ?_ ?_ _) | (refine Below.step ?_ (by assumption)) | go_size)))).mono ?_); rintro e w4 ⟨rfl, hb4⟩; obtain ⟨hc4, hf4, hk4, hz4⟩ := bcell3 hb4; (try simp only [World.size_alloc, World.size_drew] at hz4); have : w.heap.size < w4.heap.size := (by omega); have : w.heap.size + 1 < w4.heap.size := (by omega); have : w.heap.size + 1 + 1 < w4.heap.size := (by omega))))
    go_ret
    exact ⟨rfl, by (repeat' (first | (with_reducible exact Below.refl _ _) | (with_reducible assumption) | (with_reducible refine Below.new ?_ _) | (with_reducible refine Below.alloc ?_ ?_ _) | (with_reducible refine Below.drew ?_) | (with_reducible refine Below.drewN ?_ _) | (with_reducible refine Below.setCell ?_ ?_ _) | (refine Below.step ?_ (by assumption)) | go_size))⟩
  | true =>
    by_cases h2 : T = t
    · subst h2
      have e2 : (T == T) = true := by simp
      by_cases h3 : n < 1
      · have g3 : decide (n < 1) = true := by simpa using h3
        clear h3 hno
        go_enter Try.func74, Try.ntmps74
        go_wp2_with (first
          | (go_at_call 62; ((with_reducible refine (HG.out _).mono ?_); rintro e w3 ⟨rfl, rfl⟩))
          | (go_at_call 24; ((with_reducible refine (HF.out _ (by (repeat' (first | (with_reducible exact Below.refl _ _) | (with_reducible assumption) | (with_reducible refine Below.new ?_ _) | (with_reducible refine Below.alloc ?_ ?_ _) | (with_reducible refine Below.drew ?_) | (with_reducible refine Below.drewN ?_ _) | (with_reducible refine Below.setCell ?_ ?_ _) | (refine Below.step ?_ (by assumption)) | go_size)))).mono ?_); rintro e w4 ⟨rfl, hb4⟩; obtain ⟨hc4, hf4, hk4, hz4⟩ := bcell3 hb4; (try simp only [World.size_alloc, World.size_drew] at hz4); have : w.heap.size < w4.heap.size := (by omega); have : w.heap.size + 1 < w4.heap.size := (by omega); have : w.heap.size + 1 + 1 < w4.heap.size := (by omega))))
        go_ret
        exact ⟨rfl, by (repeat' (first | (with_reducible exact Below.refl _ _) | (with_reducible assumption) | (with_reducible refine Below.new ?_ _) | (with_reducible refine Below.alloc ?_ ?_ _) | (with_reducible refine Below.drew ?_) | (with_reducible refine Below.drewN ?_ _) | (with_reducible refine Below.setCell ?_ ?_ _) | (refine Below.step ?_ (by assumption)) | go_size))⟩
      · have g3 : decide (n < 1) = false := by simpa using h3
        by_cases h4 : 1000000 < n
        · have g4 : decide (1000000 < n) = true := by simpa using h4
          clear h3 h4 hno
          go_enter Try.func74, Try.ntmps74
          go_wp2_with (first
            | (go_at_call 62; ((with_reducible refine (HG.out _).mono ?_); rintro e w3 ⟨rfl, rfl⟩))
            | (go_at_call 24; ((with_reducible refine (HF.out _ (by (repeat' (first | (with_reducible exact Below.refl _ _) | (with_reducible assumption) | (with_reducible refine Below.new ?_ _) | (with_reducible refine Below.alloc ?_ ?_ _) | (with_reducible refine Below.drew ?_) | (with_reducible refine Below.drewN ?_ _) | (with_reducible refine Below.setCell ?_ ?_ _) | (refine Below.step ?_ (by assumption)) | go_size)))).mono ?_); rintro e w4 ⟨rfl, hb4⟩; obtain ⟨hc4, hf4, hk4, hz4⟩ := bcell3 hb4; (try simp only [World.size_alloc, World.size_drew] at hz4); have : w.heap.size < w4.heap.size := (by omega); have : w.heap.size + 1 < w4.heap.size := (by omega); have : w.heap.size + 1 + 1 < w4.heap.size := (by omega))))
          go_ret
          exact ⟨rfl, by (repeat' (first | (with_reducible exact Below.refl _ _) | (with_reducible assumption) | (with_reducible refine Below.new ?_ _) | (with_reducible refine Below.alloc ?_ ?_ _) | (with_reducible refine Below.drew ?_) | (with_reducible refine Below.drewN ?_ _) | (with_reducible refine Below.setCell ?_ ?_ _) | (refine Below.step ?_ (by assumption)) | go_size))⟩
        · have g4 : decide (1000000 < n) = false := by simpa using h4
          have hq : ns ≠ nm ∨ nx ≠ nm := by
            rw [show decide (1 ≤ n) = true by simp; omega, show decide (n ≤ 1000000) = true by simp; omega] at hno
            by_cases h5 : ns = nm
            · by_cases h6 : nx = nm
              · subst h5; subst h6; simp at hno
              · exact .inr h6
            · exact .inl h5
          clear h3 h4 hno
          by_cases h5 : ns = nm
          · have h6 : nx ≠ nm := hq.resolve_left (fun h => h h5)
            subst h5
            have g6 : ((nx : Int) == (ns : Int)) = false := by simp; omega
            have g6' : decide ((nx : Int) = (ns : Int)) = false := by simp; omega
            have k6 : (nx == ns) = false := by simp; omega
            have k6' : decide (nx = ns) = false := by simp; omega
            clear h6 hq
            go_enter Try.func74, Try.ntmps74
            go_wp2_with (first
              | (go_at_call 62; ((with_reducible refine (HG.out _).mono ?_); rintro e w3 ⟨rfl, rfl⟩))
              | (go_at_call 24; ((with_reducible refine (HF.out _ (by (repeat' (first | (with_reducible exact Below.refl _ _) | (with_reducible assumption) | (with_reducible refine Below.new ?_ _) | (with_reducible refine Below.alloc ?_ ?_ _) | (with_reducible refine Below.drew ?_) | (with_reducible refine Below.drewN ?_ _) | (with_reducible refine Below.setCell ?_ ?_ _) | (refine Below.step ?_ (by assumption)) | go_size)))).mono ?_); rintro e w4 ⟨rfl, hb4⟩; obtain ⟨hc4, hf4, hk4, hz4⟩ := bcell3 hb4; (try simp only [World.size_alloc, World.size_drew] at hz4); have : w.heap.size < w4.heap.size := (by omega); have : w.heap.size + 1 < w4.heap.size := (by omega); have : w.heap.size + 1 + 1 < w4.heap.size := (by omega))))
            go_ret
            exact ⟨rfl, by (repeat' (first | (with_reducible exact Below.refl _ _) | (with_reducible assumption) | (with_reducible refine Below.new ?_ _) | (with_reducible refine Below.alloc ?_ ?_ _) | (with_reducible refine Below.drew ?_) | (with_reducible refine Below.drewN ?_ _) | (with_reducible refine Below.setCell ?_ ?_ _) | (refine Below.step ?_ (by assumption)) | go_size))⟩
          · have g5 : ((ns : Int) == (nm : Int)) = false := by simp; omega
            have g5' : decide ((ns : Int) = (nm : Int)) = false := by simp; omega
            have k5 : (ns == nm) = false := by simp; omega
            have k5' : decide (ns = nm) = false := by simp; omega
            clear hq
            go_enter Try.func74, Try.ntmps74
            go_wp2_with (first
              | (go_at_call 62; ((with_reducible refine (HG.out _).mono ?_); rintro e w3 ⟨rfl, rfl⟩))
              | (go_at_call 24; ((with_reducible refine (HF.out _ (by (repeat' (first | (with_reducible exact Below.refl _ _) | (with_reducible assumption) | (with_reducible refine Below.new ?_ _) | (with_reducible refine Below.alloc ?_ ?_ _) | (with_reducible refine Below.drew ?_) | (with_reducible refine Below.drewN ?_ _) | (with_reducible refine Below.setCell ?_ ?_ _) | (refine Below.step ?_ (by assumption)) | go_size)))).mono ?_); rintro e w4 ⟨rfl, hb4⟩; obtain ⟨hc4, hf4, hk4, hz4⟩ := bcell3 hb4; (try simp only [World.size_alloc, World.size_drew] at hz4); have : w.heap.size < w4.heap.size := (by omega); have : w.heap.size + 1 < w4.heap.size := (by omega); have : w.heap.size + 1 + 1 < w4.heap.size := (by omega))))
            go_ret
            exact ⟨rfl, by (repeat' (first | (with_reducible exact Below.refl _ _) | (with_reducible assumption) | (with_reducible refine Below.new ?_ _) | (with_reducible refine Below.alloc ?_ ?_ _) | (with_reducible refine Below.drew ?_) | (with_reducible refine Below.drewN ?_ _) | (with_reducible refine Below.setCell ?_ ?_ _) | (refine Below.step ?_ (by assumption)) | go_size))⟩
    · have g2 : (T == t) = false := by simpa using h2
      have g2' : decide (T = t) = false := by simpa using h2
      clear hno
      go_enter Try.func74, Try.ntmps74
      go_wp2_with (first
        | (go_at_call 62; ((with_reducible refine (HG.out _).mono ?_); rintro e w3 ⟨rfl, rfl⟩))
        | (go_at_call 24; ((with_reducible refine (HF.out _ (by (repeat' (first | (with_reducible exact Below.refl _ _) | (with_reducible assumption) | (with_reducible refine Below.new ?_ _) | (with_reducible refine Below.alloc ?_ ?_ _) | (with_reducible refine Below.drew ?_) | (with_reducible refine Below.drewN ?_ _) | (with_reducible refine Below.setCell ?_ ?_ _) | (refine Below.step ?_ (by assumption)) | go_size)))).mono ?_); rintro e w4 ⟨rfl, hb4⟩; obtain ⟨hc4, hf4, hk4, hz4⟩ := bcell3 hb4; (try simp only [World.size_alloc, World.size_drew] at hz4); have : w.heap.size < w4.heap.size := (by omega); have : w.heap.size + 1 < w4.heap.size := (by omega); have : w.heap.size + 1 + 1 < w4.heap.size := (by omega))))
      go_ret
      exact ⟨rfl, by (repeat' (first | (with_reducible exact Below.refl _ _) | (with_reducible assumption) | (with_reducible refine Below.new ?_ _) | (with_reducible refine Below.alloc ?_ ?_ _) | (with_reducible refine Below.drew ?_) | (with_reducible refine Below.drewN ?_ _) | (with_reducible refine Below.setCell ?_ ?_ _) | (refine Below.step ?_ (by assumption)) | go_size))⟩
end Go.Proofs.Ytdgeinipdphoeaa
/- Rollup: is a cell right, by the reference: the sums; the whole. Are cells. -/
namespace Go.Proofs.Ytdgeinipdphoeaa
set_option linter.unusedVariables false
set_option linter.unusedSimpArgs false
set_option maxRecDepth 100000
open Go.ChangeShapes Go.WideShapes Go.ChangeAt Go.RowKit

set_option maxHeartbeats 4000000 in
theorem refCell_late (s : SchD) (c : CellD) (vd vm vl vs vn vx : Value) (w : World) (hd : StrsSl w vd s.ds) (hm : StrsSl w vm s.ms) (td : Texts s.ds) (tm : Texts s.ms) (hl : ValsSl w vl c.l) (tl : Vals c.l) (hs : WidesSl w vs c.sums) (hn : IntsSl w vn c.mins) (hx : IntsSl w vx c.maxs)
    (in64 : ∀ x ∈ c.mins, I64 x) (ix64 : ∀ x ∈ c.maxs, I64 x) (hyes : cellR s c = true) :
    Calls Try.prog 74 #[.agg #[vd, vm, .int .i64 s.g], .agg #[.int .i64 c.t, vl, .int .i64 c.n, vs, vn, vx]] w fun e w' => e = .returned (.bool (sumsAll c)) ∧ Below w.heap.size w w' := by
  obtain ⟨hF, hT, hn1, hn2, hs1, hx1, hmi⟩ := cellR_len hyes
  have HG := hid (fun W => gRefCut_any c.t s.g W)
  rw [hT] at HG
  have HF := hid (fun W (h : Below w.heap.size w W) => refFits_any vd vm vl vn s.ds s.ms s.g c.t c.l c.mins.length _ W (hd.below h) (hm.below h) td tm (hl.below h) tl (SlAt.below hn h))
  unfold fitsC at hF
  rw [hF] at HF
  have HI := hid (fun k (h1 : k < c.sums.length) (h2 : k < c.mins.length) (h3 : k < c.maxs.length) W => refSums_any c.sums[k] c.n c.mins[k] c.maxs[k] (in64 _ (List.getElem_mem h2)) (ix64 _ (List.getElem_mem h3)) W)
  have HSUM := hid hs; have HMIN := hid hn; have HMAX := hid hx
  obtain ⟨ad, cd, rfl, _, _, _⟩ := SlAt.shape hd
  obtain ⟨am, cm, rfl, hm5, hm6, _⟩ := SlAt.shape hm
  obtain ⟨al, cl, rfl, _, _, _⟩ := SlAt.shape hl
  obtain ⟨as', cs, rfl, _, _, _⟩ := SlAt.shape hs
  obtain ⟨an, cn, rfl, _, _, _⟩ := SlAt.shape hn
  obtain ⟨ax, cx, rfl, _, _, _⟩ := SlAt.shape hx
  clear hd hm hl hs hn hx td tm tl hyes hT hF in64 ix64
  have HL1 := hid hs1; have HL2 := hid hx1; have HL3 := hid hmi
  rw [hs1, hx1, hmi]
  rw [hmi] at HF
  clear hs1 hx1 hmi
  obtain ⟨L, hL⟩ : ∃ L, s.ms.length = L := ⟨_, rfl⟩
  rw [hL] at HF HL1 HL2 HL3 hm5 ⊢
  clear hL
  unfold maxLen at hm6
  have hL6 : (L : Int) ≤ 9223372036854775807 := by omega
  obtain ⟨t, ht⟩ : ∃ t, c.t = t := ⟨_, rfl⟩
  obtain ⟨n, hn⟩ : ∃ n, c.n = n := ⟨_, rfl⟩
  have HNN := hid hn
  rw [ht] at HG HF ⊢
  rw [hn] at HI hn1 hn2 ⊢
  clear ht hn
  generalize cutE t s.g = E at *
  generalize c.l.length = nl at *
  generalize s.ds.length = nd at *
  generalize s.g = g at *
  have g3 : decide (n < 1) = false := by simp; omega
  have g4 : decide (1000000 < n) = false := by simp; omega
  clear hn1 hn2
  go_enter Try.func74, Try.ntmps74
  go_wp2_with (first
    | (go_at_call 62; ((with_reducible refine (HG.out _).mono ?_); rintro e w3 ⟨rfl, rfl⟩))
    | (go_at_call 24; ((with_reducible refine (HF.out _ (by (repeat' (first | (with_reducible exact Below.refl _ _) | (with_reducible assumption) | (with_reducible refine Below.new ?_ _) | (with_reducible refine Below.alloc ?_ ?_ _) | (with_reducible refine Below.drew ?_) | (with_reducible refine Below.drewN ?_ _) | (with_reducible refine Below.setCell ?_ ?_ _) | (refine Below.step ?_ (by assumption)) | go_size)))).mono ?_); rintro e w4 ⟨rfl, hb4⟩; obtain ⟨hc4, hf4, hk4, hz4⟩ := bcell3 hb4; (try simp only [World.size_alloc, World.size_drew] at hz4); have : w.heap.size < w4.heap.size := (by omega); have : w.heap.size + 1 < w4.heap.size := (by omega); have : w.heap.size + 1 + 1 < w4.heap.size := (by omega))))
  have hB4 : Below w.heap.size w w4 := by (repeat' (first | (with_reducible exact Below.refl _ _) | (with_reducible assumption) | (with_reducible refine Below.new ?_ _) | (with_reducible refine Below.alloc ?_ ?_ _) | (with_reducible refine Below.drew ?_) | (with_reducible refine Below.drewN ?_ _) | (with_reducible refine Below.setCell ?_ ?_ _) | (refine Below.step ?_ (by assumption)) | go_size))
  have r0 : w4.heap[w.heap.size + 1]? = some (.cells #[.int .i64 t, .slice al nl cl, .int .i64 n, .slice as' L cs, .slice an L cn, .slice ax L cx] 46 (0, 0)) := blk_below (by ((simp (disch := first | omega | (simp only [World.size_alloc, World.size_setCell, World.size_drew]; done) | (simp only [World.size_alloc, World.size_setCell, World.size_drew]; omega)) only [heap_at, heap_past, heap_set_other, heap_set_same]))) hb4
  have HB4 := hid (And.intro hB4 r0)
  clear hb4 hc4 hf4 hk4 hz4 HG HF hB4 r0
  go_loopw [9] (fun i wr => ∃ k : Nat, k ≤ L ∧ i = .int .i64 (k : Nat) ∧ (∀ j, j < k → sumAt c j = true) ∧ wr.heap[w.heap.size + 1]? = some (.cells #[.int .i64 t, .slice al nl cl, .int .i64 n, .slice as' L cs, .slice an L cn, .slice ax L cx] 46 (0, 0)) ∧ Below w.heap.size w wr) (fun i _ => L - (intOf i).toNat)
  case atStart => exact ⟨0, Nat.zero_le _, rfl, fun j h => absurd h (Nat.not_lt_zero _), HB4.out.2, HB4.out.1⟩
  case round =>
    obtain ⟨k, hk, rfl, hall, hbk, hbel⟩ := hrel
    have HALL := hid hall; have HBK := hid hbk; have HB := hid hbel
    have hk0 : (0 : Int) ≤ (k : Int) := Int.natCast_nonneg _
    have hkL : (k : Int) ≤ (L : Int) := by omega
    clear hall HB4
    by_cases hlt : k < L
    · have k1 : k < c.sums.length := by rw [HL1.out]; exact hlt
      have k2 : k < c.mins.length := by rw [HL3.out]; exact hlt
      have k3 : k < c.maxs.length := by rw [HL2.out]; exact hlt
      have hltI : (k : Int) < (L : Int) := by omega
      obtain ⟨_, _, e, _, _, _, hcs⟩ := HSUM.out.parts
      simp only [Value.slice.injEq] at e
      obtain ⟨rfl, _, rfl⟩ := e
      obtain ⟨b1, o1, rfl, hcs2⟩ := hcs (by omega)
      obtain ⟨s0, s1⟩ := hcs2 k k1
      clear hcs2
      have hmn := HMIN.out
      obtain ⟨b2, o2, rfl, hcm⟩ := (SlAt.parts hmn).2.2.2.2 (by simp only [List.length_map]; omega)
      have m0 := hcm k (.int .i64 c.mins[k]) (by rw [List.getElem?_map, List.getElem?_eq_getElem k2]; rfl)
      have hmx := HMAX.out
      obtain ⟨b3, o3, rfl, hcx⟩ := (SlAt.parts hmx).2.2.2.2 (by simp only [List.length_map]; omega)
      have x0 := hcx k (.int .i64 c.maxs[k]) (by rw [List.getElem?_map, List.getElem?_eq_getElem k3]; rfl)
      have HIS := hid (HI.out k k1 k2 k3)
      rw [← HNN.out, ← sumAt_is k1 k2 k3] at HIS
      rw [HNN.out] at HIS
      have HSTEP : Hid (sumAt c k = true → ∀ j, j < k + 1 → sumAt c j = true) := fun h j hj => by
        by_cases e : j = k
        · rw [e]; exact h
        · exact HALL.out j (by omega)
      have HBAD : Hid (sumAt c k = false → sumsAll c = false) := fun h => sumsAll_no k2 h
      replace s0 := cell_step s0 hbel; replace s1 := cell_step s1 hbel; replace m0 := cell_step m0 hbel; replace x0 := cell_step x0 hbel
      clear hcs hcm hcx hmn hmx hbel HSUM HMIN HMAX HI
      generalize c.mins[k] = a at *
      generalize c.maxs[k] = b at *
      generalize hiW c.sums[k] = y1 at *
      generalize loW c.sums[k] = y2 at *
      obtain ⟨d0, d1, d2, d3, d4, d5⟩ := six_at hbk
      have hzb := blk_lt hbk
      clear hbk
      have pq2 := World.plus_cell d2; have pq3 := World.plus_cell d3; have pq4 := World.plus_cell d4; have pq5 := World.plus_cell d5; have pqm := World.plus_cell m0; have pqx := World.plus_cell x0; have pu0 := World.plus_cell s0; have pu1 := World.plus_cell s1
      obtain ⟨R, hR⟩ : ∃ R, sumAt c k = R := ⟨_, rfl⟩
      rw [hR] at HIS HSTEP HBAD
      clear hR
      cases R with
      | true =>
        go_wp2_with fail
        refine wp_region_plus (by kernel_rfl) (by kernel_rfl) ?_
        repeat (first | go_big_quiet_skip | (go_big_quiet_want; go_big_quiet_op; first | go_big_quiet_on | go_big_quiet_call (((go_at_call 103; exact Calls.plus_of (HIS.out _))))))
        refine wpQuiet_nil ?_
        rintro _ ⟨xq, rfl⟩
        have kB := World.plus_below wr xq
        have HK := hid kB
        clear kB
        go_wp2_with fail
        go_roundw
        case rel => exact ⟨k + 1, hlt, by go_num, HSTEP.out (by simp), blk_below HBK.out HK.out, HB.out.step HK.out⟩
        case measure => simp [intOf]; omega
      | false =>
        have HE := hid (HBAD.out rfl)
        go_wp2_with fail
        refine wp_region_plus (by kernel_rfl) (by kernel_rfl) ?_
        repeat (first | go_big_quiet_skip | (go_big_quiet_want; go_big_quiet_op; first | go_big_quiet_on | go_big_quiet_call (((go_at_call 103; exact Calls.plus_of (HIS.out _))))))
        refine wpQuiet_nil ?_
        rintro _ ⟨xq, rfl⟩
        have kB := World.plus_below wr xq
        have HK := hid kB
        clear kB
        go_wp2_with fail
        go_ret
        exact ⟨ret_bool HE.out.symm, HB.out.step HK.out⟩
    · obtain rfl : k = L := by omega
      have HE : Hid (sumsAll c = true) := sumsAll_yes fun j hj => HALL.out j (by rw [HL3.out] at hj; exact hj)
      clear hbk hbel
      go_wp2_with fail
      go_ret
      exact ⟨ret_bool HE.out.symm, HB.out⟩
theorem refCell_any (s : SchD) (c : CellD) (vd vm vl vs vn vx : Value) (w : World) (hd : StrsSl w vd s.ds) (hm : StrsSl w vm s.ms) (td : Texts s.ds) (tm : Texts s.ms) (hl : ValsSl w vl c.l) (tl : Vals c.l) (hs : WidesSl w vs c.sums) (hn : IntsSl w vn c.mins) (hx : IntsSl w vx c.maxs)
    (in64 : ∀ x ∈ c.mins, I64 x) (ix64 : ∀ x ∈ c.maxs, I64 x) :
    Calls Try.prog 74 #[.agg #[vd, vm, .int .i64 s.g], .agg #[.int .i64 c.t, vl, .int .i64 c.n, vs, vn, vx]] w fun e w' => e = .returned (.bool (cellB s c)) ∧ Below w.heap.size w w' := by
  unfold cellB
  rw [cellR_is]
  cases h : cellR s c with
  | true =>
    rw [Bool.true_and]
    exact refCell_late s c vd vm vl vs vn vx w hd hm td tm hl tl hs hn hx in64 ix64 h
  | false =>
    rw [Bool.false_and]
    exact refCell_early s c vd vm vl vs vn vx w hd hm td tm hl tl hs hn hx h
end Go.Proofs.Ytdgeinipdphoeaa
/- Rollup: are cells right, by the reference. -/
namespace Go.Proofs.Ytdgeinipdphoeaa
set_option linter.unusedVariables false
set_option linter.unusedSimpArgs false
set_option maxRecDepth 100000
open Go.ChangeShapes Go.WideShapes Go.ChangeAt Go.RowKit

/-- The cell at place k is right, and the one ahead of it stands ahead of it. -/
def stepB (s : SchD) (l : List CellD) (k : Nat) : Bool := cellB s (l.getD k cellP0.2) && (decide (k = 0) || aheadAt l (k - 1))
theorem steps_is {s : SchD} {l : List CellD} (h : ∀ k, k < l.length → stepB s l k = true) : (l.all (cellB s) && chainB l) = true := by
  rw [Bool.and_eq_true]
  refine ⟨List.all_eq_true.2 fun c hc => ?_, chain_yes fun j hj => ?_⟩
  · obtain ⟨k, hk, rfl⟩ := List.mem_iff_getElem.1 hc
    have := h k hk
    unfold stepB at this
    rw [Bool.and_eq_true, List.getD_eq_getElem?_getD, List.getElem?_eq_getElem hk] at this
    exact this.1
  · have := h (j + 1) (by omega)
    unfold stepB at this
    rw [Bool.and_eq_true] at this
    simpa using this.2
theorem steps_not {s : SchD} {l : List CellD} {k : Nat} (hk : k < l.length) (h : stepB s l k = false) : (l.all (cellB s) && chainB l) = false := by
  rw [← Bool.not_eq_true, Bool.and_eq_true]
  rintro ⟨h1, h2⟩
  have e1 := List.all_eq_true.1 h1 l[k] (List.getElem_mem hk)
  unfold stepB at h
  rw [List.getD_eq_getElem?_getD, List.getElem?_eq_getElem hk] at h
  simp only [Option.getD_some, e1, Bool.true_and] at h
  rcases Nat.eq_zero_or_pos k with h0 | h0
  · rw [h0] at h; simp at h
  · have h3 := List.all_eq_true.1 (show (List.range (l.length - 1)).all (aheadAt l) = true from h2) (k - 1) (by simp; omega)
    rw [h3] at h
    simp at h
theorem rightB_steps (s : SchD) (l : List CellD) : rightB s l = ((l.all (cellB s) && chainB l) && (okSch s && decide (l.length ≤ 1000))) := by
  unfold rightB
  cases okSch s <;> cases decide (l.length ≤ 1000) <;> cases l.all (cellB s) <;> cases chainB l <;> rfl
set_option maxHeartbeats 4000000 in
theorem refRight12_any (s : SchD) (l : List CellD) (vd vm v : Value) (w : World) (hd : StrsSl w vd s.ds) (hm : StrsSl w vm s.ms) (td : Texts s.ds) (tm : Texts s.ms) (hv : CellsSl w v l) (ht : ∀ c ∈ l, CellTame c) (hlen : l.length ≤ 1000000) :
    Calls Try.prog 42 #[.agg #[vd, vm, .int .i64 s.g], v] w fun e w' => e = .returned (.bool (rightB s l)) ∧ Below w.heap.size w w' := by
  have HR := hid (fun W (h : Below w.heap.size w W) => refRight_any vd vm s.ds s.ms s.g W (hd.below h) (hm.below h) td tm)
  have HC := hid (fun k (hk : k < l.length) vl vs vn vx W (h : Below w.heap.size w W) (h1 : ValsSl W vl l[k].l) (h2 : WidesSl W vs l[k].sums) (h3 : IntsSl W vn l[k].mins) (h4 : IntsSl W vx l[k].maxs) => refCell_any s l[k] vd vm vl vs vn vx W (hd.below h) (hm.below h) td tm h1 (ht _ (List.getElem_mem hk)).1 h2 h3 h4 (ht _ (List.getElem_mem hk)).2.1 (ht _ (List.getElem_mem hk)).2.2)
  have HT := hid ht
  have HV := hid hv
  have HRB := hid (rightB_steps s l)
  obtain ⟨ad, cd, rfl, _, _, _⟩ := SlAt.shape hd
  obtain ⟨am, cm, rfl, _, _, _⟩ := SlAt.shape hm
  obtain ⟨ao, cap, rfl, _, _, _⟩ := hv.shape
  clear hd hm td tm hv ht
  rw [HRB.out]
  have HO : Hid (okSch s = rightS s.ds s.ms s.g) := rfl
  rw [HO.out]
  obtain ⟨nd, hnd⟩ : ∃ nd, s.ds.length = nd := ⟨_, rfl⟩
  obtain ⟨nm, hnm⟩ : ∃ nm, s.ms.length = nm := ⟨_, rfl⟩
  obtain ⟨g, hg⟩ : ∃ g, s.g = g := ⟨_, rfl⟩
  obtain ⟨RB, hRB⟩ : ∃ RB, rightS s.ds s.ms s.g = RB := ⟨_, rfl⟩
  rw [hRB] at HR
  rw [hRB]
  rw [hnd, hnm, hg] at HR HC ⊢
  clear hnd hnm hg hRB HO
  obtain ⟨N, hN⟩ : ∃ N, l.length = N := ⟨_, rfl⟩
  have HNN := hid hN
  rw [hN] at hlen ⊢
  clear hN
  go_enter Try.func42, Try.ntmps42
  go_wp2
  go_loopw [5] (fun i wr => ∃ k : Nat, k ≤ N ∧ i = .int .i64 (k : Nat) ∧ (∀ j, j < k → stepB s l j = true) ∧ wr.heap[w.heap.size]? = some (.cells #[.slice ad nd cd, .slice am nm cm, .int .i64 g] 24 (0, 0)) ∧ Below w.heap.size w wr) (fun i _ => N - (intOf i).toNat)
  case atStart => exact ⟨0, Nat.zero_le _, rfl, fun j h => absurd h (Nat.not_lt_zero _), heap_at rfl, by (repeat' (first | (with_reducible exact Below.refl _ _) | (with_reducible assumption) | (with_reducible refine Below.new ?_ _) | (with_reducible refine Below.alloc ?_ ?_ _) | (with_reducible refine Below.drew ?_) | (with_reducible refine Below.drewN ?_ _) | (with_reducible refine Below.setCell ?_ ?_ _) | (refine Below.step ?_ (by assumption)) | go_size))⟩
  case round =>
    obtain ⟨k, hk, rfl, hall, hbk, hbel⟩ := hrel
    have HALL := hid hall; have HBK := hid hbk; have HB := hid hbel
    have hk0 : (0 : Int) ≤ (k : Int) := Int.natCast_nonneg _
    have hk6 : (k : Int) ≤ 1000000 := by omega
    have hzb := blk_lt hbk
    obtain ⟨z0, z1, z2, _, _, _⟩ := three_at hbk
    clear hall hbk
    by_cases hlt : k < N
    · have hkl : k < l.length := by rw [HNN.out]; exact hlt
      have hltI : (k : Int) < (N : Int) := by omega
      have hvv := HV.out
      obtain ⟨b, off, vl, vs, vn, vx, rfl, g1, g2, g3, g4, c0, c1, c2, c3, c4, c5⟩ := hvv.at hkl
      have HCK := hid (fun x => HC.out k hkl vl vs vn vx (World.plus wr x) (hbel.step (World.plus_below wr x)) ((g1.below hbel).below (World.plus_below wr x)) ((g2.below hbel).below (World.plus_below wr x)) ((g3.below hbel).below (World.plus_below wr x)) ((g4.below hbel).below (World.plus_below wr x)))
      have hst : stepB s l k = (cellB s l[k] && (decide (k = 0) || aheadAt l (k - 1))) := by
        unfold stepB
        rw [List.getD_eq_getElem?_getD, List.getElem?_eq_getElem hkl]
        rfl
      have HSTEP : Hid (stepB s l k = true → ∀ j, j < k + 1 → stepB s l j = true) := fun h j hj => by
        by_cases e : j = k
        · rw [e]; exact h
        · exact HALL.out j (by omega)
      have HBAD : Hid (stepB s l k = false → ((l.all (cellB s) && chainB l) && (RB && decide (N ≤ 1000))) = false) := fun h => by rw [steps_not hkl h]; rfl
      rw [hst] at HSTEP HBAD
      replace c0 := cell_step c0 hbel; replace c1 := cell_step c1 hbel; replace c2 := cell_step c2 hbel; replace c3 := cell_step c3 hbel; replace c4 := cell_step c4 hbel; replace c5 := cell_step c5 hbel
      have pz0 := World.plus_cell z0; have pz1 := World.plus_cell z1; have pz2 := World.plus_cell z2
      have HG := hid (And.intro g1 (And.intro g2 (And.intro g3 g4)))
      obtain ⟨A1, C1, rfl, _⟩ := SlAt.shape g1
      obtain ⟨A2, C2, rfl, _⟩ := SlAt.shape g2
      obtain ⟨A3, C3, rfl, _⟩ := SlAt.shape g3
      obtain ⟨A4, C4, rfl, _⟩ := SlAt.shape g4
      have pc0 := World.plus_cell c0; have pc1 := World.plus_cell c1; have pc2 := World.plus_cell c2; have pc3 := World.plus_cell c3; have pc4 := World.plus_cell c4; have pc5 := World.plus_cell c5
      clear g1 g2 g3 g4 hst z0 z1 z2
      cases hcb : cellB s l[k] with
      | false =>
        rw [hcb] at HCK HSTEP HBAD
        have HE := hid (HBAD.out (by rfl))
        clear hcb HSTEP HBAD HC c0 c1 c2 c3 c4 c5 hvv hbel
        generalize l[k].t = t1 at *
        generalize l[k].n = n1 at *
        generalize l[k].l.length = m1 at *
        generalize l[k].sums.length = m2 at *
        generalize l[k].mins.length = m3 at *
        generalize l[k].maxs.length = m4 at *
        go_wp2_with fail
        refine wp_region_plus (by kernel_rfl) (by kernel_rfl) ?_
        repeat (first | go_big_quiet_skip | (go_big_quiet_want; go_big_quiet_op; first | go_big_quiet_on | go_big_quiet_call (((go_at_call 74; exact Calls.plus_of (HCK.out _))))))
        refine wpQuiet_nil ?_
        rintro _ ⟨xq, rfl⟩
        have HX := hid (HB.out.step (World.plus_below wr xq))
        go_wp2_with fail
        go_ret
        exact ⟨ret_bool HE.out.symm, HX.out⟩
      | true =>
        rw [hcb] at HCK HSTEP HBAD
        rcases Nat.eq_zero_or_pos k with h0 | h0
        · subst h0
          have HS := hid (HSTEP.out (by rfl))
          clear hcb HSTEP HBAD HC c0 c1 c2 c3 c4 c5 hvv hbel
          generalize l[0].t = t1 at *
          generalize l[0].n = n1 at *
          generalize l[0].l.length = m1 at *
          generalize l[0].sums.length = m2 at *
          generalize l[0].mins.length = m3 at *
          generalize l[0].maxs.length = m4 at *
          simp only [Nat.zero_mul, Nat.add_zero] at pc0 pc1 pc2 pc3 pc4 pc5
          go_wp2_with fail
          refine wp_region_plus (by kernel_rfl) (by kernel_rfl) ?_
          repeat (first | go_big_quiet_skip | (go_big_quiet_want; go_big_quiet_op; first | go_big_quiet_on | go_big_quiet_call (((go_at_call 74; exact Calls.plus_of (HCK.out _))))))
          refine wpQuiet_nil ?_
          rintro _ ⟨xq, rfl⟩
          have HX := hid (World.plus_below wr xq)
          go_wp2_with fail
          go_roundw
          case rel => exact ⟨0 + 1, hlt, by go_num, HS.out, blk_below HBK.out HX.out, HB.out.step HX.out⟩
          case measure => simp [intOf]; omega
        · obtain ⟨m, rfl⟩ : ∃ m, k = m + 1 := ⟨k - 1, by omega⟩
          have hml : m < l.length := by omega
          obtain ⟨b', off', ul, us, un, ux, e, f1, f2, f3, f4, d0, d1, d2, d3, d4, d5⟩ := hvv.at hml
          simp only [Option.some.injEq, Addr.mk.injEq, and_true] at e
          obtain ⟨rfl, rfl⟩ := e
          have HAH := hid (fun x => refAheadC_any l[m] l[m + 1] ul us un ux (.slice A1 l[m + 1].l.length C1) (.slice A2 l[m + 1].sums.length C2) (.slice A3 l[m + 1].mins.length C3) (.slice A4 l[m + 1].maxs.length C4) l[m].n l[m + 1].n (World.plus wr x) ((f1.below hbel).below (World.plus_below wr x)) ((HG.out.1.below hbel).below (World.plus_below wr x)) (HT.out _ (List.getElem_mem hml)).1.2 (HT.out _ (List.getElem_mem hkl)).1.2 (f2.shape.imp fun _ h => ⟨_, h.imp fun _ h => h.1⟩) (f3.shape.imp fun _ h => ⟨_, h.imp fun _ h => h.1⟩) (f4.shape.imp fun _ h => ⟨_, h.imp fun _ h => h.1⟩) ⟨_, _, _, rfl⟩ ⟨_, _, _, rfl⟩ ⟨_, _, _, rfl⟩)
          have hat : aheadAt l m = aheadC l[m] l[m + 1] := by
            unfold aheadAt
            rw [List.getD_eq_getElem?_getD, List.getElem?_eq_getElem hml, List.getD_eq_getElem?_getD, List.getElem?_eq_getElem hkl]
            rfl
          have hsm : (decide (m + 1 = 0) || aheadAt l (m + 1 - 1)) = aheadC l[m] l[m + 1] := by
            rw [Nat.add_sub_cancel, hat]
            simp
          rw [hsm, Bool.true_and] at HSTEP HBAD
          replace d0 := cell_step d0 hbel; replace d1 := cell_step d1 hbel; replace d2 := cell_step d2 hbel; replace d3 := cell_step d3 hbel; replace d4 := cell_step d4 hbel; replace d5 := cell_step d5 hbel
          obtain ⟨E1, F1, rfl, _⟩ := SlAt.shape f1
          obtain ⟨E2, F2, rfl, _⟩ := SlAt.shape f2
          obtain ⟨E3, F3, rfl, _⟩ := SlAt.shape f3
          obtain ⟨E4, F4, rfl, _⟩ := SlAt.shape f4
          have pd0 := World.plus_cell d0; have pd1 := World.plus_cell d1; have pd2 := World.plus_cell d2; have pd3 := World.plus_cell d3; have pd4 := World.plus_cell d4; have pd5 := World.plus_cell d5
          have hw0 : IntKind.i64.wrap (m : Int) = (m : Int) := IntWalk.i64_in _ (by omega)
          have hw1 : IntKind.i64.wrap ((m : Int) + 1) = (m : Int) + 1 := IntWalk.i64_in _ (by omega)
          have hm1 : (0 : Int) < (m : Int) + 1 := by omega
          have hm2 : decide ((0 : Int) < (m : Int) + 1) = true := decide_eq_true hm1
          have hm3 : (0 : Int) ≤ (m : Int) + 1 := by omega
          have hm4 : (m : Int) + 1 < (N : Int) := by omega
          have hm5 : (m : Int) < (N : Int) := by omega
          have hm6 : ((m : Int) + 1).toNat = m + 1 := by omega
          have hm7 : ((m + 1 : Nat) : Int) = (m : Int) + 1 := rfl
          have hmN : m + 1 < N := hlt
          have hmN2 : m < N := by omega
          rw [hm7]
          clear hcb hat hsm HC c0 c1 c2 c3 c4 c5 d0 d1 d2 d3 d4 d5 f1 f2 f3 f4 hvv hbel
          obtain ⟨R, hR⟩ : ∃ R, aheadC l[m] l[m + 1] = R := ⟨_, rfl⟩
          rw [hR] at HAH HSTEP HBAD
          clear hR
          generalize l[m + 1].t = t1 at *
          generalize l[m + 1].n = n1 at *
          generalize l[m + 1].l.length = m1 at *
          generalize l[m + 1].sums.length = m2 at *
          generalize l[m + 1].mins.length = m3 at *
          generalize l[m + 1].maxs.length = m4 at *
          generalize l[m].t = t2 at *
          generalize l[m].n = n2 at *
          generalize l[m].l.length = q1 at *
          generalize l[m].sums.length = q2 at *
          generalize l[m].mins.length = q3 at *
          generalize l[m].maxs.length = q4 at *
          cases R with
          | true =>
            have HS := hid (HSTEP.out (by rfl))
            clear HSTEP HBAD
            go_wp2_with fail
            refine wp_region_plus (by kernel_rfl) (by kernel_rfl) ?_
            repeat (first | go_big_quiet_skip | (go_big_quiet_want; go_big_quiet_op; first | go_big_quiet_on | go_big_quiet_call ((first | (go_at_call 74; exact Calls.plus_of (HCK.out _)) | (go_at_call 75; exact Calls.plus_of (HAH.out _))))))
            refine wpQuiet_nil ?_
            rintro _ ⟨xq, rfl⟩
            have HX := hid (World.plus_below wr xq)
            go_wp2_with fail
            go_roundw
            case rel => exact ⟨m + 1 + 1, hlt, by go_num, HS.out, blk_below HBK.out HX.out, HB.out.step HX.out⟩
            case measure => simp [intOf]; omega
          | false =>
            have HE := hid (HBAD.out (by rfl))
            clear HSTEP HBAD
            go_wp2_with fail
            refine wp_region_plus (by kernel_rfl) (by kernel_rfl) ?_
            repeat (first | go_big_quiet_skip | (go_big_quiet_want; go_big_quiet_op; first | go_big_quiet_on | go_big_quiet_call ((first | (go_at_call 74; exact Calls.plus_of (HCK.out _)) | (go_at_call 75; exact Calls.plus_of (HAH.out _))))))
            refine wpQuiet_nil ?_
            rintro _ ⟨xq, rfl⟩
            have HX := hid (HB.out.step (World.plus_below wr xq))
            go_wp2_with fail
            go_ret
            exact ⟨ret_bool HE.out.symm, HX.out⟩
    · obtain rfl : k = N := by omega
      have hE : (l.all (cellB s) && chainB l) = true := steps_is (fun j hj => HALL.out j (by rw [← HNN.out]; exact hj))
      have HEQ := hid hE
      by_cases h1 : k ≤ 1000
      · have g1 : decide ((k : Int) ≤ 1000) = true := by simp; omega
        have g2 : decide (k ≤ 1000) = true := by simpa using h1
        have HG2 := hid g2
        clear hE h1 HC
        cases RB
        all_goals
          go_wp2_with (go_at_call 22; go_loud ((with_reducible refine (HR.out _ (by (repeat' (first | (with_reducible exact Below.refl _ _) | (with_reducible assumption) | (with_reducible refine Below.new ?_ _) | (with_reducible refine Below.alloc ?_ ?_ _) | (with_reducible refine Below.drew ?_) | (with_reducible refine Below.drewN ?_ _) | (with_reducible refine Below.setCell ?_ ?_ _) | (refine Below.step ?_ (by assumption)) | go_size)))).mono ?_); rintro e w3 ⟨rfl, hb3⟩))
          go_ret
          exact ⟨ret_bool (by rw [HEQ.out, HG2.out]; rfl), by have := HB.out; (repeat' (first | (with_reducible exact Below.refl _ _) | (with_reducible assumption) | (with_reducible refine Below.new ?_ _) | (with_reducible refine Below.alloc ?_ ?_ _) | (with_reducible refine Below.drew ?_) | (with_reducible refine Below.drewN ?_ _) | (with_reducible refine Below.setCell ?_ ?_ _) | (refine Below.step ?_ (by assumption)) | go_size))⟩
      · have g1 : decide ((k : Int) ≤ 1000) = false := by simp; omega
        have g2 : decide (k ≤ 1000) = false := by simpa using h1
        have HG2 := hid g2
        clear hE h1 HC
        cases RB
        all_goals
          go_wp2_with (go_at_call 22; go_loud ((with_reducible refine (HR.out _ (by (repeat' (first | (with_reducible exact Below.refl _ _) | (with_reducible assumption) | (with_reducible refine Below.new ?_ _) | (with_reducible refine Below.alloc ?_ ?_ _) | (with_reducible refine Below.drew ?_) | (with_reducible refine Below.drewN ?_ _) | (with_reducible refine Below.setCell ?_ ?_ _) | (refine Below.step ?_ (by assumption)) | go_size)))).mono ?_); rintro e w3 ⟨rfl, hb3⟩))
          go_ret
          exact ⟨ret_bool (by rw [HEQ.out, HG2.out]; rfl), by have := HB.out; (repeat' (first | (with_reducible exact Below.refl _ _) | (with_reducible assumption) | (with_reducible refine Below.new ?_ _) | (with_reducible refine Below.alloc ?_ ?_ _) | (with_reducible refine Below.drew ?_) | (with_reducible refine Below.drewN ?_ _) | (with_reducible refine Below.setCell ?_ ?_ _) | (refine Below.step ?_ (by assumption)) | go_size))⟩
end Go.Proofs.Ytdgeinipdphoeaa
/- Rollup: cells merged, a row added, by the reference. -/
namespace Go.Proofs.Ytdgeinipdphoeaa
set_option linter.unusedVariables false
set_option linter.unusedSimpArgs false
set_option maxRecDepth 100000
open Go.ChangeShapes Go.WideShapes Go.ChangeAt Go.RowKit

theorem mergeE_bad {s : SchD} {a b : List CellD} (h : ¬ (rightB s a = true ∧ rightB s b = true)) : outM s a b = [] := by
  unfold outM
  rw [if_neg]
  intro h0
  unfold mergeE at h0
  split at h0
  · split at h0
    · split at h0
      · exact h ⟨by assumption, by assumption⟩
      · cases h0
    · cases h0
  · cases h0
theorem refMerge_bad (s : SchD) (a b : List CellD) (vd vm va vb : Value) (w : World) (hd : StrsSl w vd s.ds) (hm : StrsSl w vm s.ms) (td : Texts s.ds) (tm : Texts s.ms) (ha : CellsSl w va a) (hb : CellsSl w vb b) (ta : ∀ c ∈ a, CellTame c) (tb : ∀ c ∈ b, CellTame c) (la : a.length ≤ 1000000) (lb : b.length ≤ 1000000) (hbad : ¬ (rightB s a = true ∧ rightB s b = true)) :
    Calls Try.prog 41 #[.agg #[vd, vm, .int .i64 s.g], va, vb] w (OutPost w [] (mergeE s a b)) := by
  have HR := hid (fun W (h : Below w.heap.size w W) => refRight_any vd vm s.ds s.ms s.g W (hd.below h) (hm.below h) td tm)
  have HA := hid (fun W (h : Below w.heap.size w W) => refRight12_any s a vd vm va W (hd.below h) (hm.below h) td tm (ha.below h) ta la)
  have HB := hid (fun W (h : Below w.heap.size w W) => refRight12_any s b vd vm vb W (hd.below h) (hm.below h) td tm (hb.below h) tb lb)
  obtain ⟨ad, cd, rfl, _, _, _⟩ := SlAt.shape hd
  obtain ⟨am, cm, rfl, _, _, _⟩ := SlAt.shape hm
  obtain ⟨ao, cap, rfl, _, _, _⟩ := ha.shape
  obtain ⟨bo, bap, rfl, _, _, _⟩ := hb.shape
  clear hd hm td tm ha hb ta tb
  cases h0 : okSch s with
  | false =>
    have HE : Hid (mergeE s a b = 100) := by unfold Hid mergeE; rw [h0]; rfl
    have h0' : rightS s.ds s.ms s.g = false := h0
    rw [h0'] at HR
    clear h0 h0' hbad
    go_enter Try.func41, Try.ntmps41
    go_wp2_with (go_at_call 22; go_loud ((with_reducible refine (HR.out _ (by (repeat' (first | (with_reducible exact Below.refl _ _) | (with_reducible assumption) | (with_reducible refine Below.new ?_ _) | (with_reducible refine Below.alloc ?_ ?_ _) | (with_reducible refine Below.drew ?_) | (with_reducible refine Below.drewN ?_ _) | (with_reducible refine Below.setCell ?_ ?_ _) | (refine Below.step ?_ (by assumption)) | go_size)))).mono ?_); rintro e w1 ⟨rfl, hb1⟩))
    go_ret2
    exact ⟨.slice none 0 0, by rw [HE.out]; rfl, ElemsSl.nil _, by (repeat' (first | (with_reducible exact Below.refl _ _) | (with_reducible assumption) | (with_reducible refine Below.new ?_ _) | (with_reducible refine Below.alloc ?_ ?_ _) | (with_reducible refine Below.drew ?_) | (with_reducible refine Below.drewN ?_ _) | (with_reducible refine Below.setCell ?_ ?_ _) | (refine Below.step ?_ (by assumption)) | go_size))⟩
  | true =>
    have h0' : rightS s.ds s.ms s.g = true := h0
    rw [h0'] at HR
    cases h1 : rightB s a with
    | false =>
      have HE : Hid (mergeE s a b = 120) := by unfold Hid mergeE; rw [h0, h1]; rfl
      rw [h1] at HA
      clear h0 h0' h1 hbad
      go_enter Try.func41, Try.ntmps41
      go_wp2_with (first
        | (go_at_call 22; go_loud ((with_reducible refine (HR.out _ (by (repeat' (first | (with_reducible exact Below.refl _ _) | (with_reducible assumption) | (with_reducible refine Below.new ?_ _) | (with_reducible refine Below.alloc ?_ ?_ _) | (with_reducible refine Below.drew ?_) | (with_reducible refine Below.drewN ?_ _) | (with_reducible refine Below.setCell ?_ ?_ _) | (refine Below.step ?_ (by assumption)) | go_size)))).mono ?_); rintro e w1 ⟨rfl, hb1⟩; obtain ⟨hc1, hf1, hk1, hz1⟩ := bcell3 hb1; (try simp only [World.size_alloc, World.size_drew] at hz1); have : w.heap.size < w1.heap.size := (by omega)))
        | (go_at_call 42; go_loud ((with_reducible refine (HA.out _ (by (repeat' (first | (with_reducible exact Below.refl _ _) | (with_reducible assumption) | (with_reducible refine Below.new ?_ _) | (with_reducible refine Below.alloc ?_ ?_ _) | (with_reducible refine Below.drew ?_) | (with_reducible refine Below.drewN ?_ _) | (with_reducible refine Below.setCell ?_ ?_ _) | (refine Below.step ?_ (by assumption)) | go_size)))).mono ?_); rintro e w2 ⟨rfl, hb2⟩)))
      go_ret2
      exact ⟨.slice none 0 0, by rw [HE.out]; rfl, ElemsSl.nil _, by (repeat' (first | (with_reducible exact Below.refl _ _) | (with_reducible assumption) | (with_reducible refine Below.new ?_ _) | (with_reducible refine Below.alloc ?_ ?_ _) | (with_reducible refine Below.drew ?_) | (with_reducible refine Below.drewN ?_ _) | (with_reducible refine Below.setCell ?_ ?_ _) | (refine Below.step ?_ (by assumption)) | go_size))⟩
    | true =>
      cases h2 : rightB s b with
      | true => exact absurd ⟨h1, h2⟩ hbad
      | false =>
        have HE : Hid (mergeE s a b = 120) := by unfold Hid mergeE; rw [h0, h1, h2]; rfl
        rw [h1] at HA
        rw [h2] at HB
        clear h0 h0' h1 h2 hbad
        go_enter Try.func41, Try.ntmps41
        go_wp2_with (go_at_call 22; go_loud ((with_reducible refine (HR.out _ (by (repeat' (first | (with_reducible exact Below.refl _ _) | (with_reducible assumption) | (with_reducible refine Below.new ?_ _) | (with_reducible refine Below.alloc ?_ ?_ _) | (with_reducible refine Below.drew ?_) | (with_reducible refine Below.drewN ?_ _) | (with_reducible refine Below.setCell ?_ ?_ _) | (refine Below.step ?_ (by assumption)) | go_size)))).mono ?_); rintro e w1 ⟨rfl, hb1⟩; obtain ⟨hc1, hf1, hk1, hz1⟩ := bcell3 hb1; (try simp only [World.size_alloc, World.size_drew] at hz1); have : w.heap.size < w1.heap.size := (by omega)))
        refine (HA.out _ (by (repeat' (first | (with_reducible exact Below.refl _ _) | (with_reducible assumption) | (with_reducible refine Below.new ?_ _) | (with_reducible refine Below.alloc ?_ ?_ _) | (with_reducible refine Below.drew ?_) | (with_reducible refine Below.drewN ?_ _) | (with_reducible refine Below.setCell ?_ ?_ _) | (refine Below.step ?_ (by assumption)) | go_size)))).mono ?_
        rintro e w2 ⟨rfl, hb2⟩
        obtain ⟨hc2, hf2, hk2, hz2⟩ := bcell3 hb2; (try simp only [World.size_alloc, World.size_drew] at hz2)
        have : w.heap.size < w2.heap.size := (by omega)
        go_wp2_with fail
        refine (HB.out _ (by (repeat' (first | (with_reducible exact Below.refl _ _) | (with_reducible assumption) | (with_reducible refine Below.new ?_ _) | (with_reducible refine Below.alloc ?_ ?_ _) | (with_reducible refine Below.drew ?_) | (with_reducible refine Below.drewN ?_ _) | (with_reducible refine Below.setCell ?_ ?_ _) | (refine Below.step ?_ (by assumption)) | go_size)))).mono ?_
        rintro e w3 ⟨rfl, hb3⟩
        go_wp2_with fail
        go_ret2
        exact ⟨.slice none 0 0, by rw [HE.out]; rfl, ElemsSl.nil _, by (repeat' (first | (with_reducible exact Below.refl _ _) | (with_reducible assumption) | (with_reducible refine Below.new ?_ _) | (with_reducible refine Below.alloc ?_ ?_ _) | (with_reducible refine Below.drew ?_) | (with_reducible refine Below.drewN ?_ _) | (with_reducible refine Below.setCell ?_ ?_ _) | (refine Below.step ?_ (by assumption)) | go_size))⟩
/-- 'ends' by the reference, told at once. -/
theorem refEnds_any (v : Value) (l : List CellD) (w : World) (hv : CellsSl w v l) (hl : l.length ≤ 1000000) :
    Calls Try.prog 59 #[v] w fun e w' => ∃ x, e = .returned (.tuple #[x, .int .i64 (if endsB l = true then 0 else 121)]) ∧ CellsSl w' x (if endsB l = true then l else []) ∧ Below w.heap.size w w' := by
  cases h : endsB l with
  | true =>
    refine (refEnds_yes v l w hv hl h).mono fun e w' ⟨he, hb⟩ => ⟨v, ?_, ?_, hb⟩
    · rw [he]; rfl
    · simpa using hv.below hb
  | false =>
    refine (refEnds_no v l w hv hl h).mono fun e w' ⟨he, hb⟩ => ⟨.slice none 0 0, ?_, ?_, hb⟩
    · rw [he]; rfl
    · simpa [CellsSl] using ElemsSl.nil (α := CellD) (n := 6) (R := CellIs) w'
theorem RightL.sizes {s : SchD} {l : List CellD} (h : RightL s l) : ∀ c ∈ l, SizeC c := fun c hc x hx => by
  have := (h.each c hc).2.2.2.2.1 x hx
  omega
set_option maxHeartbeats 2000000 in
theorem refMerge_good (s : SchD) (a b : List CellD) (vd vm va vb : Value) (w : World) (hd : StrsSl w vd s.ds) (hm : StrsSl w vm s.ms) (td : Texts s.ds) (tm : Texts s.ms) (ha : CellsSl w va a) (hb : CellsSl w vb b) (ta : ∀ c ∈ a, CellTame c) (tb : ∀ c ∈ b, CellTame c) (h1 : rightB s a = true) (h2 : rightB s b = true) :
    Calls Try.prog 41 #[.agg #[vd, vm, .int .i64 s.g], va, vb] w (OutPost w (outM s a b) (mergeE s a b)) := by
  have ra := right_parts h1
  have rb := right_parts h2
  have HR := hid (fun W (h : Below w.heap.size w W) => refRight_any vd vm s.ds s.ms s.g W (hd.below h) (hm.below h) td tm)
  have HA := hid (fun W (h : Below w.heap.size w W) => refRight12_any s a vd vm va W (hd.below h) (hm.below h) td tm (ha.below h) ta (by have := ra.len; omega))
  have HB := hid (fun W (h : Below w.heap.size w W) => refRight12_any s b vd vm vb W (hd.below h) (hm.below h) td tm (hb.below h) tb (by have := rb.len; omega))
  have h0 := ra.sch
  have h0' : rightS s.ds s.ms s.g = true := h0
  have hm4 := okSch_four h0
  have HE : Hid (mergeE s a b = if endsB (mergeL s a b) = true then 0 else 121) := by unfold Hid mergeE; rw [h0, h1, h2]; rfl
  have HO : Hid (outM s a b = if endsB (mergeL s a b) = true then mergeL s a b else []) := by
    unfold Hid outM
    rw [HE.out]
    cases endsB (mergeL s a b) <;> rfl
  rw [h0'] at HR
  rw [h1] at HA
  rw [h2] at HB
  have hparts : ∀ k, Rolled s.ms.length (puts s.ms.length a (b.take k)) ∧ (puts s.ms.length a (b.take k)).length ≤ 2000 ∧ countT (puts s.ms.length a (b.take k)) ≤ 2000000000 ∧ ∀ c ∈ puts s.ms.length a (b.take k), SizeC c := fun k => by
    have h1 : (puts s.ms.length a (b.take k)).length ≤ a.length + (b.take k).length := (Put.puts_len (cellRule s.ms.length) a (b.take k)).2
    have h2 := ra.len; have h3 := rb.len
    have h4 := ra.count; have h5 := rb.count
    have h6 := countT_take_le rb.rolled.nonneg k
    refine ⟨ra.rolled.puts (fun c hc => rb.rolled.all c (List.mem_of_mem_take hc)) (fun c hc => rb.rolled.nonneg c (List.mem_of_mem_take hc)), ?_, ?_, puts_sizes ra.sizes (fun c hc => rb.sizes c (List.mem_of_mem_take hc))⟩
    · rw [List.length_take] at h1; omega
    · rw [countT_puts]; omega
  have HPT := hid hparts
  have hput : ∀ (k : Nat) (hk : k < b.length) (W : World) (x : Value) (u : CellV), CellsSl W x (puts s.ms.length a (b.take k)) → CellIs W (u.row b[k]) b[k] → Calls Try.prog 58 #[x, .agg #[.int .i64 b[k].t, u.vl, .int .i64 b[k].n, u.vs, u.vm, u.vx]] W (RefPutPost W (puts s.ms.length a (b.take (k + 1)))) := fun k hk W x u hx hu => by
    obtain ⟨p1, p2, p3, p4⟩ := hparts k
    have hb := rb.each b[k] (List.getElem_mem hk)
    rw [puts_succ _ _ _ _ hk]
    exact refPut_any s.ms.length _ b[k] x u W hx hu (by omega) (by omega) p4 (rb.sizes _ (List.getElem_mem hk)) (fun c hc => (p1.all c hc).2) (hb.1).2 (fun c hc => by
      have h1 := le_countT p1.nonneg c hc
      have h2 := p1.nonneg c hc
      have h3 := hb.2.1; have h4 := hb.2.2.1
      unfold wrap64
      omega)
  have HPUT := hid hput
  have HVB := hid hb
  have HLB := hid rb.len
  obtain ⟨ad, cd, rfl, _, _, _⟩ := SlAt.shape hd
  obtain ⟨am, cm, rfl, _, _, _⟩ := SlAt.shape hm
  have HVA := hid ha
  obtain ⟨ao, cap, rfl, _, _, _⟩ := ha.shape
  obtain ⟨bo, bap, rfl, _, _, _⟩ := hb.shape
  have hlb := rb.len
  clear hd hm td tm ha hb ta tb h0 h0' h1 h2 ra rb hparts hput
  go_enter Try.func41, Try.ntmps41
  go_wp2_with (go_at_call 22; go_loud ((with_reducible refine (HR.out _ (by (repeat' (first | (with_reducible exact Below.refl _ _) | (with_reducible assumption) | (with_reducible refine Below.new ?_ _) | (with_reducible refine Below.alloc ?_ ?_ _) | (with_reducible refine Below.drew ?_) | (with_reducible refine Below.drewN ?_ _) | (with_reducible refine Below.setCell ?_ ?_ _) | (refine Below.step ?_ (by assumption)) | go_size)))).mono ?_); rintro e w1 ⟨rfl, hb1⟩; obtain ⟨hc1, hf1, hk1, hz1⟩ := bcell3 hb1; (try simp only [World.size_alloc, World.size_drew] at hz1); have : w.heap.size < w1.heap.size := (by omega)))
  refine (HA.out _ (by (repeat' (first | (with_reducible exact Below.refl _ _) | (with_reducible assumption) | (with_reducible refine Below.new ?_ _) | (with_reducible refine Below.alloc ?_ ?_ _) | (with_reducible refine Below.drew ?_) | (with_reducible refine Below.drewN ?_ _) | (with_reducible refine Below.setCell ?_ ?_ _) | (refine Below.step ?_ (by assumption)) | go_size)))).mono ?_
  rintro e w2 ⟨rfl, hb2⟩
  obtain ⟨hc2, hf2, hk2, hz2⟩ := bcell3 hb2; (try simp only [World.size_alloc, World.size_drew] at hz2)
  have : w.heap.size < w2.heap.size := (by omega)
  go_wp2_with fail
  refine (HB.out _ (by (repeat' (first | (with_reducible exact Below.refl _ _) | (with_reducible assumption) | (with_reducible refine Below.new ?_ _) | (with_reducible refine Below.alloc ?_ ?_ _) | (with_reducible refine Below.drew ?_) | (with_reducible refine Below.drewN ?_ _) | (with_reducible refine Below.setCell ?_ ?_ _) | (refine Below.step ?_ (by assumption)) | go_size)))).mono ?_
  rintro e w3 ⟨rfl, hb3⟩
  have hB3 : Below w.heap.size w w3 := by (repeat' (first | (with_reducible exact Below.refl _ _) | (with_reducible assumption) | (with_reducible refine Below.new ?_ _) | (with_reducible refine Below.alloc ?_ ?_ _) | (with_reducible refine Below.drew ?_) | (with_reducible refine Below.drewN ?_ _) | (with_reducible refine Below.setCell ?_ ?_ _) | (refine Below.step ?_ (by assumption)) | go_size))
  have HB3 := hid hB3
  clear hb1 hb2 hb3 hc1 hf1 hk1 hz1 hc2 hf2 hk2 hz2 hB3 HR HA HB
  go_wp2_with fail
  go_loopw [8, 9] (fun x i wr => ∃ k : Nat, k ≤ b.length ∧ i = .int .i64 (k : Nat) ∧ CellsSl wr x (puts s.ms.length a (b.take k)) ∧ Below w.heap.size w wr) (fun _ i _ => b.length - (intOf i).toNat)
  case atStart => exact ⟨0, Nat.zero_le _, rfl, HVA.out.below HB3.out, HB3.out⟩
  case round =>
    obtain ⟨k, hk, rfl, hx, hbel⟩ := hrel
    have hk0 : (0 : Int) ≤ (k : Int) := Int.natCast_nonneg _
    have hk6 : (k : Int) ≤ 1000 := by omega
    have HX := hid hx; have HBL := hid hbel
    clear hx
    by_cases hlt : k < b.length
    · have hvb := HVB.out
      have hltI : (k : Int) < (b.length : Int) := by omega
      obtain ⟨b1, off, vl, vs, vn, vx, rfl, g1, g2, g3, g4, c0, c1, c2, c3, c4, c5⟩ := hvb.at hlt
      replace c0 := cell_step c0 hbel; replace c1 := cell_step c1 hbel; replace c2 := cell_step c2 hbel; replace c3 := cell_step c3 hbel; replace c4 := cell_step c4 hbel; replace c5 := cell_step c5 hbel
      have HP := hid (HPUT.out k hlt wr _ ⟨vl, vs, vn, vx⟩ HX.out ⟨vl, vs, vn, vx, rfl, g1.below hbel, g2.below hbel, g3.below hbel, g4.below hbel⟩)
      dsimp only at HP
      clear hvb hbel g1 g2 g3 g4
      generalize b[k].t = t1 at *
      generalize b[k].n = n1 at *
      go_wp2_with (go_at_call 58; go_loud ((with_reducible refine HP.out.mono ?_); rintro e w4 ⟨x4, rfl, hx4, hb4⟩; have H4 := hid (And.intro hx4 (HBL.out.step hb4)); clear hx4 hb4))
      go_roundw
      case rel => exact ⟨k + 1, hlt, by go_num, H4.out.1, H4.out.2⟩
      case measure => simp [intOf]; omega
    · obtain rfl : k = b.length := by omega
      have hx := HX.out
      have hln := (HPT.out b.length).2.1
      rw [List.take_length] at hx hln
      have HEN := hid (refEnds_any _ _ wr hx (by omega))
      have HE2 : Hid (mergeE s a b = if endsB (puts s.ms.length a b) = true then 0 else 121) := HE.out
      have HO2 : Hid (outM s a b = if endsB (puts s.ms.length a b) = true then puts s.ms.length a b else []) := HO.out
      obtain ⟨E, hE⟩ : ∃ E, (if endsB (puts s.ms.length a b) = true then (0 : Int) else 121) = E := ⟨_, rfl⟩
      obtain ⟨L, hL⟩ : ∃ L, (if endsB (puts s.ms.length a b) = true then puts s.ms.length a b else []) = L := ⟨_, rfl⟩
      rw [hE, hL] at HEN
      rw [hE] at HE2
      rw [hL] at HO2
      clear hx hln hE hL hbel
      go_wp2_with (go_at_call 59; go_loud ((with_reducible refine HEN.out.mono ?_); rintro e w6 ⟨x6, rfl, hx6, hb6⟩; have H6 := hid (And.intro hx6 hb6); clear hx6 hb6))
      go_ret2
      exact ⟨x6, by rw [HE2.out]; rfl, by rw [HO2.out]; exact H6.out.1, HBL.out.step H6.out.2⟩
theorem refMerge_out (s : SchD) (a b : List CellD) (vd vm va vb : Value) (w : World) (hd : StrsSl w vd s.ds) (hm : StrsSl w vm s.ms) (td : Texts s.ds) (tm : Texts s.ms) (ha : CellsSl w va a) (hb : CellsSl w vb b) (ta : ∀ c ∈ a, CellTame c) (tb : ∀ c ∈ b, CellTame c) (la : a.length ≤ 1000000) (lb : b.length ≤ 1000000) :
    Calls Try.prog 41 #[.agg #[vd, vm, .int .i64 s.g], va, vb] w (OutPost w (outM s a b) (mergeE s a b)) := by
  by_cases h : rightB s a = true ∧ rightB s b = true
  · exact refMerge_good s a b vd vm va vb w hd hm td tm ha hb ta tb h.1 h.2
  · rw [mergeE_bad h]
    exact refMerge_bad s a b vd vm va vb w hd hm td tm ha hb ta tb la lb h
end Go.Proofs.Ytdgeinipdphoeaa
/- Rollup: a row added, by the reference. -/
namespace Go.Proofs.Ytdgeinipdphoeaa
set_option linter.unusedVariables false
set_option linter.unusedSimpArgs false
set_option maxRecDepth 100000
open Go.ChangeShapes Go.WideShapes Go.ChangeAt Go.RowKit

theorem addE_bad {s : SchD} {l : List CellD} {r : RowD} (h : ¬ (rightB s l = true ∧ fitsR s r = true)) : outA s l r = [] := by
  unfold outA
  rw [if_neg]
  intro h0
  unfold addE at h0
  split at h0
  · split at h0
    · split at h0
      · exact h ⟨by assumption, by assumption⟩
      · cases h0
    · cases h0
  · cases h0
set_option maxHeartbeats 2000000 in
theorem refAdd_bad (s : SchD) (l : List CellD) (r : RowD) (vd vm v vl vn : Value) (w : World) (hd : StrsSl w vd s.ds) (hm : StrsSl w vm s.ms) (td : Texts s.ds) (tm : Texts s.ms) (hv : CellsSl w v l) (ht : ∀ c ∈ l, CellTame c) (hlen : l.length ≤ 1000000) (hl : ValsSl w vl r.l) (tl : Vals r.l) (hn : IntsSl w vn r.xs) (hx : ∀ x ∈ r.xs, I64 x)
    (hbad : ¬ (rightB s l = true ∧ fitsR s r = true)) :
    Calls Try.prog 40 #[.agg #[vd, vm, .int .i64 s.g], v, .agg #[.int .i64 r.t, vl, vn]] w (OutPost w [] (addE s l r)) := by
  have HR := hid (fun W (h : Below w.heap.size w W) => refRight_any vd vm s.ds s.ms s.g W (hd.below h) (hm.below h) td tm)
  have HA := hid (fun W (h : Below w.heap.size w W) => refRight12_any s l vd vm v W (hd.below h) (hm.below h) td tm (hv.below h) ht hlen)
  have HO := hid (fun W (h : Below w.heap.size w W) => refOf12_any s r vd vm vl vn W (hd.below h) (hm.below h) td tm (hl.below h) tl (hn.below h) hx)
  obtain ⟨ad, cd, rfl, _, _, _⟩ := SlAt.shape hd
  obtain ⟨am, cm, rfl, _, _, _⟩ := SlAt.shape hm
  obtain ⟨al, cl, rfl, _, _, _⟩ := SlAt.shape hl
  obtain ⟨an, cn, rfl, _, _, _⟩ := SlAt.shape hn
  obtain ⟨ao, cap, rfl, _, _, _⟩ := hv.shape
  clear hd hm td tm hv ht hl tl hn hx
  cases h0 : okSch s with
  | false =>
    have HE : Hid (addE s l r = 100) := by unfold Hid addE; rw [h0]; rfl
    have h0' : rightS s.ds s.ms s.g = false := h0
    rw [h0'] at HR
    clear h0 h0' hbad
    go_enter Try.func40, Try.ntmps40
    go_wp2_with (go_at_call 22; go_loud ((with_reducible refine (HR.out _ (by (repeat' (first | (with_reducible exact Below.refl _ _) | (with_reducible assumption) | (with_reducible refine Below.new ?_ _) | (with_reducible refine Below.alloc ?_ ?_ _) | (with_reducible refine Below.drew ?_) | (with_reducible refine Below.drewN ?_ _) | (with_reducible refine Below.setCell ?_ ?_ _) | (refine Below.step ?_ (by assumption)) | go_size)))).mono ?_); rintro e w1 ⟨rfl, hb1⟩))
    go_ret2
    exact ⟨.slice none 0 0, by rw [HE.out]; rfl, ElemsSl.nil _, by (repeat' (first | (with_reducible exact Below.refl _ _) | (with_reducible assumption) | (with_reducible refine Below.new ?_ _) | (with_reducible refine Below.alloc ?_ ?_ _) | (with_reducible refine Below.drew ?_) | (with_reducible refine Below.drewN ?_ _) | (with_reducible refine Below.setCell ?_ ?_ _) | (refine Below.step ?_ (by assumption)) | go_size))⟩
  | true =>
    have h0' : rightS s.ds s.ms s.g = true := h0
    rw [h0'] at HR
    cases h1 : rightB s l with
    | false =>
      have HE : Hid (addE s l r = 120) := by unfold Hid addE; rw [h0, h1]; rfl
      rw [h1] at HA
      clear h0 h0' h1 hbad
      go_enter Try.func40, Try.ntmps40
      go_wp2_with (first
        | (go_at_call 22; go_loud ((with_reducible refine (HR.out _ (by (repeat' (first | (with_reducible exact Below.refl _ _) | (with_reducible assumption) | (with_reducible refine Below.new ?_ _) | (with_reducible refine Below.alloc ?_ ?_ _) | (with_reducible refine Below.drew ?_) | (with_reducible refine Below.drewN ?_ _) | (with_reducible refine Below.setCell ?_ ?_ _) | (refine Below.step ?_ (by assumption)) | go_size)))).mono ?_); rintro e w1 ⟨rfl, hb1⟩; obtain ⟨hc1, hf1, hk1, hz1⟩ := bcell3 hb1; (try simp only [World.size_alloc, World.size_drew] at hz1); have : w.heap.size < w1.heap.size := (by omega); have : w.heap.size + 1 < w1.heap.size := (by omega)))
        | (go_at_call 42; go_loud ((with_reducible refine (HA.out _ (by (repeat' (first | (with_reducible exact Below.refl _ _) | (with_reducible assumption) | (with_reducible refine Below.new ?_ _) | (with_reducible refine Below.alloc ?_ ?_ _) | (with_reducible refine Below.drew ?_) | (with_reducible refine Below.drewN ?_ _) | (with_reducible refine Below.setCell ?_ ?_ _) | (refine Below.step ?_ (by assumption)) | go_size)))).mono ?_); rintro e w2 ⟨rfl, hb2⟩)))
      go_ret2
      exact ⟨.slice none 0 0, by rw [HE.out]; rfl, ElemsSl.nil _, by (repeat' (first | (with_reducible exact Below.refl _ _) | (with_reducible assumption) | (with_reducible refine Below.new ?_ _) | (with_reducible refine Below.alloc ?_ ?_ _) | (with_reducible refine Below.drew ?_) | (with_reducible refine Below.drewN ?_ _) | (with_reducible refine Below.setCell ?_ ?_ _) | (refine Below.step ?_ (by assumption)) | go_size))⟩
    | true =>
      cases h2 : fitsR s r with
      | true => exact absurd ⟨h1, h2⟩ hbad
      | false =>
        have HE : Hid (addE s l r = 101) := by unfold Hid addE; rw [h0, h1, h2]; rfl
        have hof : ofE s r = 101 := by unfold ofE; rw [h0, h2]; rfl
        have HO2 : Hid (∀ W, Below w.heap.size w W → Calls Try.prog 30 _ W fun e w' => e = .returned (.tuple #[zeroC, .int .i64 101]) ∧ Below W.heap.size W w') := fun W h => (HO.out W h).mono fun e w' ⟨hb, h⟩ => by
          rcases h with ⟨h4, _⟩ | ⟨_, h4⟩
          · rw [hof] at h4; cases h4
          · rw [hof] at h4; exact ⟨h4, hb⟩
        rw [h1] at HA
        clear h0 h0' h1 h2 hbad hof HO
        go_enter Try.func40, Try.ntmps40
        go_wp2_with (first
          | (go_at_call 22; go_loud ((with_reducible refine (HR.out _ (by (repeat' (first | (with_reducible exact Below.refl _ _) | (with_reducible assumption) | (with_reducible refine Below.new ?_ _) | (with_reducible refine Below.alloc ?_ ?_ _) | (with_reducible refine Below.drew ?_) | (with_reducible refine Below.drewN ?_ _) | (with_reducible refine Below.setCell ?_ ?_ _) | (refine Below.step ?_ (by assumption)) | go_size)))).mono ?_); rintro e w1 ⟨rfl, hb1⟩; obtain ⟨hc1, hf1, hk1, hz1⟩ := bcell3 hb1; (try simp only [World.size_alloc, World.size_drew] at hz1); have : w.heap.size < w1.heap.size := (by omega); have : w.heap.size + 1 < w1.heap.size := (by omega)))
          | (go_at_call 42; go_loud ((with_reducible refine (HA.out _ (by (repeat' (first | (with_reducible exact Below.refl _ _) | (with_reducible assumption) | (with_reducible refine Below.new ?_ _) | (with_reducible refine Below.alloc ?_ ?_ _) | (with_reducible refine Below.drew ?_) | (with_reducible refine Below.drewN ?_ _) | (with_reducible refine Below.setCell ?_ ?_ _) | (refine Below.step ?_ (by assumption)) | go_size)))).mono ?_); rintro e w2 ⟨rfl, hb2⟩; obtain ⟨hc2, hf2, hk2, hz2⟩ := bcell3 hb2; (try simp only [World.size_alloc, World.size_drew] at hz2); have : w.heap.size < w2.heap.size := (by omega); have : w.heap.size + 1 < w2.heap.size := (by omega)))
          | (go_at_call 30; go_loud ((with_reducible refine (HO2.out _ (by (repeat' (first | (with_reducible exact Below.refl _ _) | (with_reducible assumption) | (with_reducible refine Below.new ?_ _) | (with_reducible refine Below.alloc ?_ ?_ _) | (with_reducible refine Below.drew ?_) | (with_reducible refine Below.drewN ?_ _) | (with_reducible refine Below.setCell ?_ ?_ _) | (refine Below.step ?_ (by assumption)) | go_size)))).mono ?_); rintro e w3 ⟨rfl, hb3⟩; obtain ⟨hc3, hf3, hk3, hz3⟩ := bcell3 hb3; (try simp only [World.size_alloc, World.size_drew] at hz3); have : w.heap.size < w3.heap.size := (by omega); have : w.heap.size + 1 < w3.heap.size := (by omega))))
        go_ret2
        exact ⟨.slice none 0 0, by rw [HE.out]; rfl, ElemsSl.nil _, by (repeat' (first | (with_reducible exact Below.refl _ _) | (with_reducible assumption) | (with_reducible refine Below.new ?_ _) | (with_reducible refine Below.alloc ?_ ?_ _) | (with_reducible refine Below.drew ?_) | (with_reducible refine Below.drewN ?_ _) | (with_reducible refine Below.setCell ?_ ?_ _) | (refine Below.step ?_ (by assumption)) | go_size))⟩
set_option maxHeartbeats 4000000 in
theorem refAdd_good (s : SchD) (l : List CellD) (r : RowD) (vd vm v vl vn : Value) (w : World) (hd : StrsSl w vd s.ds) (hm : StrsSl w vm s.ms) (td : Texts s.ds) (tm : Texts s.ms) (hv : CellsSl w v l) (ht : ∀ c ∈ l, CellTame c) (hl : ValsSl w vl r.l) (tl : Vals r.l) (hn : IntsSl w vn r.xs) (hx : ∀ x ∈ r.xs, I64 x)
    (h1 : rightB s l = true) (h2 : fitsR s r = true) :
    Calls Try.prog 40 #[.agg #[vd, vm, .int .i64 s.g], v, .agg #[.int .i64 r.t, vl, vn]] w (OutPost w (outA s l r) (addE s l r)) := by
  have ra := right_parts h1
  have HR := hid (fun W (h : Below w.heap.size w W) => refRight_any vd vm s.ds s.ms s.g W (hd.below h) (hm.below h) td tm)
  have HA := hid (fun W (h : Below w.heap.size w W) => refRight12_any s l vd vm v W (hd.below h) (hm.below h) td tm (hv.below h) ht (by have := ra.len; omega))
  have h0 := ra.sch
  have h0' : rightS s.ds s.ms s.g = true := h0
  have hm4 := okSch_four h0
  have hof := ofE_fits h2
  have HO2 : Hid (∀ W, Below w.heap.size w W → Calls Try.prog 30 #[.agg #[vd, vm, .int .i64 s.g], .agg #[.int .i64 r.t, vl, vn]] W fun e w' => ∃ vs, e = .returned (.tuple #[.agg #[.int .i64 (cutV r.t s.g), vl, .int .i64 1, vs, vn, vn], .int .i64 0]) ∧ WidesSl w' vs r.xs ∧ Below W.heap.size W w') := fun W h => (refOf12_any s r vd vm vl vn W (hd.below h) (hm.below h) td tm (hl.below h) tl (hn.below h) hx).mono fun e w' ⟨hb, h⟩ => by
    rcases h with ⟨_, vs, h4, h5⟩ | ⟨h4, _⟩
    · exact ⟨vs, h4, WidesSl.own h5, hb⟩
    · exact absurd hof h4
  have HE : Hid (addE s l r = if endsB (addL s l r) = true then 0 else 121) := by unfold Hid addE; rw [h0, h1, h2]; rfl
  have HO : Hid (outA s l r = if endsB (addL s l r) = true then addL s l r else []) := by
    unfold Hid outA
    rw [HE.out]
    cases endsB (addL s l r) <;> rfl
  rw [h0'] at HR
  rw [h1] at HA
  have hlen : (addL s l r).length ≤ 1000000 := by
    have h1 : (addL s l r).length ≤ l.length + 1 := (Put.put_len (cellRule s.ms.length) l (ofC s r)).2
    have := ra.len
    omega
  have HPUT := hid (fun (W : World) (vs : Value) (h : Below w.heap.size w W) (hs : WidesSl W vs r.xs) => refPut_any s.ms.length l (ofC s r) v ⟨vl, vs, vn, vn⟩ W (hv.below h) ⟨vl, vs, vn, vn, rfl, hl.below h, hs, hn.below h, hn.below h⟩ (by have := ra.len; omega) (by omega) ra.sizes tl.2 (fun c hc => (ra.rolled.all c hc).2) (ofC_ok h2).2 (fun c hc => by
    have h1 := (ra.each c hc).2.1; have h2 := (ra.each c hc).2.2.1
    show wrap64 (c.n + 1) = c.n + 1
    unfold wrap64
    omega))
  have HEN := hid (fun W x (h : CellsSl W x (addL s l r)) => refEnds_any x (addL s l r) W h hlen)
  obtain ⟨ad, cd, rfl, _, _, _⟩ := SlAt.shape hd
  obtain ⟨am, cm, rfl, _, _, _⟩ := SlAt.shape hm
  obtain ⟨al, cl, rfl, _, _, _⟩ := SlAt.shape hl
  obtain ⟨an, cn, rfl, _, _, _⟩ := SlAt.shape hn
  obtain ⟨ao, cap, rfl, _, _, _⟩ := hv.shape
  obtain ⟨E, hE⟩ : ∃ E, (if endsB (addL s l r) = true then (0 : Int) else 121) = E := ⟨_, rfl⟩
  obtain ⟨L, hL⟩ : ∃ L, (if endsB (addL s l r) = true then addL s l r else []) = L := ⟨_, rfl⟩
  simp only [hE, hL] at HEN
  rw [hE] at HE
  rw [hL] at HO
  clear hd hm td tm hv ht hl tl hn hx h0 h0' h1 h2 hof ra hlen hE hL
  go_enter Try.func40, Try.ntmps40
  go_wp2_with (first
    | (go_at_call 22; go_loud ((with_reducible refine (HR.out _ (by (repeat' (first | (with_reducible exact Below.refl _ _) | (with_reducible assumption) | (with_reducible refine Below.new ?_ _) | (with_reducible refine Below.alloc ?_ ?_ _) | (with_reducible refine Below.drew ?_) | (with_reducible refine Below.drewN ?_ _) | (with_reducible refine Below.setCell ?_ ?_ _) | (refine Below.step ?_ (by assumption)) | go_size)))).mono ?_); rintro e w1 ⟨rfl, hb1⟩; obtain ⟨hc1, hf1, hk1, hz1⟩ := bcell3 hb1; (try simp only [World.size_alloc, World.size_drew] at hz1); have : w.heap.size < w1.heap.size := (by omega); have : w.heap.size + 1 < w1.heap.size := (by omega)))
    | (go_at_call 42; go_loud ((with_reducible refine (HA.out _ (by (repeat' (first | (with_reducible exact Below.refl _ _) | (with_reducible assumption) | (with_reducible refine Below.new ?_ _) | (with_reducible refine Below.alloc ?_ ?_ _) | (with_reducible refine Below.drew ?_) | (with_reducible refine Below.drewN ?_ _) | (with_reducible refine Below.setCell ?_ ?_ _) | (refine Below.step ?_ (by assumption)) | go_size)))).mono ?_); rintro e w2 ⟨rfl, hb2⟩; obtain ⟨hc2, hf2, hk2, hz2⟩ := bcell3 hb2; (try simp only [World.size_alloc, World.size_drew] at hz2); have : w.heap.size < w2.heap.size := (by omega); have : w.heap.size + 1 < w2.heap.size := (by omega))))
  refine (HO2.out _ (by (repeat' (first | (with_reducible exact Below.refl _ _) | (with_reducible assumption) | (with_reducible refine Below.new ?_ _) | (with_reducible refine Below.alloc ?_ ?_ _) | (with_reducible refine Below.drew ?_) | (with_reducible refine Below.drewN ?_ _) | (with_reducible refine Below.setCell ?_ ?_ _) | (refine Below.step ?_ (by assumption)) | go_size)))).mono ?_
  rintro e w3 ⟨vs, rfl, hs3, hb3⟩
  obtain ⟨sa, sc, rfl, _⟩ := SlAt.shape hs3
  have hB3 : Below w.heap.size w w3 := by (repeat' (first | (with_reducible exact Below.refl _ _) | (with_reducible assumption) | (with_reducible refine Below.new ?_ _) | (with_reducible refine Below.alloc ?_ ?_ _) | (with_reducible refine Below.drew ?_) | (with_reducible refine Below.drewN ?_ _) | (with_reducible refine Below.setCell ?_ ?_ _) | (refine Below.step ?_ (by assumption)) | go_size))
  have HB3 := hid hB3
  have HS3 := hid hs3
  clear hb1 hc1 hf1 hk1 hz1 hb2 hc2 hf2 hk2 hz2 hb3 hB3 hs3 HR HA HO2
  go_wp2_with fail
  refine (HPUT.out _ _ (HB3.out.new _) (HS3.out.below ((Below.refl _ _).new _))).mono ?_
  rintro e w4 ⟨v4, rfl, hc4, hb4⟩
  have HB4 := hid ((HB3.out.new _).step hb4)
  have HC4 := hid hc4
  clear hb4 hc4
  go_wp2_with (go_at_call 59; go_loud ((with_reducible refine (HEN.out _ _ HC4.out).mono ?_); rintro e w5 ⟨x5, rfl, hx5, hb5⟩; have H5 := hid (And.intro hx5 hb5); clear hx5 hb5))
  go_ret2
  exact ⟨x5, by rw [HE.out]; rfl, by rw [HO.out]; exact H5.out.1, HB4.out.step H5.out.2⟩
theorem refAdd_out (s : SchD) (l : List CellD) (r : RowD) (vd vm v vl vn : Value) (w : World) (hd : StrsSl w vd s.ds) (hm : StrsSl w vm s.ms) (td : Texts s.ds) (tm : Texts s.ms) (hv : CellsSl w v l) (ht : ∀ c ∈ l, CellTame c) (hlen : l.length ≤ 1000000) (hl : ValsSl w vl r.l) (tl : Vals r.l) (hn : IntsSl w vn r.xs) (hx : ∀ x ∈ r.xs, I64 x) :
    Calls Try.prog 40 #[.agg #[vd, vm, .int .i64 s.g], v, .agg #[.int .i64 r.t, vl, vn]] w (OutPost w (outA s l r) (addE s l r)) := by
  by_cases h : rightB s l = true ∧ fitsR s r = true
  · exact refAdd_good s l r vd vm v vl vn w hd hm td tm hv ht hl tl hn hx h.1 h.2
  · rw [addE_bad h]
    exact refAdd_bad s l r vd vm v vl vn w hd hm td tm hv ht hlen hl tl hn hx h
end Go.Proofs.Ytdgeinipdphoeaa
/- Rollup: the law's 'Few': cells. -/
namespace Go.Proofs.Ytdgeinipdphoeaa
set_option linter.unusedVariables false
set_option linter.unusedSimpArgs false
set_option maxRecDepth 100000
open Go.ChangeShapes Go.WideShapes Go.ChangeAt Go.RowKit

def fewC (c : CellD) : CellD := ⟨c.t, valsCut c.l, c.n, c.sums.take 10, c.mins.take 10, c.maxs.take 10⟩
def cellsCut (l : List CellD) : List CellD := (l.take 50).map fewC
theorem WidesSl.take {w : World} {an : Option Addr} {cn : Nat} {xs : List Int} (h : WidesSl w (.slice an xs.length cn) xs) (k : Nat) : WidesSl w (.slice an (min xs.length k) cn) (xs.take k) := by
  have h2 := SlAt.take h (k := min xs.length k) (Nat.min_le_left _ _)
  have e : (xs.take k).length = min xs.length k := by rw [List.length_take, Nat.min_comm]
  have e2 : xs.take (min xs.length k) = xs.take k := by
    by_cases hk : k ≤ xs.length
    · rw [Nat.min_eq_right hk]
    · rw [Nat.min_eq_left (by omega), List.take_length, List.take_of_length_le (by omega)]
  unfold WidesSl
  rw [flat_take 2 wcells wcells_len, e2] at h2
  rw [e]
  exact h2
/-- A list of cells whose values lie in rows made since block B, whose numbers lie in lists of an old world. -/
structure OwnKn (w0 : World) (B : Nat) (w : World) (v : Value) (ps : List CellP) : Prop where
  row : w.ownsRow B 46 6 v ps.length (ps.flatMap rowP)
  each : ∀ p ∈ ps, w.ownsRow B 54 2 p.1.vl p.2.l.length (p.2.l.flatMap ValD.cells) ∧ WidesSl w0 p.1.vs p.2.sums ∧ IntsSl w0 p.1.vm p.2.mins ∧ IntsSl w0 p.1.vx p.2.maxs
  below : Below w0.heap.size w0 w
  base : w0.heap.size ≤ B
theorem OwnKn.is {w0 w : World} {B : Nat} {v : Value} {ps : List CellP} (h : OwnKn w0 B w v ps) : CellsSl w v (cellsP ps) := by
  have hr := h.row
  unfold cellsP
  rcases h.row.2 with ⟨rfl, h0⟩ | ⟨g, cap, cur, rfl, _, _, h3, h4, _, _⟩
  · have : ps = [] := List.eq_nil_of_length_eq_zero h0
    subst this
    exact ElemsSl.nil w
  · refine ⟨some ⟨g, 0, none⟩, cap, by simp, by simpa using h3, h4, (fun h => by cases h), fun hl => ⟨g, 0, rfl, fun i hi => ?_⟩⟩
    have hi' : i < ps.length := by simpa using hi
    obtain ⟨e1, e2, e3, e4⟩ := h.each ps[i] (List.getElem_mem hi')
    refine ⟨rowP ps[i], rfl, ⟨ps[i].1.vl, ps[i].1.vs, ps[i].1.vm, ps[i].1.vx, ?_, ?_, ?_, ?_, ?_⟩, fun j u hj => ?_⟩
    · simp [rowP, CellV.row]
    · simpa using ValsSl.own e1
    · simpa using e2.below h.below
    · simpa using e3.below h.below
    · simpa using e4.below h.below
    · have hj6 : j < 6 := (List.getElem?_eq_some_iff.1 hj).1
      rw [show 0 + i * 6 + j = i * 6 + j by omega, hr.cellAt _ (by omega), flat_at 6 rowP rowP_len ps i j hj6 hi', hj]
theorem OwnKn.nil {w0 w : World} {B : Nat} (h : Below w0.heap.size w0 w) (hB : w0.heap.size ≤ B) : OwnKn w0 B w (.slice none 0 0) [] := ⟨World.ownsRow_nil _ _ _ _, fun _ h => (by simp at h), h, hB⟩
theorem OwnKn.step {w0 w w' : World} {B : Nat} {v : Value} {ps : List CellP} (h : OwnKn w0 B w v ps) (hb : Below w.heap.size w w') : OwnKn w0 B w' v ps :=
  ⟨row_below h.row hb, fun p hp => ⟨row_below (h.each p hp).1 hb, (h.each p hp).2⟩, h.below.step hb, h.base⟩
theorem OwnKn.far3 {w0 w : World} {B b : Nat} {v : Value} {ps : List CellP} (h : OwnKn w0 B w v ps) (h1 : w0.heap.size ≤ b) (h2 : b < B) {x y z : Value} : OwnKn w0 B (((w.setCell ⟨b, 0, none⟩ x).setCell ⟨b, 1, none⟩ y).setCell ⟨b, 2, none⟩ z) v ps :=
  ⟨row_far3 h.row h2, fun p hp => ⟨row_far3 (h.each p hp).1 h2, (h.each p hp).2⟩, below3 h.below h1, h.base⟩
theorem OwnKn.push {w0 w w' : World} {B : Nat} {v v' : Value} {ps : List CellP} {u : CellV} {c : CellD} (h : OwnKn w0 B w v ps) (h1 : w.ownsRow B 54 2 u.vl c.l.length (c.l.flatMap ValD.cells)) (h2 : WidesSl w0 u.vs c.sums) (h3 : IntsSl w0 u.vm c.mins) (h4 : IntsSl w0 u.vx c.maxs)
    (hg : w.grownBy w' v.ownBlock) (hown : w'.ownsRow B 46 6 v' (ps.length + 1) (ps.flatMap rowP ++ rowP (u, c))) : OwnKn w0 B w' v' (ps ++ [(u, c)]) := by
  have key : ∀ {e : TypeId} {size : Nat} {x : Value} {n : Nat} {xs : List Value}, e ≠ 46 → w.ownsRow B e size x n xs → w'.ownsRow B e size x n xs := fun he hx => by
    refine hx.kept hg ?_
    cases hxo : Value.ownBlock _ with
    | none => exact .inl rfl
    | some g => exact .inr fun e => row_ne hx h.row he hxo e.symm
  refine ⟨by simpa using hown, fun p hp => ?_, own_below h.row hg h.below h.base, h.base⟩
  rcases List.mem_append.1 hp with hp | hp
  · exact ⟨key (by decide) (h.each p hp).1, (h.each p hp).2⟩
  · obtain rfl : p = (u, c) := by simpa using hp
    exact ⟨key (by decide) h1, h2, h3, h4⟩
def FewPost (w0 w : World) (l : List CellD) (e : Ending) (w' : World) : Prop := ∃ v ps, e = .returned v ∧ OwnKn w0 w.heap.size w' v ps ∧ cellsP ps = l ∧ Below w.heap.size w w'

set_option maxHeartbeats 8000000 in
theorem lawFew_any (l : List CellD) (v : Value) (w0 w : World) (h0 : Below w0.heap.size w0 w) (hv0 : CellsSl w0 v l) (hsz : ∀ c ∈ l, ∀ x ∈ c.l, x.s.size ≤ 9223372036854775807) :
    Calls Try.prog 39 #[v] w (FewPost w0 w (cellsCut l)) := by
  obtain ⟨ic, hi, hiz0, hiz1, hiz2⟩ := info_parts info_cell
  have HV := hid (hv0.below h0); have HV0 := hid hv0; have H00 := hid h0
  have HF := hid (fun k (hk : k < l.length) vl W (h1 : ValsSl W vl l[k].l) => vals_any vl l[k].l W h1 (hsz _ (List.getElem_mem hk)))
  obtain ⟨ao, cap, rfl, hc1, hc2, _⟩ := hv0.shape
  obtain ⟨N, hN⟩ : ∃ N, min l.length 50 = N := ⟨_, rfl⟩
  have HCN : Hid ((N = l.length ∨ N = 50) ∧ N ≤ l.length ∧ N ≤ 50) := by unfold Hid; omega
  have HTK : Hid (l.take N = l.take 50) := by
    have := HCN.out
    unfold Hid
    rcases this.1 with h | h
    · rw [h, List.take_length, List.take_of_length_le (by omega)]
    · rw [h]
  clear hv0 hsz hN h0
  unfold maxLen at hc2
  go_enter Try.func39, Try.ntmps39
  go_wp2
  go_loopw [3, 4] (fun a i wr => ∃ (k : Nat) (qs : List CellP), k ≤ N ∧ i = .int .i64 (k : Nat) ∧ OwnKn w0 w.heap.size wr a qs ∧ cellsP qs = (l.take k).map fewC ∧ Below w.heap.size w wr) (fun _ i _ => N - (intOf i).toNat)
  case atStart => exact ⟨0, [], Nat.zero_le _, rfl, OwnKn.nil H00.out H00.out.size, by simp [cellsP], Below.refl _ _⟩
  case round =>
    obtain ⟨k, qs, hk, rfl, hq, hqc, hbel⟩ := hrel
    have HQ := hid hq; have HQB := hid hbel; have HQC := hid hqc
    have hk0 : (0 : Int) ≤ (k : Int) := Int.natCast_nonneg _
    have hkL : k ≤ l.length := by have := HCN.out; omega
    have hkn : k ≤ 50 := by have := HCN.out; omega
    have HQL : Hid (qs.length = k) := by
      have := congrArg List.length hqc
      unfold Hid
      simp [cellsP] at this
      omega
    have hql1 : qs.length ≤ 1000 := by have := HQL.out; omega
    obtain ⟨qo, qc, e⟩ := row_shape hq.row
    subst e
    clear hqc hq
    by_cases hlt : k < N
    · have hlen : k < l.length := by have := HCN.out; omega
      have hlen' : (k : Int) < (l.length : Int) := by omega
      have hln : (k : Int) < 50 := by have := HCN.out; omega
      have hv1 := HV0.out
      obtain ⟨b, off, vl, vs, vm, vx, rfl, g1, g2, g3, g4, c0, c1, c2, c3, c4, c5⟩ := hv1.at hlen
      have hb0 : Below w0.heap.size w0 wr := H00.out.step hbel
      replace c0 := cell_step c0 hb0; replace c1 := cell_step c1 hb0; replace c2 := cell_step c2 hb0; replace c3 := cell_step c3 hb0; replace c4 := cell_step c4 hb0; replace c5 := cell_step c5 hb0
      have HO := hid (fun W (h : Below w0.heap.size w0 W) => HF.out k hlen vl W (g1.below h))
      obtain ⟨A1, C1, rfl, _⟩ := SlAt.shape g1
      obtain ⟨A2, C2, rfl, x1, x2, _⟩ := SlAt.shape g2
      obtain ⟨A3, C3, rfl, y1, y2, _⟩ := SlAt.shape g3
      obtain ⟨A4, C4, rfl, z1, z2, _⟩ := SlAt.shape g4
      have HT2 := hid (WidesSl.take g2 10); have HT3 := hid (IntsSl.take g3 10); have HT4 := hid (IntsSl.take g4 10)
      have HTS : Hid (l.take (k + 1) = l.take k ++ [l[k]]) := List.take_succ_eq_append_getElem hlen
      have HFC : Hid (fewC l[k] = ⟨l[k].t, valsCut l[k].l, l[k].n, l[k].sums.take 10, l[k].mins.take 10, l[k].maxs.take 10⟩) := rfl
      have hb0' := hid hb0
      clear g1 g2 g3 g4 hbel hv1 hb0
      unfold maxLen at x2 y2 z2
      generalize l[k] = c at *
      obtain ⟨V, hV⟩ : ∃ V, valsCut c.l = V := ⟨_, rfl⟩
      rw [hV] at HO HFC
      clear hV
      generalize c.l.length = m1 at *
      obtain ⟨S2, hS2⟩ : ∃ S, c.sums.take 10 = S := ⟨_, rfl⟩
      obtain ⟨S3, hS3⟩ : ∃ S, c.mins.take 10 = S := ⟨_, rfl⟩
      obtain ⟨S4, hS4⟩ : ∃ S, c.maxs.take 10 = S := ⟨_, rfl⟩
      rw [hS2] at HT2 HFC
      rw [hS3] at HT3 HFC
      rw [hS4] at HT4 HFC
      have L2 := hid (show S2.length = min c.sums.length 10 by rw [← hS2, List.length_take, Nat.min_comm])
      have L3 := hid (show S3.length = min c.mins.length 10 by rw [← hS3, List.length_take, Nat.min_comm])
      have L4 := hid (show S4.length = min c.maxs.length 10 by rw [← hS4, List.length_take, Nat.min_comm])
      clear hS2 hS3 hS4
      generalize c.sums.length = m2 at *
      generalize c.mins.length = m3 at *
      generalize c.maxs.length = m4 at *
      generalize c.t = t at *
      generalize c.n = n at *
      obtain ⟨M2, hM2⟩ : ∃ M, min m2 10 = M := ⟨_, rfl⟩
      obtain ⟨M3, hM3⟩ : ∃ M, min m3 10 = M := ⟨_, rfl⟩
      obtain ⟨M4, hM4⟩ : ∃ M, min m4 10 = M := ⟨_, rfl⟩
      have q1 : (0 : Int) ≤ min (m2 : Int) 10 := by omega
      have q2 : min (m2 : Int) 10 ≤ (C2 : Int) := by omega
      have q3 : min (m2 : Int) 10 ≤ (m2 : Int) := by omega
      have q4 : (min (m2 : Int) 10).toNat = M2 := by omega
      have r1 : (0 : Int) ≤ min (m3 : Int) 10 := by omega
      have r2 : min (m3 : Int) 10 ≤ (C3 : Int) := by omega
      have r3 : min (m3 : Int) 10 ≤ (m3 : Int) := by omega
      have r4 : (min (m3 : Int) 10).toNat = M3 := by omega
      have s1 : (0 : Int) ≤ min (m4 : Int) 10 := by omega
      have s2 : min (m4 : Int) 10 ≤ (C4 : Int) := by omega
      have s3 : min (m4 : Int) 10 ≤ (m4 : Int) := by omega
      have s4 : (min (m4 : Int) 10).toNat = M4 := by omega
      have im := ite_min
      rw [hM2] at HT2 L2
      rw [hM3] at HT3 L3
      rw [hM4] at HT4 L4
      clear hM2 hM3 hM4
      go_wp2_with fail
      have hbx : (wr.alloc (.cells #[.int .i64 t, .slice A1 m1 C1, .int .i64 n, .slice A2 m2 C2, .slice A3 m3 C3, .slice A4 m4 C4] 46)).heap[wr.heap.size]? = some (.cells #[.int .i64 t, .slice A1 m1 C1, .int .i64 n, .slice A2 m2 C2, .slice A3 m3 C3, .slice A4 m4 C4] 46 (0, 0)) := heap_at rfl
      have hBX : Below wr.heap.size wr (wr.alloc (.cells #[.int .i64 t, .slice A1 m1 C1, .int .i64 n, .slice A2 m2 C2, .slice A3 m3 C3, .slice A4 m4 C4] 46)) := (Below.refl _ _).new _
      obtain ⟨WX, hWX⟩ : ∃ W, wr.alloc (.cells #[.int .i64 t, .slice A1 m1 C1, .int .i64 n, .slice A2 m2 C2, .slice A3 m3 C3, .slice A4 m4 C4] 46) = W := ⟨_, rfl⟩
      rw [hWX] at hbx hBX ⊢
      obtain ⟨e0, e1, e2, e3, e4, e5⟩ := six_at hbx
      have zX := blk_lt hbx
      have HBX := hid hBX
      clear hWX hbx c0 c1 c2 c3 c4 c5 hBX
      have hS0 : (fun w' : World => w'.cell? ⟨wr.heap.size, 0, none⟩ = some (.int .i64 t) ∧ w'.cell? ⟨wr.heap.size, 1, none⟩ = some (.slice A1 m1 C1) ∧ w'.cell? ⟨wr.heap.size, 2, none⟩ = some (.int .i64 n) ∧ w'.cell? ⟨wr.heap.size, 3, none⟩ = some (.slice A2 m2 C2) ∧ w'.cell? ⟨wr.heap.size, 4, none⟩ = some (.slice A3 m3 C3) ∧ w'.cell? ⟨wr.heap.size, 5, none⟩ = some (.slice A4 m4 C4)) WX.drew := ⟨e0, e1, e2, e3, e4, e5⟩
      refine wp_region_some (fun w' : World => w'.cell? ⟨wr.heap.size, 0, none⟩ = some (.int .i64 t) ∧ w'.cell? ⟨wr.heap.size, 1, none⟩ = some (.slice A1 m1 C1) ∧ w'.cell? ⟨wr.heap.size, 2, none⟩ = some (.int .i64 n) ∧ w'.cell? ⟨wr.heap.size, 3, none⟩ = some (.slice A2 m2 C2) ∧ w'.cell? ⟨wr.heap.size, 4, none⟩ = some (.slice A3 m3 C3) ∧ w'.cell? ⟨wr.heap.size, 5, none⟩ = some (.slice A4 m4 C4)) [31, 32] (by kernel_rfl) ?_
      (refine wpMix_take (i := 0) (v := ?_) rfl (by kernel_rfl) (fun _ _ _ h => h) (Or.inl ⟨by rfl, ?_⟩) hS0 ?_; rotate_left 1; (focus (intro w hSw; (try dsimp only at hSw); go_simp; try (with_reducible rfl))); (try simp only [Act.put, List.setIfInBounds_toArray, List.set_cons_zero, List.set_cons_succ]))
      (refine wpMix_take (i := 1) (v := ?_) rfl (by kernel_rfl) (fun _ _ _ h => h) (Or.inl ⟨by rfl, ?_⟩) hS0 ?_; rotate_left 1; (focus (intro w hSw; (try dsimp only at hSw); go_simp; try (with_reducible rfl))); (try simp only [Act.put, List.setIfInBounds_toArray, List.set_cons_zero, List.set_cons_succ]))
      (refine wpMix_take (i := 2) (v := ?_) rfl (by kernel_rfl) (fun _ _ _ h => h) (Or.inl ⟨by rfl, ?_⟩) hS0 ?_; rotate_left 1; (focus (intro w hSw; (try dsimp only at hSw); go_simp; try (with_reducible rfl))); (try simp only [Act.put, List.setIfInBounds_toArray, List.set_cons_zero, List.set_cons_succ]))
      (refine wpMix_take (i := 3) (v := ?_) rfl (by kernel_rfl) (fun _ _ _ h => h) (Or.inl ⟨by rfl, ?_⟩) hS0 ?_; rotate_left 1; (focus (intro w hSw; (try dsimp only at hSw); go_simp; try (with_reducible rfl))); (try simp only [Act.put, List.setIfInBounds_toArray, List.set_cons_zero, List.set_cons_succ]))
      (refine wpMix_take (i := 4) (v := ?_) rfl (by kernel_rfl) (fun _ _ _ h => h) (Or.inl ⟨by rfl, ?_⟩) hS0 ?_; rotate_left 1; (focus (intro w hSw; (try dsimp only at hSw); go_simp; try (with_reducible rfl))); (try simp only [Act.put, List.setIfInBounds_toArray, List.set_cons_zero, List.set_cons_succ]))
      (refine wpMix_take (i := 6) (v := ?_) rfl (by kernel_rfl) (fun _ _ _ h => h) (Or.inl ⟨by rfl, ?_⟩) hS0 ?_; rotate_left 1; (focus (intro w hSw; (try dsimp only at hSw); go_simp; try (with_reducible rfl))); (try simp only [Act.put, List.setIfInBounds_toArray, List.set_cons_zero, List.set_cons_succ]))
      (refine wpMix_take (i := 7) (v := ?_) rfl (by kernel_rfl) (fun _ _ _ h => h) (Or.inl ⟨by rfl, ?_⟩) hS0 ?_; rotate_left 1; (focus (intro w hSw; (try dsimp only at hSw); go_simp; try (with_reducible rfl))); (try simp only [Act.put, List.setIfInBounds_toArray, List.set_cons_zero, List.set_cons_succ]))
      (refine wpMix_take (i := 8) (v := ?_) rfl (by kernel_rfl) (fun _ _ _ h => h) (Or.inl ⟨by rfl, ?_⟩) hS0 ?_; rotate_left 1; (focus (intro w hSw; (try dsimp only at hSw); go_simp; try (with_reducible rfl))); (try simp only [Act.put, List.setIfInBounds_toArray, List.set_cons_zero, List.set_cons_succ]))
      (refine wpMix_take (i := 9) (v := ?_) rfl (by kernel_rfl) (fun _ _ _ h => h) (Or.inl ⟨by rfl, ?_⟩) hS0 ?_; rotate_left 1; (focus (intro w hSw; (try dsimp only at hSw); go_simp; try (with_reducible rfl))); (try simp only [Act.put, List.setIfInBounds_toArray, List.set_cons_zero, List.set_cons_succ]))
      (refine wpMix_take (i := 10) (v := ?_) rfl (by kernel_rfl) (fun _ _ _ h => h) (Or.inl ⟨by rfl, ?_⟩) hS0 ?_; rotate_left 1; (focus (intro w hSw; (try dsimp only at hSw); go_simp; try (with_reducible rfl))); (try simp only [Act.put, List.setIfInBounds_toArray, List.set_cons_zero, List.set_cons_succ]))
      (refine wpMix_take (i := 11) (v := ?_) rfl (by kernel_rfl) (fun _ _ _ h => h) (Or.inl ⟨by rfl, ?_⟩) hS0 ?_; rotate_left 1; (focus (intro w hSw; (try dsimp only at hSw); go_simp; try (with_reducible rfl))); (try simp only [Act.put, List.setIfInBounds_toArray, List.set_cons_zero, List.set_cons_succ]))
      (refine wpMix_take (i := 12) (v := ?_) rfl (by kernel_rfl) (fun _ _ _ h => h) (Or.inl ⟨by rfl, ?_⟩) hS0 ?_; rotate_left 1; (focus (intro w hSw; (try dsimp only at hSw); go_simp; try (with_reducible rfl))); (try simp only [Act.put, List.setIfInBounds_toArray, List.set_cons_zero, List.set_cons_succ]))
      (refine wpMix_take (i := 13) (v := ?_) rfl (by kernel_rfl) (fun _ _ _ h => h) (Or.inl ⟨by rfl, ?_⟩) hS0 ?_; rotate_left 1; (focus (intro w hSw; (try dsimp only at hSw); go_simp; try (with_reducible rfl))); (try simp only [Act.put, List.setIfInBounds_toArray, List.set_cons_zero, List.set_cons_succ]))
      (refine wpMix_take (i := 14) (v := ?_) rfl (by kernel_rfl) (fun _ _ _ h => h) (Or.inl ⟨by rfl, ?_⟩) hS0 ?_; rotate_left 1; (focus (intro w hSw; (try dsimp only at hSw); go_simp; try (with_reducible rfl))); (try simp only [Act.put, List.setIfInBounds_toArray, List.set_cons_zero, List.set_cons_succ]))
      (refine wpMix_take (i := 15) (v := ?_) rfl (by kernel_rfl) (fun _ _ _ h => h) (Or.inl ⟨by rfl, ?_⟩) hS0 ?_; rotate_left 1; (focus (intro w hSw; (try dsimp only at hSw); go_simp; try (with_reducible rfl))); (try simp only [Act.put, List.setIfInBounds_toArray, List.set_cons_zero, List.set_cons_succ]))
      (refine wpMix_take (i := 16) (v := ?_) rfl (by kernel_rfl) (fun _ _ _ h => h) (Or.inl ⟨by rfl, ?_⟩) hS0 ?_; rotate_left 1; (focus (intro w hSw; (try dsimp only at hSw); go_simp; try (with_reducible rfl))); (try simp only [Act.put, List.setIfInBounds_toArray, List.set_cons_zero, List.set_cons_succ]))
      (refine wpMix_take (i := 17) (v := ?_) rfl (by kernel_rfl) (fun _ _ _ h => h) (Or.inl ⟨by rfl, ?_⟩) hS0 ?_; rotate_left 1; (focus (intro w hSw; (try dsimp only at hSw); go_simp; try (with_reducible rfl))); (try simp only [Act.put, List.setIfInBounds_toArray, List.set_cons_zero, List.set_cons_succ]))
      (refine wpMix_take (i := 18) (v := ?_) rfl (by kernel_rfl) (fun _ _ _ h => h) (Or.inl ⟨by rfl, ?_⟩) hS0 ?_; rotate_left 1; (focus (intro w hSw; (try dsimp only at hSw); go_simp; try (with_reducible rfl))); (try simp only [Act.put, List.setIfInBounds_toArray, List.set_cons_zero, List.set_cons_succ]))
      (refine wpMix_take (i := 19) (v := ?_) rfl (by kernel_rfl) (fun _ _ _ h => h) (Or.inl ⟨by rfl, ?_⟩) hS0 ?_; rotate_left 1; (focus (intro w hSw; (try dsimp only at hSw); go_simp; try (with_reducible rfl))); (try simp only [Act.put, List.setIfInBounds_toArray, List.set_cons_zero, List.set_cons_succ]))
      (refine wpMix_take (i := 20) (v := ?_) rfl (by kernel_rfl) (fun _ _ _ h => h) (Or.inl ⟨by rfl, ?_⟩) hS0 ?_; rotate_left 1; (focus (intro w hSw; (try dsimp only at hSw); go_simp; try (with_reducible rfl))); (try simp only [Act.put, List.setIfInBounds_toArray, List.set_cons_zero, List.set_cons_succ]))
      (refine wpMix_take (i := 21) (v := ?_) rfl (by kernel_rfl) (fun _ _ _ h => h) (Or.inl ⟨by rfl, ?_⟩) hS0 ?_; rotate_left 1; (focus (intro w hSw; (try dsimp only at hSw); go_simp; try (with_reducible rfl))); (try simp only [Act.put, List.setIfInBounds_toArray, List.set_cons_zero, List.set_cons_succ]))
      (refine wpMix_take (i := 22) (v := ?_) rfl (by kernel_rfl) (fun _ _ _ h => h) (Or.inl ⟨by rfl, ?_⟩) hS0 ?_; rotate_left 1; (focus (intro w hSw; (try dsimp only at hSw); go_simp; try (with_reducible rfl))); (try simp only [Act.put, List.setIfInBounds_toArray, List.set_cons_zero, List.set_cons_succ]))
      (refine wpMix_take (i := 23) (v := ?_) rfl (by kernel_rfl) (fun _ _ _ h => h) (Or.inl ⟨by rfl, ?_⟩) hS0 ?_; rotate_left 1; (focus (intro w hSw; (try dsimp only at hSw); go_simp; try (with_reducible rfl))); (try simp only [Act.put, List.setIfInBounds_toArray, List.set_cons_zero, List.set_cons_succ]))
      (refine wpMix_take (i := 24) (v := ?_) rfl (by kernel_rfl) (fun _ _ _ h => h) (Or.inl ⟨by rfl, ?_⟩) hS0 ?_; rotate_left 1; (focus (intro w hSw; (try dsimp only at hSw); go_simp; try (with_reducible rfl))); (try simp only [Act.put, List.setIfInBounds_toArray, List.set_cons_zero, List.set_cons_succ]))
      (refine wpMix_take (i := 25) (v := ?_) rfl (by kernel_rfl) (fun _ _ _ h => h) (Or.inl ⟨by rfl, ?_⟩) hS0 ?_; rotate_left 1; (focus (intro w hSw; (try dsimp only at hSw); go_simp; try (with_reducible rfl))); (try simp only [Act.put, List.setIfInBounds_toArray, List.set_cons_zero, List.set_cons_succ]))
      (refine wpMix_take (i := 26) (v := ?_) rfl (by kernel_rfl) (fun _ _ _ h => h) (Or.inl ⟨by rfl, ?_⟩) hS0 ?_; rotate_left 1; (focus (intro w hSw; (try dsimp only at hSw); go_simp; try (with_reducible rfl))); (try simp only [Act.put, List.setIfInBounds_toArray, List.set_cons_zero, List.set_cons_succ]))
      (refine wpMix_take (i := 27) (v := ?_) rfl (by kernel_rfl) (fun _ _ _ h => h) (Or.inl ⟨by rfl, ?_⟩) hS0 ?_; rotate_left 1; (focus (intro w hSw; (try dsimp only at hSw); go_simp; try (with_reducible rfl))); (try simp only [Act.put, List.setIfInBounds_toArray, List.set_cons_zero, List.set_cons_succ]))
      (refine wpMix_take (i := 28) (v := ?_) rfl (by kernel_rfl) (fun _ _ _ h => h) (Or.inl ⟨by rfl, ?_⟩) hS0 ?_; rotate_left 1; (focus (intro w hSw; (try dsimp only at hSw); go_simp; try (with_reducible rfl))); (try simp only [Act.put, List.setIfInBounds_toArray, List.set_cons_zero, List.set_cons_succ]))
      refine wpMix_next (t := 5) (by kernel_rfl) ?_
      simp only [opsAt, List.flatMap_cons, List.flatMap_nil, List.take_succ_cons, List.take_zero, List.drop_succ_cons, List.drop_zero, List.append_nil, List.cons_append, List.nil_append]
      go_wp2_with (go_at_call 44; go_loud ((with_reducible refine (HO.out _ ((hb0'.out.step HBX.out).drew)).mono ?_); rintro e w5 ⟨v5, rfl, ho5, hb5⟩))
      have hb5' : Below WX.heap.size WX w5 := (Below.drew (Below.refl _ _)).trans hb5
      refine ⟨⟨cell_step e0 hb5', cell_step e1 hb5', cell_step e2 hb5', cell_step e3 hb5', cell_step e4 hb5', cell_step e5 hb5'⟩, ?_⟩
      obtain ⟨xa, xc, e⟩ := row_shape ho5
      subst e
      refine wpMix_next (t := 29) (by kernel_rfl) ?_
      simp only [opsAt, List.flatMap_cons, List.flatMap_nil, List.take_succ_cons, List.take_zero, List.drop_succ_cons, List.drop_zero, List.append_nil, List.cons_append, List.nil_append]
      go_wp2
      refine ⟨⟨cell_step e0 hb5', cell_step e1 hb5', cell_step e2 hb5', cell_step e3 hb5', cell_step e4 hb5', cell_step e5 hb5'⟩, ?_⟩
      refine wpMix_next (t := 30) (by kernel_rfl) ?_
      simp only [opsAt, List.flatMap_cons, List.flatMap_nil, List.take_succ_cons, List.take_zero, List.drop_succ_cons, List.drop_zero, List.append_nil, List.cons_append, List.nil_append]
      go_wp2
      refine ⟨⟨cell_new (cell_step e0 hb5') _, cell_new (cell_step e1 hb5') _, cell_new (cell_step e2 hb5') _, cell_new (cell_step e3 hb5') _, cell_new (cell_step e4 hb5') _, cell_new (cell_step e5 hb5') _⟩, ?_⟩
      refine wpMix_rest [31, 32] (by kernel_rfl) ?_
      simp only [opsAt, List.flatMap_cons, List.flatMap_nil, List.take_succ_cons, List.take_zero, List.drop_succ_cons, List.drop_zero, List.append_nil, List.cons_append, List.nil_append]
      have hbr := HBX.out.step hb5'
      have HB5 := hid hbr
      have HO5 := hid (ho5.base_le (b' := w.heap.size) (by have h1 := HQB.out.size; have h2 := HBX.out.size; simp; omega))
      have z5 := hbr.size
      clear hS0 e0 e1 e2 e3 e4 e5 hb5 hb5' ho5 hbr
      go_wp2_with (at_builtin; go_loud (refine wpList_append_sl _ rfl _ _ 40 rfl w.heap.size 46 ic _ 6 112 Try.underlying40 hi hiz0 hiz1 hiz2 rfl (by decide) (.slice qo qs.length qc) qs.length _ rfl ((row_below HQ.out.row HB5.out).alloc _) (.slice (some ⟨w5.heap.size, 0, none⟩) 1 1) 1 _ rfl (SlAt.new w5 #[.int .i64 t, .slice xa V.length xc, .int .i64 n, .slice A2 M2 C2, .slice A3 M3 C3, .slice A4 M4 C4] 46) (by simp [Value.oneCell']) (by unfold maxLen; omega) (by omega) (by have := HQB.out.size; simp; omega) ?_); intro v6 w6 hown6 hg6 hb6)
      have hpush := OwnKn.push (v' := v6) (u := ⟨.slice xa V.length xc, .slice A2 M2 C2, .slice A3 M3 C3, .slice A4 M4 C4⟩) (c := ⟨t, V, n, S2, S3, S4⟩) ((HQ.out.step HB5.out).step ((Below.refl _ _).new _)) (HO5.out.alloc _) HT2.out HT3.out HT4.out hg6 (by exact hown6)
      have hbw6 := own_below ((row_below HQ.out.row HB5.out).alloc _) hg6 ((HQB.out.step HB5.out).new _) (Nat.le_refl _)
      have H6 := hid (And.intro hpush hbw6)
      clear hpush hbw6 hown6 hg6 hb6
      go_roundw
      case rel =>
        refine ⟨k + 1, _, hlt, by go_num, H6.out.1, ?_, H6.out.2⟩
        rw [HTS.out, List.map_append, ← HQC.out, List.map_cons, List.map_nil, HFC.out]
        simp [cellsP]
      case measure => simp [intOf]; omega
    · obtain rfl : k = N := by omega
      have HR := hid (show (l.take k).map fewC = cellsCut l by unfold cellsCut; rw [HTK.out])
      have hex : k = l.length ∨ (k < l.length ∧ k = 50) := by have := HCN.out; omega
      rcases hex with h | ⟨h, h2⟩
      · have g2 : decide ((k : Int) < (l.length : Int)) = false := by simp; omega
        have g3 : decide (k < l.length) = false := by simp; omega
        clear h hbel
        go_wp2
        go_ret
        exact ⟨_, qs, rfl, HQ.out, by rw [HQC.out, HR.out], HQB.out⟩
      · have g2 : (k : Int) < (l.length : Int) := by omega
        have g3 : decide ((k : Int) < 50) = false := by simp; omega
        have g4 : decide (k < 50) = false := by simp; omega
        clear h h2 hbel
        go_wp2
        go_ret
        exact ⟨_, qs, rfl, HQ.out, by rw [HQC.out, HR.out], HQB.out⟩
end Go.Proofs.Ytdgeinipdphoeaa
