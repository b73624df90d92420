/- Texts joined: FlT, RtP, Seq, SeqF, FlC, FlQ, Blk, RtC. -/
import Derived.Test.YtejleplhmkmegaaGreatDoorOd
import Derived.Lib.ItoaNum
import Derived.Lib.ItoaMem
import Derived.Shelf.Spec.TrailingZeros
import Derived.Test.YtejleplhmkmegaaGreatDoorOa
import Derived.RangeFuncNested
import Derived.RangeFuncBound
import Derived.RangeFuncCalls
import Derived.RangeFuncLeaves
import Derived.Shelf.Abstract
import Derived.Shelf.RegionOpen
import Derived.OwnWalkIn
import Derived.TacticsInMore
import Derived.LoopNIn
import Derived.LoopIn
import Derived.Stop.RegionWithIn
import Derived.Sort.QuietIn
import Derived.Sort.LoopGhostIn
/- Floating numbers, plainly: their texts, one to one. -/
namespace Go.Fl
open Ieee Go.Lib

/-- How often 2 divides a number. -/
def tz (m : Nat) : Nat := if h : m = 0 ∨ m % 2 = 1 then 0 else tz (m / 2) + 1
termination_by m
decreasing_by omega
theorem tz_odd {m : Nat} (h : m % 2 = 1) : tz m = 0 := by rw [tz, dif_pos (.inr h)]
theorem tz_even {m : Nat} (h0 : 0 < m) (h : m % 2 = 0) : tz m = tz (m / 2) + 1 := by rw [tz, dif_neg (by omega)]
theorem tz_spec : ∀ (m : Nat), 0 < m → m = m / 2 ^ tz m * 2 ^ tz m ∧ m / 2 ^ tz m % 2 = 1 := by
  intro m
  induction m using Nat.strongRecOn with
  | _ m ih =>
    intro h0
    by_cases h : m % 2 = 1
    · rw [tz_odd h]; simp; exact h
    · obtain ⟨h1, h2⟩ := ih (m / 2) (by omega) (by omega)
      rw [tz_even h0 (by omega)]
      have e : m / 2 ^ (tz (m / 2) + 1) = m / 2 / 2 ^ tz (m / 2) := by rw [Nat.pow_succ, Nat.mul_comm, Nat.div_div_eq_div_mul]
      rw [e]
      refine ⟨?_, h2⟩
      rw [Nat.pow_succ, ← Nat.mul_assoc, ← h1]
      omega
def oddM (m : Nat) : Nat := m / 2 ^ tz m
theorem oddM_le (m : Nat) : oddM m ≤ m := Nat.div_le_self _ _
/-- A finite word's text, without its sign. -/
def finT (r : Nat) : List UInt8 := decDigits (oddM (fM r)) ++ 112 :: itoa ((fK r : Int) - 1074 + tz (fM r))
def bodyT (r : Nat) : List UInt8 := if r = 2047 * 2 ^ 52 then [105, 110, 102] else if r = 0 then [48] else finT r
/-- A floating number's text. -/
def textB (b : Nat) : List UInt8 := if isNan b then [110, 97, 110] else if sgn b then 45 :: bodyT (b % 2 ^ 63) else bodyT (b % 2 ^ 63)

theorem dec_digit : ∀ (n : Nat), ∀ c ∈ decDigits n, 48 ≤ c.toNat ∧ c.toNat ≤ 57 := by
  intro n
  induction n using Nat.strongRecOn with
  | _ n ih =>
    intro c hc
    rw [decDigits] at hc
    by_cases h : n < 10
    · rw [dif_pos h] at hc
      rw [List.mem_singleton] at hc; subst hc
      rw [UInt8.toNat_ofNat']; omega
    · rw [dif_neg h] at hc
      rcases List.mem_append.1 hc with hc | hc
      · exact ih (n / 10) (by omega) c hc
      · rw [List.mem_singleton] at hc; subst hc
        rw [UInt8.toNat_ofNat']; omega
/-- The number of digits. -/
def decV (l : List UInt8) : Nat := l.foldl (fun a c => 10 * a + (c.toNat - 48)) 0
theorem decV_snoc (l : List UInt8) (c : UInt8) : decV (l ++ [c]) = 10 * decV l + (c.toNat - 48) := by unfold decV; rw [List.foldl_append]; rfl
theorem decV_dec : ∀ n : Nat, decV (decDigits n) = n := by
  intro n
  induction n using Nat.strongRecOn with
  | _ n ih =>
    rw [decDigits]
    by_cases h : n < 10
    · rw [dif_pos h]
      show 10 * 0 + ((UInt8.ofNat (48 + n)).toNat - 48) = n
      rw [UInt8.toNat_ofNat']; omega
    · rw [dif_neg h, decV_snoc, ih (n / 10) (by omega), UInt8.toNat_ofNat']; omega
theorem dec_ne (n : Nat) : decDigits n ≠ [] := by rw [decDigits]; split <;> simp
theorem dec_head {n : Nat} (h : 0 < n) : ∃ c l, decDigits n = c :: l ∧ c ≠ 48 := by
  induction n using Nat.strongRecOn with
  | _ n ih =>
    rw [decDigits]
    by_cases h1 : n < 10
    · rw [dif_pos h1]
      refine ⟨_, _, rfl, fun e => ?_⟩
      have := congrArg UInt8.toNat e
      rw [UInt8.toNat_ofNat'] at this
      simp at this
      omega
    · rw [dif_neg h1]
      obtain ⟨c, l, e, hc⟩ := ih (n / 10) (by omega) (by omega)
      exact ⟨c, l ++ _, by rw [e]; rfl, hc⟩
theorem dec_inj {m n : Nat} (h : decDigits m = decDigits n) : m = n := by rw [← decV_dec m, h, decV_dec]
theorem itoa_inj {m n : Int} (h : itoa m = itoa n) : m = n := by
  unfold itoa at h
  have hd : ∀ k, decDigits k ≠ [] := dec_ne
  have h45 : ∀ k l, decDigits k = 45 :: l → False := fun k l e => by
    have := dec_digit k 45 (by rw [e]; simp)
    revert this; decide
  by_cases h1 : m < 0
  · by_cases h2 : n < 0
    · rw [if_pos h1, if_pos h2] at h
      have := dec_inj (List.cons.inj h).2
      omega
    · rw [if_pos h1, if_neg h2] at h
      exact (h45 _ _ h.symm).elim
  · by_cases h2 : n < 0
    · rw [if_neg h1, if_pos h2] at h
      exact (h45 _ _ h).elim
    · rw [if_neg h1, if_neg h2] at h
      have := dec_inj h
      omega
/-- Two lists that part at the first such mark. -/
theorem split_at {x y u v : List UInt8} {c : UInt8} (h : x ++ c :: u = y ++ c :: v) (hx : c ∉ x) (hy : c ∉ y) : x = y ∧ u = v := by
  induction x generalizing y with
  | nil =>
    cases y with
    | nil => exact ⟨rfl, (List.cons.inj h).2⟩
    | cons d y => simp at h hy; exact absurd h.1 hy.1
  | cons a x ih =>
    cases y with
    | nil => simp at h hx; exact absurd h.1.symm hx.1
    | cons d y =>
      simp at h hx hy
      obtain ⟨e1, e2⟩ := ih h.2 hx.2 hy.2
      exact ⟨by rw [h.1, e1], e2⟩
theorem dec_p (n : Nat) : (112 : UInt8) ∉ decDigits n := fun h => by have := dec_digit n 112 h; revert this; decide
/-- A finite word's magnitude by its text's two numbers. -/
theorem val_text {r : Nat} (h : 0 < r) : val r = oddM (fM r) * 2 ^ (fK r + tz (fM r)) := by
  have hM : 0 < fM r := by
    have := val_pos h
    unfold val at this
    exact Nat.pos_of_mul_pos_right this
  have := (tz_spec (fM r) hM).1
  unfold val oddM
  rw [Nat.add_comm, Nat.pow_add, ← Nat.mul_assoc, ← this]
theorem finT_inj {r q : Nat} (hr : 0 < r) (hq : 0 < q) (h : finT r = finT q) : r = q := by
  unfold finT at h
  obtain ⟨h1, h2⟩ := split_at h (dec_p _) (dec_p _)
  have e1 := dec_inj h1
  have e2 := itoa_inj h2
  refine val_inj ?_
  rw [val_text hr, val_text hq, e1]
  congr 2
  omega
theorem finT_head {r : Nat} (hr : 0 < r) : ∃ c l, finT r = c :: l ∧ 49 ≤ c.toNat ∧ c.toNat ≤ 57 := by
  have hM : 0 < fM r := by
    have := val_pos hr
    unfold val at this
    exact Nat.pos_of_mul_pos_right this
  have ho : 0 < oddM (fM r) := Nat.pos_of_ne_zero fun e => by
    have h2 := (tz_spec (fM r) hM).2
    unfold oddM at e
    rw [e] at h2
    exact absurd h2 (by decide)
  obtain ⟨c, l, e, hc⟩ := dec_head ho
  have hd := dec_digit (oddM (fM r)) c (by rw [e]; simp)
  refine ⟨c, l ++ 112 :: itoa ((fK r : Int) - 1074 + tz (fM r)), by unfold finT; rw [e]; rfl, ?_, hd.2⟩
  rcases Nat.lt_or_ge 48 c.toNat with h | h
  · omega
  · exact absurd (UInt8.toNat_inj.1 (show c.toNat = (48 : UInt8).toNat from by show c.toNat = 48; omega)) hc
theorem bodyT_inj {r q : Nat} (h : bodyT r = bodyT q) : r = q := by
  have no1 : ∀ {r}, 0 < r → finT r ≠ [105, 110, 102] := fun hr e => by
    obtain ⟨c, l, e2, _, h2⟩ := finT_head hr
    rw [e] at e2
    have := (List.cons.inj e2).1
    subst this
    revert h2; decide
  have no2 : ∀ {r}, 0 < r → finT r ≠ [48] := fun hr e => by
    obtain ⟨c, l, e2, h1, _⟩ := finT_head hr
    rw [e] at e2
    have := (List.cons.inj e2).1
    subst this
    revert h1; decide
  unfold bodyT at h
  by_cases r1 : r = 2047 * 2 ^ 52
  · rw [if_pos r1] at h
    by_cases q1 : q = 2047 * 2 ^ 52
    · omega
    · rw [if_neg q1] at h
      by_cases q2 : q = 0
      · rw [if_pos q2] at h; cases h
      · rw [if_neg q2] at h; exact absurd h.symm (no1 (by omega))
  · rw [if_neg r1] at h
    by_cases r2 : r = 0
    · rw [if_pos r2] at h
      by_cases q1 : q = 2047 * 2 ^ 52
      · rw [if_pos q1] at h; cases h
      · rw [if_neg q1] at h
        by_cases q2 : q = 0
        · omega
        · rw [if_neg q2] at h; exact absurd h.symm (no2 (by omega))
    · rw [if_neg r2] at h
      by_cases q1 : q = 2047 * 2 ^ 52
      · rw [if_pos q1] at h; exact absurd h (no1 (by omega))
      · rw [if_neg q1] at h
        by_cases q2 : q = 0
        · rw [if_pos q2] at h; exact absurd h (no2 (by omega))
        · rw [if_neg q2] at h; exact finT_inj (by omega) (by omega) h
theorem bodyT_head (r : Nat) : ∃ c l, bodyT r = c :: l ∧ c ≠ 45 ∧ c ≠ 110 := by
  unfold bodyT
  split
  · exact ⟨_, _, rfl, by decide, by decide⟩
  · split
    · exact ⟨_, _, rfl, by decide, by decide⟩
    · rename_i h
      obtain ⟨c, l, e, h1, h2⟩ := finT_head (r := r) (by omega)
      refine ⟨c, l, e, fun x => ?_, fun x => ?_⟩ <;> (subst x; revert h1 h2; decide)
/-- Texts and numbers are one to one. -/
theorem textB_inj {b c : Nat} (hb : b < 2 ^ 64) (hc : c < 2 ^ 64) (h : textB b = textB c) : b = c ∨ (isNan b = true ∧ isNan c = true) := by
  obtain ⟨x1, l1, e1, a1, a2⟩ := bodyT_head (b % 2 ^ 63)
  obtain ⟨x2, l2, e2, b1, b2⟩ := bodyT_head (c % 2 ^ 63)
  unfold textB at h
  cases n1 : isNan b with
  | true =>
    cases n2 : isNan c with
    | true => exact .inr ⟨rfl, rfl⟩
    | false =>
      rw [n1, n2] at h
      simp only [if_true, Bool.false_eq_true, if_false] at h
      cases s2 : sgn c <;> rw [s2] at h <;> simp only [if_true, Bool.false_eq_true, if_false] at h
      · rw [e2] at h; exact absurd (List.cons.inj h).1.symm b2
      · cases h
  | false =>
    cases n2 : isNan c with
    | true =>
      rw [n1, n2] at h
      simp only [if_true, Bool.false_eq_true, if_false] at h
      cases s1 : sgn b <;> rw [s1] at h <;> simp only [if_true, Bool.false_eq_true, if_false] at h
      · rw [e1] at h; exact absurd (List.cons.inj h).1 a2
      · cases h
    | false =>
      refine .inl ?_
      rw [n1, n2] at h
      simp only [Bool.false_eq_true, if_false] at h
      have w1 := word_parts hb
      have w2 := word_parts hc
      cases s1 : sgn b <;> cases s2 : sgn c <;> rw [s1, s2] at h <;> simp only [if_true, Bool.false_eq_true, if_false] at h
      · rw [← w1, ← w2, s1, s2, bodyT_inj h]
      · rw [e1] at h; exact absurd (List.cons.inj h).1 a1
      · rw [e2] at h; exact absurd (List.cons.inj h).1.symm b1
      · rw [← w1, ← w2, s1, s2, bodyT_inj (List.cons.inj h).2]
end Go.Fl
/- Ratio: math/bits.TrailingZeros64. -/
namespace Go.Proofs.YtejleplhmkmegaaGreatDoor
set_option linter.unusedVariables false
set_option linter.unusedSimpArgs false
set_option maxRecDepth 100000
open Go.ChangeShapes Go.WideShapes Go.ChangeAt Go.RowKit Go.Fl

theorem tz_core (x k idx : Nat) (w : World) (hx0 : ((x : Int) == 0) = false)
    (key : IntKind.u64.wrap (bits BinOp.and IntKind.u64 (x : Int) (IntKind.u64.wrap (-(x : Int))) * 285870213051353865) / 288230376151711744 = (idx : Int))
    (hi : idx < 64) (hk : k < 64) (hcell : w.cell? ⟨1, idx, none⟩ = some (.int .u8 k)) :
    Calls Tryz.prog 92 #[.int .u64 (x : Int)] w fun e w' => e = .returned (.int .i64 (k : Int)) ∧ w' = w := by
  go_enter Tryz.func92, Tryz.ntmps92
  go_wp2_with (simp only [key])
  go_ret
  exact ⟨rfl, rfl⟩
theorem tz_any (x : Nat) (hx : x < 18446744073709551616) (hx0 : x ≠ 0) (w : World) (hT : TabAt 1 Lib.deBruijn64tab w) :
    Calls Tryz.prog 92 #[.int .u64 (x : Int)] w fun e w' => e = .returned (.int .i64 (Lib.ctz 64 x : Nat)) ∧ w' = w := by
  obtain ⟨hlow, hk⟩ := Lib.lowest_bit 64 x hx0 hx
  obtain ⟨hi, htab⟩ := Lib.deBruijn64_at _ hk
  have hcell := hT _ hi
  rw [htab] at hcell
  exact tz_core x _ _ w (by simp; omega) (tz64_key x _ hx hx0 hlow) hi hk hcell
theorem ctz_tz : ∀ (f x : Nat), 0 < x → x < 2 ^ f → Lib.ctzFrom f x = tz x
  | 0, x, h0, h => by simp at h; omega
  | f + 1, x, h0, h => by
    unfold Lib.ctzFrom
    split
    · rename_i h1
      rw [tz_odd h1]
    · rename_i h1
      rw [tz_even h0 (by omega), ctz_tz f (x / 2) (by omega) (by rw [Nat.pow_succ] at h; omega)]
      omega
theorem tz_is (x : Nat) (hx : x < 18446744073709551616) (hx0 : x ≠ 0) (w : World) (hT : TabAt 1 Lib.deBruijn64tab w) :
    Calls Tryz.prog 92 #[.int .u64 (x : Int)] w fun e w' => e = .returned (.int .i64 (tz x : Nat)) ∧ w' = w := by
  have := tz_any x hx hx0 w hT
  have e : Lib.ctz 64 x = tz x := by unfold Lib.ctz; rw [if_neg hx0]; exact ctz_tz 64 x (by omega) hx
  rw [e] at this
  exact this
/-- A number moved up has the same odd part, more zeros. -/
theorem tz_up : ∀ (s M : Nat), 0 < M → tz (M * 2 ^ s) = tz M + s ∧ oddM (M * 2 ^ s) = oddM M
  | 0, M, h => by simp
  | s + 1, M, h => by
    have hp : 0 < 2 ^ s := Nat.pow_pos (by decide)
    have h2 : M * 2 ^ (s + 1) = 2 * (M * 2 ^ s) := by rw [Nat.pow_succ, Nat.mul_comm (2 ^ s), Nat.mul_left_comm]
    obtain ⟨i1, i2⟩ := tz_up s M h
    have h3 : 0 < M * 2 ^ s := Nat.mul_pos h hp
    generalize M * 2 ^ s = y at *
    have h4 := tz_even (m := 2 * y) (by omega) (by omega)
    have h5 : 2 * y / 2 = y := by omega
    rw [h5] at h4
    rw [h2]
    refine ⟨by omega, ?_⟩
    rw [← i2]
    unfold oddM
    rw [h4, Nat.pow_succ', ← Nat.div_div_eq_div_mul, h5]
end Go.Proofs.YtejleplhmkmegaaGreatDoor
/- A range over a function, for callers and iterators under no fence: one contract for iterators ('SeqI': by the place in a list), one law for callers ('wp_range'). -/
namespace Go.Proofs.YtejleplhmkmegaaGreatDoor
set_option linter.unusedVariables false
set_option linter.unusedSimpArgs false
open Go.RowKit

section scopes
variable {F : Fence} {n : Nat} {P : Program} {b : Frame} {Q : Exit → Act → World → Prop} {a : Act} {w : World} {k : List Item} {cs : List Frame}
theorem stepR_scope {c : Code} : step P (lone (b.atR a (.code (.scope c) :: k)) cs w) = .next (lone (b.atR a (.code c :: .inScope c :: k)) cs w) :=
  step_lone_go (by simp [stepG, stepG.exec, Frame.atR])
theorem stepR_inScope {c : Code} : step P (lone (b.atR a (.inScope c :: k)) cs w) = .next (lone (b.atR a k) cs w) :=
  step_lone_go (by simp [stepG, stepG.exec, Frame.atR])
/-- As 'jumpFwd', within a fence. -/
def jumpFwdIn (F : Fence) (n : Nat) (P : Program) (c : Code) (Q : Exit → Act → World → Prop) : Exit → Act → World → Prop
  | .goto l, a, w => ∃ rest, findLabel c l = some rest ∧ rest.wpIn F n P (Exit.noGoto Q) a w
  | e, a, w => Q e a w
theorem jumpFwdIn_ret {c : Code} : jumpFwdIn F n P c Q .ret a w = Q .ret a w := rfl
theorem jumpFwdIn_normal {c : Code} : jumpFwdIn F n P c Q .normal a w = Q .normal a w := rfl
theorem jumpFwdIn_exit {c : Code} {id : Nat} : jumpFwdIn F n P c Q (.exit id) a w = Q (.exit id) a w := rfl
theorem jumpFwdIn_goto {c rest : Code} {l : Nat} (h : findLabel c l = some rest) (hr : rest.wpIn F n P (Exit.noGoto Q) a w) : jumpFwdIn F n P c Q (.goto l) a w := ⟨rest, h, hr⟩
theorem wpIn_scope_fwd {c : Code} (h : c.wpIn F n P (jumpFwdIn F n P c Q) a w) : (Code.scope c).wpIn F n P Q a w := by
  intro b k cs hro hb hr
  have h0 : (lone (b.atR a (.code (.scope c) :: k)) cs w).fenced P F := fenced_calm hb hr rfl
  obtain ⟨e, a₁, w₁, hq, harr⟩ := h b (.inScope c :: k) cs hro hb hr
  have hx : ∀ id, exitTo id (.inScope c :: k) = exitTo id k := fun id => by simp [exitTo]
  cases e with
  | normal => exact ⟨.normal, a₁, w₁, hq, .head h0 stepR_scope (StepsIn.trans harr (.one (fenced_calm hb hr rfl) stepR_inScope))⟩
  | exit id =>
    exact ⟨.exit id, a₁, w₁, hq, fun k' hk => .head h0 stepR_scope (harr.1 k' (by rw [hx]; exact hk)),
      fun hr' hk => let ⟨k₁, h1, h2⟩ := harr.2 hr' (by rw [hx]; exact hk); ⟨k₁, h1, .head h0 stepR_scope h2⟩⟩
  | goto l =>
    obtain ⟨rest, hf, hre⟩ := hq
    have hg : gotoIn l (.inScope c :: k) = some (.code rest :: .inScope c :: k) := by simp [gotoIn, hf]
    obtain ⟨e₂, a₂, w₂, hq₂, harr₂⟩ := hre b (.inScope c :: k) cs hro hb hr
    have s0 := StepsIn.head h0 (stepR_scope (P := P) (b := b) (a := a) (k := k) (cs := cs) (w := w) (c := c)) (harr.1 _ hg)
    cases e₂ with
    | normal => exact ⟨.normal, a₂, w₂, hq₂, StepsIn.trans s0 (StepsIn.trans harr₂ (.one (fenced_calm hb hr rfl) stepR_inScope))⟩
    | exit id =>
      exact ⟨.exit id, a₂, w₂, hq₂, fun k' hk => StepsIn.trans s0 (harr₂.1 k' (by rw [hx]; exact hk)),
        fun hr' hk => let ⟨k₁, h1, h2⟩ := harr₂.2 hr' (by rw [hx]; exact hk); ⟨k₁, h1, StepsIn.trans s0 h2⟩⟩
    | goto l => exact hq₂.elim
    | ret => exact ⟨_, a₂, w₂, hq₂, .of_steps s0 harr₂⟩
    | panic ch => exact ⟨_, a₂, w₂, hq₂, .of_steps s0 harr₂⟩
    | outgrown => exact ⟨_, a₂, w₂, hq₂, .of_steps s0 harr₂⟩
  | ret => exact ⟨_, a₁, w₁, hq, .of_steps (.one h0 stepR_scope) harr⟩
  | panic ch => exact ⟨_, a₁, w₁, hq, .of_steps (.one h0 stepR_scope) harr⟩
  | outgrown => exact ⟨_, a₁, w₁, hq, .of_steps (.one h0 stepR_scope) harr⟩
theorem wpIn_scope_straight {c : Code} (h : c.wpIn F n P (Exit.noGoto Q) a w) : (Code.scope c).wpIn F n P Q a w :=
  wpIn_scope_fwd (wpIn_mono h fun e a w q => by cases e <;> first | exact q | exact q.elim)
end scopes

/-- What the body of a loop keeps for the iterator: what lies below n₀, and the iterator's own blocks from lo on, below hi. -/
structure Prot (n₀ lo hi : Nat) (W W' : World) : Prop where
  size : W.heap.size ≤ W'.heap.size
  low : ∀ k, k < n₀ → W'.heap[k]? = W.heap[k]?
  mid : ∀ k, lo ≤ k → k < hi → W'.heap[k]? = W.heap[k]?
theorem Prot.refl (n₀ lo hi : Nat) (W : World) : Prot n₀ lo hi W W := ⟨Nat.le_refl _, fun _ _ => rfl, fun _ _ _ => rfl⟩
theorem Prot.trans {n₀ lo hi : Nat} {A B C : World} (h : Prot n₀ lo hi A B) (k : Prot n₀ lo hi B C) : Prot n₀ lo hi A C :=
  ⟨Nat.le_trans h.size k.size, fun i hi => (k.low i hi).trans (h.low i hi), fun i h1 h2 => (k.mid i h1 h2).trans (h.mid i h1 h2)⟩
theorem Prot.cell {n₀ lo hi : Nat} {W W' : World} (h : Prot n₀ lo hi W W') {b o : Nat} (hb : b < n₀ ∨ lo ≤ b ∧ b < hi) : W'.cell? ⟨b, o, none⟩ = W.cell? ⟨b, o, none⟩ :=
  World.cell?_of_block (w := W) (hb.elim (fun h1 => h.low b h1) (fun h1 => h.mid b h1.1 h1.2))
theorem Prot.frozen {n₀ lo hi : Nat} {W W' : World} (h : Prot n₀ lo hi W W') {b o : Nat} (hb : b < n₀ ∨ lo ≤ b ∧ b < hi) : W'.frozen? ⟨b, o, none⟩ = W.frozen? ⟨b, o, none⟩ :=
  World.frozen?_of_block (w := W) (hb.elim (fun h1 => h.low b h1) (fun h1 => h.mid b h1.1 h1.2))
theorem Prot.putObj {n₀ lo hi : Nat} (W : World) (l : Nat) (o' : Obj) (hl : n₀ ≤ l ∧ hi ≤ l) : Prot n₀ lo hi W (W.putObj l o') :=
  ⟨by simp, fun k hk => World.putObj_heap_other (by omega), fun k h1 h2 => World.putObj_heap_other (by omega)⟩

/-- An invariant abides an iterator's step: new blocks; a turn of a walk's object from B on. -/
def Abide (B : Nat) (p : World → Prop) : Prop :=
  ∀ W W' row, p W → W.grownBy W' row → (∀ r, row = some r → B ≤ r ∧ ∃ o : Obj, W.heap[r]? = some o ∧ o.isWalk = true) → p W'

/-- The contract of an iterator that gives 'enc 0' .. 'enc (N - 1)': whatever the rounds keep and do. -/
def SeqI (P : Program) (g : Nat) (lb : Array Value) (enc : Nat → Array Value) (n₀ lo hi : Nat) (N : Nat) (w : World) : Prop :=
  ∀ (n l : Nat) (J Jx : Nat → World → Prop) (W : World), 1 ≤ n → Below w.heap.size w W → (∀ k, Abide W.heap.size (J k)) → (∀ k, Abide W.heap.size (Jx k)) →
    (∀ k, k < N → ∀ W1, J k W1 → YieldAt Fence.wide (n - 1) P l (enc k) W1 fun e W' =>
      (e = .returned (.bool true) ∧ J (k + 1) W' ∧ Prot n₀ lo hi W1 W') ∨ (e = .returned (.bool false) ∧ Jx k W')) →
    J 0 W →
    CallsIn Fence.wide n P g (#[.func (.yield l) #[] #[]] ++ lb) W fun e W' => (∃ v, e = .returned v) ∧ (J N W' ∨ ∃ k, k < N ∧ Jx k W')

/-- A block that holds no cells has turned. -/
structure Turn (D : Nat) (w w' : World) : Prop where
  grown : w.grownBy w' (some D)
  size : w'.heap.size = w.heap.size
  obj : ∃ o : Obj, w.heap[D]? = some o ∧ o.isCells = false
theorem Turn.putObj {D : Nat} {w : World} {o o' : Obj} (h : w.heap[D]? = some o) (hc : o.isCells = false) : Turn D w (w.putObj D o') := ⟨grownBy_putObj' w D o', by simp, o, h, hc⟩
theorem Turn.block {D : Nat} {w w' : World} (h : Turn D w w') {k : Nat} (hk : k < w.heap.size) (hne : k ≠ D) : w'.heap[k]? = w.heap[k]? := h.grown.block k hk (fun e => hne (by cases e; rfl))
theorem Turn.lt {D : Nat} {w w' : World} (h : Turn D w w') : D < w.heap.size := by obtain ⟨o, ho, _⟩ := h.obj; exact (Array.getElem?_eq_some_iff.1 ho).1

/-- An invariant abides the turn of a block that holds no cells and lies from B on. -/
def Stab (B : Nat) (p : World → Prop) : Prop :=
  ∀ W W' row, p W → W.grownBy W' row → (∀ r, row = some r → B ≤ r ∧ ∃ o : Obj, W.heap[r]? = some o ∧ o.isCells = false) → p W'
theorem Stab.alloc {B : Nat} {p : World → Prop} (h : Stab B p) {W : World} (o : Obj) (hs : p W) : p (W.alloc o) := h W _ none hs (World.grownBy_alloc W o none) (fun r e => by cases e)
theorem Stab.turn {B D : Nat} {p : World → Prop} (h : Stab B p) {W W' : World} (hs : p W) (ht : Turn D W W') (hB : B ≤ D) : p W' := h W W' (some D) hs ht.grown (fun r e => by cases e; exact ⟨hB, ht.obj⟩)
theorem Stab.putObj {B : Nat} {p : World → Prop} (h : Stab B p) {W : World} {l : Nat} {o : Obj} (o' : Obj) (hs : p W) (hB : B ≤ l) (hl : W.heap[l]? = some o) (ho : o.isCells = false) : p (W.putObj l o') :=
  h.turn hs (Turn.putObj hl ho) hB
theorem Stab.and {B : Nat} {p q : World → Prop} (hp : Stab B p) (hq : Stab B q) : Stab B (fun W => p W ∧ q W) := fun W W' row hs hg hr => ⟨hp W W' row hs.1 hg hr, hq W W' row hs.2 hg hr⟩
theorem Stab.ex {B : Nat} {α : Sort _} {p : α → World → Prop} (hp : ∀ x, Stab B (p x)) : Stab B (fun W => ∃ x, p x W) := fun W W' row ⟨x, hs⟩ hg hr => ⟨x, hp x W W' row hs hg hr⟩
theorem Stab.all {B : Nat} {α : Sort _} {p : α → World → Prop} (hp : ∀ x, Stab B (p x)) : Stab B (fun W => ∀ x, p x W) := fun W W' row hs hg hr x => hp x W W' row (hs x) hg hr
theorem Stab.pure {B : Nat} (p : Prop) : Stab B (fun _ => p) := fun _ _ _ hs _ _ => hs
theorem Stab.block {B b : Nat} {c : Array Value} {t : TypeId} {f : Nat × Nat} : Stab B (fun W => W.heap[b]? = some (.cells c t f)) := fun W W' row hs hg hr =>
  (hg.block b (Array.getElem?_eq_some_iff.1 hs).1 (fun e => by obtain ⟨_, o, ho, hc⟩ := hr b e.symm; rw [hs] at ho; cases ho; cases hc)).trans hs
theorem Stab.cell {B : Nat} {a : Addr} {v : Value} : Stab B (fun W => W.cell? a = some v) := fun W W' row hs hg hr => cell_kept hs hg (fun r e => (hr r e).2)
theorem Stab.free {B : Nat} {a : Addr} : Stab B (fun W => (∃ v, W.cell? a = some v) ∧ W.frozen? a = false) := fun W W' row ⟨⟨v, hs⟩, hf⟩ hg hr => ⟨⟨v, cell_kept hs hg (fun r e => (hr r e).2)⟩, (frozen_kept hs hg (fun r e => (hr r e).2)).trans hf⟩
theorem Stab.row {B base : Nat} {e : TypeId} {size : Nat} {v : Value} {n : Nat} {xs : List Value} : Stab B (fun W => W.ownsRow base e size v n xs) := fun W W' row hs hg hr => by
  refine hs.kept hg ?_
  obtain ⟨_, h2⟩ := hs
  rcases h2 with ⟨rfl, _⟩ | ⟨g, cap, cur, rfl, _, hh, _⟩
  · exact .inl rfl
  · refine .inr fun e' => ?_
    obtain ⟨_, o, ho, hc⟩ := hr g e'.symm
    rw [hh] at ho; cases ho; cases hc
theorem Stab.below {B n₀ : Nat} {w₀ : World} (hn : n₀ ≤ w₀.heap.size) (hB : n₀ ≤ B) : Stab B (fun W => Below n₀ w₀ W) := fun W W' row hs hg hr =>
  hs.grown hg (Nat.le_trans hn hs.size) (fun k e => Nat.le_trans hB (hr k e).1)

/-- What a round's body keeps: non-cells from B on, and what the iterator wants. -/
structure Kept (B n₀ lo hi : Nat) (W W' : World) : Prop where
  from_ : KeepsFrom B W W'
  prot : Prot n₀ lo hi W W'
theorem Kept.refl (B n₀ lo hi : Nat) (W : World) : Kept B n₀ lo hi W W := ⟨KeepsFrom.refl _ _, Prot.refl _ _ _ _⟩
theorem Kept.trans {B n₀ lo hi : Nat} {X Y Z : World} (h : Kept B n₀ lo hi X Y) (k : Kept B n₀ lo hi Y Z) : Kept B n₀ lo hi X Z := ⟨h.from_.trans k.from_, h.prot.trans k.prot⟩
theorem Kept.alloc {B n₀ lo hi : Nat} {X W : World} (h : Kept B n₀ lo hi X W) (hn : n₀ ≤ W.heap.size) (hh : hi ≤ W.heap.size) (o : Obj) : Kept B n₀ lo hi X (W.alloc o) :=
  h.trans ⟨(KeepsOthers.alloc W o).from _, by simp, fun k hk => Below.heap_alloc W o k (by omega), fun k h1 h2 => Below.heap_alloc W o k (by omega)⟩
theorem Kept.drew {B n₀ lo hi : Nat} {X W : World} (h : Kept B n₀ lo hi X W) : Kept B n₀ lo hi X W.drew := h.trans ⟨(KeepsOthers.drew W).from _, Nat.le_refl _, fun _ _ => rfl, fun _ _ _ => rfl⟩
theorem Kept.setCell {B n₀ lo hi : Nat} {X W : World} (h : Kept B n₀ lo hi X W) {p : Addr} (hn : n₀ ≤ p.block) (hm : p.block < lo ∨ hi ≤ p.block) (u : Value) : Kept B n₀ lo hi X (W.setCell p u) :=
  h.trans ⟨(KeepsOthers.setCell W p u).from _, by simp [World.setCell], fun k hk => Below.heap_setCell W p u k (by omega), fun k h1 h2 => Below.heap_setCell W p u k (by omega)⟩
theorem Kept.step {B n₀ lo hi : Nat} {X W w1 : World} (h : Kept B n₀ lo hi X W) (hn : n₀ ≤ W.heap.size) (hh : hi ≤ W.heap.size) (hb : Below W.heap.size W w1) : Kept B n₀ lo hi X w1 :=
  h.trans ⟨⟨hb.size, fun k o _ hk _ => (hb.block k (Array.getElem?_eq_some_iff.1 hk).1).trans hk⟩, hb.size, fun k hk => hb.block k (by omega), fun k h1 h2 => hb.block k (by omega)⟩
/-- Behind an append: the row that may have been written is one of cells. -/
theorem Kept.grown {B n₀ lo hi : Nat} {X W W' : World} {row : Option Nat} (h : Kept B n₀ lo hi X W) (hg : W.grownBy W' row) (hn : n₀ ≤ W.heap.size) (hh : hi ≤ W.heap.size)
    (hr : ∀ k, row = some k → n₀ ≤ k ∧ (k < lo ∨ hi ≤ k) ∧ ∀ o, W.heap[k]? = some o → o.isCells = true) : Kept B n₀ lo hi X W' :=
  h.trans ⟨(KeepsOthers.of_grownBy hg (fun j o e ho => (hr j e).2.2 o ho)).from _, hg.size,
    fun k hk => hg.block k (by omega) (fun e => by have := (hr k e.symm).1; omega),
    fun k h1 h2 => hg.block k (by omega) (fun e => by have := (hr k e.symm).2.1; omega)⟩

/-- A row that the call owns is a row of cells, from 'base' on. -/
theorem row_of_own {w : World} {base : Nat} {e : TypeId} {size : Nat} {v : Value} {n : Nat} {xs : List Value} (h : w.ownsRow base e size v n xs) : ∀ k, v.ownBlock = some k → base ≤ k ∧ ∀ o, w.heap[k]? = some o → o.isCells = true := by
  intro k hk
  rcases h.2 with ⟨rfl, _⟩ | ⟨g, cap, cur, rfl, hg, hh, _⟩
  · cases hk
  · cases hk
    exact ⟨hg, fun o ho => by rw [hh] at ho; cases ho; rfl⟩

/-- How a round's body may be left. -/
def roundQ (B n₀ lo hi : Nat) (I : Nat → World → Prop) (Ix : Code → Nat → World → Prop) (k : Nat) (W : World) : Exit → Act → World → Prop
  | .normal, _, W' => Kept B n₀ lo hi W W' ∧ I (k + 1) W'
  | .ret, _, W' => Kept B n₀ lo hi W W' ∧ Ix .ret k W'
  | .exit id, _, W' => Kept B n₀ lo hi W W' ∧ Ix (.exit id) k W'
  | .goto t, _, W' => Kept B n₀ lo hi W W' ∧ Ix (.goto t) k W'
  | .panic _, _, _ => False
  | .outgrown, _, _ => False

/-- The mark on the activation's deferred calls that a range over a function lays. -/
abbrev mark (D : Nat) : Deferred := { target := .collected D, args := #[] }

set_option maxHeartbeats 1000000 in
/-- 'for .. := range g { body }', g a value of an iterator that gives xs. -/
theorem wp_range {P : Program} {g : Operand} {ps : Array Tmp} {assign body : Code} {Q : Exit → Act → World → Prop} {a : Act} {w : World}
    {gf : Nat} {lb : Array Value} (hg : a.eval g = .func (.func gf) #[] lb) (eg : ∀ args w, (callFunc gf args).run P w = .ok (.enter gf args) w)
    {enc : Nat → Array Value} {n₀ lo hi : Nat} {N : Nat} (hseq : SeqI P gf lb enc n₀ lo hi N w) (hn : n₀ ≤ w.heap.size ∧ hi ≤ w.heap.size) (hps : ∀ k, (enc k).size = ps.size)
    (I : Nat → World → Prop) (Ix : Code → Nat → World → Prop) (hI : ∀ k, Stab w.heap.size (I k)) (hIx : ∀ c k, Stab w.heap.size (Ix c k)) (h0 : I 0 w)
    (hround : ∀ (l k : Nat) (W : World), k < N → I k W → w.heap.size ≤ l → l < W.heap.size → w.heap.size ≤ W.heap.size →
      assign.wpIn (Fence.wide.inRound l) 8 P (Exit.then (fun a₁ W1 => Kept w.heap.size n₀ lo hi W W1 ∧ ∀ W2, Turn l W1 W2 → body.wpIn (Fence.wide.inRound l) 8 P (roundQ w.heap.size n₀ lo hi I Ix k W2) a₁ W2) (fun _ _ _ => False))
        { tmps := (ps.zip (enc k)).foldl (fun t (p, v) => t.setIfInBounds p v) a.tmps, defers := [] } W)
    (hdone : ∀ (D : Nat) (W : World), w.heap.size ≤ D → I N W → W.heap[D]? = some (.deferred (some [])) → Q .normal { a with defers := mark D :: a.defers } W)
    (hstop : ∀ (D : Nat) (c : Code) (k : Nat) (W : World), w.heap.size ≤ D → k < N → Ix c k W → W.heap[D]? = some (.deferred (some [])) → c.wp P Q { a with defers := mark D :: a.defers } W) :
    (Code.rangeFunc g ps assign body).wp P Q a w := by
  rw [← wpIn_wide (n := 10)]
  refine wpIn_rangeFunc ?_
  intro fn hfn
  obtain ⟨rec, hrec⟩ : ∃ rec : LoopState → Option Code → Loop, rec = fun st pe => { state := st, pending := pe, fn, tmps := a.tmps, params := ps, assign, body, defers := w.heap.size } := ⟨_, rfl⟩
  obtain ⟨W1, hW1⟩ : ∃ W1, (w.alloc (.deferred (some []))).alloc (.loop (rec .ready none)) = W1 := ⟨_, rfl⟩
  have hL1 : W1.heap[w.heap.size + 1]? = some (.loop (rec .ready none)) := by
    rw [← hW1]; have := World.alloc_heap_new (w.alloc (.deferred (some []))) (.loop (rec .ready none)); rwa [World.size_alloc] at this
  have hK1 : W1.heap[w.heap.size]? = some (.deferred (some [])) := by
    rw [← hW1]; exact (Below.heap_alloc _ _ _ (by simp)).trans (World.alloc_heap_new w _)
  have hI1 : I 0 W1 := by rw [← hW1]; exact (hI 0).alloc _ ((hI 0).alloc _ h0)
  have hb1 : Below w.heap.size w W1 := by rw [← hW1]; exact ((Below.refl _ w).alloc (Nat.le_refl _) _).alloc (by simp) _
  have hs1 : W1.heap.size = w.heap.size + 1 + 1 := by rw [← hW1]; simp
  refine ⟨w.heap.size + 1, [mark w.heap.size], W1, { target := .fn (.func gf) lb, args := #[.func (.yield (w.heap.size + 1)) #[] #[]] }, W1, gf,
    #[.func (.yield (w.heap.size + 1)) #[] #[]] ++ lb, W1, ?_, ?_, ?_, ?_, fun _ => by omega, ?_⟩
  · rw [← hW1, hrec]; exact run_enterLoop_outer _ _ _ _ _
  · simp only [resolve, hg]
    simp [go_sem]
  · intro f' hf'; trivial
  · simp [invoke, go_sem, eg]
  · have hnw : ∀ {A : World} {row : Option Nat}, (∀ r, row = some r → W1.heap.size ≤ r ∧ ∃ o : Obj, A.heap[r]? = some o ∧ o.isWalk = true) → (∀ r, row = some r → w.heap.size ≤ r ∧ ∃ o : Obj, A.heap[r]? = some o ∧ o.isCells = false) :=
      fun hr r e => by obtain ⟨hB, o, ho, hw⟩ := hr r e; exact ⟨by omega, o, ho, Obj.not_cells_of_walk hw⟩
    refine (hseq (10 - 1) (w.heap.size + 1)
      (fun k W => I k W ∧ W.heap[w.heap.size + 1]? = some (.loop (rec .ready none)) ∧ W.heap[w.heap.size]? = some (.deferred (some [])))
      (fun k W => ∃ c, Ix c k W ∧ W.heap[w.heap.size + 1]? = some (.loop (rec .done (some c))) ∧ W.heap[w.heap.size]? = some (.deferred (some [])))
      W1 (by omega) hb1
      (fun k A B row hs hg' hr => ⟨hI k A B row hs.1 hg' (hnw hr), (grownBy_keeps hg' (fun r e => (hr r e).2) hs.2.1 rfl).trans hs.2.1, (grownBy_keeps hg' (fun r e => (hr r e).2) hs.2.2 rfl).trans hs.2.2⟩)
      (fun k A B row hs hg' hr => by
        obtain ⟨c, hc, hl, hk⟩ := hs
        exact ⟨c, hIx c k A B row hc hg' (hnw hr), (grownBy_keeps hg' (fun r e => (hr r e).2) hl rfl).trans hl, (grownBy_keeps hg' (fun r e => (hr r e).2) hk rfl).trans hk⟩)
      ?_ ⟨hI1, hL1, hK1⟩).mono ?_
    · -- one round
      rintro k hlen W ⟨hi', hl, hk⟩
      have hlt : w.heap.size + 1 < W.heap.size := (Array.getElem?_eq_some_iff.1 hl).1
      have hy := run_yield (P := P) (args := enc k) hl (by rw [hrec]; exact hps _)
      rw [hrec] at hy
      refine ⟨fn, _, assign, body, hy, roundIn_of_wpIn hfn ?_⟩
      clear hy
      refine wpIn_mono (hround _ k W hlen hi' (by omega) hlt (by omega)) ?_
      intro e a' Wa hpost
      cases e with
      | normal =>
        obtain ⟨hka, hbody⟩ := hpost
        have hla := hka.from_.same _ _ (by omega) hl rfl
        have hda := hka.from_.same _ _ (Nat.le_refl _) hk rfl
        have hlta : w.heap.size + 1 < Wa.heap.size := (Array.getElem?_eq_some_iff.1 hla).1
        refine ⟨_, run_beginRound hla (by rw [hrec]), ?_⟩
        have hl2 : (Wa.putObj (w.heap.size + 1) (.loop { rec .ready none with state := .busy })).heap[w.heap.size + 1]? = some (.loop { rec .ready none with state := .busy }) := World.putObj_heap_same hlta
        have hk2 : (Wa.putObj (w.heap.size + 1) (.loop { rec .ready none with state := .busy })).heap[w.heap.size]? = some (.deferred (some [])) := (World.putObj_heap_other (by omega)).trans hda
        have hw2 : Prot n₀ lo hi Wa (Wa.putObj (w.heap.size + 1) (.loop { rec .ready none with state := .busy })) := Prot.putObj _ _ _ (by omega)
        refine wpIn_mono (hbody _ (Turn.putObj hla rfl)) ?_
        have fin : ∀ (jump : Option Code) (W3 : World), KeepsFrom w.heap.size (Wa.putObj (w.heap.size + 1) (.loop { rec .ready none with state := .busy })) W3 →
            (Instr.endRound (w.heap.size + 1) jump).run P W3 = .ok (.bool jump.isNone) (W3.putObj (w.heap.size + 1) (.loop (rec (if jump.isNone then .ready else .done) jump))) ∧
            W3.heap[w.heap.size + 1]? = some (.loop { rec .ready none with state := .busy }) ∧
            (W3.putObj (w.heap.size + 1) (.loop (rec (if jump.isNone then .ready else .done) jump))).heap[w.heap.size + 1]? = some (.loop (rec (if jump.isNone then .ready else .done) jump)) ∧
            (W3.putObj (w.heap.size + 1) (.loop (rec (if jump.isNone then .ready else .done) jump))).heap[w.heap.size]? = some (.deferred (some [])) := fun jump W3 hk3 => by
          have hl3 := hk3.same _ _ (by omega) hl2 rfl
          have := run_endRound (P := P) jump hl3
          rw [hrec] at this ⊢
          exact ⟨this, by rw [hrec] at hl3; exact hl3, World.putObj_heap_same (Array.getElem?_eq_some_iff.1 hl3).1, (World.putObj_heap_other (by omega)).trans (hk3.same _ _ (Nat.le_refl _) hk2 rfl)⟩
        rintro e a3 W3 hp
        cases e with
        | normal =>
          obtain ⟨hk3, hi3⟩ := hp
          obtain ⟨hr, hl3, hl4, hk4⟩ := fin none W3 hk3.from_
          exact ⟨_, _, hr, .inl ⟨rfl, ⟨(hI _).putObj _ hi3 (by omega) hl3 rfl, hl4, hk4⟩, hka.prot.trans ((hw2.trans hk3.prot).trans (Prot.putObj _ _ _ (by omega)))⟩⟩
        | ret =>
          obtain ⟨hk3, hi3⟩ := hp
          obtain ⟨hr, hl3, hl4, hk4⟩ := fin (some .ret) W3 hk3.from_
          exact ⟨_, _, hr, .inr ⟨rfl, .ret, (hIx _ _).putObj _ hi3 (by omega) hl3 rfl, hl4, hk4⟩⟩
        | exit id =>
          obtain ⟨hk3, hi3⟩ := hp
          obtain ⟨hr, hl3, hl4, hk4⟩ := fin (some (.exit id)) W3 hk3.from_
          exact ⟨_, _, hr, .inr ⟨rfl, .exit id, (hIx _ _).putObj _ hi3 (by omega) hl3 rfl, hl4, hk4⟩⟩
        | goto t =>
          obtain ⟨hk3, hi3⟩ := hp
          obtain ⟨hr, hl3, hl4, hk4⟩ := fin (some (.goto t)) W3 hk3.from_
          exact ⟨_, _, hr, .inr ⟨rfl, .goto t, (hIx _ _).putObj _ hi3 (by omega) hl3 rfl, hl4, hk4⟩⟩
        | panic ch => exact hp.elim
        | outgrown => exact hp.elim
      | ret => exact hpost.elim
      | exit id => exact hpost.elim
      | goto t => exact hpost.elim
      | panic ch => exact hpost.elim
      | outgrown => exact hpost.elim
    · -- behind the iterator
      rintro e W2 ⟨⟨v, rfl⟩, (⟨hi', hl, hk⟩ | ⟨k, hkl, c, hi', hl, hk⟩)⟩
      · exact ⟨none, _, by have := run_endLoop (P := P) hl (by rw [hrec]; simp); rw [hrec] at this; exact this, hdone _ _ (Nat.le_refl _) ((hI _).putObj _ hi' (by omega) hl rfl) ((World.putObj_heap_other (by omega)).trans hk)⟩
      · exact ⟨some c, _, by have := run_endLoop (P := P) hl (by rw [hrec]; simp); rw [hrec] at this; exact this, wpIn_wide.2 (hstop _ c k _ (Nat.le_refl _) hkl ((hIx c k).putObj _ hi' (by omega) hl rfl) ((World.putObj_heap_other (by omega)).trans hk))⟩

/-- A function whose body holds a range over a function. -/
theorem calls_marks {P : Program} {f : FuncId} {fn : Func} {c : Code} {args : Array Value} {w : World} {R : Ending → World → Prop}
    (hf : P.funcs[f]? = some fn) (hb : fn.body = some c)
    (h : c.wp P (bodyPostM Fence.wide 10 P fn R) { tmps := args ++ Array.replicate (fn.ntmps - args.size) undef, defers := [] } w) : Calls P f args w R :=
  callsIn_wide.1 (callsIn_of_wp_marks (F := Fence.wide) (n := 10) hf hb trivial (wpIn_wide.2 h) rfl)

/-- Its return behind one such loop. -/
theorem ret_mark {P : Program} {fn : Func} {R : Ending → World → Prop} {tmps : Array Value} {w : World} {D : Nat} {e : Exit} (he : e = .ret ∨ e = .normal) (hK : w.heap[D]? = some (.deferred (some [])))
    (h : ∀ w', Turn D w w' → ∃ v, (results fn tmps).run P w' = .ok v w' ∧ R (.returned v) w') : bodyPostM Fence.wide 10 P fn R e { tmps, defers := [mark D] } w := by
  obtain ⟨v, hr, hR⟩ := h _ (Turn.putObj hK rfl)
  rcases he with rfl | rfl
  · exact ⟨by simp, .inl ⟨_, _, rfl, run_takeDeferred hK, ⟨v, hr, hR⟩⟩⟩
  · exact ⟨by simp, .inl ⟨_, _, rfl, run_takeDeferred hK, ⟨v, hr, hR⟩⟩⟩
/-- Its return on a way without such a loop. -/
theorem ret_plain {P : Program} {fn : Func} {R : Ending → World → Prop} {tmps : Array Value} {w : World} {v : Value} {e : Exit} (he : e = .ret ∨ e = .normal) (hr : (results fn tmps).run P w = .ok v w) (hR : R (.returned v) w) :
    bodyPostM Fence.wide 10 P fn R e { tmps, defers := [] } w := by
  rcases he with rfl | rfl
  · exact ⟨v, hr, hR⟩
  · exact ⟨v, hr, hR⟩
end Go.Proofs.YtejleplhmkmegaaGreatDoor
/- A range over a function whose iterator never ends by itself: the caller's invariant is impossible behind N rounds. -/
namespace Go.Proofs.YtejleplhmkmegaaGreatDoor
set_option linter.unusedVariables false
set_option linter.unusedSimpArgs false
open Go.RowKit

/-- As 'SeqI', for an iterator without end. -/
def SeqF (P : Program) (g : Nat) (lb : Array Value) (enc : Nat → Array Value) (n₀ lo hi : Nat) (N : Nat) (w : World) : Prop :=
  ∀ (n l : Nat) (J Jx : Nat → World → Prop) (W : World), 1 ≤ n → Below w.heap.size w W → (∀ k, Abide W.heap.size (J k)) → (∀ k, Abide W.heap.size (Jx k)) →
    (∀ k, k < N → ∀ W1, J k W1 → YieldAt Fence.wide (n - 1) P l (enc k) W1 fun e W' =>
      (e = .returned (.bool true) ∧ J (k + 1) W' ∧ Prot n₀ lo hi W1 W') ∨ (e = .returned (.bool false) ∧ Jx k W')) →
    (∀ W', ¬ J N W') → J 0 W →
    CallsIn Fence.wide n P g (#[.func (.yield l) #[] #[]] ++ lb) W fun e W' => (∃ v, e = .returned v) ∧ ∃ k, k < N ∧ Jx k W'
set_option maxHeartbeats 1000000 in
/-- 'for .. := range g { body }', g a value of an iterator that gives xs. -/
theorem wp_rangeF {P : Program} {g : Operand} {ps : Array Tmp} {assign body : Code} {Q : Exit → Act → World → Prop} {a : Act} {w : World}
    {gf : Nat} {lb : Array Value} (hg : a.eval g = .func (.func gf) #[] lb) (eg : ∀ args w, (callFunc gf args).run P w = .ok (.enter gf args) w)
    {enc : Nat → Array Value} {n₀ lo hi : Nat} {N : Nat} (hseq : SeqF P gf lb enc n₀ lo hi N w) (hn : n₀ ≤ w.heap.size ∧ hi ≤ w.heap.size) (hps : ∀ k, (enc k).size = ps.size)
    (I : Nat → World → Prop) (Ix : Code → Nat → World → Prop) (hI : ∀ k, Stab w.heap.size (I k)) (hIx : ∀ c k, Stab w.heap.size (Ix c k)) (hNF : ∀ W, ¬ I N W) (h0 : I 0 w)
    (hround : ∀ (l k : Nat) (W : World), k < N → I k W → w.heap.size ≤ l → l < W.heap.size → w.heap.size ≤ W.heap.size →
      assign.wpIn (Fence.wide.inRound l) 8 P (Exit.then (fun a₁ W1 => Kept w.heap.size n₀ lo hi W W1 ∧ ∀ W2, Turn l W1 W2 → body.wpIn (Fence.wide.inRound l) 8 P (roundQ w.heap.size n₀ lo hi I Ix k W2) a₁ W2) (fun _ _ _ => False))
        { tmps := (ps.zip (enc k)).foldl (fun t (p, v) => t.setIfInBounds p v) a.tmps, defers := [] } W)
    (hstop : ∀ (D : Nat) (c : Code) (k : Nat) (W : World), w.heap.size ≤ D → k < N → Ix c k W → W.heap[D]? = some (.deferred (some [])) → c.wp P Q { a with defers := mark D :: a.defers } W) :
    (Code.rangeFunc g ps assign body).wp P Q a w := by
  rw [← wpIn_wide (n := 10)]
  refine wpIn_rangeFunc ?_
  intro fn hfn
  obtain ⟨rec, hrec⟩ : ∃ rec : LoopState → Option Code → Loop, rec = fun st pe => { state := st, pending := pe, fn, tmps := a.tmps, params := ps, assign, body, defers := w.heap.size } := ⟨_, rfl⟩
  obtain ⟨W1, hW1⟩ : ∃ W1, (w.alloc (.deferred (some []))).alloc (.loop (rec .ready none)) = W1 := ⟨_, rfl⟩
  have hL1 : W1.heap[w.heap.size + 1]? = some (.loop (rec .ready none)) := by
    rw [← hW1]; have := World.alloc_heap_new (w.alloc (.deferred (some []))) (.loop (rec .ready none)); rwa [World.size_alloc] at this
  have hK1 : W1.heap[w.heap.size]? = some (.deferred (some [])) := by
    rw [← hW1]; exact (Below.heap_alloc _ _ _ (by simp)).trans (World.alloc_heap_new w _)
  have hI1 : I 0 W1 := by rw [← hW1]; exact (hI 0).alloc _ ((hI 0).alloc _ h0)
  have hb1 : Below w.heap.size w W1 := by rw [← hW1]; exact ((Below.refl _ w).alloc (Nat.le_refl _) _).alloc (by simp) _
  have hs1 : W1.heap.size = w.heap.size + 1 + 1 := by rw [← hW1]; simp
  refine ⟨w.heap.size + 1, [mark w.heap.size], W1, { target := .fn (.func gf) lb, args := #[.func (.yield (w.heap.size + 1)) #[] #[]] }, W1, gf,
    #[.func (.yield (w.heap.size + 1)) #[] #[]] ++ lb, W1, ?_, ?_, ?_, ?_, fun _ => by omega, ?_⟩
  · rw [← hW1, hrec]; exact run_enterLoop_outer _ _ _ _ _
  · simp only [resolve, hg]
    simp [go_sem]
  · intro f' hf'; trivial
  · simp [invoke, go_sem, eg]
  · have hnw : ∀ {A : World} {row : Option Nat}, (∀ r, row = some r → W1.heap.size ≤ r ∧ ∃ o : Obj, A.heap[r]? = some o ∧ o.isWalk = true) → (∀ r, row = some r → w.heap.size ≤ r ∧ ∃ o : Obj, A.heap[r]? = some o ∧ o.isCells = false) :=
      fun hr r e => by obtain ⟨hB, o, ho, hw⟩ := hr r e; exact ⟨by omega, o, ho, Obj.not_cells_of_walk hw⟩
    refine (hseq (10 - 1) (w.heap.size + 1)
      (fun k W => I k W ∧ W.heap[w.heap.size + 1]? = some (.loop (rec .ready none)) ∧ W.heap[w.heap.size]? = some (.deferred (some [])))
      (fun k W => ∃ c, Ix c k W ∧ W.heap[w.heap.size + 1]? = some (.loop (rec .done (some c))) ∧ W.heap[w.heap.size]? = some (.deferred (some [])))
      W1 (by omega) hb1
      (fun k A B row hs hg' hr => ⟨hI k A B row hs.1 hg' (hnw hr), (grownBy_keeps hg' (fun r e => (hr r e).2) hs.2.1 rfl).trans hs.2.1, (grownBy_keeps hg' (fun r e => (hr r e).2) hs.2.2 rfl).trans hs.2.2⟩)
      (fun k A B row hs hg' hr => by
        obtain ⟨c, hc, hl, hk⟩ := hs
        exact ⟨c, hIx c k A B row hc hg' (hnw hr), (grownBy_keeps hg' (fun r e => (hr r e).2) hl rfl).trans hl, (grownBy_keeps hg' (fun r e => (hr r e).2) hk rfl).trans hk⟩)
      ?_ (fun W h => hNF W h.1) ⟨hI1, hL1, hK1⟩).mono ?_
    · -- one round
      rintro k hlen W ⟨hi', hl, hk⟩
      have hlt : w.heap.size + 1 < W.heap.size := (Array.getElem?_eq_some_iff.1 hl).1
      have hy := run_yield (P := P) (args := enc k) hl (by rw [hrec]; exact hps _)
      rw [hrec] at hy
      refine ⟨fn, _, assign, body, hy, roundIn_of_wpIn hfn ?_⟩
      clear hy
      refine wpIn_mono (hround _ k W hlen hi' (by omega) hlt (by omega)) ?_
      intro e a' Wa hpost
      cases e with
      | normal =>
        obtain ⟨hka, hbody⟩ := hpost
        have hla := hka.from_.same _ _ (by omega) hl rfl
        have hda := hka.from_.same _ _ (Nat.le_refl _) hk rfl
        have hlta : w.heap.size + 1 < Wa.heap.size := (Array.getElem?_eq_some_iff.1 hla).1
        refine ⟨_, run_beginRound hla (by rw [hrec]), ?_⟩
        have hl2 : (Wa.putObj (w.heap.size + 1) (.loop { rec .ready none with state := .busy })).heap[w.heap.size + 1]? = some (.loop { rec .ready none with state := .busy }) := World.putObj_heap_same hlta
        have hk2 : (Wa.putObj (w.heap.size + 1) (.loop { rec .ready none with state := .busy })).heap[w.heap.size]? = some (.deferred (some [])) := (World.putObj_heap_other (by omega)).trans hda
        have hw2 : Prot n₀ lo hi Wa (Wa.putObj (w.heap.size + 1) (.loop { rec .ready none with state := .busy })) := Prot.putObj _ _ _ (by omega)
        refine wpIn_mono (hbody _ (Turn.putObj hla rfl)) ?_
        have fin : ∀ (jump : Option Code) (W3 : World), KeepsFrom w.heap.size (Wa.putObj (w.heap.size + 1) (.loop { rec .ready none with state := .busy })) W3 →
            (Instr.endRound (w.heap.size + 1) jump).run P W3 = .ok (.bool jump.isNone) (W3.putObj (w.heap.size + 1) (.loop (rec (if jump.isNone then .ready else .done) jump))) ∧
            W3.heap[w.heap.size + 1]? = some (.loop { rec .ready none with state := .busy }) ∧
            (W3.putObj (w.heap.size + 1) (.loop (rec (if jump.isNone then .ready else .done) jump))).heap[w.heap.size + 1]? = some (.loop (rec (if jump.isNone then .ready else .done) jump)) ∧
            (W3.putObj (w.heap.size + 1) (.loop (rec (if jump.isNone then .ready else .done) jump))).heap[w.heap.size]? = some (.deferred (some [])) := fun jump W3 hk3 => by
          have hl3 := hk3.same _ _ (by omega) hl2 rfl
          have := run_endRound (P := P) jump hl3
          rw [hrec] at this ⊢
          exact ⟨this, by rw [hrec] at hl3; exact hl3, World.putObj_heap_same (Array.getElem?_eq_some_iff.1 hl3).1, (World.putObj_heap_other (by omega)).trans (hk3.same _ _ (Nat.le_refl _) hk2 rfl)⟩
        rintro e a3 W3 hp
        cases e with
        | normal =>
          obtain ⟨hk3, hi3⟩ := hp
          obtain ⟨hr, hl3, hl4, hk4⟩ := fin none W3 hk3.from_
          exact ⟨_, _, hr, .inl ⟨rfl, ⟨(hI _).putObj _ hi3 (by omega) hl3 rfl, hl4, hk4⟩, hka.prot.trans ((hw2.trans hk3.prot).trans (Prot.putObj _ _ _ (by omega)))⟩⟩
        | ret =>
          obtain ⟨hk3, hi3⟩ := hp
          obtain ⟨hr, hl3, hl4, hk4⟩ := fin (some .ret) W3 hk3.from_
          exact ⟨_, _, hr, .inr ⟨rfl, .ret, (hIx _ _).putObj _ hi3 (by omega) hl3 rfl, hl4, hk4⟩⟩
        | exit id =>
          obtain ⟨hk3, hi3⟩ := hp
          obtain ⟨hr, hl3, hl4, hk4⟩ := fin (some (.exit id)) W3 hk3.from_
          exact ⟨_, _, hr, .inr ⟨rfl, .exit id, (hIx _ _).putObj _ hi3 (by omega) hl3 rfl, hl4, hk4⟩⟩
        | goto t =>
          obtain ⟨hk3, hi3⟩ := hp
          obtain ⟨hr, hl3, hl4, hk4⟩ := fin (some (.goto t)) W3 hk3.from_
          exact ⟨_, _, hr, .inr ⟨rfl, .goto t, (hIx _ _).putObj _ hi3 (by omega) hl3 rfl, hl4, hk4⟩⟩
        | panic ch => exact hp.elim
        | outgrown => exact hp.elim
      | ret => exact hpost.elim
      | exit id => exact hpost.elim
      | goto t => exact hpost.elim
      | panic ch => exact hpost.elim
      | outgrown => exact hpost.elim
    · -- behind the iterator
      rintro e W2 ⟨⟨v, rfl⟩, ⟨k, hkl, c, hi', hl, hk⟩⟩
      exact ⟨some c, _, by have := run_endLoop (P := P) hl (by rw [hrec]; simp); rw [hrec] at this; exact this, wpIn_wide.2 (hstop _ c k _ (Nat.le_refl _) hkl ((hIx c k).putObj _ hi' (by omega) hl rfl) ((World.putObj_heap_other (by omega)).trans hk))⟩
end Go.Proofs.YtejleplhmkmegaaGreatDoor
/- Floating numbers, plainly: the one next to a ratio. -/
namespace Go.Fl
open Ieee

/-- The first i binary digits of A / n, A being of 128 digits. -/
def quo (A n i : Nat) : Nat := A * 2 ^ i / (n * 2 ^ 128)
def stepI (A n : Nat) : Nat → Nat → Nat
  | 0, i => i
  | f + 1, i => if 2 ^ 52 ≤ quo A n i then i else stepI A n f (i + 1)
/-- How many digits there are up to the 53rd behind the zeros. -/
def theI (A n : Nat) : Nat := stepI A n 300 0
theorem stepI_spec (A n : Nat) : ∀ (f i : Nat), (∀ j, j < i → quo A n j < 2 ^ 52) → (∃ j, j < i + f ∧ 2 ^ 52 ≤ quo A n j) → 2 ^ 52 ≤ quo A n (stepI A n f i) ∧ ∀ j, j < stepI A n f i → quo A n j < 2 ^ 52
  | 0, i, h, ⟨j, hj, hq⟩ => by have := h j (by omega); omega
  | f + 1, i, h, ⟨j, hj, hq⟩ => by
    unfold stepI
    by_cases hi : 2 ^ 52 ≤ quo A n i
    · rw [if_pos hi]; exact ⟨hi, h⟩
    · rw [if_neg hi]
      exact stepI_spec A n f (i + 1) (fun k hk => by
        by_cases e : k = i
        · subst e; omega
        · exact h k (by omega)) ⟨j, by omega, hq⟩
theorem theI_spec {A n : Nat} (hA : 0 < A) (hA2 : A < 2 ^ 128) (hn : 0 < n) (hn2 : n < 2 ^ 35) : 2 ^ 52 ≤ quo A n (theI A n) ∧ (∀ j, j < theI A n → quo A n j < 2 ^ 52) ∧ 52 ≤ theI A n ∧ theI A n ≤ 215 := by
  have hp : 0 < n * 2 ^ 128 := Nat.mul_pos hn (by decide)
  have h215 : 2 ^ 52 ≤ quo A n 215 := by
    unfold quo
    rw [Nat.le_div_iff_mul_le hp]
    have e : (2 : Nat) ^ 215 = 2 ^ 52 * 2 ^ 35 * 2 ^ 128 := by decide
    have h1 : n * 2 ^ 128 ≤ 2 ^ 35 * 2 ^ 128 := Nat.mul_le_mul_right _ (by omega)
    calc 2 ^ 52 * (n * 2 ^ 128) ≤ 2 ^ 52 * (2 ^ 35 * 2 ^ 128) := Nat.mul_le_mul_left _ h1
      _ = 2 ^ 215 := by decide
      _ ≤ A * 2 ^ 215 := Nat.le_mul_of_pos_left _ hA
  obtain ⟨h1, h2⟩ := stepI_spec A n 300 0 (fun j hj => absurd hj (Nat.not_lt_zero _)) ⟨215, by omega, h215⟩
  refine ⟨h1, h2, ?_, ?_⟩
  · rcases Nat.lt_or_ge (theI A n) 52 with h | h
    · exfalso
      have h3 : quo A n (theI A n) ≤ 2 ^ 51 := by
        unfold quo
        have h4 : A * 2 ^ theI A n ≤ 2 ^ 128 * 2 ^ 51 := Nat.mul_le_mul (by omega) (Nat.pow_le_pow_right (by decide) (by omega))
        have h5 : (A * 2 ^ theI A n) / (n * 2 ^ 128) ≤ (2 ^ 51 * (n * 2 ^ 128)) / (n * 2 ^ 128) := Nat.div_le_div_right (by
          have : 2 ^ 128 ≤ n * 2 ^ 128 := Nat.le_mul_of_pos_left _ hn
          omega)
        rw [Nat.mul_div_cancel _ hp] at h5
        exact h5
      have h6 : 2 ^ 52 ≤ quo A n (theI A n) := h1
      omega
    · exact h
  · rcases Nat.lt_or_ge 215 (theI A n) with h | h
    · have := h2 215 h; omega
    · exact h
theorem quo_succ (A n i : Nat) (hn : 0 < n) : quo A n (i + 1) = 2 * quo A n i + quo A n (i + 1) % 2 := by
  have h : quo A n i = quo A n (i + 1) / 2 := by
    unfold quo
    have e : A * 2 ^ (i + 1) = A * 2 ^ i * 2 := by rw [Nat.pow_succ 2 i, Nat.mul_assoc]
    rw [e, Nat.div_div_eq_div_mul, Nat.mul_div_mul_right _ _ (by decide : 0 < 2)]
  omega
theorem quo_top {A n : Nat} (hA : 0 < A) (hA2 : A < 2 ^ 128) (hn : 0 < n) (hn2 : n < 2 ^ 35) : quo A n (theI A n) < 2 ^ 53 := by
  obtain ⟨h1, h2, h3, h4⟩ := theI_spec hA hA2 hn hn2
  obtain ⟨i, hi⟩ : ∃ i, theI A n = i + 1 := ⟨theI A n - 1, by omega⟩
  rw [hi] at h2 ⊢
  have := h2 i (by omega)
  have := quo_succ A n i hn
  omega
/-- Is what is left behind these digits more than half of the last one, or half and the last one odd? -/
def upB (A n i : Nat) : Bool := (quo A n (i + 1) % 2 == 1) && ((A * 2 ^ (i + 1) % (n * 2 ^ 128) != 0) || (quo A n i % 2 == 1))
/-- The rung of the floating number next to A / n. -/
def ofR (A n : Nat) : Nat := (1202 - theI A n) * 2 ^ 52 + (quo A n (theI A n) + (upB A n (theI A n)).toNat)
theorem quo_mono {A n B k : Nat} (hn : 0 < n) (hk : 0 < k) (h : A * k ≤ B * n) (i : Nat) : quo A n i ≤ quo B k i := by
  unfold quo
  rw [Nat.le_div_iff_mul_le (Nat.mul_pos hk (by decide))]
  have h1 : A * 2 ^ i / (n * 2 ^ 128) * (n * 2 ^ 128) ≤ A * 2 ^ i := Nat.div_mul_le_self _ _
  generalize A * 2 ^ i / (n * 2 ^ 128) = q at *
  have h2 : q * (n * 2 ^ 128) * k ≤ A * 2 ^ i * k := Nat.mul_le_mul_right _ h1
  have h3 : A * k * 2 ^ i ≤ B * n * 2 ^ i := Nat.mul_le_mul_right _ h
  have h4 : q * (k * 2 ^ 128) * n ≤ B * 2 ^ i * n := by
    calc q * (k * 2 ^ 128) * n = q * (n * 2 ^ 128) * k := by ac_rfl
      _ ≤ A * 2 ^ i * k := h2
      _ = A * k * 2 ^ i := by ac_rfl
      _ ≤ B * n * 2 ^ i := h3
      _ = B * 2 ^ i * n := by ac_rfl
  exact Nat.le_of_mul_le_mul_right h4 hn
theorem rest_mono {A n B k : Nat} (hn : 0 < n) (hk : 0 < k) (h : A * k ≤ B * n) {i : Nat} (he : quo A n i = quo B k i) (hr : A * 2 ^ i % (n * 2 ^ 128) ≠ 0) : B * 2 ^ i % (k * 2 ^ 128) ≠ 0 := by
  intro h0
  have e1 : B * 2 ^ i = quo B k i * (k * 2 ^ 128) := by
    have := Nat.div_add_mod (B * 2 ^ i) (k * 2 ^ 128)
    rw [h0, Nat.add_zero, Nat.mul_comm] at this
    exact this.symm
  have e2 := Nat.div_add_mod (A * 2 ^ i) (n * 2 ^ 128)
  have e3 : quo A n i = A * 2 ^ i / (n * 2 ^ 128) := rfl
  rw [← e3, he] at e2
  generalize quo B k i = q at *
  have h3 : A * k * 2 ^ i ≤ B * n * 2 ^ i := Nat.mul_le_mul_right _ h
  have h4 : A * 2 ^ i * k ≤ q * (k * 2 ^ 128) * n := by
    calc A * 2 ^ i * k = A * k * 2 ^ i := by ac_rfl
      _ ≤ B * n * 2 ^ i := h3
      _ = B * 2 ^ i * n := by ac_rfl
      _ = q * (k * 2 ^ 128) * n := by rw [e1]
  have h5 : q * (k * 2 ^ 128) * n = n * 2 ^ 128 * q * k := by ac_rfl
  rw [h5] at h4
  have h6 : A * 2 ^ i ≤ n * 2 ^ 128 * q := Nat.le_of_mul_le_mul_right h4 hk
  omega
theorem ofR_mono {A n B k : Nat} (hA : 0 < A) (hA2 : A < 2 ^ 128) (hn : 0 < n) (hn2 : n < 2 ^ 35) (hB : 0 < B) (hB2 : B < 2 ^ 128) (hk : 0 < k) (hk2 : k < 2 ^ 35) (h : A * k ≤ B * n) : ofR A n ≤ ofR B k := by
  obtain ⟨a1, a2, a3, a4⟩ := theI_spec hA hA2 hn hn2
  obtain ⟨b1, b2, b3, b4⟩ := theI_spec hB hB2 hk hk2
  have at_ := quo_top hA hA2 hn hn2
  have hm := quo_mono hn hk h
  have hji : theI B k ≤ theI A n := by
    rcases Nat.lt_or_ge (theI A n) (theI B k) with h1 | h1
    · have := b2 _ h1; have := hm (theI A n); omega
    · exact h1
  have hu : (upB A n (theI A n)).toNat ≤ 1 := by cases upB A n (theI A n) <;> simp
  unfold ofR
  by_cases he : theI B k = theI A n
  · rw [he] at b1 b2 ⊢
    have m1 := hm (theI A n)
    have m2 := hm (theI A n + 1)
    have s1 := quo_succ A n (theI A n) hn
    have s2 := quo_succ B k (theI A n) hk
    by_cases hq : quo A n (theI A n) = quo B k (theI A n)
    · have hup : upB A n (theI A n) = true → upB B k (theI A n) = true := fun hu => by
        unfold upB at hu ⊢
        simp only [Bool.and_eq_true, Bool.or_eq_true, beq_iff_eq, bne_iff_ne] at hu ⊢
        have hd : quo B k (theI A n + 1) % 2 = 1 := by omega
        refine ⟨hd, ?_⟩
        rcases hu.2 with h1 | h1
        · exact .inl (rest_mono hn hk h (by omega) h1)
        · exact .inr (by omega)
      have : (upB A n (theI A n)).toNat ≤ (upB B k (theI A n)).toNat := by
        cases h1 : upB A n (theI A n) with
        | false => simp
        | true => rw [hup h1]; simp
      omega
    · omega
  · omega
theorem ofR_eq {A n B k : Nat} (hA : 0 < A) (hA2 : A < 2 ^ 128) (hn : 0 < n) (hn2 : n < 2 ^ 35) (hB : 0 < B) (hB2 : B < 2 ^ 128) (hk : 0 < k) (hk2 : k < 2 ^ 35) (h : A * k = B * n) : ofR A n = ofR B k :=
  Nat.le_antisymm (ofR_mono hA hA2 hn hn2 hB hB2 hk hk2 (Nat.le_of_eq h)) (ofR_mono hB hB2 hk hk2 hA hA2 hn hn2 (Nat.le_of_eq h.symm))
set_option linter.unusedVariables false
theorem ofR_lt {A n : Nat} (hA : 0 < A) (hA2 : A < 2 ^ 128) (hn : 0 < n) (hn2 : n < 2 ^ 35) : 0 < ofR A n ∧ ofR A n < 2047 * 2 ^ 52 := by
  obtain ⟨a1, a2, a3, a4⟩ := theI_spec hA hA2 hn hn2
  have at_ := quo_top hA hA2 hn hn2
  have hu : (upB A n (theI A n)).toNat ≤ 1 := by cases upB A n (theI A n) <;> simp
  unfold ofR
  omega
end Go.Fl
/- Floating numbers, plainly: a quotient digit by digit. -/
namespace Go.Fl
set_option linter.unusedVariables false
/-- What is still to come of a number of 128 digits behind k of them, its two halves; what the digits so far come to. -/
def xA (A k : Nat) : Nat := A * 2 ^ k % 2 ^ 128
def hiA (A k : Nat) : Nat := xA A k / 2 ^ 64
def loA (A k : Nat) : Nat := xA A k % 2 ^ 64
def tA (A k : Nat) : Nat := A * 2 ^ k / 2 ^ 128
theorem pow_step (A k : Nat) : A * 2 ^ (k + 1) = 2 * (A * 2 ^ k) := by rw [Nat.pow_succ 2 k, ← Nat.mul_assoc, Nat.mul_comm]
theorem hi_lt (A k : Nat) : hiA A k < 2 ^ 64 := by unfold hiA xA; omega
theorem lo_lt (A k : Nat) : loA A k < 2 ^ 64 := by unfold loA; omega
theorem hi_zero {A : Nat} (h : A < 2 ^ 128) : hiA A 0 = A / 2 ^ 64 := by unfold hiA xA; rw [Nat.pow_zero, Nat.mul_one, Nat.mod_eq_of_lt h]
theorem lo_zero {A : Nat} (h : A < 2 ^ 128) : loA A 0 = A % 2 ^ 64 := by unfold loA xA; rw [Nat.pow_zero, Nat.mul_one, Nat.mod_eq_of_lt h]
theorem tA_zero {A : Nat} (h : A < 2 ^ 128) : tA A 0 = 0 := by unfold tA; rw [Nat.pow_zero, Nat.mul_one, Nat.div_eq_of_lt h]
theorem hi_succ (A k : Nat) : hiA A (k + 1) = 2 * hiA A k % 2 ^ 64 + loA A k / 2 ^ 63 := by
  unfold hiA loA xA
  rw [pow_step]
  generalize A * 2 ^ k = y
  omega
theorem lo_succ (A k : Nat) : loA A (k + 1) = 2 * loA A k % 2 ^ 64 := by
  unfold loA xA
  rw [pow_step]
  generalize A * 2 ^ k = y
  omega
theorem tA_succ (A k : Nat) : tA A (k + 1) = 2 * tA A k + hiA A k / 2 ^ 63 := by
  unfold tA hiA xA
  rw [pow_step]
  generalize A * 2 ^ k = y
  omega
theorem top_le (A k : Nat) : hiA A k / 2 ^ 63 ≤ 1 := by have := hi_lt A k; omega
theorem quo_t (A n k : Nat) : quo A n k = tA A k / n := by unfold quo tA; rw [Nat.mul_comm n, Nat.div_div_eq_div_mul]
theorem rest_succ (A n k : Nat) : tA A (k + 1) % n = (2 * (tA A k % n) + hiA A k / 2 ^ 63) % n := by
  rw [tA_succ, Nat.add_mod, Nat.mul_mod]
  conv => rhs; rw [Nat.add_mod, Nat.mul_mod, Nat.mod_mod]
theorem digit_succ (A n k : Nat) (hn : 0 < n) : (2 * (tA A k % n) + hiA A k / 2 ^ 63) / n = quo A n (k + 1) % 2 := by
  have h1 := quo_succ A n k hn
  rw [quo_t A n (k + 1), quo_t A n k, tA_succ] at h1
  rw [quo_t A n (k + 1), tA_succ]
  have h2 := Nat.div_add_mod (tA A k) n
  generalize tA A k / n = q at *
  generalize tA A k % n = r at *
  rw [← h2] at h1 ⊢
  have h3 : 2 * (n * q + r) + hiA A k / 2 ^ 63 = (2 * r + hiA A k / 2 ^ 63) + n * (2 * q) := by rw [Nat.mul_add, Nat.mul_left_comm 2 n q]; omega
  rw [h3, Nat.add_mul_div_left _ _ hn] at h1 ⊢
  omega
theorem more_iff (A n k : Nat) : (A * 2 ^ k % (n * 2 ^ 128) = 0) ↔ (tA A k % n = 0 ∧ hiA A k = 0 ∧ loA A k = 0) := by
  rw [Nat.mul_comm n, Nat.mod_mul]
  unfold tA hiA loA xA
  generalize A * 2 ^ k = y
  generalize y / 2 ^ 128 % n = z
  omega
/-- Is something left behind k digits? -/
def moreB (A n k : Nat) : Bool := A * 2 ^ k % (n * 2 ^ 128) != 0
theorem moreB_eq (A n k : Nat) : moreB A n k = (!decide (tA A k % n = 0) || (!decide (hiA A k = 0) || !decide (loA A k = 0))) := by
  unfold moreB
  have h := more_iff A n k
  rw [Bool.eq_iff_iff]
  simp only [bne_iff_ne, ne_eq, Bool.or_eq_true, Bool.not_eq_true', decide_eq_false_iff_not]
  rw [h]
  omega
/-- A digit behind others is added by '|'. -/
theorem or_bit (a b : Nat) (hb : b ≤ 1) : 2 * a ||| b = 2 * a + b := by
  have := Nat.two_pow_add_eq_or_of_lt (i := 1) (show b < 2 ^ 1 by omega) a
  simpa using this.symm
end Go.Fl
/- Blocks of some cells: what is read of them, what a store leaves. -/
namespace Go.Proofs.YtejleplhmkmegaaGreatDoor
set_option linter.unusedVariables false
set_option linter.unusedSimpArgs false
open Go.RowKit

theorem blk_set {w : World} {b o : Nat} {cs : Array Value} {t : TypeId} {fz : Nat × Nat} {v : Value} (h : w.heap[b]? = some (.cells cs t fz)) : (w.setCell ⟨b, o, none⟩ v).heap[b]? = some (.cells (cs.setIfInBounds o v) t fz) := by
  have hlt := (Array.getElem?_eq_some_iff.1 h).1
  have h' : w.heap[b] = .cells cs t fz := by simpa [Array.getElem?_eq_getElem hlt] using h
  show (w.heap.modify b _)[b]? = _
  rw [Array.getElem?_eq_getElem (by simpa using hlt), Array.getElem_modify_self, h']
  rfl
theorem blk_cell {w : World} {b o : Nat} {cs : Array Value} {t : TypeId} {fz : Nat × Nat} (h : w.heap[b]? = some (.cells cs t fz)) : w.cell? ⟨b, o, none⟩ = cs[o]? := by simp [World.cell?, h]
theorem blk_free {w : World} {b o : Nat} {cs : Array Value} {t : TypeId} (h : w.heap[b]? = some (.cells cs t (0, 0))) : w.frozen? ⟨b, o, none⟩ = false := by simp [World.frozen?, h]
theorem blk_lt {w : World} {b : Nat} {o : Obj} (h : w.heap[b]? = some o) : b < w.heap.size := (Array.getElem?_eq_some_iff.1 h).1
end Go.Proofs.YtejleplhmkmegaaGreatDoor
/- Ratio: the program's iterator over the digits of a quotient. -/
namespace Go.Proofs.YtejleplhmkmegaaGreatDoor
set_option linter.unusedVariables false
set_option linter.unusedSimpArgs false
set_option maxRecDepth 100000
open Go.ChangeShapes Go.WideShapes Go.ChangeAt Go.RowKit Go.Fl
attribute [local go_sem] Oper.semAt_some

theorem quotient_any (h l n : Int) (w : World) :
    Calls Tryz.prog 227 #[.agg #[.int .i64 h, .int .u64 l], .int .u64 n] w fun e w' => e = .returned (.func (.func 239) #[] #[.pointer (some ⟨w.heap.size, 0, none⟩), .pointer (some ⟨w.heap.size + 1, 0, none⟩)]) ∧
      w' = (w.alloc (.cells #[.int .i64 h, .int .u64 l] 126)).alloc (.cells #[.int .u64 n] 95) := by
  go_enter Tryz.func227, Tryz.ntmps227
  go_wp2
  go_ret
  exact ⟨rfl, rfl⟩
theorem yield_bb {e : Ending} {A B C : Prop} (h : (e = .returned (.bool true) ∧ A ∧ B) ∨ (e = .returned (.bool false) ∧ C)) : ∃ bb : Bool, e = .returned (.bool bb) ∧ ((bb = true ∧ A ∧ B) ∨ (bb = false ∧ C)) := by
  rcases h with ⟨h1, h2⟩ | ⟨h1, h2⟩
  · exact ⟨true, h1, .inl ⟨rfl, h2⟩⟩
  · exact ⟨false, h1, .inr ⟨rfl, h2⟩⟩
theorem two_at {w : World} {b : Nat} {x y : Value} {t : TypeId} (h : w.heap[b]? = some (.cells #[x, y] t (0, 0))) : w.cell? ⟨b, 0, none⟩ = some x ∧ w.cell? ⟨b, 1, none⟩ = some y ∧ w.frozen? ⟨b, 0, none⟩ = false ∧ w.frozen? ⟨b, 1, none⟩ = false := by
  unfold World.cell? World.frozen?
  rw [h]
  simp
theorem ne_zero (x : Nat) : (!decide (x = 0)) = ((x : Int) != 0) := by rw [Bool.eq_iff_iff]; simp
set_option maxHeartbeats 4000000 in
theorem quotient_seq (A n : Nat) (hA : A < 2 ^ 128) (hn : 0 < n) (hn2 : n ≤ 20000000000) (h : Int) (hh : IntKind.u64.wrap h = ((A / 2 ^ 64 : Nat) : Int)) (ab nb N : Nat) (n₀ lo hi : Nat) (w : World)
    (ha : w.heap[ab]? = some (.cells #[.int .i64 h, .int .u64 ((A % 2 ^ 64 : Nat) : Int)] 126 (0, 0))) (hb : w.heap[nb]? = some (.cells #[.int .u64 (n : Int)] 95 (0, 0))) (pa : ab < n₀ ∨ lo ≤ ab ∧ ab < hi) (pb : nb < n₀ ∨ lo ≤ nb ∧ nb < hi) :
    SeqF Tryz.prog 239 #[.pointer (some ⟨ab, 0, none⟩), .pointer (some ⟨nb, 0, none⟩)] (fun k : Nat => #[.int .u64 ((quo A n (k + 1) % 2 : Nat) : Int), .bool (moreB A n (k + 1))]) n₀ lo hi N w := by
  intro m0 lp J Jx W hm0 hW hJ hJx hY hNF h0
  obtain ⟨m1, rfl⟩ : ∃ m1, m0 = m1 + 1 := ⟨m0 - 1, by omega⟩
  have hzW := hW.size
  have da := (hW.block ab (blk_lt ha)).trans ha
  have db := (hW.block nb (blk_lt hb)).trans hb
  obtain ⟨a0, a1, _, _⟩ := two_at da
  have b0 := cell_of_one db
  clear ha hb hW
  refine callsIn_of_wp Tryz.func239 rfl trivial ?_ rfl
  simp only [Tryz.ntmps239, List.size_toArray, List.length_cons, List.length_nil, Nat.reduceAdd, Nat.reduceSub, Array.replicate_succ, Array.replicate_zero, List.push_toArray, List.append_toArray, List.nil_append, List.cons_append]
  gi_wp2
  gi_quiet (fail)
  gi_wp2
  have hJd : J 0 (W.drewN nq) := hJ 0 W _ none h0 ⟨rfl, rfl, rfl, Nat.le_refl _, fun _ _ _ => rfl⟩ (fun r e => by cases e)
  have hda : (W.drewN nq).heap[ab]? = some (.cells #[.int .i64 h, .int .u64 ((A % 2 ^ 64 : Nat) : Int)] 126 (0, 0)) := da
  have hdb : (W.drewN nq).heap[nb]? = some (.cells #[.int .u64 (n : Int)] 95 (0, 0)) := db
  clear a0 a1 b0 hh
  gi_loopg [4, 5, 6, 7] N (fun m hi lo rest dg wr => ∃ k, k + m = N ∧ hi = .int .u64 ((hiA A k : Nat) : Int) ∧ lo = .int .u64 ((loA A k : Nat) : Int) ∧ rest = .int .u64 ((tA A k % n : Nat) : Int) ∧ J k wr ∧ wr.heap[nb]? = some (.cells #[.int .u64 (n : Int)] 95 (0, 0)))
  case atStart => exact ⟨0, by omega, by rw [hi_zero hA]; simp, by rw [lo_zero hA]; simp, by rw [tA_zero hA]; simp, hJd, hdb⟩
  case round =>
    obtain ⟨k, hk, rfl, rfl, rfl, hJk, hbn⟩ := hrel
    by_cases hm : gk = 0
    · subst hm
      obtain rfl : k = N := by omega
      exact (hNF _ hJk).elim
    · have b0 := cell_of_one hbn
      have hkN : k < N := by omega
      have HY := hid (hY k hkN)
      have HREL := hid (fun (W5 : World) (a : J (k + 1) W5) (b : W5.heap[nb]? = some (.cells #[.int .u64 (n : Int)] 95 (0, 0))) =>
        (show ∃ k', k' + (gk - 1) = N ∧ Value.int .u64 ((hiA A (k + 1) : Nat) : Int) = .int .u64 ((hiA A k' : Nat) : Int) ∧ Value.int .u64 ((loA A (k + 1) : Nat) : Int) = .int .u64 ((loA A k' : Nat) : Int) ∧ Value.int .u64 ((tA A (k + 1) % n : Nat) : Int) = .int .u64 ((tA A k' % n : Nat) : Int) ∧ J k' W5 ∧ W5.heap[nb]? = some (.cells #[.int .u64 (n : Int)] 95 (0, 0)) from ⟨k + 1, by omega, rfl, rfl, rfl, a, b⟩))
      have x1 := hi_lt A k; have x2 := lo_lt A k
      have x3 : tA A k % n < n := Nat.mod_lt _ hn
      have x4 := top_le A k
      have y1 := hi_succ A k; have y2 := lo_succ A k; have y3 := rest_succ A n k; have y4 := digit_succ A n k hn; have y5 := moreB_eq A n (k + 1)
      have z1 := hi_lt A (k + 1); have z2 := lo_lt A (k + 1)
      have z3 : tA A (k + 1) % n < n := Nat.mod_lt _ hn
      generalize hiA A k = H at *
      generalize loA A k = L at *
      generalize tA A k % n = T at *
      generalize hiA A (k + 1) = H' at *
      generalize loA A (k + 1) = L' at *
      generalize tA A (k + 1) % n = T' at *
      have v8 : quo A n (k + 1) % 2 ≤ 1 := by omega
      generalize quo A n (k + 1) % 2 = dg at *
      generalize moreB A n (k + 1) = mo at *
      obtain ⟨t, ht⟩ : ∃ t, 2 * T + H / 2 ^ 63 = t := ⟨_, rfl⟩
      rw [ht] at y3 y4
      have r1 : bits .or .u64 ((T : Int) * 2) ((H : Int) / 9223372036854775808) = (t : Int) := by
        rw [show (T : Int) * 2 = ((2 * T : Nat) : Int) by omega, show (H : Int) / 9223372036854775808 = ((H / 2 ^ 63 : Nat) : Int) by omega, bits_or _ _ (by omega) (by omega), or_bit _ _ x4, ht]
      have r2 : bits .or .u64 (IntKind.u64.wrap ((H : Int) * 2)) ((L : Int) / 9223372036854775808) = (H' : Int) := by
        have e1 : IntKind.u64.wrap ((H : Int) * 2) = ((2 * (H % 2 ^ 63) : Nat) : Int) := by rw [IntKind.wrap_u64]; omega
        rw [e1, show (L : Int) / 9223372036854775808 = ((L / 2 ^ 63 : Nat) : Int) by omega, bits_or _ _ (by omega) (by omega), or_bit _ _ (by omega), y1]
        congr 1
        omega
      have r3 : IntKind.u64.wrap ((L : Int) * 2) = (L' : Int) := by rw [IntKind.wrap_u64]; omega
      have r4 : (t : Int) / (n : Int) = (dg : Int) := by rw [← y4]; simp
      have r5 : (t : Int) % (n : Int) = (T' : Int) := by rw [y3]; simp
      have v1 : (H : Int) ≤ 18446744073709551615 := by omega
      have v2 : (L : Int) ≤ 18446744073709551615 := by omega
      have v3 : (T : Int) ≤ 20000000000 := by omega
      have v4 : (t : Int) ≤ 40000000001 := by omega
      have v5 : (0 : Int) < (n : Int) := by omega
      have v6 : ¬ (n : Int) = 0 := by omega
      have v7 : (dg : Int) ≤ 1 := by omega
      have HJ := hid hJk; have HBN := hid hbn
      clear y1 y2 y3 ht x1 x2 x3 x4 z1 z2 z3 hJk hbn hA hJd hda hdb da db
      have hcase : (∃ b1 b2 b3 : Bool, ((T' : Int) != 0) = b1 ∧ ((H' : Int) != 0) = b2 ∧ ((L' : Int) != 0) = b3 ∧ mo = (b1 || (b2 || b3))) :=
        ⟨_, _, _, rfl, rfl, rfl, by rw [y5, ne_zero, ne_zero, ne_zero]⟩
      obtain ⟨b1, b2, b3, f1, f2, f3, rfl⟩ := hcase
      clear y5
      obtain ⟨fn, tmps, assign, body, hy, hR4⟩ := HY.out wr HJ.out
      (try dsimp only at hy)
      cases b1
      case' false => cases b2
      case' false.false => cases b3
      all_goals
        simp only [Bool.true_or, Bool.false_or, Bool.or_true, Bool.or_false] at hy
        gi_wp2_with ((refine (hR4.mono (fun _ _ h => yield_bb h)).mono ?_); rintro e W5 ⟨bb, rfl, h5'⟩; have h5 := hid h5'; clear h5')
        all_goals
          rcases h5.out with ⟨rfl, hJ5, hP5⟩ | ⟨rfl, hJx5⟩
          · first
              | contradiction
              | (gi_roundg (gk - 1)
                 case rel => exact HREL.out _ hJ5 ((pb.elim (fun q => hP5.low _ q) (fun q => hP5.mid _ q.1 q.2)).trans HBN.out)
                 case measure => omega)
              | (exfalso; simp_all; done)
          · first
              | contradiction
              | (refine bodyPost_ret (results_none rfl _ _ _) rfl ?_
                 exact ⟨⟨_, rfl⟩, k, hkN, hJx5⟩)
              | (exfalso; simp_all; done)
end Go.Proofs.YtejleplhmkmegaaGreatDoor
