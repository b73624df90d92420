/- Texts joined: RolP, RolA, RolB, RolC, RolD, RolE, RolF, RolG, RolI, RolJ, RolK, RolL, RolM, RolN. -/
import Derived.Below
import Derived.Test.YtdgeinipdphoeaaGd
import Derived.Test.YtdgeinipdphoeaaShelf
import Derived.Lib.Bytealg
import Derived.Test.YtdgeinipdphoeaaGa
import Derived.Deep.QuietTactic
import Derived.BigQuiet
import Derived.Test.YtdgeinipdphoeaaGb
import Derived.WalkSpells
import Derived.Deep.DeepCutAuto
import Derived.Deep.RegionWith
/- Lists in an order, of which those that are the same are put together: in whatever order, in whatever parts they come. Plain. -/
namespace Go.Put
/-- What lists of things in an order, of which those that are the same are put together, are asked. -/
structure Rule (α : Type) where
  c : α → α → Int
  both : α → α → α
  P : α → Prop
  neg : ∀ a b, c b a = -c a b
  lt : ∀ a b d, c a b < 0 → c b d < 0 → c a d < 0
  eq : ∀ a b d, c a b = 0 → c a d = c b d
  bc : ∀ a b d, c a b = 0 → c (both a b) d = c a d
  comm : ∀ a b, P a → P b → c a b = 0 → both a b = both b a
  assoc : ∀ a b d, P a → P b → P d → c a b = 0 → c a d = 0 → both (both a b) d = both a (both b d)
  keep : ∀ a b, P a → P b → c a b = 0 → P (both a b)
variable {α : Type} (R : Rule α)
/-- One more. -/
def put : List α → α → List α
  | [], d => [d]
  | x :: xs, d => if R.c x d < 0 then x :: put xs d else if R.c x d = 0 then R.both x d :: xs else d :: x :: xs
def Sorted (l : List α) : Prop := l.Pairwise fun a b => R.c a b < 0
def All (l : List α) : Prop := ∀ x ∈ l, R.P x
theorem refl (a : α) : R.c a a = 0 := by have := R.neg a a; omega
theorem eq_r {a b : α} (d : α) (h : R.c a b = 0) : R.c d a = R.c d b := by
  have h1 := R.eq a b d h
  have h2 := R.neg d a
  have h3 := R.neg d b
  omega
theorem put_mem {l : List α} {d y : α} (h : y ∈ put R l d) : y = d ∨ (∃ x ∈ l, y = x) ∨ ∃ x ∈ l, R.c x d = 0 ∧ y = R.both x d := by
  induction l with
  | nil => simp [put] at h; exact .inl h
  | cons x xs ih =>
    unfold put at h
    split at h
    · rcases List.mem_cons.1 h with h | h
      · exact .inr (.inl ⟨x, by simp, h⟩)
      · rcases ih h with h | ⟨z, hz, h⟩ | ⟨z, hz, h⟩
        · exact .inl h
        · exact .inr (.inl ⟨z, by simp [hz], h⟩)
        · exact .inr (.inr ⟨z, by simp [hz], h⟩)
    · split at h
      · rename_i h0
        rcases List.mem_cons.1 h with h | h
        · exact .inr (.inr ⟨x, by simp, h0, h⟩)
        · exact .inr (.inl ⟨y, by simp [h], rfl⟩)
      · rcases List.mem_cons.1 h with h | h
        · exact .inl h
        · exact .inr (.inl ⟨y, h, rfl⟩)
theorem put_all {l : List α} {d : α} (hl : All R l) (hd : R.P d) : All R (put R l d) := by
  intro y hy
  rcases put_mem R hy with h | ⟨x, hx, h⟩ | ⟨x, hx, h0, h⟩
  · rw [h]; exact hd
  · rw [h]; exact hl x hx
  · rw [h]; exact R.keep x d (hl x hx) hd h0
theorem put_sorted {l : List α} {d : α} (h : Sorted R l) : Sorted R (put R l d) := by
  induction l with
  | nil => simp [put, Sorted]
  | cons x xs ih =>
    unfold Sorted at h
    rw [List.pairwise_cons] at h
    obtain ⟨h1, h2⟩ := h
    unfold put
    split
    · rename_i h0
      refine List.pairwise_cons.2 ⟨fun y hy => ?_, ih h2⟩
      rcases put_mem R hy with e | ⟨z, hz, e⟩ | ⟨z, hz, hz0, e⟩
      · rw [e]; exact h0
      · rw [e]; exact h1 z hz
      · have := h1 z hz
        rw [e]
        have h3 := R.neg x (R.both z d)
        have h4 := R.bc z d x hz0
        have h5 := R.neg x z
        omega
    · split
      · rename_i h0
        refine List.pairwise_cons.2 ⟨fun y hy => ?_, h2⟩
        rw [R.bc x d y h0]
        exact h1 y hy
      · rename_i hlt hne
        refine List.pairwise_cons.2 ⟨fun y hy => ?_, List.pairwise_cons.2 ⟨h1, h2⟩⟩
        have hdx : R.c d x < 0 := by have := R.neg x d; omega
        rcases List.mem_cons.1 hy with e | hy
        · rw [e]; exact hdx
        · exact R.lt d x y hdx (h1 y hy)
theorem put_lt {x d : α} (xs : List α) (h : R.c x d < 0) : put R (x :: xs) d = x :: put R xs d := by rw [put, if_pos h]
theorem put_eq {x d : α} (xs : List α) (h : R.c x d = 0) : put R (x :: xs) d = R.both x d :: xs := by rw [put, if_neg (by omega), if_pos h]
theorem put_gt {x d : α} (xs : List α) (h : 0 < R.c x d) : put R (x :: xs) d = d :: x :: xs := by rw [put, if_neg (by omega), if_neg (by omega)]
theorem put_comm (a b : α) (ha : R.P a) (hb : R.P b) : ∀ l : List α, All R l → put R (put R l a) b = put R (put R l b) a
  | [], _ => by
    have h := R.neg a b
    rcases Int.lt_trichotomy (R.c a b) 0 with h1 | h1 | h1
    · rw [show put R [] a = [a] from rfl, show put R [] b = [b] from rfl, put_lt R _ h1, put_gt R _ (by omega)]; rfl
    · rw [show put R [] a = [a] from rfl, show put R [] b = [b] from rfl, put_eq R _ h1, put_eq R _ (by omega), R.comm a b ha hb h1]
    · rw [show put R [] a = [a] from rfl, show put R [] b = [b] from rfl, put_gt R _ h1, put_lt R _ (by omega)]; rfl
  | x :: xs, hl => by
    have hx : R.P x := hl x (by simp)
    have hxs : All R xs := fun y hy => hl y (by simp [hy])
    have hab := R.neg a b
    have hxa := R.neg x a
    have hxb := R.neg x b
    rcases Int.lt_trichotomy (R.c x a) 0 with h1 | h1 | h1
    · rcases Int.lt_trichotomy (R.c x b) 0 with h2 | h2 | h2
      · rw [put_lt R _ h1, put_lt R _ h2, put_lt R _ h2, put_lt R _ h1, put_comm a b ha hb xs hxs]
      · rw [put_lt R _ h1, put_eq R _ h2, put_eq R _ h2, put_lt R _ (by rw [R.bc x b a h2]; exact h1)]
      · have h3 : R.c b a < 0 := R.lt b x a (by omega) h1
        rw [put_lt R _ h1, put_gt R _ h2, put_gt R _ h2, put_lt R _ h3, put_lt R _ h1]
    · rcases Int.lt_trichotomy (R.c x b) 0 with h2 | h2 | h2
      · rw [put_eq R _ h1, put_lt R _ h2, put_lt R _ (by rw [R.bc x a b h1]; exact h2), put_eq R _ h1]
      · have h3 : R.c a b = 0 := by rw [← R.eq x a b h1]; exact h2
        rw [put_eq R _ h1, put_eq R _ h2, put_eq R _ (by rw [R.bc x a b h1]; exact h2), put_eq R _ (by rw [R.bc x b a h2]; exact h1), R.assoc x a b hx ha hb h1 h2, R.assoc x b a hx hb ha h2 h1, R.comm a b ha hb h3]
      · have h3 : R.c b a < 0 := by have := R.eq x a b h1; omega
        rw [put_eq R _ h1, put_gt R _ h2, put_gt R _ (by rw [R.bc x a b h1]; exact h2), put_lt R _ h3, put_eq R _ h1]
    · rcases Int.lt_trichotomy (R.c x b) 0 with h2 | h2 | h2
      · have h3 : R.c a b < 0 := R.lt a x b (by omega) h2
        rw [put_gt R _ h1, put_lt R _ h2, put_lt R _ h3, put_lt R _ h2, put_gt R _ h1]
      · have h3 : R.c a b < 0 := by have := R.eq x b a h2; omega
        rw [put_gt R _ h1, put_eq R _ h2, put_lt R _ h3, put_eq R _ h2, put_gt R _ (by rw [R.bc x b a h2]; exact h1)]
      · rw [put_gt R _ h1, put_gt R _ h2]
        rcases Int.lt_trichotomy (R.c a b) 0 with h3 | h3 | h3
        · rw [put_lt R _ h3, put_gt R _ h2, put_gt R _ (show 0 < R.c b a by omega)]
        · rw [put_eq R _ h3, put_eq R _ (show R.c b a = 0 by omega), R.comm a b ha hb h3]
        · rw [put_gt R _ h3, put_lt R _ (show R.c b a < 0 by omega), put_gt R _ h1]
/-- Two at once. -/
theorem put_both (a b : α) (ha : R.P a) (hb : R.P b) (h : R.c a b = 0) : ∀ l : List α, All R l → put R l (R.both a b) = put R (put R l a) b
  | [], _ => by rw [show put R [] a = [a] from rfl, put_eq R _ h]; rfl
  | x :: xs, hl => by
    have hx : R.P x := hl x (by simp)
    have hxs : All R xs := fun y hy => hl y (by simp [hy])
    have e : R.c x (R.both a b) = R.c x a := by
      have h1 := R.neg x (R.both a b)
      have h2 := R.bc a b x h
      have h3 := R.neg x a
      omega
    have e2 : R.c x b = R.c x a := (eq_r R x h).symm
    rcases Int.lt_trichotomy (R.c x a) 0 with h1 | h1 | h1
    · rw [put_lt R _ (by omega), put_lt R _ h1, put_lt R _ (by omega), put_both a b ha hb h xs hxs]
    · rw [put_eq R _ (by omega), put_eq R _ h1, put_eq R _ (by rw [R.bc x a b h1]; omega), R.assoc x a b hx ha hb h1 (by omega)]
    · rw [put_gt R _ (by omega), put_gt R _ h1, put_eq R _ h]
def puts (l m : List α) : List α := m.foldl (put R) l
theorem puts_all {l m : List α} (hl : All R l) (hm : All R m) : All R (puts R l m) := by
  induction m generalizing l with
  | nil => exact hl
  | cons x xs ih => exact ih (put_all R hl (hm x (by simp))) (fun y hy => hm y (by simp [hy]))
theorem puts_sorted {l m : List α} (hl : Sorted R l) : Sorted R (puts R l m) := by
  induction m generalizing l with
  | nil => exact hl
  | cons x xs ih => exact ih (put_sorted R hl)
theorem puts_put {l m : List α} {d : α} (hl : All R l) (hm : All R m) (hd : R.P d) : puts R (put R l d) m = put R (puts R l m) d := by
  induction m generalizing l with
  | nil => rfl
  | cons x xs ih =>
    show puts R (put R (put R l d) x) xs = put R (puts R (put R l x) xs) d
    rw [put_comm R d x hd (hm x (by simp)) l hl]
    exact ih (put_all R hl (hm x (by simp))) (fun y hy => hm y (by simp [hy]))
theorem puts_of_put {l m : List α} {d : α} (hl : All R l) (hm : All R m) (hd : R.P d) : puts R l (put R m d) = put R (puts R l m) d := by
  induction m generalizing l with
  | nil => rfl
  | cons x xs ih =>
    have hx := hm x (by simp)
    have hxs : All R xs := fun y hy => hm y (by simp [hy])
    rcases Int.lt_trichotomy (R.c x d) 0 with h1 | h1 | h1
    · rw [put_lt R _ h1]
      exact ih (put_all R hl hx) hxs
    · rw [put_eq R _ h1]
      show puts R (put R l (R.both x d)) xs = put R (puts R (put R l x) xs) d
      rw [put_both R x d hx hd h1 l hl]
      exact puts_put R (put_all R hl hx) hxs hd
    · rw [put_gt R _ h1]
      show puts R (put R (put R l d) x) xs = put R (puts R (put R l x) xs) d
      rw [put_comm R d x hd hx l hl]
      exact puts_put R (put_all R hl hx) hxs hd
/-- Merged. -/
theorem puts_puts {l m : List α} (hl : All R l) : All R m → puts R l (puts R [] m) = puts R l m := by
  have H : ∀ n : List α, All R n → ∀ m : List α, All R m → puts R l (puts R n m) = puts R (puts R l n) m := by
    intro n hn m
    induction m generalizing n with
    | nil => intro _; rfl
    | cons x xs ih =>
      intro hm
      have hx := hm x (by simp)
      have hxs : All R xs := fun y hy => hm y (by simp [hy])
      show puts R l (puts R (put R n x) xs) = puts R (put R (puts R l n) x) xs
      rw [ih (put R n x) (put_all R hn hx) hxs, puts_of_put R hl hn hx]
  intro hm
  exact H [] (fun _ h => by cases h) m hm
theorem puts_append (l m n : List α) : puts R l (m ++ n) = puts R (puts R l m) n := by unfold puts; rw [List.foldl_append]
theorem puts_perm {m n : List α} (h : m.Perm n) : ∀ {l : List α}, All R l → All R m → puts R l m = puts R l n := by
  induction h with
  | nil => intros; rfl
  | cons x h ih => intro l hl hm; exact ih (put_all R hl (hm x (by simp))) (fun y hy => hm y (by simp [hy]))
  | swap x y l' =>
    intro l hl hm
    show puts R (put R (put R l y) x) l' = puts R (put R (put R l x) y) l'
    rw [put_comm R y x (hm y (by simp)) (hm x (by simp)) l hl]
  | trans h1 h2 ih1 ih2 => intro l hl hm; rw [ih1 hl hm, ih2 hl (fun y hy => hm y (h1.mem_iff.2 hy))]
/-- A list in order, put together, is itself. -/
theorem put_last {l : List α} {d : α} (h : ∀ x ∈ l, R.c x d < 0) : put R l d = l ++ [d] := by
  induction l with
  | nil => rfl
  | cons x xs ih => rw [put_lt R _ (h x (by simp)), ih (fun y hy => h y (by simp [hy]))]; rfl
theorem puts_self {l m : List α} (h : Sorted R (l ++ m)) : puts R l m = l ++ m := by
  induction m generalizing l with
  | nil => simp [puts]
  | cons x xs ih =>
    show puts R (put R l x) xs = _
    have h1 : ∀ y ∈ l, R.c y x < 0 := fun y hy => (List.pairwise_append.1 h).2.2 y hy x (by simp)
    rw [put_last R h1, ih (by simpa [List.append_assoc] using h)]
    simp
theorem puts_nil {m : List α} (h : Sorted R m) : puts R [] m = m := by simpa using puts_self R (l := []) (m := m) (by simpa using h)
theorem put_len (l : List α) (d : α) : l.length ≤ (put R l d).length ∧ (put R l d).length ≤ l.length + 1 := by
  induction l with
  | nil => simp [put]
  | cons x xs ih =>
    unfold put
    split
    · simp; omega
    · split <;> simp
theorem puts_len (l m : List α) : l.length ≤ (puts R l m).length ∧ (puts R l m).length ≤ l.length + m.length := by
  induction m generalizing l with
  | nil => simp [puts]
  | cons x xs ih =>
    have h1 := put_len R l x
    have h2 := ih (put R l x)
    show _ ≤ (puts R (put R l x) xs).length ∧ (puts R (put R l x) xs).length ≤ _
    simp only [List.length_cons]
    omega
/-- A number that is the sum of both's is that of all. -/
def total (f : α → Int) (l : List α) : Int := l.foldr (fun x s => f x + s) 0
theorem put_total (f : α → Int) (hf : ∀ a b, R.c a b = 0 → f (R.both a b) = f a + f b) (l : List α) (d : α) : total f (put R l d) = total f l + f d := by
  induction l with
  | nil => simp [put, total]
  | cons x xs ih =>
    unfold put
    split
    · simp only [total, List.foldr_cons] at *
      omega
    · split
      · rename_i h
        simp only [total, List.foldr_cons, hf x d h]
        omega
      · simp only [total, List.foldr_cons]
        omega
theorem puts_total (f : α → Int) (hf : ∀ a b, R.c a b = 0 → f (R.both a b) = f a + f b) (l m : List α) : total f (puts R l m) = total f l + total f m := by
  induction m generalizing l with
  | nil => simp [puts, total]
  | cons x xs ih =>
    show total f (puts R (put R l x) xs) = _
    rw [ih, put_total R f hf]
    simp only [total, List.foldr_cons]
    omega
end Go.Put
/- Rollup: which values stand ahead of others: the program's 'Less'. -/
namespace Go.Proofs.Ytdgeinipdphoeaa
set_option linter.unusedVariables false
set_option linter.unusedSimpArgs false
set_option maxRecDepth 100000
open Go.ChangeShapes Go.WideShapes Go.ChangeAt Go.RowKit

def cmpS (a b : ByteArray) : Int := Lib.compareBytes a.data.toList b.data.toList
theorem cmpB_is : ∀ (a b : List UInt8), Lib.compareBytes a b = -1 ∨ Lib.compareBytes a b = 0 ∨ Lib.compareBytes a b = 1
  | [], [] => .inr (.inl rfl)
  | [], _ :: _ => .inl rfl
  | _ :: _, [] => .inr (.inr rfl)
  | a :: l, b :: m => by
    unfold Lib.compareBytes
    split
    · exact .inl rfl
    · split
      · exact .inr (.inr rfl)
      · exact cmpB_is l m
theorem cmpS_is (a b : ByteArray) : cmpS a b = -1 ∨ cmpS a b = 0 ∨ cmpS a b = 1 := cmpB_is _ _
/-- Two values compared. -/
def cmpV (a b : ValD) : Int := if a.nl = true then (if b.nl = true then 0 else -1) else (if b.nl = true then 1 else cmpS a.s b.s)
theorem cmpV_is (a b : ValD) : cmpV a b = -1 ∨ cmpV a b = 0 ∨ cmpV a b = 1 := by
  unfold cmpV
  (repeat' split)
  · exact .inr (.inl rfl)
  · exact .inl rfl
  · exact .inr (.inr rfl)
  · exact cmpS_is _ _
/-- Two lists compared. -/
def cmpL : List ValD → List ValD → Int
  | [], [] => 0
  | [], _ :: _ => -1
  | _ :: _, [] => 1
  | a :: l, b :: m => if cmpV a b = 0 then cmpL l m else cmpV a b
def lessL (a b : List ValD) : Bool := decide (cmpL a b < 0)

theorem compare_any (a b : ValD) (w : World) : Calls Try.prog 113 #[.agg #[.string a.s, .bool a.nl], .agg #[.string b.s, .bool b.nl]] w fun e w' => e = .returned (.int .i64 (cmpV a b)) ∧ Below w.heap.size w w' := by
  obtain ⟨s, n⟩ := a
  obtain ⟨t, m⟩ := b
  cases n with
  | true =>
    cases m with
    | true =>
      have hc : Hid (cmpV ⟨s, true⟩ ⟨t, true⟩ = 0) := rfl
      rw [hc.out]
      go_enter Try.func113, Try.ntmps113
      go_wp2
      go_ret
      exact ⟨rfl, by (repeat' (first | (with_reducible exact Below.refl _ _) | (with_reducible assumption) | (with_reducible refine Below.new ?_ _) | (with_reducible refine Below.alloc ?_ ?_ _) | (with_reducible refine Below.drew ?_) | (with_reducible refine Below.drewN ?_ _) | (with_reducible refine Below.setCell ?_ ?_ _) | (refine Below.step ?_ (by assumption)) | go_size))⟩
    | false =>
      have hc : Hid (cmpV ⟨s, true⟩ ⟨t, false⟩ = -1) := rfl
      rw [hc.out]
      go_enter Try.func113, Try.ntmps113
      go_wp2
      go_ret
      exact ⟨rfl, by (repeat' (first | (with_reducible exact Below.refl _ _) | (with_reducible assumption) | (with_reducible refine Below.new ?_ _) | (with_reducible refine Below.alloc ?_ ?_ _) | (with_reducible refine Below.drew ?_) | (with_reducible refine Below.drewN ?_ _) | (with_reducible refine Below.setCell ?_ ?_ _) | (refine Below.step ?_ (by assumption)) | go_size))⟩
  | false =>
    cases m with
    | true =>
      have hc : Hid (cmpV ⟨s, false⟩ ⟨t, true⟩ = 1) := rfl
      rw [hc.out]
      go_enter Try.func113, Try.ntmps113
      go_wp2
      go_ret
      exact ⟨rfl, by (repeat' (first | (with_reducible exact Below.refl _ _) | (with_reducible assumption) | (with_reducible refine Below.new ?_ _) | (with_reducible refine Below.alloc ?_ ?_ _) | (with_reducible refine Below.drew ?_) | (with_reducible refine Below.drewN ?_ _) | (with_reducible refine Below.setCell ?_ ?_ _) | (refine Below.step ?_ (by assumption)) | go_size))⟩
    | false =>
      have hc : Hid (cmpV ⟨s, false⟩ ⟨t, false⟩ = cmpS s t) := rfl
      rw [hc.out]
      have HC := hid (fun W => Try.strings_Compare s t W)
      rw [show Lib.compareBytes s.data.toList t.data.toList = cmpS s t from rfl] at HC
      generalize cmpS s t = r at *
      go_enter Try.func113, Try.ntmps113
      go_wp2_with (go_at_call 125; ((with_reducible refine (HC.out _).mono ?_); rintro e w1 ⟨rfl, rfl⟩))
      go_ret
      exact ⟨rfl, by (repeat' (first | (with_reducible exact Below.refl _ _) | (with_reducible assumption) | (with_reducible refine Below.new ?_ _) | (with_reducible refine Below.alloc ?_ ?_ _) | (with_reducible refine Below.drew ?_) | (with_reducible refine Below.drewN ?_ _) | (with_reducible refine Below.setCell ?_ ?_ _) | (refine Below.step ?_ (by assumption)) | go_size))⟩

set_option maxHeartbeats 2000000 in
theorem compareFunc_any (va vb : Value) (a b : List ValD) (w : World) (ha : ValsSl w va a) (hb : ValsSl w vb b) :
    Calls Try.prog 112 #[va, vb, .func (.func 113) #[] #[]] w fun e w' => e = .returned (.int .i64 (cmpL a b)) ∧ Below w.heap.size w w' := by
  obtain ⟨ao, ca, rfl, h1, h2, _, hA⟩ := ValsSl.parts ha
  obtain ⟨bo, cb, rfl, h3, h4, _, hB⟩ := ValsSl.parts hb
  have HA := hid hA; have HB := hid hB
  obtain ⟨R, hR⟩ : ∃ R, cmpL a b = R := ⟨_, rfl⟩
  rw [hR]
  have hR0 : cmpL (a.drop 0) (b.drop 0) = R := hR
  have HR := hid hR0
  obtain ⟨la, hla⟩ : ∃ n, a.length = n := ⟨_, rfl⟩
  obtain ⟨lb, hlb⟩ : ∃ n, b.length = n := ⟨_, rfl⟩
  have HLA := hid hla; have HLB := hid hlb
  rw [hla] at h1 ⊢
  rw [hlb] at h3 ⊢
  unfold maxLen at h2 h4
  clear hA hB ha hb hR hR0 hla hlb
  go_enter Try.func112, Try.ntmps112
  go_wp2
  go_loopw [13] (fun i wr => ∃ k : Nat, k ≤ la ∧ k ≤ lb ∧ i = .int .i64 k ∧ cmpL (a.drop k) (b.drop k) = R ∧ Below w.heap.size w wr) (fun i _ => la - (intOf i).toNat)
  case atStart => exact ⟨0, Nat.zero_le _, Nat.zero_le _, rfl, HR.out, Below.refl _ _⟩
  case round =>
    obtain ⟨k, hk, hkb, rfl, hrel, hbel⟩ := hrel
    have HREL := hid hrel; have HBEL := hid hbel
    clear hrel hbel
    by_cases hka : k < la
    · have hlen : k < a.length := by rw [HLA.out]; exact hka
      obtain ⟨ba, oa, rfl, hca⟩ := HA.out (by omega)
      obtain ⟨c1, c2⟩ := hca k hlen
      have d1 := cell_step c1 HBEL.out
      have d2 := cell_step c2 HBEL.out
      have ea : a.drop k = a[k] :: a.drop (k + 1) := List.drop_eq_getElem_cons hlen
      clear hca c1 c2
      have g1 : (0 : Int) ≤ (k : Int) := Int.natCast_nonneg _
      have g2 : (k : Int) < (la : Int) := by omega
      by_cases hkb2 : k < lb
      · have hlenb : k < b.length := by rw [HLB.out]; exact hkb2
        obtain ⟨bb, ob, rfl, hcb⟩ := HB.out (by omega)
        obtain ⟨c1, c2⟩ := hcb k hlenb
        have e1 := cell_step c1 HBEL.out
        have e2 := cell_step c2 HBEL.out
        have zb := World.block_lt_of_cell? _ _ e1
        have eb : b.drop k = b[k] :: b.drop (k + 1) := List.drop_eq_getElem_cons hlenb
        have hstep : R = if cmpV a[k] b[k] = 0 then cmpL (a.drop (k + 1)) (b.drop (k + 1)) else cmpV a[k] b[k] := by rw [← HREL.out, ea, eb]; simp only [cmpL]
        have HC := hid (fun W => compare_any a[k] b[k] W)
        have hci := cmpV_is a[k] b[k]
        clear hcb c1 c2 ea eb
        generalize a[k] = x at *
        generalize b[k] = y at *
        have g3 : (k : Int) < (lb : Int) := by omega
        have q1 : x.s = x.s := rfl
        generalize x.s = xs at *
        generalize x.nl = xn at *
        generalize y.s = ys at *
        generalize y.nl = yn at *
        generalize cmpV x y = r at *
        clear q1
        by_cases hr : r = 0
        · rw [if_pos hr] at hstep
          have HSTEP := hid hstep.symm
          subst hr
          clear hci hstep
          go_wp2_with (go_at_call 113; ((with_reducible refine (HC.out _).mono ?_); rintro e w2 ⟨rfl, hb2⟩; obtain ⟨hc2, hf2, hk2, hz2⟩ := bcell3 hb2; (try simp only [World.size_alloc, World.size_drew] at hz2)))
          go_roundw
          case rel => exact ⟨k + 1, hka, hkb2, by go_num, HSTEP.out, by have := HBEL.out; (repeat' (first | (with_reducible exact Below.refl _ _) | (with_reducible assumption) | (with_reducible refine Below.new ?_ _) | (with_reducible refine Below.alloc ?_ ?_ _) | (with_reducible refine Below.drew ?_) | (with_reducible refine Below.drewN ?_ _) | (with_reducible refine Below.setCell ?_ ?_ _) | (refine Below.step ?_ (by assumption)) | go_size))⟩
          case measure => simp [intOf]; omega
        · rw [if_neg hr] at hstep
          have HSTEP := hid hstep
          have hq : (r != 0) = true := by simpa using hr
          clear hci hstep hr
          go_wp2_with (go_at_call 113; ((with_reducible refine (HC.out _).mono ?_); rintro e w2 ⟨rfl, hb2⟩; obtain ⟨hc2, hf2, hk2, hz2⟩ := bcell3 hb2; (try simp only [World.size_alloc, World.size_drew] at hz2)))
          go_ret
          exact ⟨ret_int HSTEP.out.symm, by have := HBEL.out; (repeat' (first | (with_reducible exact Below.refl _ _) | (with_reducible assumption) | (with_reducible refine Below.new ?_ _) | (with_reducible refine Below.alloc ?_ ?_ _) | (with_reducible refine Below.drew ?_) | (with_reducible refine Below.drewN ?_ _) | (with_reducible refine Below.setCell ?_ ?_ _) | (refine Below.step ?_ (by assumption)) | go_size))⟩
      · obtain rfl : k = lb := by omega
        have eb : b.drop k = [] := List.drop_eq_nil_of_le (by rw [HLB.out]; omega)
        have hR1 : R = 1 := by rw [← HREL.out, ea, eb]; rfl
        have HR1 := hid hR1
        clear ea eb hR1
        generalize a[k] = x at *
        go_wp2
        go_ret
        exact ⟨ret_int HR1.out.symm, by have := HBEL.out; (repeat' (first | (with_reducible exact Below.refl _ _) | (with_reducible assumption) | (with_reducible refine Below.new ?_ _) | (with_reducible refine Below.alloc ?_ ?_ _) | (with_reducible refine Below.drew ?_) | (with_reducible refine Below.drewN ?_ _) | (with_reducible refine Below.setCell ?_ ?_ _) | (refine Below.step ?_ (by assumption)) | go_size))⟩
    · obtain rfl : k = la := by omega
      have ea : a.drop k = [] := List.drop_eq_nil_of_le (by rw [HLA.out]; omega)
      by_cases hkb2 : k < lb
      · have hlenb : k < b.length := by rw [HLB.out]; exact hkb2
        have eb : b.drop k = b[k] :: b.drop (k + 1) := List.drop_eq_getElem_cons hlenb
        have HR1 : Hid (R = -1) := by unfold Hid; rw [← HREL.out, ea, eb]; rfl
        clear ea eb
        go_wp2
        go_ret
        exact ⟨ret_int HR1.out.symm, by have := HBEL.out; (repeat' (first | (with_reducible exact Below.refl _ _) | (with_reducible assumption) | (with_reducible refine Below.new ?_ _) | (with_reducible refine Below.alloc ?_ ?_ _) | (with_reducible refine Below.drew ?_) | (with_reducible refine Below.drewN ?_ _) | (with_reducible refine Below.setCell ?_ ?_ _) | (refine Below.step ?_ (by assumption)) | go_size))⟩
      · obtain rfl : k = lb := by omega
        have eb : b.drop k = [] := List.drop_eq_nil_of_le (by rw [HLB.out]; omega)
        have HR1 : Hid (R = 0) := by unfold Hid; rw [← HREL.out, ea, eb]; rfl
        clear ea eb
        go_wp2
        go_ret
        exact ⟨ret_int HR1.out.symm, by have := HBEL.out; (repeat' (first | (with_reducible exact Below.refl _ _) | (with_reducible assumption) | (with_reducible refine Below.new ?_ _) | (with_reducible refine Below.alloc ?_ ?_ _) | (with_reducible refine Below.drew ?_) | (with_reducible refine Below.drewN ?_ _) | (with_reducible refine Below.setCell ?_ ?_ _) | (refine Below.step ?_ (by assumption)) | go_size))⟩
theorem less_any (va vb : Value) (a b : List ValD) (w : World) (ha : ValsSl w va a) (hb : ValsSl w vb b) :
    Calls Try.prog 102 #[va, vb] w fun e w' => e = .returned (.bool (lessL a b)) ∧ Below w.heap.size w w' := by
  have HC := hid (compareFunc_any va vb a b w ha hb)
  unfold lessL
  generalize cmpL a b = r at *
  obtain ⟨ao, ca, rfl, _⟩ := SlAt.shape ha
  obtain ⟨bo, cb, rfl, _⟩ := SlAt.shape hb
  clear ha hb
  go_enter Try.func102, Try.ntmps102
  go_wp2_with (go_at_call 112; ((with_reducible refine (HC.out).mono ?_); rintro e w2 ⟨rfl, hb2⟩))
  go_ret
  exact ⟨rfl, hb2⟩
end Go.Proofs.Ytdgeinipdphoeaa
/- Rollup: which values stand ahead of others: the reference's 'Ahead', 'ahead', 'Less'. -/
namespace Go.Proofs.Ytdgeinipdphoeaa
set_option linter.unusedVariables false
set_option linter.unusedSimpArgs false
set_option maxRecDepth 100000
open Go.ChangeShapes Go.WideShapes Go.ChangeAt Go.RowKit

theorem cmpB_neg : ∀ (a b : List UInt8), Lib.compareBytes b a = -Lib.compareBytes a b
  | [], [] => rfl
  | [], _ :: _ => rfl
  | _ :: _, [] => rfl
  | a :: l, b :: m => by
    unfold Lib.compareBytes
    by_cases h1 : a < b
    · have h2 : ¬ b < a := by rw [UInt8.lt_iff_toNat_lt] at *; omega
      simp [h1, h2]
    · by_cases h2 : b < a
      · simp [h1, h2]
      · simp [h1, h2, cmpB_neg l m]
theorem cmpS_neg (a b : ByteArray) : cmpS b a = -cmpS a b := cmpB_neg _ _
theorem cmpV_neg (a b : ValD) : cmpV b a = -cmpV a b := by
  unfold cmpV
  cases a.nl <;> cases b.nl <;> simp [cmpS_neg a.s b.s]
theorem bytes_drop (s : ByteArray) (k : Nat) (h : k < s.size) : s.data.toList.drop k = s[k] :: s.data.toList.drop (k + 1) := by
  have hl : k < s.data.toList.length := by simpa using h
  rw [List.drop_eq_getElem_cons hl]
  rfl

set_option maxHeartbeats 2000000 in
theorem refAheadS_any (a b : ByteArray) (ha : a.size ≤ 9223372036854775807) (hb : b.size ≤ 9223372036854775807) (w : World) : Calls Try.prog 128 #[.string a, .string b] w fun e w' => e = .returned (.bool (decide (cmpS a b < 0))) ∧ Below w.heap.size w w' := by
  obtain ⟨R, hR⟩ : ∃ R, cmpS a b = R := ⟨_, rfl⟩
  rw [hR]
  have hR0 : Lib.compareBytes (a.data.toList.drop 0) (b.data.toList.drop 0) = R := hR
  have HR := hid hR0
  clear hR hR0
  go_enter Try.func128, Try.ntmps128
  go_wp2
  go_loopw [5] (fun i wr => ∃ k : Nat, k ≤ a.size ∧ k ≤ b.size ∧ i = .int .i64 k ∧ Lib.compareBytes (a.data.toList.drop k) (b.data.toList.drop k) = R ∧ Below w.heap.size w wr) (fun i _ => a.size - (intOf i).toNat)
  case atStart => exact ⟨0, Nat.zero_le _, Nat.zero_le _, rfl, HR.out, Below.refl _ _⟩
  case round =>
    obtain ⟨k, hk, hkb, rfl, hrel, hbel⟩ := hrel
    have HREL := hid hrel; have HBEL := hid hbel
    clear hrel hbel
    by_cases hka : k < a.size
    · by_cases hkb2 : k < b.size
      · have ea := bytes_drop a k hka
        have eb := bytes_drop b k hkb2
        have hstep : R = if a[k] < b[k] then -1 else if b[k] < a[k] then 1 else Lib.compareBytes (a.data.toList.drop (k + 1)) (b.data.toList.drop (k + 1)) := by rw [← HREL.out, ea, eb]; simp only [Lib.compareBytes]
        simp only [UInt8.lt_iff_toNat_lt] at hstep
        have hx := (a[k]'hka).toNat_lt
        have hy := (b[k]'hkb2).toNat_lt
        have g1 : (0 : Int) ≤ (k : Int) := Int.natCast_nonneg _
        have g2 : (k : Int) < (a.size : Int) := by omega
        have g3 : (k : Int) < (b.size : Int) := by omega
        obtain ⟨x, hxe⟩ : ∃ x, (a[k]'hka).toNat = x := ⟨_, rfl⟩
        obtain ⟨y, hye⟩ : ∃ y, (b[k]'hkb2).toNat = y := ⟨_, rfl⟩
        rw [hxe, hye] at hstep
        rw [hxe] at hx
        rw [hye] at hy
        clear ea eb
        rcases Nat.lt_trichotomy x y with h | h | h
        · rw [if_pos h] at hstep
          have HSTEP := hid hstep
          have hq : ((x : Int) != (y : Int)) = true := by simp; omega
          have hq2 : decide ((x : Int) < (y : Int)) = true := by simp; omega
          clear hstep
          go_wp2
          go_quiet (fail)
          go_wp2
          go_quiet (fail)
          go_wp2
          go_ret
          exact ⟨ret_bool (by rw [HSTEP.out]; first | rfl | (simp; done) | (simp; omega)), by have := HBEL.out; (repeat' (first | (with_reducible exact Below.refl _ _) | (with_reducible assumption) | (with_reducible refine Below.new ?_ _) | (with_reducible refine Below.alloc ?_ ?_ _) | (with_reducible refine Below.drew ?_) | (with_reducible refine Below.drewN ?_ _) | (with_reducible refine Below.setCell ?_ ?_ _) | (refine Below.step ?_ (by assumption)) | go_size))⟩
        · rw [if_neg (by omega), if_neg (by omega)] at hstep
          have HSTEP := hid hstep.symm
          subst h
          clear hstep
          go_wp2
          go_quiet (fail)
          go_wp2
          go_roundw
          case rel => exact ⟨k + 1, hka, hkb2, by go_num, HSTEP.out, by have := HBEL.out; (repeat' (first | (with_reducible exact Below.refl _ _) | (with_reducible assumption) | (with_reducible refine Below.new ?_ _) | (with_reducible refine Below.alloc ?_ ?_ _) | (with_reducible refine Below.drew ?_) | (with_reducible refine Below.drewN ?_ _) | (with_reducible refine Below.setCell ?_ ?_ _) | (refine Below.step ?_ (by assumption)) | go_size))⟩
          case measure => simp [intOf]; omega
        · rw [if_neg (by omega), if_pos h] at hstep
          have HSTEP := hid hstep
          have hq : ((x : Int) != (y : Int)) = true := by simp; omega
          have hq2 : decide ((x : Int) < (y : Int)) = false := by simp; omega
          clear hstep
          go_wp2
          go_quiet (fail)
          go_wp2
          go_quiet (fail)
          go_wp2
          go_ret
          exact ⟨ret_bool (by rw [HSTEP.out]; first | rfl | (simp; done) | (simp; omega)), by have := HBEL.out; (repeat' (first | (with_reducible exact Below.refl _ _) | (with_reducible assumption) | (with_reducible refine Below.new ?_ _) | (with_reducible refine Below.alloc ?_ ?_ _) | (with_reducible refine Below.drew ?_) | (with_reducible refine Below.drewN ?_ _) | (with_reducible refine Below.setCell ?_ ?_ _) | (refine Below.step ?_ (by assumption)) | go_size))⟩
      · obtain rfl : k = b.size := by omega
        have eb : b.data.toList.drop b.size = [] := List.drop_eq_nil_of_le (by simp)
        have ea := bytes_drop a b.size hka
        have HR1 : Hid (R = 1) := by unfold Hid; rw [← HREL.out, ea, eb]; rfl
        clear ea eb HREL
        go_wp2
        go_ret
        exact ⟨ret_bool (by rw [HR1.out]; first | rfl | (simp; done) | (simp; omega)), by have := HBEL.out; (repeat' (first | (with_reducible exact Below.refl _ _) | (with_reducible assumption) | (with_reducible refine Below.new ?_ _) | (with_reducible refine Below.alloc ?_ ?_ _) | (with_reducible refine Below.drew ?_) | (with_reducible refine Below.drewN ?_ _) | (with_reducible refine Below.setCell ?_ ?_ _) | (refine Below.step ?_ (by assumption)) | go_size))⟩
    · obtain rfl : k = a.size := by omega
      have ea : a.data.toList.drop a.size = [] := List.drop_eq_nil_of_le (by simp)
      by_cases hkb2 : a.size < b.size
      · have eb := bytes_drop b a.size hkb2
        have HR1 : Hid (R = -1) := by unfold Hid; rw [← HREL.out, ea, eb]; rfl
        clear ea eb HREL
        go_wp2
        go_ret
        exact ⟨ret_bool (by rw [HR1.out]; first | rfl | (simp; done) | (simp; omega)), by have := HBEL.out; (repeat' (first | (with_reducible exact Below.refl _ _) | (with_reducible assumption) | (with_reducible refine Below.new ?_ _) | (with_reducible refine Below.alloc ?_ ?_ _) | (with_reducible refine Below.drew ?_) | (with_reducible refine Below.drewN ?_ _) | (with_reducible refine Below.setCell ?_ ?_ _) | (refine Below.step ?_ (by assumption)) | go_size))⟩
      · have eb : b.data.toList.drop a.size = [] := List.drop_eq_nil_of_le (by simp; omega)
        have HR1 : Hid (R = 0) := by unfold Hid; rw [← HREL.out, ea, eb]; rfl
        clear ea eb HREL
        go_wp2
        go_ret
        exact ⟨ret_bool (by rw [HR1.out]; first | rfl | (simp; done) | (simp; omega)), by have := HBEL.out; (repeat' (first | (with_reducible exact Below.refl _ _) | (with_reducible assumption) | (with_reducible refine Below.new ?_ _) | (with_reducible refine Below.alloc ?_ ?_ _) | (with_reducible refine Below.drew ?_) | (with_reducible refine Below.drewN ?_ _) | (with_reducible refine Below.setCell ?_ ?_ _) | (refine Below.step ?_ (by assumption)) | go_size))⟩

theorem refAhead_any (a b : ValD) (ha : a.s.size ≤ 9223372036854775807) (hb : b.s.size ≤ 9223372036854775807) (w : World) : Calls Try.prog 116 #[.agg #[.string a.s, .bool a.nl], .agg #[.string b.s, .bool b.nl]] w fun e w' => e = .returned (.bool (decide (cmpV a b < 0))) ∧ Below w.heap.size w w' := by
  obtain ⟨s, n⟩ := a
  obtain ⟨t, m⟩ := b
  cases n with
  | true =>
    cases m with
    | true =>
      have hc : Hid (decide (cmpV ⟨s, true⟩ ⟨t, true⟩ < 0) = false) := rfl
      rw [hc.out]
      go_enter Try.func116, Try.ntmps116
      go_wp2
      go_ret
      exact ⟨rfl, by (repeat' (first | (with_reducible exact Below.refl _ _) | (with_reducible assumption) | (with_reducible refine Below.new ?_ _) | (with_reducible refine Below.alloc ?_ ?_ _) | (with_reducible refine Below.drew ?_) | (with_reducible refine Below.drewN ?_ _) | (with_reducible refine Below.setCell ?_ ?_ _) | (refine Below.step ?_ (by assumption)) | go_size))⟩
    | false =>
      have hc : Hid (decide (cmpV ⟨s, true⟩ ⟨t, false⟩ < 0) = true) := rfl
      rw [hc.out]
      go_enter Try.func116, Try.ntmps116
      go_wp2
      go_ret
      exact ⟨rfl, by (repeat' (first | (with_reducible exact Below.refl _ _) | (with_reducible assumption) | (with_reducible refine Below.new ?_ _) | (with_reducible refine Below.alloc ?_ ?_ _) | (with_reducible refine Below.drew ?_) | (with_reducible refine Below.drewN ?_ _) | (with_reducible refine Below.setCell ?_ ?_ _) | (refine Below.step ?_ (by assumption)) | go_size))⟩
  | false =>
    cases m with
    | true =>
      have hc : Hid (decide (cmpV ⟨s, false⟩ ⟨t, true⟩ < 0) = false) := rfl
      rw [hc.out]
      go_enter Try.func116, Try.ntmps116
      go_wp2
      go_ret
      exact ⟨rfl, by (repeat' (first | (with_reducible exact Below.refl _ _) | (with_reducible assumption) | (with_reducible refine Below.new ?_ _) | (with_reducible refine Below.alloc ?_ ?_ _) | (with_reducible refine Below.drew ?_) | (with_reducible refine Below.drewN ?_ _) | (with_reducible refine Below.setCell ?_ ?_ _) | (refine Below.step ?_ (by assumption)) | go_size))⟩
    | false =>
      have hc : Hid (decide (cmpV ⟨s, false⟩ ⟨t, false⟩ < 0) = decide (cmpS s t < 0)) := rfl
      rw [hc.out]
      have HC := hid (fun W => refAheadS_any s t ha hb W)
      generalize decide (cmpS s t < 0) = r at *
      go_enter Try.func116, Try.ntmps116
      go_wp2_with (go_at_call 128; ((with_reducible refine (HC.out _).mono ?_); rintro e w1 ⟨rfl, hb1⟩))
      go_ret
      exact ⟨rfl, by (repeat' (first | (with_reducible exact Below.refl _ _) | (with_reducible assumption) | (with_reducible refine Below.new ?_ _) | (with_reducible refine Below.alloc ?_ ?_ _) | (with_reducible refine Below.drew ?_) | (with_reducible refine Below.drewN ?_ _) | (with_reducible refine Below.setCell ?_ ?_ _) | (refine Below.step ?_ (by assumption)) | go_size))⟩

set_option maxHeartbeats 4000000 in
theorem refLess_any (va vb : Value) (a b : List ValD) (w : World) (ha : ValsSl w va a) (hb : ValsSl w vb b) (ta : ∀ v ∈ a, v.s.size ≤ 9223372036854775807) (tb : ∀ v ∈ b, v.s.size ≤ 9223372036854775807) :
    Calls Try.prog 104 #[va, vb] w fun e w' => e = .returned (.bool (lessL a b)) ∧ Below w.heap.size w w' := by
  unfold lessL
  obtain ⟨ao, ca, rfl, h1, h2, _, hA⟩ := ValsSl.parts ha
  obtain ⟨bo, cb, rfl, h3, h4, _, hB⟩ := ValsSl.parts hb
  have HA := hid hA; have HB := hid hB
  have HTA := hid (fun i (hi : i < a.length) => ta a[i] (List.getElem_mem hi)); have HTB := hid (fun i (hi : i < b.length) => tb b[i] (List.getElem_mem hi))
  obtain ⟨R, hR⟩ : ∃ R, cmpL a b = R := ⟨_, rfl⟩
  rw [hR]
  have hR0 : cmpL (a.drop 0) (b.drop 0) = R := hR
  have HR := hid hR0
  obtain ⟨la, hla⟩ : ∃ n, a.length = n := ⟨_, rfl⟩
  obtain ⟨lb, hlb⟩ : ∃ n, b.length = n := ⟨_, rfl⟩
  have HLA := hid hla; have HLB := hid hlb
  rw [hla] at h1 ⊢
  rw [hlb] at h3 ⊢
  unfold maxLen at h2 h4
  clear hA hB ha hb hR hR0 hla hlb ta tb
  go_enter Try.func104, Try.ntmps104
  go_wp2
  go_loopw [5] (fun i wr => ∃ k : Nat, k ≤ la ∧ k ≤ lb ∧ i = .int .i64 k ∧ cmpL (a.drop k) (b.drop k) = R ∧ Below w.heap.size w wr) (fun i _ => la - (intOf i).toNat)
  case atStart => exact ⟨0, Nat.zero_le _, Nat.zero_le _, rfl, HR.out, Below.refl _ _⟩
  case round =>
    obtain ⟨k, hk, hkb, rfl, hrel, hbel⟩ := hrel
    have HREL := hid hrel; have HBEL := hid hbel
    clear hrel hbel
    by_cases hka : k < la
    · have hlen : k < a.length := by rw [HLA.out]; exact hka
      have ea : a.drop k = a[k] :: a.drop (k + 1) := List.drop_eq_getElem_cons hlen
      by_cases hkb2 : k < lb
      · obtain ⟨ba, oa, rfl, hca⟩ := HA.out (by omega)
        obtain ⟨c1, c2⟩ := hca k hlen
        have d1 := World.plus_cell (cell_step c1 HBEL.out)
        have d2 := World.plus_cell (cell_step c2 HBEL.out)
        have hlenb : k < b.length := by rw [HLB.out]; exact hkb2
        obtain ⟨bb, ob, rfl, hcb⟩ := HB.out (by omega)
        obtain ⟨c3, c4⟩ := hcb k hlenb
        have e1 := World.plus_cell (cell_step c3 HBEL.out)
        have e2 := World.plus_cell (cell_step c4 HBEL.out)
        have eb : b.drop k = b[k] :: b.drop (k + 1) := List.drop_eq_getElem_cons hlenb
        have hstep : R = if cmpV a[k] b[k] = 0 then cmpL (a.drop (k + 1)) (b.drop (k + 1)) else cmpV a[k] b[k] := by rw [← HREL.out, ea, eb]; simp only [cmpL]
        have HC := hid (fun W => refAhead_any a[k] b[k] (HTA.out k hlen) (HTB.out k hlenb) W)
        have HD := hid (fun W => refAhead_any b[k] a[k] (HTB.out k hlenb) (HTA.out k hlen) W)
        rw [cmpV_neg a[k] b[k]] at HD
        have hci := cmpV_is a[k] b[k]
        clear hcb hca c1 c2 c3 c4 ea eb
        generalize a[k] = x at *
        generalize b[k] = y at *
        generalize cmpV x y = r at *
        generalize x.s = xs at *
        generalize x.nl = xn at *
        generalize y.s = ys at *
        generalize y.nl = yn at *
        have g1 : (0 : Int) ≤ (k : Int) := Int.natCast_nonneg _
        have g2 : (k : Int) < (la : Int) := by omega
        have g3 : (k : Int) < (lb : Int) := by omega
        rcases hci with rfl | rfl | rfl
        · rw [if_neg (by decide)] at hstep
          rw [show decide ((-1 : Int) < 0) = true from rfl] at HC
          have HSTEP := hid hstep
          clear hstep
          go_wp2
          refine wp_region_plus (by kernel_rfl) (by kernel_rfl) ?_
          repeat (first | go_big_quiet_skip | (go_big_quiet_want; go_big_quiet_op; first | go_big_quiet_on | go_big_quiet_call (((go_at_call 116; exact Calls.plus_of (HC.out _))))))
          refine wpQuiet_nil ?_
          rintro _ ⟨xq, rfl⟩
          have hbq := HBEL.out.step (World.plus_below wr xq)
          go_wp2
          go_ret
          exact ⟨ret_bool (by rw [HSTEP.out]; first | rfl | (simp; done) | (simp; omega)), hbq⟩
        · rw [if_pos rfl] at hstep
          rw [show decide ((0 : Int) < 0) = false from rfl] at HC
          rw [show decide (-(0 : Int) < 0) = false from rfl] at HD
          have HSTEP := hid hstep.symm
          clear hstep
          go_wp2
          refine wp_region_plus (by kernel_rfl) (by kernel_rfl) ?_
          repeat (first | go_big_quiet_skip | (go_big_quiet_want; go_big_quiet_op; first | go_big_quiet_on | go_big_quiet_call (((go_at_call 116; exact Calls.plus_of (HC.out _))))))
          refine wpQuiet_nil ?_
          rintro _ ⟨xq, rfl⟩
          have hbq := HBEL.out.step (World.plus_below wr xq)
          have f1 := World.plus_cell (d1 xq); have f2 := World.plus_cell (d2 xq); have f3 := World.plus_cell (e1 xq); have f4 := World.plus_cell (e2 xq)
          have HBQ := hid hbq
          clear d1 d2 e1 e2 hbq
          generalize World.plus wr xq = W6 at *
          go_wp2
          refine wp_region_plus (by kernel_rfl) (by kernel_rfl) ?_
          repeat (first | go_big_quiet_skip | (go_big_quiet_want; go_big_quiet_op; first | go_big_quiet_on | go_big_quiet_call (((go_at_call 116; exact Calls.plus_of (HD.out _))))))
          refine wpQuiet_nil ?_
          rintro _ ⟨xq, rfl⟩
          have HB7 := hid (HBQ.out.step (World.plus_below W6 xq))
          go_wp2
          go_roundw
          case rel => exact ⟨k + 1, hka, hkb2, by go_num, HSTEP.out, HB7.out⟩
          case measure => simp [intOf]; omega
        · rw [if_neg (by decide)] at hstep
          rw [show decide ((1 : Int) < 0) = false from rfl] at HC
          rw [show decide (-(1 : Int) < 0) = true from rfl] at HD
          have HSTEP := hid hstep
          clear hstep
          go_wp2
          refine wp_region_plus (by kernel_rfl) (by kernel_rfl) ?_
          repeat (first | go_big_quiet_skip | (go_big_quiet_want; go_big_quiet_op; first | go_big_quiet_on | go_big_quiet_call (((go_at_call 116; exact Calls.plus_of (HC.out _))))))
          refine wpQuiet_nil ?_
          rintro _ ⟨xq, rfl⟩
          have hbq := HBEL.out.step (World.plus_below wr xq)
          have f1 := World.plus_cell (d1 xq); have f2 := World.plus_cell (d2 xq); have f3 := World.plus_cell (e1 xq); have f4 := World.plus_cell (e2 xq)
          have HBQ := hid hbq
          clear d1 d2 e1 e2 hbq
          generalize World.plus wr xq = W6 at *
          go_wp2
          refine wp_region_plus (by kernel_rfl) (by kernel_rfl) ?_
          repeat (first | go_big_quiet_skip | (go_big_quiet_want; go_big_quiet_op; first | go_big_quiet_on | go_big_quiet_call (((go_at_call 116; exact Calls.plus_of (HD.out _))))))
          refine wpQuiet_nil ?_
          rintro _ ⟨xq, rfl⟩
          have HB7 := hid (HBQ.out.step (World.plus_below W6 xq))
          go_wp2
          go_ret
          exact ⟨ret_bool (by rw [HSTEP.out]; first | rfl | (simp; done) | (simp; omega)), HB7.out⟩
      · obtain rfl : k = lb := by omega
        have eb : b.drop k = [] := List.drop_eq_nil_of_le (by rw [HLB.out]; omega)
        have HR1 : Hid (R = 1) := by unfold Hid; rw [← HREL.out, ea, eb]; rfl
        clear ea eb
        go_wp2
        go_ret
        exact ⟨ret_bool (by rw [HR1.out]; first | rfl | (simp; done) | (simp; omega)), HBEL.out⟩
    · obtain rfl : k = la := by omega
      have ea : a.drop k = [] := List.drop_eq_nil_of_le (by rw [HLA.out]; omega)
      by_cases hkb2 : k < lb
      · have hlenb : k < b.length := by rw [HLB.out]; exact hkb2
        have eb : b.drop k = b[k] :: b.drop (k + 1) := List.drop_eq_getElem_cons hlenb
        have HR1 : Hid (R = -1) := by unfold Hid; rw [← HREL.out, ea, eb]; rfl
        clear ea eb
        go_wp2
        go_ret
        exact ⟨ret_bool (by rw [HR1.out]; first | rfl | (simp; done) | (simp; omega)), HBEL.out⟩
      · obtain rfl : k = lb := by omega
        have eb : b.drop k = [] := List.drop_eq_nil_of_le (by rw [HLB.out]; omega)
        have HR1 : Hid (R = 0) := by unfold Hid; rw [← HREL.out, ea, eb]; rfl
        clear ea eb
        go_wp2
        go_ret
        exact ⟨ret_bool (by rw [HR1.out]; first | rfl | (simp; done) | (simp; omega)), HBEL.out⟩
end Go.Proofs.Ytdgeinipdphoeaa
/- Rollup: cells as data: their order, what two come to. -/
namespace Go.Proofs.Ytdgeinipdphoeaa
set_option linter.unusedVariables false
set_option linter.unusedSimpArgs false
open Go.ChangeShapes Go.WideShapes Go.ChangeAt Go.RowKit

theorem cmpB_zero : ∀ (a b : List UInt8), Lib.compareBytes a b = 0 → a = b
  | [], [], _ => rfl
  | [], _ :: _, h => by simp [Lib.compareBytes] at h
  | _ :: _, [], h => by simp [Lib.compareBytes] at h
  | a :: l, b :: m, h => by
    unfold Lib.compareBytes at h
    split at h
    · cases h
    · split at h
      · cases h
      · rename_i h1 h2
        have : a = b := by
          rw [UInt8.lt_iff_toNat_lt] at h1 h2
          exact UInt8.toNat_inj.1 (by omega)
        rw [this, cmpB_zero l m h]
theorem cmpB_refl : ∀ (a : List UInt8), Lib.compareBytes a a = 0
  | [] => rfl
  | a :: l => by
    unfold Lib.compareBytes
    rw [if_neg (by rw [UInt8.lt_iff_toNat_lt]; omega), if_neg (by rw [UInt8.lt_iff_toNat_lt]; omega), cmpB_refl l]
theorem cmpB_lt : ∀ (a b d : List UInt8), Lib.compareBytes a b < 0 → Lib.compareBytes b d < 0 → Lib.compareBytes a d < 0
  | _, [], [], _, h => by simp [Lib.compareBytes] at h
  | [], [], _ :: _, h, _ => by simp [Lib.compareBytes] at h
  | _ :: _, [], _, h, _ => by simp [Lib.compareBytes] at h
  | [], _ :: _, [], _, h => by simp [Lib.compareBytes] at h
  | [], _ :: _, _ :: _, _, _ => by simp [Lib.compareBytes]
  | _ :: _, _ :: _, [], _, h => by simp [Lib.compareBytes] at h
  | a :: l, b :: m, d :: n, h1, h2 => by
    unfold Lib.compareBytes at h1 h2 ⊢
    simp only [UInt8.lt_iff_toNat_lt] at h1 h2 ⊢
    by_cases e1 : a.toNat < b.toNat
    · by_cases e2 : b.toNat < d.toNat
      · rw [if_pos (by omega)]; decide
      · by_cases e3 : d.toNat < b.toNat
        · rw [if_neg e2, if_pos e3] at h2; exact absurd h2 (by decide)
        · rw [if_pos (by omega)]; decide
    · by_cases e3 : b.toNat < a.toNat
      · rw [if_neg e1, if_pos e3] at h1; exact absurd h1 (by decide)
      · rw [if_neg e1, if_neg e3] at h1
        by_cases e2 : b.toNat < d.toNat
        · rw [if_pos (by omega)]; decide
        · by_cases e4 : d.toNat < b.toNat
          · rw [if_neg e2, if_pos e4] at h2; exact absurd h2 (by decide)
          · rw [if_neg e2, if_neg e4] at h2
            rw [if_neg (by omega), if_neg (by omega)]
            exact cmpB_lt l m n h1 h2
theorem cmpS_zero {a b : ByteArray} (h : cmpS a b = 0) : a = b := ByteArray.ext (by have := cmpB_zero _ _ h; exact Array.toList_inj.1 this)
theorem cmpV_zero {a b : ValD} (h : cmpV a b = 0) : a.nl = b.nl ∧ (a.nl = false → a.s = b.s) := by
  unfold cmpV at h
  cases ha : a.nl <;> cases hb : b.nl <;> simp [ha, hb] at h ⊢
  exact cmpS_zero h
theorem cmpV_cong {a b : ValD} (d : ValD) (h : cmpV a b = 0) : cmpV a d = cmpV b d := by
  obtain ⟨h1, h2⟩ := cmpV_zero h
  unfold cmpV
  cases ha : a.nl
  · rw [ha] at h1
    rw [← h1, h2 ha]
  · rw [ha] at h1
    rw [← h1]
    simp
theorem cmpV_lt (a b d : ValD) (h1 : cmpV a b < 0) (h2 : cmpV b d < 0) : cmpV a d < 0 := by
  unfold cmpV at *
  cases ha : a.nl <;> cases hb : b.nl <;> cases hd : d.nl <;> simp [ha, hb, hd] at h1 h2 ⊢
  exact cmpB_lt _ _ _ h1 h2
theorem cmpL_neg : ∀ (a b : List ValD), cmpL b a = -cmpL a b
  | [], [] => rfl
  | [], _ :: _ => rfl
  | _ :: _, [] => rfl
  | a :: l, b :: m => by
    unfold cmpL
    rw [cmpV_neg a b]
    by_cases h : cmpV a b = 0
    · rw [if_pos (by omega), if_pos h, cmpL_neg l m]
    · rw [if_neg (by omega), if_neg h]
theorem cmpL_cong : ∀ (a b d : List ValD), cmpL a b = 0 → cmpL a d = cmpL b d
  | [], [], _, _ => rfl
  | [], _ :: _, _, h => by simp [cmpL] at h
  | _ :: _, [], _, h => by simp [cmpL] at h
  | _ :: _, _ :: _, [], _ => rfl
  | a :: l, b :: m, d :: n, h => by
    unfold cmpL at h ⊢
    by_cases e : cmpV a b = 0
    · rw [if_pos e] at h
      rw [cmpV_cong d e, cmpL_cong l m n h]
    · rw [if_neg e] at h
      exact absurd h e
theorem cmpL_lt : ∀ (a b d : List ValD), cmpL a b < 0 → cmpL b d < 0 → cmpL a d < 0
  | _, [], [], _, h => by simp [cmpL] at h
  | [], [], _ :: _, h, _ => by simp [cmpL] at h
  | _ :: _, [], _, h, _ => by simp [cmpL] at h
  | [], _ :: _, [], _, h => by simp [cmpL] at h
  | [], _ :: _, _ :: _, _, _ => by simp [cmpL]
  | _ :: _, _ :: _, [], _, h => by simp [cmpL] at h
  | a :: l, b :: m, d :: n, h1, h2 => by
    unfold cmpL at h1 h2 ⊢
    by_cases e1 : cmpV a b = 0
    · rw [if_pos e1] at h1
      rw [cmpV_cong d e1]
      by_cases e2 : cmpV b d = 0
      · rw [if_pos e2] at h2 ⊢
        exact cmpL_lt l m n h1 h2
      · rw [if_neg e2] at h2 ⊢
        exact h2
    · rw [if_neg e1] at h1
      by_cases e2 : cmpV b d = 0
      · rw [if_pos e2] at h2
        have e3 : cmpV a d = cmpV a b := by
          have h3 := cmpV_cong a e2
          have h4 := cmpV_neg b a
          have h5 := cmpV_neg d a
          omega
        rw [e3, if_neg e1]
        exact h1
      · rw [if_neg e2] at h2
        have h3 := cmpV_lt a b d h1 h2
        rw [if_neg (by omega)]
        exact h3
theorem cmpL_zero : ∀ {a b : List ValD}, (∀ v ∈ a, okV v = true) → (∀ v ∈ b, okV v = true) → cmpL a b = 0 → a = b
  | [], [], _, _, _ => rfl
  | [], _ :: _, _, _, h => by simp [cmpL] at h
  | _ :: _, [], _, _, h => by simp [cmpL] at h
  | a :: l, b :: m, ha, hb, h => by
    unfold cmpL at h
    by_cases e : cmpV a b = 0
    · rw [if_pos e] at h
      have h1 := cmpL_zero (fun v hv => ha v (by simp [hv])) (fun v hv => hb v (by simp [hv])) h
      obtain ⟨h2, h3⟩ := cmpV_zero e
      have oa := ha a (by simp)
      have ob := hb b (by simp)
      obtain ⟨s, n⟩ := a
      obtain ⟨t, m'⟩ := b
      simp only at h2 h3
      subst h2
      cases n with
      | false => rw [h3 rfl, h1]
      | true =>
        unfold okV valB at oa ob
        simp only [Bool.and_eq_true, Bool.or_eq_true, Bool.not_true, Bool.false_eq_true, false_or, decide_eq_true_eq] at oa ob
        have e1 : s = t := by
          apply ByteArray.ext
          have h5 : s.data.size = 0 := oa.2
          have h6 : t.data.size = 0 := ob.2
          rw [Array.size_eq_zero_iff.1 h5, Array.size_eq_zero_iff.1 h6]
        rw [e1, h1]
    · rw [if_neg e] at h
      exact absurd h e

/-- A cell. -/
structure CellD where
  t : Int
  l : List ValD
  n : Int
  sums : List Int
  mins : List Int
  maxs : List Int
def cmpC (a b : CellD) : Int := if a.t < b.t then -1 else if b.t < a.t then 1 else cmpL a.l b.l
def bothC (a b : CellD) : CellD := ⟨a.t, a.l, a.n + b.n, List.zipWith (· + ·) a.sums b.sums, List.zipWith min a.mins b.mins, List.zipWith max a.maxs b.maxs⟩
/-- Cells of so many numbers, whose values are right. -/
def CellOk (m : Nat) (a : CellD) : Prop := (∀ v ∈ a.l, okV v = true) ∧ a.sums.length = m ∧ a.mins.length = m ∧ a.maxs.length = m
theorem cmpC_zero {a b : CellD} (h : cmpC a b = 0) : a.t = b.t ∧ cmpL a.l b.l = 0 := by
  unfold cmpC at h
  split at h
  · cases h
  · split at h
    · cases h
    · exact ⟨by omega, h⟩
theorem zip_comm (f : Int → Int → Int) (hf : ∀ x y, f x y = f y x) : ∀ (a b : List Int), List.zipWith f a b = List.zipWith f b a
  | [], [] => rfl
  | [], _ :: _ => rfl
  | _ :: _, [] => rfl
  | x :: l, y :: m => by simp only [List.zipWith_cons_cons]; rw [hf x y, zip_comm f hf l m]
theorem zip_assoc (f : Int → Int → Int) (hf : ∀ x y z, f (f x y) z = f x (f y z)) : ∀ (a b d : List Int), List.zipWith f (List.zipWith f a b) d = List.zipWith f a (List.zipWith f b d)
  | [], [], _ => by simp
  | [], _ :: _, _ => by simp
  | _ :: _, [], _ => by simp
  | _ :: _, _ :: _, [] => by simp
  | x :: l, y :: m, z :: n => by simp only [List.zipWith_cons_cons]; rw [hf x y z, zip_assoc f hf l m n]
def cellRule (m : Nat) : Put.Rule CellD where
  c := cmpC
  both := bothC
  P := CellOk m
  neg := fun a b => by
    unfold cmpC
    by_cases h1 : a.t < b.t
    · rw [if_neg (by omega), if_pos h1, if_pos h1]; rfl
    · by_cases h2 : b.t < a.t
      · rw [if_pos h2, if_neg h1, if_pos h2]
      · rw [if_neg h2, if_neg h1, if_neg h1, if_neg h2, cmpL_neg]
  lt := fun a b d h1 h2 => by
    unfold cmpC at *
    by_cases e1 : a.t < b.t
    · by_cases e2 : b.t < d.t
      · rw [if_pos (by omega)]; decide
      · by_cases e3 : d.t < b.t
        · rw [if_neg e2, if_pos e3] at h2; exact absurd h2 (by decide)
        · rw [if_pos (by omega)]; decide
    · by_cases e3 : b.t < a.t
      · rw [if_neg e1, if_pos e3] at h1; exact absurd h1 (by decide)
      · rw [if_neg e1, if_neg e3] at h1
        by_cases e2 : b.t < d.t
        · rw [if_pos (by omega)]; decide
        · by_cases e4 : d.t < b.t
          · rw [if_neg e2, if_pos e4] at h2; exact absurd h2 (by decide)
          · rw [if_neg e2, if_neg e4] at h2
            rw [if_neg (by omega), if_neg (by omega)]
            exact cmpL_lt _ _ _ h1 h2
  eq := fun a b d h => by
    obtain ⟨h1, h2⟩ := cmpC_zero h
    unfold cmpC
    rw [h1, cmpL_cong _ _ _ h2]
  bc := fun a b d h => rfl
  comm := fun a b ha hb h => by
    obtain ⟨h1, h2⟩ := cmpC_zero h
    unfold bothC
    rw [h1, cmpL_zero ha.1 hb.1 h2, Int.add_comm, zip_comm (· + ·) (fun x y => Int.add_comm x y), zip_comm min (fun x y => Int.min_comm x y), zip_comm max (fun x y => Int.max_comm x y)]
  assoc := fun a b d ha hb hd h1 h2 => by
    unfold bothC
    simp only [Int.add_assoc]
    rw [zip_assoc (· + ·) (fun x y z => Int.add_assoc x y z), zip_assoc min (fun x y z => Int.min_assoc x y z), zip_assoc max (fun x y z => Int.max_assoc x y z)]
  keep := fun a b ha hb h => by
    refine ⟨ha.1, ?_, ?_, ?_⟩
    · unfold bothC; simp [ha.2.1, hb.2.1]
    · unfold bothC; simp [ha.2.2.1, hb.2.2.1]
    · unfold bothC; simp [ha.2.2.2, hb.2.2.2]
end Go.Proofs.Ytdgeinipdphoeaa
/- Rollup: wide numbers, cells, rows that lie in memory, read as data. -/
namespace Go.Proofs.Ytdgeinipdphoeaa
set_option linter.unusedVariables false
set_option linter.unusedSimpArgs false
open Go.ChangeShapes Go.WideShapes Go.ChangeAt Go.RowKit

def wcells (n : Int) : List Value := [.int .i64 (hiW n), .int .u64 (loW n)]
theorem wcells_len (n : Int) : (wcells n).length = 2 := rfl
def WidesSl (w : World) (v : Value) (l : List Int) : Prop := SlAt w v l.length 2 (l.flatMap wcells)
theorem WidesSl.below {w w' : World} {v : Value} {l : List Int} (h : WidesSl w v l) (hb : Below w.heap.size w w') : WidesSl w' v l := SlAt.below h hb
theorem wides_one (l : List Int) : ∀ u ∈ l.flatMap wcells, u.oneCell' = true := by
  intro u hu
  obtain ⟨x, _, hx⟩ := List.mem_flatMap.1 hu
  simp [wcells] at hx
  rcases hx with rfl | rfl <;> rfl
theorem WidesSl.own {w : World} {base : Nat} {e : TypeId} {v : Value} {n : Nat} {l : List Int} (h : w.ownsRow base e 2 v n (l.flatMap wcells)) : WidesSl w v l := by
  have := h.1
  rw [flat_len 2 _ wcells_len] at this
  obtain rfl : l.length = n := by omega
  exact SlAt.own h
theorem wides_at {l : List Int} {i : Nat} (hi : i < l.length) : (l.flatMap wcells)[i * 2]? = some (.int .i64 (hiW l[i])) ∧ (l.flatMap wcells)[i * 2 + 1]? = some (.int .u64 (loW l[i])) :=
  ⟨(flat_at 2 _ wcells_len l i 0 (by decide) hi).trans rfl, (flat_at 2 _ wcells_len l i 1 (by decide) hi).trans rfl⟩
theorem WidesSl.parts {w : World} {v : Value} {l : List Int} (h : WidesSl w v l) : ∃ ao cap, v = .slice ao l.length cap ∧ l.length ≤ cap ∧ cap ≤ maxLen ∧ (ao = none → cap = 0) ∧
    (0 < l.length → ∃ b off, ao = some ⟨b, off, none⟩ ∧ ∀ i (hi : i < l.length), w.cell? ⟨b, off + i * 2, none⟩ = some (.int .i64 (hiW l[i])) ∧ w.cell? ⟨b, off + i * 2 + 1, none⟩ = some (.int .u64 (loW l[i]))) := by
  obtain ⟨h0, ao, cap, rfl, h1, h2, h3, h⟩ := h
  refine ⟨ao, cap, rfl, h1, h2, h3, fun hl => ?_⟩
  obtain ⟨b, off, rfl, hc⟩ := h (by rw [h0]; omega)
  exact ⟨b, off, rfl, fun i hi => ⟨hc _ _ (wides_at hi).1, hc _ _ (wides_at hi).2⟩⟩

/-- Elements of some cells each, of which something holds: the slice value v. -/
def ElemsSl {α : Type} (n : Nat) (R : World → List Value → α → Prop) (w : World) (v : Value) (l : List α) : Prop :=
  ∃ ao cap, v = .slice ao l.length cap ∧ l.length ≤ cap ∧ cap ≤ maxLen ∧ (ao = none → cap = 0) ∧
    (0 < l.length → ∃ b off, ao = some ⟨b, off, none⟩ ∧ ∀ i (hi : i < l.length), ∃ cs : List Value, cs.length = n ∧ R w cs l[i] ∧ ∀ j u, cs[j]? = some u → w.cell? ⟨b, off + i * n + j, none⟩ = some u)
theorem ElemsSl.below {α : Type} {n : Nat} {R : World → List Value → α → Prop} (hR : ∀ (w w' : World) (cs : List Value) (x : α), R w cs x → Below w.heap.size w w' → R w' cs x) {w w' : World} {v : Value} {l : List α} (h : ElemsSl n R w v l) (hb : Below w.heap.size w w') : ElemsSl n R w' v l := by
  obtain ⟨ao, cap, rfl, h1, h2, h3, h⟩ := h
  refine ⟨ao, cap, rfl, h1, h2, h3, fun hl => ?_⟩
  obtain ⟨b, off, rfl, hc⟩ := h hl
  refine ⟨b, off, rfl, fun i hi => ?_⟩
  obtain ⟨cs, hl, hr, hcell⟩ := hc i hi
  exact ⟨cs, hl, hR _ _ _ _ hr hb, fun j u hj => cell_step (hcell j u hj) hb⟩
theorem ElemsSl.shape {α : Type} {n : Nat} {R : World → List Value → α → Prop} {w : World} {v : Value} {l : List α} (h : ElemsSl n R w v l) : ∃ ao cap, v = .slice ao l.length cap ∧ l.length ≤ cap ∧ cap ≤ maxLen ∧ (ao = none → cap = 0) := by
  obtain ⟨ao, cap, h1, h2, h3, h4, _⟩ := h
  exact ⟨ao, cap, h1, h2, h3, h4⟩
theorem ElemsSl.nil {α : Type} {n : Nat} {R : World → List Value → α → Prop} (w : World) : ElemsSl (α := α) n R w (.slice none 0 0) [] := ⟨none, 0, rfl, Nat.le_refl _, by unfold maxLen; omega, fun _ => rfl, fun h => by simp at h⟩

/-- A row. -/
structure RowD where
  t : Int
  l : List ValD
  xs : List Int
def RowIs (w : World) (cs : List Value) (r : RowD) : Prop := ∃ vl vn, cs = [.int .i64 r.t, vl, vn] ∧ ValsSl w vl r.l ∧ IntsSl w vn r.xs
theorem RowIs.below {w w' : World} {cs : List Value} {r : RowD} (h : RowIs w cs r) (hb : Below w.heap.size w w') : RowIs w' cs r := by
  obtain ⟨vl, vn, h1, h2, h3⟩ := h
  exact ⟨vl, vn, h1, h2.below hb, h3.below hb⟩
def RowsSl := ElemsSl 3 RowIs
theorem RowsSl.below {w w' : World} {v : Value} {l : List RowD} (h : RowsSl w v l) (hb : Below w.heap.size w w') : RowsSl w' v l := ElemsSl.below (R := RowIs) (fun _ _ _ _ h hb => RowIs.below h hb) h hb
def CellIs (w : World) (cs : List Value) (c : CellD) : Prop := ∃ vl vs vm vx, cs = [.int .i64 c.t, vl, .int .i64 c.n, vs, vm, vx] ∧ ValsSl w vl c.l ∧ WidesSl w vs c.sums ∧ IntsSl w vm c.mins ∧ IntsSl w vx c.maxs
theorem CellIs.below {w w' : World} {cs : List Value} {c : CellD} (h : CellIs w cs c) (hb : Below w.heap.size w w') : CellIs w' cs c := by
  obtain ⟨vl, vs, vm, vx, h1, h2, h3, h4, h5⟩ := h
  exact ⟨vl, vs, vm, vx, h1, h2.below hb, h3.below hb, h4.below hb, h5.below hb⟩
def CellsSl := ElemsSl 6 CellIs
theorem CellsSl.below {w w' : World} {v : Value} {l : List CellD} (h : CellsSl w v l) (hb : Below w.heap.size w w') : CellsSl w' v l := ElemsSl.below (R := CellIs) (fun _ _ _ _ h hb => CellIs.below h hb) h hb
/-- A cell's parts, at its place. -/
theorem CellsSl.at {w : World} {ao : Option Addr} {cap : Nat} {l : List CellD} (h : CellsSl w (.slice ao l.length cap) l) {i : Nat} (hi : i < l.length) : ∃ b off vl vs vm vx, ao = some ⟨b, off, none⟩ ∧ ValsSl w vl l[i].l ∧ WidesSl w vs l[i].sums ∧ IntsSl w vm l[i].mins ∧ IntsSl w vx l[i].maxs ∧
    w.cell? ⟨b, off + i * 6, none⟩ = some (.int .i64 l[i].t) ∧ w.cell? ⟨b, off + i * 6 + 1, none⟩ = some vl ∧ w.cell? ⟨b, off + i * 6 + 2, none⟩ = some (.int .i64 l[i].n) ∧ w.cell? ⟨b, off + i * 6 + 3, none⟩ = some vs ∧ w.cell? ⟨b, off + i * 6 + 4, none⟩ = some vm ∧ w.cell? ⟨b, off + i * 6 + 5, none⟩ = some vx := by
  obtain ⟨ao', cap', e, _, _, _, h⟩ := h
  simp only [Value.slice.injEq] at e
  obtain ⟨rfl, _, rfl⟩ := e
  obtain ⟨b, off, rfl, hc⟩ := h (by omega)
  obtain ⟨cs, _, ⟨vl, vs, vm, vx, rfl, h2, h3, h4, h5⟩, hcell⟩ := hc i hi
  exact ⟨b, off, vl, vs, vm, vx, rfl, h2, h3, h4, h5, hcell 0 _ rfl, hcell 1 _ rfl, hcell 2 _ rfl, hcell 3 _ rfl, hcell 4 _ rfl, hcell 5 _ rfl⟩
end Go.Proofs.Ytdgeinipdphoeaa
/- Rollup: which cells stand ahead of others, by the program and by the reference. -/
namespace Go.Proofs.Ytdgeinipdphoeaa
set_option linter.unusedVariables false
set_option linter.unusedSimpArgs false
set_option maxRecDepth 100000
open Go.ChangeShapes Go.WideShapes Go.ChangeAt Go.RowKit

def aheadC (a b : CellD) : Bool := decide (cmpC a b < 0)
theorem aheadC_lt {a b : CellD} (h : a.t < b.t) : aheadC a b = true := by unfold aheadC cmpC; rw [if_pos h]; rfl
theorem aheadC_gt {a b : CellD} (h : b.t < a.t) : aheadC a b = false := by unfold aheadC cmpC; rw [if_neg (by omega), if_pos h]; rfl
theorem aheadC_eq {a b : CellD} (h : a.t = b.t) : aheadC a b = lessL a.l b.l := by unfold aheadC cmpC lessL; rw [if_neg (by omega), if_neg (by omega)]

set_option maxHeartbeats 2000000 in
theorem isAhead_any (a b : CellD) (vl vs vm vx ul us um ux : Value) (n1 n2 : Int) (w : World) (ha : ValsSl w vl a.l) (hb : ValsSl w ul b.l) (h1 : ∃ ao n c, vs = .slice ao n c) (h2 : ∃ ao n c, vm = .slice ao n c) (h3 : ∃ ao n c, vx = .slice ao n c) (h4 : ∃ ao n c, us = .slice ao n c) (h5 : ∃ ao n c, um = .slice ao n c) (h6 : ∃ ao n c, ux = .slice ao n c) :
    Calls Try.prog 73 #[.agg #[.int .i64 a.t, vl, .int .i64 n1, vs, vm, vx], .agg #[.int .i64 b.t, ul, .int .i64 n2, us, um, ux]] w fun e w' => e = .returned (.bool (aheadC a b)) ∧ Below w.heap.size w w' := by
  have HL := hid (fun W (h : Below w.heap.size w W) => less_any vl ul a.l b.l W (ha.below h) (hb.below h))
  obtain ⟨_, _, _, rfl⟩ := h1
  obtain ⟨_, _, _, rfl⟩ := h2
  obtain ⟨_, _, _, rfl⟩ := h3
  obtain ⟨_, _, _, rfl⟩ := h4
  obtain ⟨_, _, _, rfl⟩ := h5
  obtain ⟨_, _, _, rfl⟩ := h6
  obtain ⟨ao, ca, rfl, _⟩ := SlAt.shape ha
  obtain ⟨bo, cb, rfl, _⟩ := SlAt.shape hb
  clear ha hb
  rcases Int.lt_trichotomy a.t b.t with h | h | h
  · rw [aheadC_lt h]
    have hq : (a.t != b.t) = true := by simp; omega
    generalize a.t = x at *
    generalize b.t = y at *
    generalize a.l.length = la at *
    generalize b.l.length = lb at *
    go_enter Try.func73, Try.ntmps73
    go_wp2
    go_ret
    exact ⟨rfl, by (repeat' (first | (with_reducible exact Below.refl _ _) | (with_reducible assumption) | (with_reducible refine Below.new ?_ _) | (with_reducible refine Below.alloc ?_ ?_ _) | (with_reducible refine Below.drew ?_) | (with_reducible refine Below.drewN ?_ _) | (with_reducible refine Below.setCell ?_ ?_ _) | (refine Below.step ?_ (by assumption)) | go_size))⟩
  · rw [aheadC_eq h]
    generalize lessL a.l b.l = r at *
    generalize a.l.length = la at *
    generalize b.l.length = lb at *
    generalize a.t = x at *
    generalize b.t = y at *
    subst h
    go_enter Try.func73, Try.ntmps73
    go_wp2_with (go_at_call 102; ((with_reducible refine (HL.out _ (by (repeat' (first | (with_reducible exact Below.refl _ _) | (with_reducible assumption) | (with_reducible refine Below.new ?_ _) | (with_reducible refine Below.alloc ?_ ?_ _) | (with_reducible refine Below.drew ?_) | (with_reducible refine Below.drewN ?_ _) | (with_reducible refine Below.setCell ?_ ?_ _) | (refine Below.step ?_ (by assumption)) | go_size)))).mono ?_); rintro e w2 ⟨rfl, hb2⟩))
    go_ret
    exact ⟨rfl, by (repeat' (first | (with_reducible exact Below.refl _ _) | (with_reducible assumption) | (with_reducible refine Below.new ?_ _) | (with_reducible refine Below.alloc ?_ ?_ _) | (with_reducible refine Below.drew ?_) | (with_reducible refine Below.drewN ?_ _) | (with_reducible refine Below.setCell ?_ ?_ _) | (refine Below.step ?_ (by assumption)) | go_size))⟩
  · rw [aheadC_gt h]
    have hq : (a.t != b.t) = true := by simp; omega
    have hq2 : decide (a.t < b.t) = false := by simp; omega
    generalize a.t = x at *
    generalize b.t = y at *
    generalize a.l.length = la at *
    generalize b.l.length = lb at *
    go_enter Try.func73, Try.ntmps73
    go_wp2
    go_ret
    exact ⟨rfl, by (repeat' (first | (with_reducible exact Below.refl _ _) | (with_reducible assumption) | (with_reducible refine Below.new ?_ _) | (with_reducible refine Below.alloc ?_ ?_ _) | (with_reducible refine Below.drew ?_) | (with_reducible refine Below.drewN ?_ _) | (with_reducible refine Below.setCell ?_ ?_ _) | (refine Below.step ?_ (by assumption)) | go_size))⟩
set_option maxHeartbeats 2000000 in
theorem refAheadC_any (a b : CellD) (vl vs vm vx ul us um ux : Value) (n1 n2 : Int) (w : World) (ha : ValsSl w vl a.l) (hb : ValsSl w ul b.l) (ta : ∀ v ∈ a.l, v.s.size ≤ 9223372036854775807) (tb : ∀ v ∈ b.l, v.s.size ≤ 9223372036854775807) (h1 : ∃ ao n c, vs = .slice ao n c) (h2 : ∃ ao n c, vm = .slice ao n c) (h3 : ∃ ao n c, vx = .slice ao n c) (h4 : ∃ ao n c, us = .slice ao n c) (h5 : ∃ ao n c, um = .slice ao n c) (h6 : ∃ ao n c, ux = .slice ao n c) :
    Calls Try.prog 75 #[.agg #[.int .i64 a.t, vl, .int .i64 n1, vs, vm, vx], .agg #[.int .i64 b.t, ul, .int .i64 n2, us, um, ux]] w fun e w' => e = .returned (.bool (aheadC a b)) ∧ Below w.heap.size w w' := by
  have HL := hid (fun W (h : Below w.heap.size w W) => refLess_any vl ul a.l b.l W (ha.below h) (hb.below h) ta tb)
  obtain ⟨_, _, _, rfl⟩ := h1
  obtain ⟨_, _, _, rfl⟩ := h2
  obtain ⟨_, _, _, rfl⟩ := h3
  obtain ⟨_, _, _, rfl⟩ := h4
  obtain ⟨_, _, _, rfl⟩ := h5
  obtain ⟨_, _, _, rfl⟩ := h6
  obtain ⟨ao, ca, rfl, _⟩ := SlAt.shape ha
  obtain ⟨bo, cb, rfl, _⟩ := SlAt.shape hb
  clear ha hb ta tb
  rcases Int.lt_trichotomy a.t b.t with h | h | h
  · rw [aheadC_lt h]
    have hq : decide (a.t < b.t) = true := by simp; omega
    generalize a.t = x at *
    generalize b.t = y at *
    generalize a.l.length = la at *
    generalize b.l.length = lb at *
    go_enter Try.func75, Try.ntmps75
    go_wp2
    go_ret
    exact ⟨rfl, by (repeat' (first | (with_reducible exact Below.refl _ _) | (with_reducible assumption) | (with_reducible refine Below.new ?_ _) | (with_reducible refine Below.alloc ?_ ?_ _) | (with_reducible refine Below.drew ?_) | (with_reducible refine Below.drewN ?_ _) | (with_reducible refine Below.setCell ?_ ?_ _) | (refine Below.step ?_ (by assumption)) | go_size))⟩
  · rw [aheadC_eq h]
    have hq : decide (a.t < b.t) = false := by simp; omega
    generalize lessL a.l b.l = r at *
    generalize a.l.length = la at *
    generalize b.l.length = lb at *
    generalize a.t = x at *
    generalize b.t = y at *
    subst h
    go_enter Try.func75, Try.ntmps75
    go_wp2_with (go_at_call 104; ((with_reducible refine (HL.out _ (by (repeat' (first | (with_reducible exact Below.refl _ _) | (with_reducible assumption) | (with_reducible refine Below.new ?_ _) | (with_reducible refine Below.alloc ?_ ?_ _) | (with_reducible refine Below.drew ?_) | (with_reducible refine Below.drewN ?_ _) | (with_reducible refine Below.setCell ?_ ?_ _) | (refine Below.step ?_ (by assumption)) | go_size)))).mono ?_); rintro e w2 ⟨rfl, hb2⟩))
    go_ret
    exact ⟨rfl, by (repeat' (first | (with_reducible exact Below.refl _ _) | (with_reducible assumption) | (with_reducible refine Below.new ?_ _) | (with_reducible refine Below.alloc ?_ ?_ _) | (with_reducible refine Below.drew ?_) | (with_reducible refine Below.drewN ?_ _) | (with_reducible refine Below.setCell ?_ ?_ _) | (refine Below.step ?_ (by assumption)) | go_size))⟩
  · rw [aheadC_gt h]
    have hq : (a.t == b.t) = false := by simp; omega
    have hq2 : decide (a.t < b.t) = false := by simp; omega
    generalize a.t = x at *
    generalize b.t = y at *
    generalize a.l.length = la at *
    generalize b.l.length = lb at *
    go_enter Try.func75, Try.ntmps75
    go_wp2
    go_ret
    exact ⟨rfl, by (repeat' (first | (with_reducible exact Below.refl _ _) | (with_reducible assumption) | (with_reducible refine Below.new ?_ _) | (with_reducible refine Below.alloc ?_ ?_ _) | (with_reducible refine Below.drew ?_) | (with_reducible refine Below.drewN ?_ _) | (with_reducible refine Below.setCell ?_ ?_ _) | (refine Below.step ?_ (by assumption)) | go_size))⟩
end Go.Proofs.Ytdgeinipdphoeaa
/- Rollup: the library's slices.Clone. -/
namespace Go.Proofs.Ytdgeinipdphoeaa
set_option linter.unusedVariables false
set_option linter.unusedSimpArgs false
set_option maxRecDepth 100000
open Go.ChangeShapes Go.WideShapes Go.ChangeAt Go.RowKit

theorem info_wide : (Try.prog.info? 58).map (fun i => (i.zero, i.size, i.bytes)) = some (some (.agg #[.int .i64 0, .int .u64 0]), 2, 16) := by kernel_rfl
theorem info_i64 : (Try.prog.info? 2).map (fun i => (i.zero, i.size, i.bytes)) = some (some (.int .i64 0), 1, 8) := by kernel_rfl

set_option maxHeartbeats 1000000 in
theorem cloneV_any (v : Value) (n : Nat) (cs : List Value) (w : World) (hv : SlAt w v n 2 cs) (hn : n ≤ 1000000) (h1 : ∀ u ∈ cs, u.oneCell' = true) :
    Calls Try.prog 91 #[v] w fun e w' => ∃ v', e = .returned v' ∧ w'.ownsRow w.heap.size 54 2 v' n cs ∧ Below w.heap.size w w' := by
  obtain ⟨i0, hi, hiz0, hiz1, hiz2⟩ := info_parts info_val
  have HV := hid hv; have H1 := hid h1
  obtain ⟨ao, cap, rfl, hc1, hc2, hc3⟩ := SlAt.shape hv
  cases ao with
  | none =>
    obtain rfl := hc3 rfl
    obtain rfl : n = 0 := by omega
    have hnil : cs = [] := List.eq_nil_of_length_eq_zero (by simpa using hv.1)
    subst hnil
    clear hv h1 HV
    have hq := fun W : World => Lib.run_eql_slice_nil (P := Try.prog) W 25 54 none 0 0 0 0 Try.underlying25
    go_enter Try.func91, Try.ntmps91
    go_wp2
    go_ret
    exact ⟨_, rfl, World.ownsRow_nil _ _ _ _, Below.refl _ _⟩
  | some a =>
    clear hv h1 hc3
    have hq := fun W : World => Lib.run_eql_slice_nil (P := Try.prog) W 25 54 (some a) n cap 0 0 Try.underlying25
    have HO := hid (World.ownsRow_lit (base := w.heap.size) (e := 54) (size := 2) w #[] 0 (Nat.le_refl _) (by unfold maxLen; omega) (by simp))
    go_enter Try.func91, Try.ntmps91
    go_wp2_with (at_builtin; go_loud (refine wpList_append_sl _ rfl _ _ 25 rfl w.heap.size 54 i0 (.agg #[.string { data := #[] }, .bool false]) 2 24 Try.underlying25 hi hiz0 hiz1 hiz2 rfl (by decide) (.slice (some ⟨w.heap.size, 0, none⟩) 0 0) 0 [] rfl HO.out (.slice (some a) n cap) n cs rfl (SlAt.alloc HV.out _) H1.out (by unfold maxLen; omega) (by omega) (by simp) ?_); intro v1 w1 hown1 hgrow1 hb1)
    have hB := own_below HO.out hgrow1 ((Below.refl _ _).alloc (Nat.le_refl _) _) (Nat.le_refl _)
    go_ret
    exact ⟨v1, rfl, by simpa using hown1, hB⟩

set_option maxHeartbeats 1000000 in
theorem cloneW_any (v : Value) (n : Nat) (cs : List Value) (w : World) (hv : SlAt w v n 2 cs) (hn : n ≤ 1000000) (h1 : ∀ u ∈ cs, u.oneCell' = true) :
    Calls Try.prog 92 #[v] w fun e w' => ∃ v', e = .returned v' ∧ w'.ownsRow w.heap.size 58 2 v' n cs ∧ Below w.heap.size w w' := by
  obtain ⟨i0, hi, hiz0, hiz1, hiz2⟩ := info_parts info_wide
  have HV := hid hv; have H1 := hid h1
  obtain ⟨ao, cap, rfl, hc1, hc2, hc3⟩ := SlAt.shape hv
  cases ao with
  | none =>
    obtain rfl := hc3 rfl
    obtain rfl : n = 0 := by omega
    have hnil : cs = [] := List.eq_nil_of_length_eq_zero (by simpa using hv.1)
    subst hnil
    clear hv h1 HV
    have hq := fun W : World => Lib.run_eql_slice_nil (P := Try.prog) W 44 58 none 0 0 0 0 Try.underlying44
    go_enter Try.func92, Try.ntmps92
    go_wp2
    go_ret
    exact ⟨_, rfl, World.ownsRow_nil _ _ _ _, Below.refl _ _⟩
  | some a =>
    clear hv h1 hc3
    have hq := fun W : World => Lib.run_eql_slice_nil (P := Try.prog) W 44 58 (some a) n cap 0 0 Try.underlying44
    have HO := hid (World.ownsRow_lit (base := w.heap.size) (e := 58) (size := 2) w #[] 0 (Nat.le_refl _) (by unfold maxLen; omega) (by simp))
    go_enter Try.func92, Try.ntmps92
    go_wp2_with (at_builtin; go_loud (refine wpList_append_sl _ rfl _ _ 44 rfl w.heap.size 58 i0 (.agg #[.int .i64 0, .int .u64 0]) 2 16 Try.underlying44 hi hiz0 hiz1 hiz2 rfl (by decide) (.slice (some ⟨w.heap.size, 0, none⟩) 0 0) 0 [] rfl HO.out (.slice (some a) n cap) n cs rfl (SlAt.alloc HV.out _) H1.out (by unfold maxLen; omega) (by omega) (by simp) ?_); intro v1 w1 hown1 hgrow1 hb1)
    have hB := own_below HO.out hgrow1 ((Below.refl _ _).alloc (Nat.le_refl _) _) (Nat.le_refl _)
    go_ret
    exact ⟨v1, rfl, by simpa using hown1, hB⟩

set_option maxHeartbeats 1000000 in
theorem cloneI_any (v : Value) (n : Nat) (cs : List Value) (w : World) (hv : SlAt w v n 1 cs) (hn : n ≤ 1000000) (h1 : ∀ u ∈ cs, u.oneCell' = true) :
    Calls Try.prog 93 #[v] w fun e w' => ∃ v', e = .returned v' ∧ w'.ownsRow w.heap.size 2 1 v' n cs ∧ Below w.heap.size w w' := by
  obtain ⟨i0, hi, hiz0, hiz1, hiz2⟩ := info_parts info_i64
  have HV := hid hv; have H1 := hid h1
  obtain ⟨ao, cap, rfl, hc1, hc2, hc3⟩ := SlAt.shape hv
  cases ao with
  | none =>
    obtain rfl := hc3 rfl
    obtain rfl : n = 0 := by omega
    have hnil : cs = [] := List.eq_nil_of_length_eq_zero (by simpa using hv.1)
    subst hnil
    clear hv h1 HV
    have hq := fun W : World => Lib.run_eql_slice_nil (P := Try.prog) W 26 2 none 0 0 0 0 Try.underlying26
    go_enter Try.func93, Try.ntmps93
    go_wp2
    go_ret
    exact ⟨_, rfl, World.ownsRow_nil _ _ _ _, Below.refl _ _⟩
  | some a =>
    clear hv h1 hc3
    have hq := fun W : World => Lib.run_eql_slice_nil (P := Try.prog) W 26 2 (some a) n cap 0 0 Try.underlying26
    have HO := hid (World.ownsRow_lit (base := w.heap.size) (e := 2) (size := 1) w #[] 0 (Nat.le_refl _) (by unfold maxLen; omega) (by simp))
    go_enter Try.func93, Try.ntmps93
    go_wp2_with (at_builtin; go_loud (refine wpList_append_sl _ rfl _ _ 26 rfl w.heap.size 2 i0 (.int .i64 0) 1 8 Try.underlying26 hi hiz0 hiz1 hiz2 rfl (by decide) (.slice (some ⟨w.heap.size, 0, none⟩) 0 0) 0 [] rfl HO.out (.slice (some a) n cap) n cs rfl (SlAt.alloc HV.out _) H1.out (by unfold maxLen; omega) (by omega) (by simp) ?_); intro v1 w1 hown1 hgrow1 hb1)
    have hB := own_below HO.out hgrow1 ((Below.refl _ _).alloc (Nat.le_refl _) _) (Nat.le_refl _)
    go_ret
    exact ⟨v1, rfl, by simpa using hown1, hB⟩
end Go.Proofs.Ytdgeinipdphoeaa
/- Grains: times, grains, and cut times, by the program and by the reference. -/
namespace Go.Proofs.Ytdgeinipdphoeaa
set_option linter.unusedVariables false
set_option linter.unusedSimpArgs false
open Go.ChangeShapes Go.WideShapes Go.ChangeAt Go.RowKit

def isTimeB (t : Int) : Bool := decide (0 ≤ t) && decide (t < 1000000000001)
def isGrainB (g : Int) : Bool := decide (1 ≤ g) && decide (g ≤ 1000000000)
theorem isTime_any (t : Int) (w : World) :
    Calls Try.prog 89 #[.int .i64 t] w fun e w' => e = .returned (.bool (isTimeB t)) ∧ w = w' := by
  go_enter Try.func89, Try.ntmps89
  go_wp2
  all_goals go_ret
  · exact ⟨by simp [isTimeB, *], rfl⟩
  · have h : ¬ 0 ≤ t := by omega
    exact ⟨by simp [isTimeB, h], rfl⟩

theorem refIsTime_any (t : Int) (w : World) :
    Calls Try.prog 94 #[.int .i64 t] w fun e w' => e = .returned (.bool (isTimeB t)) ∧ w = w' := by
  go_enter Try.func94, Try.ntmps94
  go_wp2
  all_goals go_ret
  · exact ⟨by simp [isTimeB, *]; omega, rfl⟩
  · have h : ¬ 0 ≤ t := by omega
    exact ⟨by simp [isTimeB, h], rfl⟩

theorem refIsGrain_any (t : Int) (w : World) :
    Calls Try.prog 95 #[.int .i64 t] w fun e w' => e = .returned (.bool (isGrainB t)) ∧ w = w' := by
  go_enter Try.func95, Try.ntmps95
  go_wp2
  all_goals go_ret
  · exact ⟨by simp [isGrainB, *], rfl⟩
  · have h : ¬ 1 ≤ t := by omega
    exact ⟨by simp [isGrainB, h], rfl⟩

/-- 'areGrains' over a slice of numbers that lie in memory. -/
theorem areGrains_any (zs : List Int) (b off cap : Nat) (w : World) (hlen : zs.length ≤ 1000) (hoff : off ≤ 1000)
    (hc : ∀ j, j < zs.length → w.cell? ⟨b, off + j, none⟩ = some (.int .i64 (zs[j]?.getD 0))) :
    Calls Try.prog 90 #[.slice (some ⟨b, off, none⟩) zs.length cap] w fun e w' => e = .returned (.bool (zs.all isGrainB)) ∧ w = w' := by
  go_enter Try.func90, Try.ntmps90
  go_wp2
  go_loop [4, 7] (fun g i => ∃ k : Nat, k ≤ zs.length ∧ i = .int .i64 k ∧ (zs.take k).all isGrainB = true) (fun _ i => zs.length - (intOf i).toNat)
  case atStart => exact ⟨0, Nat.zero_le _, rfl, rfl⟩
  case round =>
    obtain ⟨k, hk, rfl, hall⟩ := hrel
    have hcell : k < zs.length → w.cell? ⟨b, off + k, none⟩ = some (.int .i64 (zs[k]?.getD 0)) := fun _ => hc k (by omega)
    have HB := hid (fun h => all_take_succ zs isGrainB k h hall)
    have HG := hid (fun h => all_false_of zs isGrainB k h)
    have HA := hid hall
    clear hall
    go_wp2
    · have hlt : k < zs.length := by assumption
      go_ret
      exact ⟨ret_bool (HG.out hlt (by simp [isGrainB]; omega)).symm, rfl⟩
    · have hlt : k < zs.length := by assumption
      go_round
      case rel => exact ⟨k + 1, by omega, by go_num, by rw [HB.out hlt]; simp [isGrainB, *]⟩
      case measure => simp [intOf]; omega
    · have hlt : k < zs.length := by assumption
      go_ret
      exact ⟨ret_bool (HG.out hlt (by simp [isGrainB]; omega)).symm, rfl⟩
    · have hge : ¬ k < zs.length := by assumption
      obtain rfl : k = zs.length := by omega
      go_ret
      exact ⟨ret_bool (by have := HA.out; rw [List.take_length] at this; exact this.symm), rfl⟩

def cutV (t g : Int) : Int := if (isTimeB t && isGrainB g) = true then t - t % g else 0
def cutE (t g : Int) : Int := if (isTimeB t && isGrainB g) = true then 0 else 110
theorem isTimeB_iff (t : Int) : isTimeB t = true ↔ 0 ≤ t ∧ t < 1000000000001 := by simp [isTimeB]
theorem isGrainB_iff (t : Int) : isGrainB t = true ↔ 1 ≤ t ∧ t ≤ 1000000000 := by simp [isGrainB]
theorem one_cell (w : World) (g : Int) (T : TypeId) : ∀ j, j < [g].length → (w.alloc (.cells #[.int .i64 g] T)).cell? ⟨w.heap.size, 0 + j, none⟩ = some (.int .i64 ([g][j]?.getD 0)) := by
  intro j hj
  obtain rfl : j = 0 := by simpa using hj
  simp

theorem gcut_any (t g : Int) (w : World) :
    Calls Try.prog 60 #[.int .i64 t, .int .i64 g] w fun e w' => e = .returned (.tuple #[.int .i64 (cutV t g), .int .i64 (cutE t g)]) ∧ Below w.heap.size w w' := by
  have one := one_cell
  by_cases ht : isTimeB t = true
  · have ht' := (isTimeB_iff t).1 ht
    by_cases hg : isGrainB g = true
    · have hg' := (isGrainB_iff g).1 hg
      have hm := Int.emod_nonneg t (b := g) (by omega)
      have hm2 := Int.emod_lt_of_pos t (b := g) (by omega)
      have hV : cutV t g = t - t % g := by simp [cutV, ht, hg]
      have hE : cutE t g = 0 := by simp [cutE, ht, hg]
      rw [hV, hE]
      have H1 := hid ht; have H2 := hid hg; clear ht hg hV hE one
      go_enter Try.func60, Try.ntmps60
      go_wp2_with (first
        | (go_at_call 89; refine (isTime_any _ _).mono ?_; rintro e w' ⟨rfl, rfl⟩; rw [H1.out])
        | (go_at_call 90; refine (areGrains_any [g] _ 0 _ _ (by simp) (by simp) (one_cell _ _ _)).mono ?_; rintro e w' ⟨rfl, rfl⟩; simp only [List.all_cons, List.all_nil, Bool.and_true, H2.out]))
      go_ret2
      exact ⟨rfl, by go_grown⟩
    · have hV : cutV t g = 0 := by simp [cutV, hg]
      have hE : cutE t g = 110 := by simp [cutE, hg]
      rw [hV, hE]
      have H1 := hid ht; have H2 := hid (Bool.eq_false_iff.2 hg); clear ht hg hV hE one
      go_enter Try.func60, Try.ntmps60
      go_wp2_with (first
        | (go_at_call 89; refine (isTime_any _ _).mono ?_; rintro e w' ⟨rfl, rfl⟩; rw [H1.out])
        | (go_at_call 90; refine (areGrains_any [g] _ 0 _ _ (by simp) (by simp) (one_cell _ _ _)).mono ?_; rintro e w' ⟨rfl, rfl⟩; simp only [List.all_cons, List.all_nil, Bool.and_true, H2.out]))
      go_ret2
      exact ⟨rfl, by go_grown⟩
  · have hV : cutV t g = 0 := by simp [cutV, ht]
    have hE : cutE t g = 110 := by simp [cutE, ht]
    rw [hV, hE]
    have H1 := hid (Bool.eq_false_iff.2 ht); clear ht hV hE one
    go_enter Try.func60, Try.ntmps60
    go_wp2_with (go_at_call 89; refine (isTime_any _ _).mono ?_; rintro e w' ⟨rfl, rfl⟩; rw [H1.out])
    go_ret2
    exact ⟨rfl, by go_grown⟩

theorem gRefCut_any (t g : Int) (w : World) :
    Calls Try.prog 62 #[.int .i64 t, .int .i64 g] w fun e w' => e = .returned (.tuple #[.int .i64 (cutV t g), .int .i64 (cutE t g)]) ∧ w = w' := by
  by_cases ht : isTimeB t = true
  · have ht' := (isTimeB_iff t).1 ht
    by_cases hg : isGrainB g = true
    · have hg' := (isGrainB_iff g).1 hg
      have hd : t / g * g + t % g = t := by rw [Int.mul_comm]; exact Int.mul_ediv_add_emod t g
      have hm := Int.emod_nonneg t (b := g) (by omega)
      have hm2 := Int.emod_lt_of_pos t (b := g) (by omega)
      have hV : cutV t g = t / g * g := by
        rw [cutV, if_pos (by simp [ht, hg])]; omega
      have hE : cutE t g = 0 := by simp [cutE, ht, hg]
      have hB1 : 0 ≤ t / g := Int.ediv_nonneg (by omega) (by omega)
      have hB2 : 0 ≤ t / g * g := Int.mul_nonneg hB1 (by omega)
      have hB3 : t / g * g ≤ 1000000000001 := by omega
      rw [hV, hE]
      have H1 := hid ht; have H2 := hid hg; clear ht hg hV hE hd hm hm2
      go_enter Try.func62, Try.ntmps62
      go_wp2_with (first
        | (go_at_call 94; refine (refIsTime_any _ _).mono ?_; rintro e w' ⟨rfl, rfl⟩; rw [H1.out])
        | (go_at_call 95; refine (refIsGrain_any _ _).mono ?_; rintro e w' ⟨rfl, rfl⟩; rw [H2.out]))
      go_ret2
      exact ⟨rfl, rfl⟩
    · have hV : cutV t g = 0 := by simp [cutV, hg]
      have hE : cutE t g = 110 := by simp [cutE, hg]
      rw [hV, hE]
      have H1 := hid ht; have H2 := hid (Bool.eq_false_iff.2 hg); clear ht hg hV hE
      go_enter Try.func62, Try.ntmps62
      go_wp2_with (first
        | (go_at_call 94; refine (refIsTime_any _ _).mono ?_; rintro e w' ⟨rfl, rfl⟩; rw [H1.out])
        | (go_at_call 95; refine (refIsGrain_any _ _).mono ?_; rintro e w' ⟨rfl, rfl⟩; rw [H2.out]))
      go_ret2
      exact ⟨rfl, rfl⟩
  · have hV : cutV t g = 0 := by simp [cutV, ht]
    have hE : cutE t g = 110 := by simp [cutE, ht]
    rw [hV, hE]
    have H1 := hid (Bool.eq_false_iff.2 ht); clear ht hV hE
    go_enter Try.func62, Try.ntmps62
    go_wp2_with (go_at_call 94; refine (refIsTime_any _ _).mono ?_; rintro e w' ⟨rfl, rfl⟩; rw [H1.out])
    go_ret2
    exact ⟨rfl, rfl⟩

end Go.Proofs.Ytdgeinipdphoeaa
/- Rollup: the reference's comparing of lists of wide numbers. -/
namespace Go.Proofs.Ytdgeinipdphoeaa
set_option linter.unusedVariables false
set_option linter.unusedSimpArgs false
set_option maxRecDepth 100000
open Go.ChangeShapes Go.WideShapes Go.ChangeAt Go.RowKit

/-- The words of wide numbers. -/
def wordsL (l : List Int) : List (Int × Int) := l.map fun n => (hiW n, loW n)
theorem wordsL_len (l : List Int) : (wordsL l).length = l.length := by simp [wordsL]
theorem wordsL_ne {xs ys : List Int} (k : Nat) (hx : k < xs.length) (hy : k < ys.length) (h : ¬ (hiW xs[k] = hiW ys[k] ∧ loW xs[k] = loW ys[k])) : ¬ wordsL xs = wordsL ys := fun e => h (by
  have h1 : (wordsL xs)[k]? = (wordsL ys)[k]? := by rw [e]
  simpa [wordsL, hx, hy] using h1)
theorem wordsL_succ {xs ys : List Int} (k : Nat) (hx : k < xs.length) (hy : k < ys.length) (ht : (wordsL xs).take k = (wordsL ys).take k) (h : hiW xs[k] = hiW ys[k]) (h2 : loW xs[k] = loW ys[k]) : (wordsL xs).take (k + 1) = (wordsL ys).take (k + 1) := by
  rw [List.take_succ_eq_append_getElem (by rw [wordsL_len]; exact hx), List.take_succ_eq_append_getElem (by rw [wordsL_len]; exact hy), ht]
  simp [wordsL, h, h2]

set_option maxHeartbeats 4000000 in
theorem refWides_any (va vb : Value) (xs ys : List Int) (w : World) (ha : WidesSl w va xs) (hb : WidesSl w vb ys) :
    Calls Try.prog 65 #[va, vb] w fun e w' => e = .returned (.bool (decide (wordsL xs = wordsL ys))) ∧ Below w.heap.size w w' := by
  obtain ⟨ao, cap, rfl, q1, q2, _, hA⟩ := ha.parts
  obtain ⟨bo, cap', rfl, q3, q4, _, hB⟩ := hb.parts
  unfold maxLen at q2 q4
  clear ha hb
  by_cases hlen : xs.length = ys.length
  · have hl' := hid hlen
    rw [← hlen]
    clear hlen
    by_cases h0 : 0 < xs.length
    · obtain ⟨a, oa, rfl, hca⟩ := hA h0
      obtain ⟨b, ob, rfl, hcb⟩ := hB (by have := hl'.out; omega)
      clear hA hB
      have HA := hid hca; clear hca
      have HB := hid hcb; clear hcb
      go_enter Try.func65, Try.ntmps65
      go_wp2
      go_loopw [5] (fun i wr => ∃ k : Nat, k ≤ xs.length ∧ i = .int .i64 k ∧ (wordsL xs).take k = (wordsL ys).take k ∧ Below w.heap.size w wr) (fun i _ => xs.length - (intOf i).toNat)
      case atStart => exact ⟨0, Nat.zero_le _, rfl, rfl, Below.refl _ _⟩
      case round =>
        obtain ⟨k, hk, rfl, htake, hbel⟩ := hrel
        have HT := hid htake; clear htake
        by_cases hlt : k < xs.length
        · have hy : k < ys.length := by have := hl'.out; omega
          have d1 := cell_step (HA.out k hlt).1 hbel
          have d2 := cell_step (HA.out k hlt).2 hbel
          have d3 := cell_step (HB.out k hy).1 hbel
          have d4 := cell_step (HB.out k hy).2 hbel
          have HS := hid (wordsL_succ k hlt hy HT.out)
          have HN := hid (wordsL_ne k hlt hy)
          generalize hiW xs[k] = x1 at *
          generalize loW xs[k] = x2 at *
          generalize hiW ys[k] = y1 at *
          generalize loW ys[k] = y2 at *
          by_cases h1 : x1 = y1
          · subst h1
            by_cases h2 : x2 = y2
            · subst h2
              have HS' := hid (HS.out rfl rfl)
              go_wp2
              go_quiet (fail)
              go_wp2
              go_roundw
              case rel => exact ⟨k + 1, hlt, by go_num, HS'.out, hbel.drewN _⟩
              case measure => simp [intOf]; omega
            · have HN' := hid (HN.out (fun e => h2 e.2))
              have hne : (x2 == y2) = false := by simpa using h2
              have hne2 : (x2 != y2) = true := by simpa using h2
              clear h2
              go_wp2
              go_quiet (fail)
              go_wp2
              go_ret
              exact ⟨ret_bool (by simp [HN'.out]), hbel.drewN _⟩
          · have HN' := hid (HN.out (fun e => h1 e.1))
            have hne : (x1 == y1) = false := by simpa using h1
            have hne2 : (x1 != y1) = true := by simpa using h1
            clear h1
            go_wp2
            go_quiet (fail)
            go_wp2
            go_ret
            exact ⟨ret_bool (by simp [HN'.out]), hbel.drewN _⟩
        · obtain rfl : k = xs.length := by omega
          go_wp2
          go_ret
          refine ⟨ret_bool ?_, hbel⟩
          have h1 := HT.out
          rw [List.take_of_length_le (by rw [wordsL_len]; exact Nat.le_refl _), List.take_of_length_le (by rw [wordsL_len]; have := hl'.out; omega)] at h1
          simp [h1]
    · have h1 : xs = [] := List.length_eq_zero_iff.1 (by omega)
      have h2 : ys = [] := List.length_eq_zero_iff.1 (by have := hl'.out; omega)
      subst h1; subst h2
      clear hA hB h0
      go_enter Try.func65, Try.ntmps65
      go_wp2
      refine wp_loop_rounds 1 ?_
      rw [rounds_succ]
      go_wp2
      go_ret
      exact ⟨rfl, Below.refl _ _⟩
  · have hne : ¬ wordsL xs = wordsL ys := fun h => hlen (by have := congrArg List.length h; rwa [wordsL_len, wordsL_len] at this)
    have hlen' : ((xs.length : Int) != (ys.length : Int)) = true := by simpa using (fun h => hlen (by exact_mod_cast h))
    have hlen'' : ((xs.length : Int) == (ys.length : Int)) = false := by simpa using (fun h => hlen (by exact_mod_cast h))
    have HN := hid hne; clear hne hA hB
    go_enter Try.func65, Try.ntmps65
    go_wp2
    go_ret
    exact ⟨ret_bool (by simp [HN.out]), Below.refl _ _⟩
end Go.Proofs.Ytdgeinipdphoeaa
/- Rollup: the reference's comparing of lists of values. -/
namespace Go.Proofs.Ytdgeinipdphoeaa
set_option linter.unusedVariables false
set_option linter.unusedSimpArgs false
set_option maxRecDepth 100000
open Go.ChangeShapes Go.WideShapes Go.ChangeAt Go.RowKit

theorem valsL_ne {xs ys : List ValD} (k : Nat) (hx : k < xs.length) (hy : k < ys.length) (h : ¬ (xs[k].s = ys[k].s ∧ xs[k].nl = ys[k].nl)) : ¬ xs = ys := fun e => h (by subst e; exact ⟨rfl, rfl⟩)
theorem valsL_succ {xs ys : List ValD} (k : Nat) (hx : k < xs.length) (hy : k < ys.length) (ht : xs.take k = ys.take k) (h : xs[k].s = ys[k].s) (h2 : xs[k].nl = ys[k].nl) : xs.take (k + 1) = ys.take (k + 1) := by
  have h3 : xs[k] = ys[k] := by
    cases h4 : xs[k]; cases h5 : ys[k]
    rw [h4, h5] at h h2
    simp only [ValD.mk.injEq]
    exact ⟨h, h2⟩
  rw [List.take_succ_eq_append_getElem hx, List.take_succ_eq_append_getElem hy, ht, h3]

set_option maxHeartbeats 4000000 in
theorem refVals_any (va vb : Value) (xs ys : List ValD) (w : World) (ha : ValsSl w va xs) (hb : ValsSl w vb ys) :
    Calls Try.prog 64 #[va, vb] w fun e w' => e = .returned (.bool (decide (xs = ys))) ∧ Below w.heap.size w w' := by
  obtain ⟨ao, cap, rfl, q1, q2, _, hA⟩ := ha.parts
  obtain ⟨bo, cap', rfl, q3, q4, _, hB⟩ := hb.parts
  unfold maxLen at q2 q4
  clear ha hb
  by_cases hlen : xs.length = ys.length
  · have hl' := hid hlen
    rw [← hlen]
    clear hlen
    by_cases h0 : 0 < xs.length
    · obtain ⟨a, oa, rfl, hca⟩ := hA h0
      obtain ⟨b, ob, rfl, hcb⟩ := hB (by have := hl'.out; omega)
      clear hA hB
      have HA := hid hca; clear hca
      have HB := hid hcb; clear hcb
      go_enter Try.func64, Try.ntmps64
      go_wp2
      go_loopw [5] (fun i wr => ∃ k : Nat, k ≤ xs.length ∧ i = .int .i64 k ∧ xs.take k = ys.take k ∧ Below w.heap.size w wr) (fun i _ => xs.length - (intOf i).toNat)
      case atStart => exact ⟨0, Nat.zero_le _, rfl, rfl, Below.refl _ _⟩
      case round =>
        obtain ⟨k, hk, rfl, htake, hbel⟩ := hrel
        have HT := hid htake; clear htake
        by_cases hlt : k < xs.length
        · have hy : k < ys.length := by have := hl'.out; omega
          have d1 := cell_step (HA.out k hlt).1 hbel
          have d2 := cell_step (HA.out k hlt).2 hbel
          have d3 := cell_step (HB.out k hy).1 hbel
          have d4 := cell_step (HB.out k hy).2 hbel
          have HS := hid (valsL_succ k hlt hy HT.out)
          have HN := hid (valsL_ne k hlt hy)
          generalize xs[k].s = x1 at *
          generalize xs[k].nl = x2 at *
          generalize ys[k].s = y1 at *
          generalize ys[k].nl = y2 at *
          by_cases h1 : x1 = y1
          · subst h1
            by_cases h2 : x2 = y2
            · subst h2
              have HS' := hid (HS.out rfl rfl)
              go_wp2
              go_quiet (fail)
              go_wp2
              go_roundw
              case rel => exact ⟨k + 1, hlt, by go_num, HS'.out, hbel.drewN _⟩
              case measure => simp [intOf]; omega
            · have HN' := hid (HN.out (fun e => h2 e.2))
              have hne : (x2 == y2) = false := by simpa using h2
              have hne2 : (x2 != y2) = true := by simpa using h2
              clear h2
              go_wp2
              go_quiet (fail)
              go_wp2
              go_ret
              exact ⟨ret_bool (by simp [HN'.out]), hbel.drewN _⟩
          · have HN' := hid (HN.out (fun e => h1 e.1))
            have h1' : ¬ x1.data = y1.data := fun e => h1 (ByteArray.ext e)
            have hne : (x1.toList == y1.toList) = false := by simpa [ByteArray.toList_eq] using h1'
            have hne2 : (x1.toList != y1.toList) = true := by simpa [ByteArray.toList_eq] using h1'
            clear h1 h1'
            go_wp2
            go_quiet (fail)
            go_wp2
            go_ret
            exact ⟨ret_bool (by simp [HN'.out]), hbel.drewN _⟩
        · obtain rfl : k = xs.length := by omega
          go_wp2
          go_ret
          refine ⟨ret_bool ?_, hbel⟩
          have h1 := HT.out
          rw [List.take_length, hl'.out, List.take_length] at h1
          simp [h1]
    · have h1 : xs = [] := List.length_eq_zero_iff.1 (by omega)
      have h2 : ys = [] := List.length_eq_zero_iff.1 (by have := hl'.out; omega)
      subst h1; subst h2
      clear hA hB h0
      go_enter Try.func64, Try.ntmps64
      go_wp2
      refine wp_loop_rounds 1 ?_
      rw [rounds_succ]
      go_wp2
      go_ret
      exact ⟨rfl, Below.refl _ _⟩
  · have hne : ¬ xs = ys := fun h => hlen (by rw [h])
    have hlen' : ((xs.length : Int) != (ys.length : Int)) = true := by simpa using (fun h => hlen (by exact_mod_cast h))
    have hlen'' : ((xs.length : Int) == (ys.length : Int)) = false := by simpa using (fun h => hlen (by exact_mod_cast h))
    have HN := hid hne; clear hne hA hB
    go_enter Try.func64, Try.ntmps64
    go_wp2
    go_ret
    exact ⟨ret_bool (by simp [HN.out]), Below.refl _ _⟩
end Go.Proofs.Ytdgeinipdphoeaa
/- Rollup: the reference's comparing of two cells. -/
namespace Go.Proofs.Ytdgeinipdphoeaa
set_option linter.unusedVariables false
set_option linter.unusedSimpArgs false
set_option maxRecDepth 100000
open Go.ChangeShapes Go.WideShapes Go.ChangeAt Go.RowKit

def sameC (a b : CellD) : Bool := (a.t == b.t) && decide (a.l = b.l) && (a.n == b.n) && decide (wordsL a.sums = wordsL b.sums) && decide (a.mins = b.mins) && decide (a.maxs = b.maxs)

set_option maxHeartbeats 8000000 in
theorem refOne_any (a b : CellD) (vl vs vm vx ul us um ux : Value) (w : World) (h1 : ValsSl w vl a.l) (h2 : WidesSl w vs a.sums) (h3 : IntsSl w vm a.mins) (h4 : IntsSl w vx a.maxs) (k1 : ValsSl w ul b.l) (k2 : WidesSl w us b.sums) (k3 : IntsSl w um b.mins) (k4 : IntsSl w ux b.maxs)
    (b1 : a.mins.length ≤ 1000000000) (b2 : a.maxs.length ≤ 1000000000) (b3 : b.mins.length ≤ 1000000000) (b4 : b.maxs.length ≤ 1000000000) :
    Calls Try.prog 32 #[.agg #[.int .i64 a.t, vl, .int .i64 a.n, vs, vm, vx], .agg #[.int .i64 b.t, ul, .int .i64 b.n, us, um, ux]] w fun e w' => e = .returned (.bool (sameC a b)) ∧ Below w.heap.size w w' := by
  have HV := hid (fun W (h : Below w.heap.size w W) => refVals_any vl ul a.l b.l W (h1.below h) (k1.below h))
  have HW := hid (fun W (h : Below w.heap.size w W) => refWides_any vs us a.sums b.sums W (h2.below h) (k2.below h))
  have HM := hid (fun W (h : Below w.heap.size w W) => same_any vm um a.mins b.mins W (h3.below h).ints (k3.below h).ints b1 b3)
  have HX := hid (fun W (h : Below w.heap.size w W) => same_any vx ux a.maxs b.maxs W (h4.below h).ints (k4.below h).ints b2 b4)
  obtain ⟨_, _, rfl, _⟩ := SlAt.shape h1
  obtain ⟨_, _, rfl, _⟩ := SlAt.shape h2
  obtain ⟨_, _, rfl, _⟩ := SlAt.shape h3
  obtain ⟨_, _, rfl, _⟩ := SlAt.shape h4
  obtain ⟨_, _, rfl, _⟩ := SlAt.shape k1
  obtain ⟨_, _, rfl, _⟩ := SlAt.shape k2
  obtain ⟨_, _, rfl, _⟩ := SlAt.shape k3
  obtain ⟨_, _, rfl, _⟩ := SlAt.shape k4
  clear h1 h2 h3 h4 k1 k2 k3 k4 b1 b2 b3 b4
  unfold sameC
  generalize decide (a.l = b.l) = r2 at *
  generalize decide (wordsL a.sums = wordsL b.sums) = r4 at *
  generalize decide (a.mins = b.mins) = r5 at *
  generalize decide (a.maxs = b.maxs) = r6 at *
  generalize a.l.length = m1 at *
  generalize b.l.length = m2 at *
  generalize a.sums.length = m3 at *
  generalize b.sums.length = m4 at *
  generalize a.mins.length = m5 at *
  generalize b.mins.length = m6 at *
  generalize a.maxs.length = m7 at *
  generalize b.maxs.length = m8 at *
  generalize a.t = t1 at *
  generalize b.t = t2 at *
  generalize a.n = n1 at *
  generalize b.n = n2 at *
  cases q1 : t1 == t2
  case' true =>
    cases r2
    case' true =>
      cases q3 : n1 == n2
      case' true =>
        cases r4
        case' true =>
          cases r5
  all_goals
    go_enter Try.func32, Try.ntmps32
    go_wp2_with (first
      | (go_at_call 64; ((with_reducible refine (HV.out _ (by (repeat' (first | (with_reducible exact Below.refl _ _) | (with_reducible assumption) | (with_reducible refine Below.new ?_ _) | (with_reducible refine Below.alloc ?_ ?_ _) | (with_reducible refine Below.drew ?_) | (with_reducible refine Below.drewN ?_ _) | (with_reducible refine Below.setCell ?_ ?_ _) | (refine Below.step ?_ (by assumption)) | go_size)))).mono ?_); rintro e w1 ⟨rfl, hb1⟩; obtain ⟨hc1, hf1, hk1, hz1⟩ := bcell3 hb1; (try simp only [World.size_alloc, World.size_drew] at hz1); have : w.heap.size < w1.heap.size := (by omega); have : w.heap.size + 1 < w1.heap.size := (by omega)))
      | (go_at_call 65; ((with_reducible refine (HW.out _ (by (repeat' (first | (with_reducible exact Below.refl _ _) | (with_reducible assumption) | (with_reducible refine Below.new ?_ _) | (with_reducible refine Below.alloc ?_ ?_ _) | (with_reducible refine Below.drew ?_) | (with_reducible refine Below.drewN ?_ _) | (with_reducible refine Below.setCell ?_ ?_ _) | (refine Below.step ?_ (by assumption)) | go_size)))).mono ?_); rintro e w2 ⟨rfl, hb2⟩; obtain ⟨hc2, hf2, hk2, hz2⟩ := bcell3 hb2; (try simp only [World.size_alloc, World.size_drew] at hz2); have : w.heap.size < w2.heap.size := (by omega); have : w.heap.size + 1 < w2.heap.size := (by omega)))
      | (go_at_call 66; first
        | ((with_reducible refine (HM.out _ (by (repeat' (first | (with_reducible exact Below.refl _ _) | (with_reducible assumption) | (with_reducible refine Below.new ?_ _) | (with_reducible refine Below.alloc ?_ ?_ _) | (with_reducible refine Below.drew ?_) | (with_reducible refine Below.drewN ?_ _) | (with_reducible refine Below.setCell ?_ ?_ _) | (refine Below.step ?_ (by assumption)) | go_size)))).mono ?_); rintro e w3 ⟨rfl, hb3⟩; obtain ⟨hc3, hf3, hk3, hz3⟩ := bcell3 hb3; (try simp only [World.size_alloc, World.size_drew] at hz3); have : w.heap.size < w3.heap.size := (by omega); have : w.heap.size + 1 < w3.heap.size := (by omega))
        | ((with_reducible refine (HX.out _ (by (repeat' (first | (with_reducible exact Below.refl _ _) | (with_reducible assumption) | (with_reducible refine Below.new ?_ _) | (with_reducible refine Below.alloc ?_ ?_ _) | (with_reducible refine Below.drew ?_) | (with_reducible refine Below.drewN ?_ _) | (with_reducible refine Below.setCell ?_ ?_ _) | (refine Below.step ?_ (by assumption)) | go_size)))).mono ?_); rintro e w4 ⟨rfl, hb4⟩; obtain ⟨hc4, hf4, hk4, hz4⟩ := bcell3 hb4; (try simp only [World.size_alloc, World.size_drew] at hz4); have : w.heap.size < w4.heap.size := (by omega); have : w.heap.size + 1 < w4.heap.size := (by omega))))
    go_ret
    exact ⟨rfl, by (repeat' (first | (with_reducible exact Below.refl _ _) | (with_reducible assumption) | (with_reducible refine Below.new ?_ _) | (with_reducible refine Below.alloc ?_ ?_ _) | (with_reducible refine Below.drew ?_) | (with_reducible refine Below.drewN ?_ _) | (with_reducible refine Below.setCell ?_ ?_ _) | (refine Below.step ?_ (by assumption)) | go_size))⟩
end Go.Proofs.Ytdgeinipdphoeaa
/- Rollup: the reference's comparing of lists of cells. -/
namespace Go.Proofs.Ytdgeinipdphoeaa
set_option linter.unusedVariables false
set_option linter.unusedSimpArgs false
set_option maxRecDepth 100000
open Go.ChangeShapes Go.WideShapes Go.ChangeAt Go.RowKit

def sameCs : List CellD → List CellD → Bool
  | [], [] => true
  | a :: l, b :: m => sameC a b && sameCs l m
  | _, _ => false
theorem sameCs_len {l m : List CellD} (h : ¬ l.length = m.length) : sameCs l m = false := by
  induction l generalizing m with
  | nil => cases m with
    | nil => exact absurd rfl h
    | cons => rfl
  | cons a l ih => cases m with
    | nil => rfl
    | cons b m =>
      rw [sameCs, ih (by simpa using h)]
      simp
theorem sameCs_all {l m : List CellD} (hl : l.length = m.length) (h : ∀ j (h1 : j < l.length) (h2 : j < m.length), sameC l[j] m[j] = true) : sameCs l m = true := by
  induction l generalizing m with
  | nil => cases m with
    | nil => rfl
    | cons => simp at hl
  | cons a l ih => cases m with
    | nil => simp at hl
    | cons b m =>
      rw [sameCs, show sameC a b = true from h 0 (by simp) (by simp), ih (by simpa using hl) (fun j h1 h2 => h (j + 1) (Nat.succ_lt_succ h1) (Nat.succ_lt_succ h2))]
      rfl
theorem sameCs_not {l m : List CellD} {j : Nat} (h1 : j < l.length) (h2 : j < m.length) (h : sameC l[j] m[j] = false) : sameCs l m = false := by
  induction l generalizing m j with
  | nil => simp at h1
  | cons a l ih => cases m with
    | nil => rfl
    | cons b m =>
      rw [sameCs]
      cases j with
      | zero => rw [show sameC a b = false from h]; rfl
      | succ j => rw [ih (j := j) (by simpa using h1) (by simpa using h2) (by simpa using h)]; simp

/-- Cells of no more numbers than fit. -/
def CellsFew (l : List CellD) : Prop := ∀ c ∈ l, c.mins.length ≤ 1000000000 ∧ c.maxs.length ≤ 1000000000

set_option maxHeartbeats 8000000 in
theorem refSameC_any (va vb : Value) (xs ys : List CellD) (w : World) (ha : CellsSl w va xs) (hb : CellsSl w vb ys) (fa : CellsFew xs) (fb : CellsFew ys) :
    Calls Try.prog 31 #[va, vb] w fun e w' => e = .returned (.bool (sameCs xs ys)) ∧ Below w.heap.size w w' := by
  obtain ⟨ao, cap, rfl, q1, q2, _⟩ := ha.shape
  obtain ⟨bo, cap', rfl, q3, q4, _⟩ := hb.shape
  unfold maxLen at q2 q4
  by_cases hlen : xs.length = ys.length
  · have hl' := hid hlen
    have HA := hid ha; clear ha
    have HB := hid hb; clear hb
    rw [← hlen]
    clear hlen
    by_cases h0 : 0 < xs.length
    · obtain ⟨a, oa, _, _, _, _, rfl, _⟩ := HA.out.at h0
      obtain ⟨b, ob, _, _, _, _, rfl, _⟩ := HB.out.at (i := 0) (by have := hl'.out; omega)
      have FA := hid fa; clear fa
      have FB := hid fb; clear fb
      go_enter Try.func31, Try.ntmps31
      go_wp2
      go_loopw [5] (fun i wr => ∃ k : Nat, k ≤ xs.length ∧ i = .int .i64 k ∧ (∀ j (h1 : j < xs.length) (h2 : j < ys.length), j < k → sameC xs[j] ys[j] = true) ∧ Below w.heap.size w wr) (fun i _ => xs.length - (intOf i).toNat)
      case atStart => exact ⟨0, Nat.zero_le _, rfl, fun j _ _ h => absurd h (Nat.not_lt_zero j), Below.refl _ _⟩
      case round =>
        obtain ⟨k, hk, rfl, htake, hbel⟩ := hrel
        have HT := hid htake; clear htake
        by_cases hlt : k < xs.length
        · have hy : k < ys.length := by have := hl'.out; omega
          obtain ⟨a', oa', vl, vs, vm, vx, e, g1, g2, g3, g4, c0, c1, c2, c3, c4, c5⟩ := HA.out.at hlt
          simp only [Option.some.injEq, Addr.mk.injEq] at e
          obtain ⟨rfl, rfl, _⟩ := e
          obtain ⟨b', ob', ul, us, um, ux, e, k1, k2, k3, k4, d0, d1, d2, d3, d4, d5⟩ := HB.out.at hy
          simp only [Option.some.injEq, Addr.mk.injEq] at e
          obtain ⟨rfl, rfl, _⟩ := e
          have HC0 := (fun W (h : Below w.heap.size w W) => refOne_any xs[k] ys[k] vl vs vm vx ul us um ux W (g1.below h) (g2.below h) (g3.below h) (g4.below h) (k1.below h) (k2.below h) (k3.below h) (k4.below h) (FA.out _ (List.getElem_mem _)).1 (FA.out _ (List.getElem_mem _)).2 (FB.out _ (List.getElem_mem _)).1 (FB.out _ (List.getElem_mem _)).2)
          have HC := hid (fun x => HC0 (World.plus wr x) (hbel.step (World.plus_below wr x)))
          clear g1 g2 g3 g4 k1 k2 k3 k4 HC0
          replace c0 := cell_step c0 hbel; have pc0 := World.plus_cell c0
          replace c1 := cell_step c1 hbel; have pc1 := World.plus_cell c1
          replace c2 := cell_step c2 hbel; have pc2 := World.plus_cell c2
          replace c3 := cell_step c3 hbel; have pc3 := World.plus_cell c3
          replace c4 := cell_step c4 hbel; have pc4 := World.plus_cell c4
          replace c5 := cell_step c5 hbel; have pc5 := World.plus_cell c5
          replace d0 := cell_step d0 hbel; have pd0 := World.plus_cell d0
          replace d1 := cell_step d1 hbel; have pd1 := World.plus_cell d1
          replace d2 := cell_step d2 hbel; have pd2 := World.plus_cell d2
          replace d3 := cell_step d3 hbel; have pd3 := World.plus_cell d3
          replace d4 := cell_step d4 hbel; have pd4 := World.plus_cell d4
          replace d5 := cell_step d5 hbel; have pd5 := World.plus_cell d5
          have HS := hid (fun h : sameC xs[k] ys[k] = true => (fun j h1 h2 h3 => by
            by_cases hj : j = k
            · subst hj; exact h
            · exact HT.out j h1 h2 (by omega) : ∀ j (h1 : j < xs.length) (h2 : j < ys.length), j < k + 1 → sameC xs[j] ys[j] = true))
          have HN := hid (fun h : sameC xs[k] ys[k] = false => sameCs_not hlt hy h)
          generalize sameC xs[k] ys[k] = r at *
          generalize xs[k].t = t1 at *
          generalize ys[k].t = t2 at *
          generalize xs[k].n = n1 at *
          generalize ys[k].n = n2 at *
          cases r with
          | true =>
            go_wp2
            refine wp_region_plus (by kernel_rfl) (by kernel_rfl) ?_
            repeat (first | go_big_quiet_skip | (go_big_quiet_want; go_big_quiet_op; first | go_big_quiet_on | go_big_quiet_call (((go_at_call 32; exact Calls.plus_of (HC.out _))))))
            refine wpQuiet_nil ?_
            rintro _ ⟨xq, rfl⟩
            have kB := World.plus_below wr xq
            go_wp2
            go_roundw
            case rel => exact ⟨k + 1, hlt, by go_num, HS.out trivial, by (repeat' (first | (with_reducible exact Below.refl _ _) | (with_reducible assumption) | (with_reducible refine Below.new ?_ _) | (with_reducible refine Below.alloc ?_ ?_ _) | (with_reducible refine Below.drew ?_) | (with_reducible refine Below.drewN ?_ _) | (with_reducible refine Below.setCell ?_ ?_ _) | (refine Below.step ?_ (by assumption)) | go_size))⟩
            case measure => simp [intOf]; omega
          | false =>
            go_wp2
            refine wp_region_plus (by kernel_rfl) (by kernel_rfl) ?_
            repeat (first | go_big_quiet_skip | (go_big_quiet_want; go_big_quiet_op; first | go_big_quiet_on | go_big_quiet_call (((go_at_call 32; exact Calls.plus_of (HC.out _))))))
            refine wpQuiet_nil ?_
            rintro _ ⟨xq, rfl⟩
            have kB := World.plus_below wr xq
            go_wp2
            go_ret
            exact ⟨ret_bool (HN.out trivial).symm, by (repeat' (first | (with_reducible exact Below.refl _ _) | (with_reducible assumption) | (with_reducible refine Below.new ?_ _) | (with_reducible refine Below.alloc ?_ ?_ _) | (with_reducible refine Below.drew ?_) | (with_reducible refine Below.drewN ?_ _) | (with_reducible refine Below.setCell ?_ ?_ _) | (refine Below.step ?_ (by assumption)) | go_size))⟩
        · obtain rfl : k = xs.length := by omega
          go_wp2
          go_ret
          exact ⟨ret_bool (sameCs_all hl'.out (fun j h1 h2 => HT.out j h1 h2 h1)).symm, hbel⟩
    · have h1 : xs = [] := List.length_eq_zero_iff.1 (by omega)
      have h2 : ys = [] := List.length_eq_zero_iff.1 (by have := hl'.out; omega)
      subst h1; subst h2
      clear HA HB h0 fa fb
      go_enter Try.func31, Try.ntmps31
      go_wp2
      refine wp_loop_rounds 1 ?_
      rw [rounds_succ]
      go_wp2
      go_ret
      exact ⟨rfl, Below.refl _ _⟩
  · have hne := sameCs_len hlen
    have hlen' : ((xs.length : Int) != (ys.length : Int)) = true := by simpa using (fun h => hlen (by exact_mod_cast h))
    have hlen'' : ((xs.length : Int) == (ys.length : Int)) = false := by simpa using (fun h => hlen (by exact_mod_cast h))
    have HN := hid hne; clear hne ha hb fa fb
    go_enter Try.func31, Try.ntmps31
    go_wp2
    go_ret
    exact ⟨ret_bool (by simp [HN.out]), Below.refl _ _⟩
end Go.Proofs.Ytdgeinipdphoeaa
/- Rollup: counts. -/
namespace Go.Proofs.Ytdgeinipdphoeaa
set_option linter.unusedVariables false
set_option linter.unusedSimpArgs false
set_option maxRecDepth 100000
open Go.ChangeShapes Go.WideShapes Go.ChangeAt Go.RowKit

/-- What the counts of cells come to, in 64 bits. -/
def countW (l : List CellD) : Int := l.foldl (fun s c => wrap64 (s + c.n)) 0
theorem countW_succ {l : List CellD} {k : Nat} (hk : k < l.length) : countW (l.take (k + 1)) = wrap64 (countW (l.take k) + l[k].n) := by
  unfold countW
  rw [List.take_succ_eq_append_getElem hk, List.foldl_append]
  rfl

set_option maxHeartbeats 4000000 in
theorem refCount_any (v : Value) (xs : List CellD) (w : World) (ha : CellsSl w v xs) :
    Calls Try.prog 34 #[v] w fun e w' => e = .returned (.int .i64 (countW xs)) ∧ Below w.heap.size w w' := by
  obtain ⟨ao, cap, rfl, q1, q2, _⟩ := ha.shape
  unfold maxLen at q2
  have HA := hid ha; clear ha
  go_enter Try.func34, Try.ntmps34
  go_wp2
  go_loopw [3, 4] (fun n i wr => ∃ k : Nat, k ≤ xs.length ∧ i = .int .i64 k ∧ n = .int .i64 (countW (xs.take k)) ∧ Below w.heap.size w wr) (fun _ i _ => xs.length - (intOf i).toNat)
  case atStart => exact ⟨0, Nat.zero_le _, rfl, rfl, Below.refl _ _⟩
  case round =>
    obtain ⟨k, hk, rfl, rfl, hbel⟩ := hrel
    by_cases hlt : k < xs.length
    · obtain ⟨a, oa, vl, vs, vm, vx, rfl, _, _, _, _, c0, c1, c2, c3, c4, c5⟩ := HA.out.at hlt
      have d2 := cell_step c2 hbel
      have HS := hid (countW_succ hlt)
      clear c0 c1 c2 c3 c4 c5
      generalize xs[k].n = y at *
      generalize countW (xs.take k) = s at *
      go_wp2
      go_roundw
      case rel => exact ⟨k + 1, hlt, by go_num, by rw [HS.out], by (repeat' (first | (with_reducible exact Below.refl _ _) | (with_reducible assumption) | (with_reducible refine Below.new ?_ _) | (with_reducible refine Below.alloc ?_ ?_ _) | (with_reducible refine Below.drew ?_) | (with_reducible refine Below.drewN ?_ _) | (with_reducible refine Below.setCell ?_ ?_ _) | (refine Below.step ?_ (by assumption)) | go_size))⟩
      case measure => simp [intOf]; omega
    · obtain rfl : k = xs.length := by omega
      rw [List.take_length]
      go_wp2
      go_ret
      exact ⟨rfl, by (repeat' (first | (with_reducible exact Below.refl _ _) | (with_reducible assumption) | (with_reducible refine Below.new ?_ _) | (with_reducible refine Below.alloc ?_ ?_ _) | (with_reducible refine Below.drew ?_) | (with_reducible refine Below.drewN ?_ _) | (with_reducible refine Below.setCell ?_ ?_ _) | (refine Below.step ?_ (by assumption)) | go_size))⟩

set_option maxHeartbeats 4000000 in
theorem count_any (v : Value) (xs : List CellD) (w : World) (ha : CellsSl w v xs) :
    Calls Try.prog 33 #[v] w fun e w' => e = .returned (.int .i64 (countW xs)) ∧ Below w.heap.size w w' := by
  obtain ⟨ao, cap, rfl, q1, q2, _⟩ := ha.shape
  unfold maxLen at q2
  have HA := hid ha; clear ha
  go_enter Try.func33, Try.ntmps33
  go_wp2
  go_loopw [3, 5, 8] (fun n _ i wr => ∃ k : Nat, k ≤ xs.length ∧ i = .int .i64 k ∧ n = .int .i64 (countW (xs.take k)) ∧ Below w.heap.size w wr) (fun _ _ i _ => xs.length - (intOf i).toNat)
  case atStart => exact ⟨0, Nat.zero_le _, rfl, rfl, Below.refl _ _⟩
  case round =>
    obtain ⟨k, hk, rfl, rfl, hbel⟩ := hrel
    by_cases hlt : k < xs.length
    · obtain ⟨a, oa, vl, vs, vm, vx, rfl, h1, h2, h3, h4, c0, c1, c2, c3, c4, c5⟩ := HA.out.at hlt
      obtain ⟨_, _, rfl, _⟩ := SlAt.shape h1
      obtain ⟨_, _, rfl, _⟩ := SlAt.shape h2
      obtain ⟨_, _, rfl, _⟩ := SlAt.shape h3
      obtain ⟨_, _, rfl, _⟩ := SlAt.shape h4
      have d0 := cell_step c0 hbel
      have d1 := cell_step c1 hbel
      have d2 := cell_step c2 hbel
      have d3 := cell_step c3 hbel
      have d4 := cell_step c4 hbel
      have d5 := cell_step c5 hbel
      have HS := hid (countW_succ hlt)
      clear c0 c1 c2 c3 c4 c5 h1 h2 h3 h4
      generalize xs[k].n = y at *
      generalize xs[k].t = t at *
      generalize xs[k].l.length = m1 at *
      generalize xs[k].sums.length = m2 at *
      generalize xs[k].mins.length = m3 at *
      generalize xs[k].maxs.length = m4 at *
      generalize countW (xs.take k) = s at *
      go_wp2
      go_roundw
      case rel => exact ⟨k + 1, hlt, by go_num, by rw [HS.out], by (repeat' (first | (with_reducible exact Below.refl _ _) | (with_reducible assumption) | (with_reducible refine Below.new ?_ _) | (with_reducible refine Below.alloc ?_ ?_ _) | (with_reducible refine Below.drew ?_) | (with_reducible refine Below.drewN ?_ _) | (with_reducible refine Below.setCell ?_ ?_ _) | (refine Below.step ?_ (by assumption)) | go_size))⟩
      case measure => simp [intOf]; omega
    · obtain rfl : k = xs.length := by omega
      rw [List.take_length]
      go_wp2
      go_ret
      exact ⟨rfl, by (repeat' (first | (with_reducible exact Below.refl _ _) | (with_reducible assumption) | (with_reducible refine Below.new ?_ _) | (with_reducible refine Below.alloc ?_ ?_ _) | (with_reducible refine Below.drew ?_) | (with_reducible refine Below.drewN ?_ _) | (with_reducible refine Below.setCell ?_ ?_ _) | (refine Below.step ?_ (by assumption)) | go_size))⟩
end Go.Proofs.Ytdgeinipdphoeaa
/- Rollup: the reference's bounds of a sum. -/
namespace Go.Proofs.Ytdgeinipdphoeaa
set_option linter.unusedVariables false
set_option linter.unusedSimpArgs false
set_option maxRecDepth 100000
open Go.ChangeShapes Go.WideShapes Go.ChangeAt Go.RowKit

def cmpI (x y : Int) : Int := cmpW (hiW x) (loW x) (hiW y) (loW y)
/-- Can a sum of n numbers between a and b be x? -/
def sumsB (x n a b : Int) : Bool :=
  if b < a then false
  else if n = 1 then (a == b) && decide (hiW x = hiW a ∧ loW x = loW a)
  else decide (cmpI (a + b + a * wrap64 (n - 2)) x ≤ 0) && decide (cmpI x (a + b + b * wrap64 (n - 2)) ≤ 0)

theorem refSums_gt (x n a b : Int) (h : b < a) (w : World) :
    Calls Try.prog 103 #[(Value.agg #[.int .i64 (hiW (x)), .int .u64 (loW (x))]), .int .i64 n, .int .i64 a, .int .i64 b] w fun e w' => e = .returned (.bool false) ∧ Below w.heap.size w w' := by
  have h1 : decide (b < a) = true := by simpa using h
  have h2 : decide (a > b) = true := by simpa using h
  generalize hiW x = x1
  generalize loW x = x2
  go_enter Try.func103, Try.ntmps103
  go_wp2
  go_ret
  exact ⟨rfl, by (repeat' (first | (with_reducible exact Below.refl _ _) | (with_reducible assumption) | (with_reducible refine Below.new ?_ _) | (with_reducible refine Below.alloc ?_ ?_ _) | (with_reducible refine Below.drew ?_) | (with_reducible refine Below.drewN ?_ _) | (with_reducible refine Below.setCell ?_ ?_ _) | (refine Below.step ?_ (by assumption)) | go_size))⟩

set_option maxHeartbeats 4000000 in
theorem refSums_one (x a b : Int) (h : ¬ b < a) (ha : I64 a) (w : World) :
    Calls Try.prog 103 #[(Value.agg #[.int .i64 (hiW (x)), .int .u64 (loW (x))]), .int .i64 1, .int .i64 a, .int .i64 b] w fun e w' => e = .returned (.bool ((a == b) && decide (hiW x = hiW a ∧ loW x = loW a))) ∧ Below w.heap.size w w' := by
  have h1 : decide (b < a) = false := by simpa using h
  have HO := hid (fun W => refOf_any a ha W)
  by_cases hab : a = b
  · subst hab
    clear h
    have q : (a == a && decide (hiW x = hiW a ∧ loW x = loW a)) = decide (hiW x = hiW a ∧ loW x = loW a) := by simp
    rw [q]
    clear q
    generalize hiW x = x1 at *
    generalize loW x = x2 at *
    generalize hiW a = y1 at *
    generalize loW a = y2 at *
    have hq : (a == a) = true := by simp
    have s0 : (w.alloc (.cells #[.int .i64 x1, .int .u64 x2] 58)).cell? ⟨w.heap.size, 0, none⟩ = some (.int .i64 x1) := by go_simp
    have s1 : (w.alloc (.cells #[.int .i64 x1, .int .u64 x2] 58)).cell? ⟨w.heap.size, 1, none⟩ = some (.int .u64 x2) := by go_simp
    have p0 := World.plus_cell s0; have p1 := World.plus_cell s1
    by_cases e1 : x1 = y1
    · subst e1
      by_cases e2 : x2 = y2
      · subst e2
        go_enter Try.func103, Try.ntmps103
        go_wp2
        refine wp_region_plus (by kernel_rfl) (by kernel_rfl) ?_
        repeat (first | go_big_quiet_skip | (go_big_quiet_want; go_big_quiet_op; first | go_big_quiet_on | go_big_quiet_call (((go_at_call 63; exact Calls.plus_of (HO.out _))))))
        refine wpQuiet_nil ?_
        rintro _ ⟨xq, rfl⟩
        have kB := World.plus_below (w.alloc (.cells #[.int .i64 x1, .int .u64 x2] 58)) xq
        go_wp2
        go_ret
        exact ⟨ret_bool (by simp), by (repeat' (first | (with_reducible exact Below.refl _ _) | (with_reducible assumption) | (with_reducible refine Below.new ?_ _) | (with_reducible refine Below.alloc ?_ ?_ _) | (with_reducible refine Below.drew ?_) | (with_reducible refine Below.drewN ?_ _) | (with_reducible refine Below.setCell ?_ ?_ _) | (refine Below.step ?_ (by assumption)) | go_size))⟩
      · have n2 : (x2 == y2) = false := by simpa using e2
        go_enter Try.func103, Try.ntmps103
        go_wp2
        refine wp_region_plus (by kernel_rfl) (by kernel_rfl) ?_
        repeat (first | go_big_quiet_skip | (go_big_quiet_want; go_big_quiet_op; first | go_big_quiet_on | go_big_quiet_call (((go_at_call 63; exact Calls.plus_of (HO.out _))))))
        refine wpQuiet_nil ?_
        rintro _ ⟨xq, rfl⟩
        have kB := World.plus_below (w.alloc (.cells #[.int .i64 x1, .int .u64 x2] 58)) xq
        go_wp2
        go_ret
        exact ⟨ret_bool (by simp [e2]), by (repeat' (first | (with_reducible exact Below.refl _ _) | (with_reducible assumption) | (with_reducible refine Below.new ?_ _) | (with_reducible refine Below.alloc ?_ ?_ _) | (with_reducible refine Below.drew ?_) | (with_reducible refine Below.drewN ?_ _) | (with_reducible refine Below.setCell ?_ ?_ _) | (refine Below.step ?_ (by assumption)) | go_size))⟩
    · have n1 : (x1 == y1) = false := by simpa using e1
      go_enter Try.func103, Try.ntmps103
      go_wp2
      refine wp_region_plus (by kernel_rfl) (by kernel_rfl) ?_
      repeat (first | go_big_quiet_skip | (go_big_quiet_want; go_big_quiet_op; first | go_big_quiet_on | go_big_quiet_call (((go_at_call 63; exact Calls.plus_of (HO.out _))))))
      refine wpQuiet_nil ?_
      rintro _ ⟨xq, rfl⟩
      have kB := World.plus_below (w.alloc (.cells #[.int .i64 x1, .int .u64 x2] 58)) xq
      go_wp2
      go_ret
      exact ⟨ret_bool (by simp [e1]), by (repeat' (first | (with_reducible exact Below.refl _ _) | (with_reducible assumption) | (with_reducible refine Below.new ?_ _) | (with_reducible refine Below.alloc ?_ ?_ _) | (with_reducible refine Below.drew ?_) | (with_reducible refine Below.drewN ?_ _) | (with_reducible refine Below.setCell ?_ ?_ _) | (refine Below.step ?_ (by assumption)) | go_size))⟩
  · have hq : (a == b) = false := by simpa using hab
    rw [hq, Bool.false_and]
    generalize hiW x = x1 at *
    generalize loW x = x2 at *
    go_enter Try.func103, Try.ntmps103
    go_wp2
    go_quiet (fail)
    go_wp2
    go_ret
    exact ⟨rfl, by (repeat' (first | (with_reducible exact Below.refl _ _) | (with_reducible assumption) | (with_reducible refine Below.new ?_ _) | (with_reducible refine Below.alloc ?_ ?_ _) | (with_reducible refine Below.drew ?_) | (with_reducible refine Below.drewN ?_ _) | (with_reducible refine Below.setCell ?_ ?_ _) | (refine Below.step ?_ (by assumption)) | go_size))⟩

set_option maxHeartbeats 4000000 in
theorem refSums_more (x n a b : Int) (h : ¬ b < a) (hn : ¬ n = 1) (ha : I64 a) (hb : I64 b) (w : World) :
    Calls Try.prog 103 #[(Value.agg #[.int .i64 (hiW (x)), .int .u64 (loW (x))]), .int .i64 n, .int .i64 a, .int .i64 b] w fun e w' => e = .returned (.bool (decide (cmpI (a + b + a * wrap64 (n - 2)) x ≤ 0) && decide (cmpI x (a + b + b * wrap64 (n - 2)) ≤ 0))) ∧ Below w.heap.size w w' := by
  have h1 : decide (b < a) = false := by simpa using h
  have h2 : (n == 1) = false := by simpa using hn
  clear h hn
  have hm : I64 (wrap64 (n - 2)) := by unfold I64 wrap64; omega
  have HO := hid (fun W => refOf_any a ha W)
  have HP := hid (fun W => refOf_any b hb W)
  have HA := hid (fun W => refAdd_any a b W)
  have HM := hid (fun W => refMul_any a (wrap64 (n - 2)) ha hm W)
  have HN := hid (fun W => refMul_any b (wrap64 (n - 2)) hb hm W)
  have HB := hid (fun W => refAdd_any (a + b) (a * wrap64 (n - 2)) W)
  have HC := hid (fun W => refAdd_any (a + b) (b * wrap64 (n - 2)) W)
  have HD := hid (fun W => refCmp_words (hiW (a + b + a * wrap64 (n - 2))) (loW (a + b + a * wrap64 (n - 2))) (hiW x) (loW x) W)
  have HE := hid (fun W => refCmp_words (hiW x) (loW x) (hiW (a + b + b * wrap64 (n - 2))) (loW (a + b + b * wrap64 (n - 2))) W)
  unfold cmpI
  generalize cmpW (hiW (a + b + a * wrap64 (n - 2))) (loW (a + b + a * wrap64 (n - 2))) (hiW x) (loW x) = c1 at *
  generalize cmpW (hiW x) (loW x) (hiW (a + b + b * wrap64 (n - 2))) (loW (a + b + b * wrap64 (n - 2))) = c2 at *
  generalize hiW (a + b + a * wrap64 (n - 2)) = p1 at *
  generalize loW (a + b + a * wrap64 (n - 2)) = p2 at *
  generalize hiW (a + b + b * wrap64 (n - 2)) = r1 at *
  generalize loW (a + b + b * wrap64 (n - 2)) = r2 at *
  generalize hiW (a * wrap64 (n - 2)) = s1 at *
  generalize loW (a * wrap64 (n - 2)) = s2 at *
  generalize hiW (b * wrap64 (n - 2)) = t1 at *
  generalize loW (b * wrap64 (n - 2)) = t2 at *
  generalize hiW (a + b) = u1 at *
  generalize loW (a + b) = u2 at *
  generalize hiW x = x1 at *
  generalize loW x = x2 at *
  generalize hiW a = y1 at *
  generalize loW a = y2 at *
  generalize hiW b = z1 at *
  generalize loW b = z2 at *
  clear hm ha hb
  go_enter Try.func103, Try.ntmps103
  go_upto_region 6 with (first
    | (go_at_call 63; first
      | ((with_reducible refine (HO.out _).mono ?_); rintro e w1 ⟨rfl, hb1⟩; obtain ⟨hc1, hf1, hk1, hz1⟩ := bcell3 hb1; (try simp only [World.size_alloc, World.size_drew] at hz1); have : w.heap.size < w1.heap.size := (by omega))
      | ((with_reducible refine (HP.out _).mono ?_); rintro e w2 ⟨rfl, hb2⟩; obtain ⟨hc2, hf2, hk2, hz2⟩ := bcell3 hb2; (try simp only [World.size_alloc, World.size_drew] at hz2); have : w.heap.size < w2.heap.size := (by omega)))
    | (go_at_call 107; (with_reducible refine (HA.out _).mono ?_); rintro e w3 ⟨rfl, hb3⟩; obtain ⟨hc3, hf3, hk3, hz3⟩ := bcell3 hb3; (try simp only [World.size_alloc, World.size_drew] at hz3); have : w.heap.size < w3.heap.size := (by omega)))
  have hBV : Below w.heap.size w (w3.alloc (.cells #[.int .i64 u1, .int .u64 u2] 58)) := by (repeat' (first | (with_reducible exact Below.refl _ _) | (with_reducible assumption) | (with_reducible refine Below.new ?_ _) | (with_reducible refine Below.alloc ?_ ?_ _) | (with_reducible refine Below.drew ?_) | (with_reducible refine Below.drewN ?_ _) | (with_reducible refine Below.setCell ?_ ?_ _) | (refine Below.step ?_ (by assumption)) | go_size))
  have v0 : (w3.alloc (.cells #[.int .i64 u1, .int .u64 u2] 58)).cell? ⟨w.heap.size, 0, none⟩ = some (.int .i64 x1) := by go_simp
  have v1 : (w3.alloc (.cells #[.int .i64 u1, .int .u64 u2] 58)).cell? ⟨w.heap.size, 1, none⟩ = some (.int .u64 x2) := by go_simp
  have v2 : (w3.alloc (.cells #[.int .i64 u1, .int .u64 u2] 58)).cell? ⟨w3.heap.size, 0, none⟩ = some (.int .i64 u1) := by go_simp
  have v3 : (w3.alloc (.cells #[.int .i64 u1, .int .u64 u2] 58)).cell? ⟨w3.heap.size, 1, none⟩ = some (.int .u64 u2) := by go_simp
  have hsz : w.heap.size < (w3.alloc (.cells #[.int .i64 u1, .int .u64 u2] 58)).heap.size := by simp; omega
  have hsw : w3.heap.size < (w3.alloc (.cells #[.int .i64 u1, .int .u64 u2] 58)).heap.size := by simp
  clear hb1 hc1 hf1 hk1 hz1 hb2 hc2 hf2 hk2 hz2 hb3 hc3 hf3 hk3 hz3
  obtain ⟨V, hV⟩ : ∃ V, (w3.alloc (.cells #[.int .i64 u1, .int .u64 u2] 58)) = V := ⟨_, rfl⟩
  rw [hV] at hBV v0 v1 v2 v3 hsz hsw ⊢
  generalize w3.heap.size = B3 at *
  clear hV
  go_cut [10] (fun s10 wx => ∃ B : Nat, s10 = .pointer (some ⟨B, 0, none⟩) ∧ wx.cell? ⟨B, 0, none⟩ = some (.int .i64 p1) ∧ wx.cell? ⟨B, 1, none⟩ = some (.int .u64 p2) ∧ Below V.heap.size V wx)
  case first =>
    have hS0 : (fun w' : World => w'.cell? ⟨B3, 0, none⟩ = some (.int .i64 u1) ∧ w'.cell? ⟨B3, 1, none⟩ = some (.int .u64 u2)) V.drew := ⟨v2, v3⟩
    refine wp_region_some (fun w' : World => w'.cell? ⟨B3, 0, none⟩ = some (.int .i64 u1) ∧ w'.cell? ⟨B3, 1, none⟩ = some (.int .u64 u2)) [7] (by kernel_rfl) ?_
    (refine wpMix_take (i := 0) (v := ?_) rfl (by kernel_rfl) (fun _ _ _ h => h) (Or.inl ⟨by rfl, ?_⟩) hS0 ?_; rotate_left 1; (focus (intro w hSw; (try dsimp only at hSw); go_simp; try (with_reducible rfl))); (try simp only [Act.put, List.setIfInBounds_toArray, List.set_cons_zero, List.set_cons_succ]))
    (refine wpMix_take (i := 1) (v := ?_) rfl (by kernel_rfl) (fun _ _ _ h => h) (Or.inl ⟨by rfl, ?_⟩) hS0 ?_; rotate_left 1; (focus (intro w hSw; (try dsimp only at hSw); go_simp; try (with_reducible rfl))); (try simp only [Act.put, List.setIfInBounds_toArray, List.set_cons_zero, List.set_cons_succ]))
    (refine wpMix_take (i := 2) (v := ?_) rfl (by kernel_rfl) (fun _ _ _ h => h) (Or.inl ⟨by rfl, ?_⟩) hS0 ?_; rotate_left 1; (focus (intro w hSw; (try dsimp only at hSw); go_simp; try (with_reducible rfl))); (try simp only [Act.put, List.setIfInBounds_toArray, List.set_cons_zero, List.set_cons_succ]))
    (refine wpMix_take (i := 3) (v := ?_) rfl (by kernel_rfl) (fun _ _ _ h => h) (Or.inl ⟨by rfl, ?_⟩) hS0 ?_; rotate_left 1; (focus (intro w hSw; (try dsimp only at hSw); go_simp; try (with_reducible rfl))); (try simp only [Act.put, List.setIfInBounds_toArray, List.set_cons_zero, List.set_cons_succ]))
    refine wpMix_pick [4, 6] (by kernel_rfl) (pick_two ?_ ?_) (by simp)
    all_goals simp only [opsAt, List.flatMap_cons, List.flatMap_nil, List.take_succ_cons, List.take_zero, List.drop_succ_cons, List.drop_zero, List.append_nil, List.cons_append, List.nil_append]
    · go_wp2_with (go_at_call 114; go_loud ((with_reducible refine (HM.out _).mono ?_); rintro e w4 ⟨rfl, hb4⟩))
      have hbb : Below V.heap.size V w4 := (Below.drew (Below.refl _ _)).trans hb4
      refine ⟨⟨cell_step v2 hbb, cell_step v3 hbb⟩, ?_⟩
      clear hb4
      refine wpMix_pick [5, 6] (by kernel_rfl) (pick_two ?_ ?_) (by simp)
      all_goals simp only [opsAt, List.flatMap_cons, List.flatMap_nil, List.take_succ_cons, List.take_zero, List.drop_succ_cons, List.drop_zero, List.append_nil, List.cons_append, List.nil_append]
      · go_wp2_with (go_at_call 107; go_loud ((with_reducible refine (HB.out _).mono ?_); rintro e w5 ⟨rfl, hb5⟩))
        replace hbb := hbb.step hb5
        refine ⟨⟨cell_step v2 hbb, cell_step v3 hbb⟩, ?_⟩
        clear hb5
        refine wpMix_next (t := 6) (by kernel_rfl) ?_
        simp only [opsAt, List.flatMap_cons, List.flatMap_nil, List.take_succ_cons, List.take_zero, List.drop_succ_cons, List.drop_zero, List.append_nil, List.cons_append, List.nil_append]
        go_wp2
        refine ⟨⟨cell_step v2 (hbb.new _), cell_step v3 (hbb.new _)⟩, ?_⟩
        refine wpMix_rest [7] (by kernel_rfl) ?_
        simp only [opsAt, List.flatMap_cons, List.flatMap_nil, List.take_succ_cons, List.take_zero, List.drop_succ_cons, List.drop_zero, List.append_nil, List.cons_append, List.nil_append]
        go_wp2
        go_meet
        exact ⟨_, rfl, by go_simp, by go_simp, (by ((repeat' (first | (with_reducible exact Below.refl _ _) | (with_reducible assumption) | (with_reducible refine Below.new ?_ _) | (with_reducible refine Below.alloc ?_ ?_ _) | (with_reducible refine Below.drew ?_) | (with_reducible refine Below.drewN ?_ _) | (with_reducible refine Below.setCell ?_ ?_ _) | (refine Below.step ?_ (by assumption)) | go_size))); all_goals (have := hbb.size; simp at this ⊢; omega))⟩
      · go_wp2
        have hbc : Below V.heap.size V (w4.alloc (.cells #[.int .i64 0, .int .u64 0] 58)) := hbb.new _
        refine ⟨⟨cell_step v2 hbc, cell_step v3 hbc⟩, ?_⟩
        refine wpMix_next (t := 5) (by kernel_rfl) ?_
        simp only [opsAt, List.flatMap_cons, List.flatMap_nil, List.take_succ_cons, List.take_zero, List.drop_succ_cons, List.drop_zero, List.append_nil, List.cons_append, List.nil_append]
        go_wp2_with (go_at_call 107; go_loud ((with_reducible refine (HB.out _).mono ?_); rintro e w5 ⟨rfl, hb5⟩; obtain ⟨hc5, hf5, hk5, hz5⟩ := bcell3 hb5; (try simp only [World.size_alloc, World.size_drew] at hz5); have : w4.heap.size < w5.heap.size := (by omega)))
        have hbd := hbc.step hb5
        refine ⟨⟨cell_step v2 hbd, cell_step v3 hbd⟩, ?_⟩
        refine wpMix_rest [7] (by kernel_rfl) ?_
        simp only [opsAt, List.flatMap_cons, List.flatMap_nil, List.take_succ_cons, List.take_zero, List.drop_succ_cons, List.drop_zero, List.append_nil, List.cons_append, List.nil_append]
        go_wp2
        go_meet
        exact ⟨_, rfl, by go_simp, by go_simp, (by ((repeat' (first | (with_reducible exact Below.refl _ _) | (with_reducible assumption) | (with_reducible refine Below.new ?_ _) | (with_reducible refine Below.alloc ?_ ?_ _) | (with_reducible refine Below.drew ?_) | (with_reducible refine Below.drewN ?_ _) | (with_reducible refine Below.setCell ?_ ?_ _) | (refine Below.step ?_ (by assumption)) | go_size))); all_goals (have := hbb.size; simp at this ⊢; omega))⟩
    · go_wp2
      have hbb : Below V.heap.size V (V.drew.alloc (.cells #[.int .i64 0, .int .u64 0] 58)) := (Below.drew (Below.refl _ _)).new _
      refine ⟨⟨cell_step v2 hbb, cell_step v3 hbb⟩, ?_⟩
      refine wpMix_next (t := 4) (by kernel_rfl) ?_
      simp only [opsAt, List.flatMap_cons, List.flatMap_nil, List.take_succ_cons, List.take_zero, List.drop_succ_cons, List.drop_zero, List.append_nil, List.cons_append, List.nil_append]
      go_wp2_with (go_at_call 114; go_loud ((with_reducible refine (HM.out _).mono ?_); rintro e w4 ⟨rfl, hb4⟩; obtain ⟨hc4, hf4, hk4, hz4⟩ := bcell3 hb4; (try simp only [World.size_alloc, World.size_drew] at hz4); have : V.heap.size < w4.heap.size := (by omega)))
      have hbc := hbb.step hb4
      refine ⟨⟨cell_step v2 hbc, cell_step v3 hbc⟩, ?_⟩
      refine wpMix_next (t := 5) (by kernel_rfl) ?_
      simp only [opsAt, List.flatMap_cons, List.flatMap_nil, List.take_succ_cons, List.take_zero, List.drop_succ_cons, List.drop_zero, List.append_nil, List.cons_append, List.nil_append]
      go_wp2_with (go_at_call 107; go_loud ((with_reducible refine (HB.out _).mono ?_); rintro e w5 ⟨rfl, hb5⟩; obtain ⟨hc5, hf5, hk5, hz5⟩ := bcell3 hb5; (try simp only [World.size_alloc, World.size_drew] at hz5); have : V.heap.size < w5.heap.size := (by omega)))
      have hbd := hbc.step hb5
      refine ⟨⟨cell_step v2 hbd, cell_step v3 hbd⟩, ?_⟩
      refine wpMix_rest [7] (by kernel_rfl) ?_
      simp only [opsAt, List.flatMap_cons, List.flatMap_nil, List.take_succ_cons, List.take_zero, List.drop_succ_cons, List.drop_zero, List.append_nil, List.cons_append, List.nil_append]
      go_wp2
      go_meet
      exact ⟨_, rfl, by go_simp, by go_simp, (by ((repeat' (first | (with_reducible exact Below.refl _ _) | (with_reducible assumption) | (with_reducible refine Below.new ?_ _) | (with_reducible refine Below.alloc ?_ ?_ _) | (with_reducible refine Below.drew ?_) | (with_reducible refine Below.drewN ?_ _) | (with_reducible refine Below.setCell ?_ ?_ _) | (refine Below.step ?_ (by assumption)) | go_size))); all_goals (have := hbb.size; simp at this ⊢; omega))⟩
  case rest =>
    obtain ⟨C, rfl, l0, l1, hbc⟩ := hcut
    replace v0 := cell_step v0 hbc
    replace v1 := cell_step v1 hbc
    replace v2 := cell_step v2 hbc
    replace v3 := cell_step v3 hbc
    have hB2 : Below w.heap.size w wc := hBV.step hbc
    clear hbc hBV hsz hsw HM HB
    obtain ⟨U, rfl⟩ : ∃ U, U = wc := ⟨_, rfl⟩
    go_upto_region 7 with fail
    go_cut [11] (fun s11 wx => ∃ B : Nat, s11 = .pointer (some ⟨B, 0, none⟩) ∧ wx.cell? ⟨B, 0, none⟩ = some (.int .i64 r1) ∧ wx.cell? ⟨B, 1, none⟩ = some (.int .u64 r2) ∧ Below U.heap.size U wx)
    case first =>
      have hS0 : (fun w' : World => w'.cell? ⟨B3, 0, none⟩ = some (.int .i64 u1) ∧ w'.cell? ⟨B3, 1, none⟩ = some (.int .u64 u2)) U.drew := ⟨v2, v3⟩
      refine wp_region_some (fun w' : World => w'.cell? ⟨B3, 0, none⟩ = some (.int .i64 u1) ∧ w'.cell? ⟨B3, 1, none⟩ = some (.int .u64 u2)) [7] (by kernel_rfl) ?_
      (refine wpMix_take (i := 0) (v := ?_) rfl (by kernel_rfl) (fun _ _ _ h => h) (Or.inl ⟨by rfl, ?_⟩) hS0 ?_; rotate_left 1; (focus (intro w hSw; (try dsimp only at hSw); go_simp; try (with_reducible rfl))); (try simp only [Act.put, List.setIfInBounds_toArray, List.set_cons_zero, List.set_cons_succ]))
      (refine wpMix_take (i := 1) (v := ?_) rfl (by kernel_rfl) (fun _ _ _ h => h) (Or.inl ⟨by rfl, ?_⟩) hS0 ?_; rotate_left 1; (focus (intro w hSw; (try dsimp only at hSw); go_simp; try (with_reducible rfl))); (try simp only [Act.put, List.setIfInBounds_toArray, List.set_cons_zero, List.set_cons_succ]))
      (refine wpMix_take (i := 2) (v := ?_) rfl (by kernel_rfl) (fun _ _ _ h => h) (Or.inl ⟨by rfl, ?_⟩) hS0 ?_; rotate_left 1; (focus (intro w hSw; (try dsimp only at hSw); go_simp; try (with_reducible rfl))); (try simp only [Act.put, List.setIfInBounds_toArray, List.set_cons_zero, List.set_cons_succ]))
      (refine wpMix_take (i := 3) (v := ?_) rfl (by kernel_rfl) (fun _ _ _ h => h) (Or.inl ⟨by rfl, ?_⟩) hS0 ?_; rotate_left 1; (focus (intro w hSw; (try dsimp only at hSw); go_simp; try (with_reducible rfl))); (try simp only [Act.put, List.setIfInBounds_toArray, List.set_cons_zero, List.set_cons_succ]))
      refine wpMix_pick [4, 6] (by kernel_rfl) (pick_two ?_ ?_) (by simp)
      all_goals simp only [opsAt, List.flatMap_cons, List.flatMap_nil, List.take_succ_cons, List.take_zero, List.drop_succ_cons, List.drop_zero, List.append_nil, List.cons_append, List.nil_append]
      · go_wp2_with (go_at_call 114; go_loud ((with_reducible refine (HN.out _).mono ?_); rintro e w4 ⟨rfl, hb4⟩))
        have hbb : Below U.heap.size U w4 := (Below.drew (Below.refl _ _)).trans hb4
        refine ⟨⟨cell_step v2 hbb, cell_step v3 hbb⟩, ?_⟩
        clear hb4
        refine wpMix_pick [5, 6] (by kernel_rfl) (pick_two ?_ ?_) (by simp)
        all_goals simp only [opsAt, List.flatMap_cons, List.flatMap_nil, List.take_succ_cons, List.take_zero, List.drop_succ_cons, List.drop_zero, List.append_nil, List.cons_append, List.nil_append]
        · go_wp2_with (go_at_call 107; go_loud ((with_reducible refine (HC.out _).mono ?_); rintro e w5 ⟨rfl, hb5⟩))
          replace hbb := hbb.step hb5
          refine ⟨⟨cell_step v2 hbb, cell_step v3 hbb⟩, ?_⟩
          clear hb5
          refine wpMix_next (t := 6) (by kernel_rfl) ?_
          simp only [opsAt, List.flatMap_cons, List.flatMap_nil, List.take_succ_cons, List.take_zero, List.drop_succ_cons, List.drop_zero, List.append_nil, List.cons_append, List.nil_append]
          go_wp2
          refine ⟨⟨cell_step v2 (hbb.new _), cell_step v3 (hbb.new _)⟩, ?_⟩
          refine wpMix_rest [7] (by kernel_rfl) ?_
          simp only [opsAt, List.flatMap_cons, List.flatMap_nil, List.take_succ_cons, List.take_zero, List.drop_succ_cons, List.drop_zero, List.append_nil, List.cons_append, List.nil_append]
          go_wp2
          go_meet
          exact ⟨_, rfl, by go_simp, by go_simp, (by ((repeat' (first | (with_reducible exact Below.refl _ _) | (with_reducible assumption) | (with_reducible refine Below.new ?_ _) | (with_reducible refine Below.alloc ?_ ?_ _) | (with_reducible refine Below.drew ?_) | (with_reducible refine Below.drewN ?_ _) | (with_reducible refine Below.setCell ?_ ?_ _) | (refine Below.step ?_ (by assumption)) | go_size))); all_goals (have := hbb.size; simp at this ⊢; omega))⟩
        · go_wp2
          have hbc : Below U.heap.size U (w4.alloc (.cells #[.int .i64 0, .int .u64 0] 58)) := hbb.new _
          refine ⟨⟨cell_step v2 hbc, cell_step v3 hbc⟩, ?_⟩
          refine wpMix_next (t := 5) (by kernel_rfl) ?_
          simp only [opsAt, List.flatMap_cons, List.flatMap_nil, List.take_succ_cons, List.take_zero, List.drop_succ_cons, List.drop_zero, List.append_nil, List.cons_append, List.nil_append]
          go_wp2_with (go_at_call 107; go_loud ((with_reducible refine (HC.out _).mono ?_); rintro e w5 ⟨rfl, hb5⟩; obtain ⟨hc5, hf5, hk5, hz5⟩ := bcell3 hb5; (try simp only [World.size_alloc, World.size_drew] at hz5); have : w4.heap.size < w5.heap.size := (by omega)))
          have hbd := hbc.step hb5
          refine ⟨⟨cell_step v2 hbd, cell_step v3 hbd⟩, ?_⟩
          refine wpMix_rest [7] (by kernel_rfl) ?_
          simp only [opsAt, List.flatMap_cons, List.flatMap_nil, List.take_succ_cons, List.take_zero, List.drop_succ_cons, List.drop_zero, List.append_nil, List.cons_append, List.nil_append]
          go_wp2
          go_meet
          exact ⟨_, rfl, by go_simp, by go_simp, (by ((repeat' (first | (with_reducible exact Below.refl _ _) | (with_reducible assumption) | (with_reducible refine Below.new ?_ _) | (with_reducible refine Below.alloc ?_ ?_ _) | (with_reducible refine Below.drew ?_) | (with_reducible refine Below.drewN ?_ _) | (with_reducible refine Below.setCell ?_ ?_ _) | (refine Below.step ?_ (by assumption)) | go_size))); all_goals (have := hbb.size; simp at this ⊢; omega))⟩
      · go_wp2
        have hbb : Below U.heap.size U (U.drew.alloc (.cells #[.int .i64 0, .int .u64 0] 58)) := (Below.drew (Below.refl _ _)).new _
        refine ⟨⟨cell_step v2 hbb, cell_step v3 hbb⟩, ?_⟩
        refine wpMix_next (t := 4) (by kernel_rfl) ?_
        simp only [opsAt, List.flatMap_cons, List.flatMap_nil, List.take_succ_cons, List.take_zero, List.drop_succ_cons, List.drop_zero, List.append_nil, List.cons_append, List.nil_append]
        go_wp2_with (go_at_call 114; go_loud ((with_reducible refine (HN.out _).mono ?_); rintro e w4 ⟨rfl, hb4⟩; obtain ⟨hc4, hf4, hk4, hz4⟩ := bcell3 hb4; (try simp only [World.size_alloc, World.size_drew] at hz4); have : U.heap.size < w4.heap.size := (by omega)))
        have hbc := hbb.step hb4
        refine ⟨⟨cell_step v2 hbc, cell_step v3 hbc⟩, ?_⟩
        refine wpMix_next (t := 5) (by kernel_rfl) ?_
        simp only [opsAt, List.flatMap_cons, List.flatMap_nil, List.take_succ_cons, List.take_zero, List.drop_succ_cons, List.drop_zero, List.append_nil, List.cons_append, List.nil_append]
        go_wp2_with (go_at_call 107; go_loud ((with_reducible refine (HC.out _).mono ?_); rintro e w5 ⟨rfl, hb5⟩; obtain ⟨hc5, hf5, hk5, hz5⟩ := bcell3 hb5; (try simp only [World.size_alloc, World.size_drew] at hz5); have : U.heap.size < w5.heap.size := (by omega)))
        have hbd := hbc.step hb5
        refine ⟨⟨cell_step v2 hbd, cell_step v3 hbd⟩, ?_⟩
        refine wpMix_rest [7] (by kernel_rfl) ?_
        simp only [opsAt, List.flatMap_cons, List.flatMap_nil, List.take_succ_cons, List.take_zero, List.drop_succ_cons, List.drop_zero, List.append_nil, List.cons_append, List.nil_append]
        go_wp2
        go_meet
        exact ⟨_, rfl, by go_simp, by go_simp, (by ((repeat' (first | (with_reducible exact Below.refl _ _) | (with_reducible assumption) | (with_reducible refine Below.new ?_ _) | (with_reducible refine Below.alloc ?_ ?_ _) | (with_reducible refine Below.drew ?_) | (with_reducible refine Below.drewN ?_ _) | (with_reducible refine Below.setCell ?_ ?_ _) | (refine Below.step ?_ (by assumption)) | go_size))); all_goals (have := hbb.size; simp at this ⊢; omega))⟩
    case rest =>
      obtain ⟨D, rfl, m0, m1, hbc⟩ := hcut
      replace v0 := cell_step v0 hbc
      replace v1 := cell_step v1 hbc
      replace l0 := cell_step l0 hbc
      replace l1 := cell_step l1 hbc
      have hB3 : Below w.heap.size w wc := hB2.step hbc
      clear hbc hB2 HN HC v2 v3
      cases q1 : decide (c1 ≤ 0)
      case' true =>
        cases q2 : decide (c2 ≤ 0)
      all_goals
        go_wp2_with (go_at_call 115; first
          | ((with_reducible refine (HD.out _).mono ?_); rintro e w6 ⟨rfl, hb6⟩; replace v0 := cell_step v0 hb6; replace v1 := cell_step v1 hb6; replace m0 := cell_step m0 hb6; replace m1 := cell_step m1 hb6; replace hB3 := hB3.step hb6; clear hb6)
          | ((with_reducible refine (HE.out _).mono ?_); rintro e w7 ⟨rfl, hb7⟩; replace hB3 := hB3.step hb7; clear hb7))
        ((show bodyPost _ _ _ _ _ _); refine bodyPost_ret (by simp only [results, Try.results103]; go_simp; try rfl) rfl ?_)
        exact ⟨ret_bool (by first | (rw [q1, q2]; rfl) | (rw [q1]; rfl)), by first | exact hB3 | (repeat' (first | (with_reducible exact Below.refl _ _) | (with_reducible assumption) | (with_reducible refine Below.new ?_ _) | (with_reducible refine Below.alloc ?_ ?_ _) | (with_reducible refine Below.drew ?_) | (with_reducible refine Below.drewN ?_ _) | (with_reducible refine Below.setCell ?_ ?_ _) | (refine Below.step ?_ (by assumption)) | go_size))⟩

theorem refSums_any (x n a b : Int) (ha : I64 a) (hb : I64 b) (w : World) :
    Calls Try.prog 103 #[(Value.agg #[.int .i64 (hiW (x)), .int .u64 (loW (x))]), .int .i64 n, .int .i64 a, .int .i64 b] w fun e w' => e = .returned (.bool (sumsB x n a b)) ∧ Below w.heap.size w w' := by
  unfold sumsB
  by_cases h : b < a
  · rw [if_pos h]
    exact refSums_gt x n a b h w
  · rw [if_neg h]
    by_cases hn : n = 1
    · subst hn
      rw [if_pos rfl]
      exact refSums_one x a b h ha w
    · rw [if_neg hn]
      exact refSums_more x n a b h hn ha hb w
end Go.Proofs.Ytdgeinipdphoeaa
