/- Rows of 32-bit parts: what the program's inner functions make of them. -/
import Derived.Test.YtdkamjbcpmlheaaProg
import Derived.Test.YtdkamjbcpmlheaaB
set_option linter.unusedVariables false
set_option linter.unusedSimpArgs false
/- Numbers as rows of digits, the lowest first: what a row is worth, and how that turns as rows are read and written. -/
namespace Go.Lg

def val (B : Int) : List Int → Int
  | [] => 0
  | a :: r => a + B * val B r
def okd (B : Int) (xs : List Int) : Prop := ∀ a ∈ xs, 0 ≤ a ∧ a < B
def nrmd (xs : List Int) : Prop := xs.getLast? ≠ some 0

theorem okd.nil (B : Int) : okd B [] := fun a h => by cases h
theorem okd.cons {B a : Int} {r : List Int} (h : 0 ≤ a ∧ a < B) (hr : okd B r) : okd B (a :: r) := fun x hx => by
  rcases List.mem_cons.1 hx with rfl | hx
  · exact h
  · exact hr x hx
theorem okd.append {B : Int} {xs ys : List Int} (h : okd B xs) (k : okd B ys) : okd B (xs ++ ys) := fun x hx => (List.mem_append.1 hx).elim (h x) (k x)
theorem okd.snoc {B a : Int} {xs : List Int} (h : okd B xs) (k : 0 ≤ a ∧ a < B) : okd B (xs ++ [a]) := h.append ((okd.nil B).cons k)
theorem okd.take {B : Int} {xs : List Int} (h : okd B xs) (n : Nat) : okd B (xs.take n) := fun x hx => h x (List.mem_of_mem_take hx)
theorem okd.drop {B : Int} {xs : List Int} (h : okd B xs) (n : Nat) : okd B (xs.drop n) := fun x hx => h x (List.mem_of_mem_drop hx)
theorem okd.getD {B : Int} (hB : 0 < B) {xs : List Int} (h : okd B xs) (i : Nat) : 0 ≤ xs.getD i 0 ∧ xs.getD i 0 < B := by
  by_cases hi : i < xs.length
  · have : xs.getD i 0 = xs[i] := by simp [List.getD, List.getElem?_eq_getElem hi]
    rw [this]
    exact h _ (List.getElem_mem hi)
  · have : xs.getD i 0 = 0 := by simp [List.getD, List.getElem?_eq_none (show xs.length ≤ i by omega)]
    rw [this]
    omega
theorem okd.zeros {B : Int} (hB : 0 < B) (n : Nat) : okd B (List.replicate n 0) := fun x hx => by
  have := List.eq_of_mem_replicate hx
  omega

theorem val_append (B : Int) : ∀ xs ys : List Int, val B (xs ++ ys) = val B xs + B ^ xs.length * val B ys
  | [], ys => by simp [val]
  | a :: r, ys => by
    simp only [List.cons_append, val, val_append B r ys, List.length_cons, Int.pow_succ, Int.mul_add]
    rw [show B * (B ^ r.length * val B ys) = B ^ r.length * B * val B ys by rw [Int.mul_comm (B ^ r.length) B, Int.mul_assoc]]
    omega
theorem val_snoc (B : Int) (xs : List Int) (a : Int) : val B (xs ++ [a]) = val B xs + B ^ xs.length * a := by
  rw [val_append]; simp [val]
theorem val_zeros (B : Int) : ∀ n, val B (List.replicate n 0) = 0
  | 0 => rfl
  | n + 1 => by simp [List.replicate_succ, val, val_zeros B n]
theorem val_nonneg {B : Int} (hB : 0 < B) : ∀ {xs : List Int}, okd B xs → 0 ≤ val B xs
  | [], _ => Int.le_refl _
  | a :: r, h => by
    have h1 := (h a (List.mem_cons_self ..)).1
    have h2 := val_nonneg hB (xs := r) (fun x hx => h x (List.mem_cons_of_mem _ hx))
    have h3 := Int.mul_nonneg (Int.le_of_lt hB) h2
    simp only [val]; omega
theorem val_lt {B : Int} (hB : 0 < B) : ∀ {xs : List Int}, okd B xs → val B xs < B ^ xs.length
  | [], _ => by simp [val]
  | a :: r, h => by
    have h1 := (h a (List.mem_cons_self ..)).2
    have h2 := val_lt hB (xs := r) (fun x hx => h x (List.mem_cons_of_mem _ hx))
    have h3 : B * val B r ≤ B * (B ^ r.length - 1) := Int.mul_le_mul_of_nonneg_left (by omega) (Int.le_of_lt hB)
    have e : B ^ r.length * B = B ^ (r.length + 1) := (Int.pow_succ ..).symm
    rw [Int.mul_sub, Int.mul_comm B (B ^ r.length), e] at h3
    show a + B * val B r < B ^ (r.length + 1)
    omega
theorem take_getD (xs : List Int) (i : Nat) : xs.take (i + 1) = xs.take i ++ (if i < xs.length then [xs.getD i 0] else []) := by
  split
  · rename_i h
    rw [List.take_add_one, List.getElem?_eq_getElem h]
    simp [List.getD, List.getElem?_eq_getElem h]
  · rename_i h
    rw [List.take_of_length_le (by omega), List.take_of_length_le (by omega), List.append_nil]
theorem val_take (B : Int) (xs : List Int) (i : Nat) : val B (xs.take (i + 1)) = val B (xs.take i) + B ^ i * xs.getD i 0 := by
  rw [take_getD]
  split
  · rename_i h
    rw [val_snoc, List.length_take, Nat.min_eq_left (by omega)]
  · rename_i h
    simp [List.getD, List.getElem?_eq_none (show xs.length ≤ i by omega)]
theorem drop_getD (xs : List Int) (i : Nat) (h : i < xs.length) : xs.drop i = xs.getD i 0 :: xs.drop (i + 1) := by
  rw [List.drop_eq_getElem_cons h]
  simp [List.getD, List.getElem?_eq_getElem h]
theorem val_drop (B : Int) (xs : List Int) (i : Nat) (h : i < xs.length) : val B (xs.drop i) = xs.getD i 0 + B * val B (xs.drop (i + 1)) := by
  rw [drop_getD xs i h, val]
theorem set_take (xs : List Int) (i : Nat) (v : Int) (h : i < xs.length) : (xs.set i v).take (i + 1) = xs.take i ++ [v] := by
  apply List.ext_getElem?
  intro j
  simp only [List.getElem?_take, List.getElem?_set, List.getElem?_append, List.length_take]
  by_cases hj : j < i
  · have : j < min i xs.length := by omega
    have h2 : ¬ i = j := by omega
    rw [if_pos (show j < i + 1 by omega), if_neg h2, if_pos this, if_pos hj]
  · have : ¬ j < min i xs.length := by omega
    rw [if_neg this]
    by_cases he : j = i
    · subst he
      have : min j xs.length = j := by omega
      simp [h, this]
    · rw [if_neg (show ¬ j < i + 1 by omega), List.getElem?_eq_none (by simp; omega)]
theorem set_drop (xs : List Int) (i : Nat) (v : Int) (h : i < xs.length) : (xs.set i v).drop i = v :: xs.drop (i + 1) := by
  rw [List.drop_eq_getElem_cons (by simpa using h)]
  simp [List.drop_set]
theorem getD_drop (xs : List Int) (i j : Nat) : (xs.drop i).getD j 0 = xs.getD (i + j) 0 := by simp [List.getD, List.getElem?_drop]
theorem set_take' (xs : List Int) (i : Nat) (v : Int) : (xs.set i v).take i = xs.take i := by
  apply List.ext_getElem?
  intro j
  simp only [List.getElem?_take, List.getElem?_set]
  by_cases hj : j < i
  · rw [if_pos hj, if_pos hj, if_neg (show ¬ i = j by omega)]
  · rw [if_neg hj, if_neg hj]
theorem set_drop' (xs : List Int) (i : Nat) (v : Int) : (xs.set i v).drop (i + 1) = xs.drop (i + 1) := by
  apply List.ext_getElem?
  intro j
  simp only [List.getElem?_drop, List.getElem?_set]
  rw [if_neg (show ¬ i = i + 1 + j by omega)]
theorem set_getD (xs : List Int) (i j : Nat) (v : Int) (h : i < xs.length) : (xs.set i v).getD j 0 = if i = j then v else xs.getD j 0 := by
  simp only [List.getD, List.getElem?_set]
  by_cases e : i = j
  · subst e; simp [h]
  · rw [if_neg e, if_neg e]

/-! ### No zeros at the end -/
theorem nrmd_take {xs : List Int} {n : Nat} (hn : n ≤ xs.length) (h : n = 0 ∨ xs.getD (n - 1) 0 ≠ 0) : nrmd (xs.take n) := by
  unfold nrmd
  rcases h with rfl | h
  · simp
  · intro he
    rw [List.getLast?_eq_getElem?] at he
    rw [List.length_take, Nat.min_eq_left hn, List.getElem?_take] at he
    split at he
    · rename_i h1
      simp [List.getD, he] at h
    · cases he
theorem nrmd_low {B : Int} (hB : 0 < B) {xs : List Int} (ho : okd B xs) (hn : nrmd xs) (hx : xs ≠ []) : B ^ (xs.length - 1) ≤ val B xs := by
  obtain ⟨ys, a, rfl⟩ : ∃ ys a, xs = ys ++ [a] := ⟨xs.dropLast, xs.getLast hx, (List.dropLast_concat_getLast hx).symm⟩
  have ha : a ≠ 0 := by
    intro e
    exact hn (by simp [e])
  have ha2 := ho a (by simp)
  have h1 := val_nonneg hB (xs := ys) (fun x hx => ho x (List.mem_append.2 (.inl hx)))
  have h2 : B ^ ys.length * 1 ≤ B ^ ys.length * a := Int.mul_le_mul_of_nonneg_left (by omega) (Int.le_of_lt (Int.pow_pos hB))
  rw [val_snoc]
  simp only [List.length_append, List.length_singleton, Nat.add_sub_cancel]
  omega
theorem pow_mono {B : Int} (hB : 0 < B) {a b : Nat} (h : a ≤ b) : B ^ a ≤ B ^ b := by
  obtain ⟨c, rfl⟩ := Nat.exists_eq_add_of_le h
  rw [Int.pow_add]
  have h1 : (1 : Int) ≤ B ^ c := Int.pow_pos hB
  have h2 := Int.mul_le_mul_of_nonneg_left h1 (Int.le_of_lt (Int.pow_pos hB : 0 < B ^ a))
  omega
theorem nrmd_pos {B : Int} (hB : 0 < B) {xs : List Int} (ho : okd B xs) (hn : nrmd xs) (hx : xs ≠ []) : 0 < val B xs := Int.lt_of_lt_of_le (Int.pow_pos hB) (nrmd_low hB ho hn hx)
theorem nrmd_nil {B : Int} (hB : 0 < B) {xs : List Int} (ho : okd B xs) (hn : nrmd xs) (h : val B xs = 0) : xs = [] := by
  by_cases hx : xs = []
  · exact hx
  · have := nrmd_pos hB ho hn hx; omega
theorem nrmd_len {B : Int} (hB : 1 < B) {xs : List Int} (ho : okd B xs) (hn : nrmd xs) {n : Nat} (h : val B xs < B ^ n) : xs.length ≤ n := by
  by_cases hx : xs = []
  · subst hx; simp
  · have h1 := nrmd_low (by omega) ho hn hx
    by_cases hc : xs.length ≤ n
    · exact hc
    · have := pow_mono (B := B) (by omega) (show n ≤ xs.length - 1 by omega)
      omega
theorem val_lt_len {B : Int} (hB : 0 < B) {xs ys : List Int} (ho : okd B xs) (hy : okd B ys) (hn : nrmd ys) (h : xs.length < ys.length) : val B xs < val B ys := by
  have h1 := val_lt hB ho
  have h2 := nrmd_low hB hy hn (by intro e; subst e; simp at h)
  have := pow_mono (B := B) hB (show xs.length ≤ ys.length - 1 by omega)
  omega
/-- Where the rows part, seen from the end. -/
theorem val_cmp {B : Int} (hB : 0 < B) {xs ys : List Int} (ho : okd B xs) (hy : okd B ys) (hl : xs.length = ys.length) (i : Nat) (hi : i < xs.length) (hd : xs.drop (i + 1) = ys.drop (i + 1)) (h : xs.getD i 0 < ys.getD i 0) : val B xs < val B ys := by
  have e1 : val B xs = val B (xs.take i) + B ^ i * val B (xs.drop i) := by
    conv => lhs; rw [← List.take_append_drop i xs]
    rw [val_append, List.length_take, Nat.min_eq_left (by omega)]
  have e2 : val B ys = val B (ys.take i) + B ^ i * val B (ys.drop i) := by
    conv => lhs; rw [← List.take_append_drop i ys]
    rw [val_append, List.length_take, Nat.min_eq_left (by omega)]
  have h1 := val_lt hB (ho.take i)
  rw [List.length_take, Nat.min_eq_left (by omega)] at h1
  have h2 := val_nonneg hB (hy.take i)
  have h3 : val B (xs.drop i) + 1 ≤ val B (ys.drop i) := by
    rw [val_drop B xs i hi, val_drop B ys i (by omega), hd]; omega
  have h4 := Int.mul_le_mul_of_nonneg_left h3 (Int.le_of_lt (Int.pow_pos hB : 0 < B ^ i))
  rw [Int.mul_add] at h4
  omega
theorem val_take_zeros {B : Int} {xs : List Int} {n : Nat} (hn : n ≤ xs.length) (h : ∀ j, n ≤ j → xs.getD j 0 = 0) : val B (xs.take n) = val B xs := by
  have : ∀ k, n + k ≤ xs.length → val B (xs.take (n + k)) = val B (xs.take n) := by
    intro k
    induction k with
    | zero => intro _; rfl
    | succ k ih =>
      intro hk
      rw [← Nat.add_assoc, val_take, h (n + k) (by omega), ih (by omega)]
      omega
  have h1 := this (xs.length - n) (by omega)
  rw [show n + (xs.length - n) = xs.length by omega, List.take_length] at h1
  exact h1.symm

/-- A sign upon a number. -/
def sg (b : Bool) (x : Int) : Int := if b then -x else x

/-- Which one is the greater. -/
def cmpI (a b : Int) : Int := if a < b then -1 else if a = b then 0 else 1
theorem cmpI_lt {a b : Int} (h : a < b) : cmpI a b = -1 := by unfold cmpI; rw [if_pos h]
theorem cmpI_eq {a b : Int} (h : a = b) : cmpI a b = 0 := by unfold cmpI; rw [if_neg (by omega), if_pos h]
theorem cmpI_gt {a b : Int} (h : b < a) : cmpI a b = 1 := by unfold cmpI; rw [if_neg (by omega), if_neg (by omega)]

end Go.Lg

/- Rows of parts: what the program's inner functions make of them. -/
namespace Go.Proofs.Ytdkamjbcpmlheaa
open Go Go.Gw Go.Lg
set_option pp.deepTerms false
set_option pp.deepTerms.threshold 6
set_option pp.maxSteps 3000

def B32 : Int := 4294967296
theorem B32_pos : 0 < B32 := by decide
theorem shr63 (d : Int) : d.fdiv (2 ^ (min (Int.toNat 63) IntKind.u64.bits)) = d / 9223372036854775808 := by
  have : (2 : Int) ^ (min (Int.toNat 63) IntKind.u64.bits) = 9223372036854775808 := by decide
  rw [this, Int.fdiv_eq_ediv_of_nonneg _ (by decide)]
theorem shr32 (d : Int) : d.fdiv (2 ^ (min (Int.toNat 32) IntKind.u64.bits)) = d / 4294967296 := by
  have : (2 : Int) ^ (min (Int.toNat 32) IntKind.u64.bits) = 4294967296 := by decide
  rw [this, Int.fdiv_eq_ediv_of_nonneg _ (by decide)]
theorem less_step {a u y d : Int} (ha : 0 ≤ a ∧ a < B32) (hu : u = 0 ∨ u = 1) (hy : 0 ≤ y ∧ y < B32) (hd : d = IntKind.u64.wrap (IntKind.u64.wrap (IntKind.u64.wrap a - u) - IntKind.u64.wrap y)) :
    (d / 9223372036854775808 = 0 ∨ d / 9223372036854775808 = 1) ∧ IntKind.u32.wrap d = a - u - y + B32 * (d / 9223372036854775808) ∧ 0 ≤ IntKind.u32.wrap d ∧ IntKind.u32.wrap d < B32 := by
  subst hd
  unfold B32 at *
  simp only [wrap_u64, wrap_u32]
  omega

set_option maxRecDepth 10000 in
theorem made_calls (b : Bool) (xs : List Int) (va : Value) (m : Mo) (hm : m.okm) (ha : m.ints va .u32 xs) (hx : xs.length ≤ 1000000000) :
    Calls Try.prog 39 #[.bool b, va] m.w (Post m fun m v => ∃ n vr, v = .agg #[.bool (b && decide (0 < n)), vr] ∧ m.ints vr .u32 (xs.take n) ∧ n ≤ xs.length ∧ (∀ j, n ≤ j → xs.getD j 0 = 0) ∧ (n = 0 ∨ xs.getD (n - 1) 0 ≠ 0)) := by
  obtain ⟨a, ca, rfl, hca, hsa, hra⟩ := ha
  refine enter2_ Try.f39 _ 30 [a] [⟨none, .ints .u32 xs⟩] [.v (.bool b), .ls 0 0 xs.length ca] (by kernel_rfl) rfl (by kernel_rfl) hm rfl (by simp [okL, AV.ok]) ⟨⟨rfl, hsa, trivial, hra⟩, trivial⟩ ?_
  refine loop_ (ι := Nat) (fun i => [(0, .v (.bool b)), (1, .ls 0 0 xs.length ca), (4, .lp 1 0), (5, .v (.int .i64 i))])
    (fun _ => [⟨none, .ints .u32 xs⟩, ⟨some (25, 2), .lit [.v (.bool false), .v (.slice none 0 0)]⟩])
    (fun i M => m.Le M ∧ i ≤ xs.length ∧ ∀ j, i ≤ j → xs.getD j 0 = 0) (fun i => i) xs.length (M0 := m) ?_ ?_ ?_
  · exact Ref.sub (by exact ⟨rfl, rfl, rfl, rfl, trivial⟩)
  · exact ⟨.refl m, Nat.le_refl _, fun j hj => by simp [List.getD, List.getElem?_eq_none hj]⟩
  · rintro i M1 ⟨h1, h2, h3⟩
    have key : ∀ {σ : Store} {M2 : Mo} {l : List Base} {m' : Mo} (off n c : Nat) (bb : Bool), σ[0]? = some ⟨none, .ints .u32 xs⟩ → Sees ⟨Try.prog, 30, [], m.w, m.L⟩ l σ M2 m' → (∀ b ∈ m.L, b ∈ m'.L) → off = 0 → n = i → c = i → bb = (b && decide (0 < i)) → (i = 0 ∨ xs.getD (i - 1) 0 ≠ 0) →
        ∃ n' vr, conc l (.agg [.v (.bool bb), .ls 0 off n c]) = .agg #[.bool (b && decide (0 < n')), vr] ∧ Mo.ints ⟨m.L, m'.w⟩ vr .u32 (xs.take n') ∧ n' ≤ xs.length ∧ (∀ j, n' ≤ j → xs.getD j 0 = 0) ∧ (n' = 0 ∨ xs.getD (n' - 1) 0 ≠ 0) := by
      intro σ M2 l m' off n c bb hσ s hL e1 e2 e3 e4 e5
      subst e1; subst e2; subst e3; subst e4
      refine ⟨c, conc l (.ls 0 0 c c), rfl, Mo.ints.less ?_ hL, h2, h3, e5⟩
      simpa using s.ints hσ 0 c c (by omega) (Nat.le_refl _)
    refine Br.mk (fun hb => ?_) (fun hb => ?_)
    · have hb : 0 < i := by simpa using hb
      have hw : IntKind.i64.wrap ((i : Int) - 1) = ((i - 1 : Nat) : Int) := by rw [wrap_in _ (by omega) (by omega)]; omega
      have ht : (IntKind.i64.wrap ((i : Int) - 1)).toNat = i - 1 := by rw [hw]; rfl
      refine ix_ (by rw [hw]; omega) (by rw [ht]; show i - 1 < xs.length; omega) ?_
      refine Br.mk (fun hb2 => ?_) (fun hb2 => ?_)
      · rw [ht] at hb2
        refine ⟨i - 1, M1, Ref.sub (by exact ⟨rfl, rfl, rfl, some_nrm hw, trivial⟩), ⟨h1, by omega, fun j hj => ?_⟩, by omega⟩
        by_cases e : j = i - 1
        · subst e; simpa using hb2
        · exact h3 j (by omega)
      · have hz : xs.getD (i - 1) 0 ≠ 0 := by rw [ht] at hb2; simpa using hb2
        refine Br.mk (fun hc => ?_) (fun hc => ?_)
        · refine And.intro ⟨by omega, by omega⟩ (And.intro ⟨by omega, by omega⟩ ?_)
          exact fin_see rfl fun l m' s hL => key _ _ _ _ rfl s hL (by simp) (by simp) (by simp) (by simp [hc]) (.inr hz)
        · refine And.intro ⟨by omega, by omega⟩ (And.intro ⟨by omega, by omega⟩ ?_)
          exact fin_see rfl fun l m' s hL => key _ _ _ _ rfl s hL (by simp) (by simp) (by simp) (by simp [hc]) (.inr hz)
    · have hb : i = 0 := by simpa using hb
      refine Br.mk (fun hc => ?_) (fun hc => ?_)
      · refine And.intro ⟨by omega, by omega⟩ (And.intro ⟨by omega, by omega⟩ ?_)
        exact fin_see rfl fun l m' s hL => key _ _ _ _ rfl s hL (by simp) (by simp) (by simp) (by simp [hc]) (.inl hb)
      · refine And.intro ⟨by omega, by omega⟩ (And.intro ⟨by omega, by omega⟩ ?_)
        exact fin_see rfl fun l m' s hL => key _ _ _ _ rfl s hL (by simp) (by simp) (by simp) (by simp [hc]) (.inl hb)

set_option maxRecDepth 10000 in
theorem clone_calls (xs : List Int) (va : Value) (m : Mo) (hm : m.okm) (ha : m.ints va .u32 xs) (hx : xs.length ≤ 1000000000) :
    Calls Try.prog 53 #[va] m.w fun en w' => ∃ v zs, en = .returned v ∧ Fr [] m.w w' ∧ zs = xs ∧ Mo.own ⟨[], w'⟩ m.w.heap.size 60 v .u32 zs := by
  have ha0 := ha
  obtain ⟨a, ca, rfl, hca, hsa, hra⟩ := ha
  refine enter_ Try.f53 _ 8 (args := [.slice (Base.up a 0) xs.length ca]) (by kernel_rfl) rfl (by kernel_rfl) hm ?_
  refine Br.mk (fun hb => ?_) (fun hb => ?_)
  · refine fin_none (I := fun zs => zs = xs) rfl ?_
    cases a with
    | none =>
      rcases hra with h | ⟨b, o, h, _⟩
      · exact (List.map_eq_nil_iff.1 h).symm
      · cases h
    | some a => cases hb
  · refine app_ .u32 (xs := []) (news := xs) rfl (fun _ => rfl) rfl (by kernel_rfl) (by kernel_rfl) (rd_op (e' := 60) (by kernel_rfl) ha0) (by simp; omega) fun cap' hc => ?_
    refine fin_mine (I := fun zs => zs = xs) rfl rfl ?_ ?_
    · simp
    · simp
set_option maxRecDepth 10000 in
theorem cmp_calls (xs ys : List Int) (va vb : Value) (m : Mo) (hm : m.okm) (ha : m.ints va .u32 xs) (hb : m.ints vb .u32 ys) (ox : okd B32 xs) (oy : okd B32 ys) (nx : nrmd xs) (ny : nrmd ys) (hx : xs.length ≤ 1000000000) :
    Calls Try.prog 44 #[va, vb] m.w (Post m fun _ v => v = .int .i64 (cmpI (val B32 xs) (val B32 ys))) := by
  obtain ⟨a, ca, rfl, hca, hsa, hra⟩ := ha
  obtain ⟨b, cb, rfl, hcb, hsb, hrb⟩ := hb
  refine enter2_ Try.f44 _ 43 [a, b] [⟨none, .ints .u32 xs⟩, ⟨none, .ints .u32 ys⟩] [.ls 0 0 xs.length ca, .ls 1 0 ys.length cb] (by kernel_rfl) rfl (by kernel_rfl) hm rfl (by simp [okL, AV.ok]) ⟨⟨rfl, hsa, trivial, hra⟩, ⟨rfl, hsb, trivial, hrb⟩, trivial⟩ ?_
  refine Br.mk (fun h0 => ?_) (fun h0 => ?_)
  · refine Br.mk (fun h1 => ?_) (fun h1 => ?_)
    · have h1 : xs.length < ys.length := by simpa using h1
      exact fin_val rfl fun _ _ => by rw [cmpI_lt (val_lt_len B32_pos ox oy ny h1)]
    · have h1 : ys.length < xs.length := by simp at h0 h1; omega
      exact fin_val rfl fun _ _ => by rw [cmpI_gt (val_lt_len B32_pos oy ox nx h1)]
  have h0 : xs.length = ys.length := by simp at h0; omega
  have hw : IntKind.i64.wrap ((xs.length : Int) - 1) = (xs.length : Int) - 1 := wrap_in _ (by omega) (by omega)
  refine loop_ (ι := Nat) (fun i => [(0, .ls 0 0 xs.length ca), (1, .ls 1 0 ys.length cb), (5, .v (.int .i64 ((i : Int) - 1)))]) (fun _ => [⟨none, .ints .u32 xs⟩, ⟨none, .ints .u32 ys⟩])
    (fun i _ => i ≤ xs.length ∧ xs.drop i = ys.drop i) (fun i => i) xs.length (M0 := m) ?_ ?_ ?_
  · exact Ref.sub (by exact ⟨rfl, rfl, some_nrm hw, trivial⟩)
  · exact ⟨Nat.le_refl _, by rw [List.drop_eq_nil_of_le (by omega), List.drop_eq_nil_of_le (by omega)]⟩
  rintro i M1 ⟨h2, h3⟩
  refine Br.mk (fun hb => ?_) (fun hb => ?_)
  · have hb : 1 ≤ i := by simp at hb; omega
    refine draw_ [] [0, 1, 2, 3, 4, 5, 6, 7, 8, 9] [] [] [] (by kernel_rfl) rfl rfl ?_
    have ht : ((i : Int) - 1).toNat = i - 1 := by omega
    have d1 : xs.drop (i - 1 + 1) = ys.drop (i - 1 + 1) := by rw [Nat.sub_add_cancel hb]; exact h3
    refine ix_ ⟨by omega, by omega⟩ (by rw [ht]; show i - 1 < xs.length; omega) ?_
    refine ix_ ⟨by omega, by omega⟩ (by rw [ht]; show i - 1 < ys.length; omega) ?_
    refine Br.mk (fun hc => ?_) (fun hc => ?_)
    · refine fin_val rfl fun _ _ => ?_
      have hc : xs.getD (i - 1) 0 < ys.getD (i - 1) 0 := by simpa [ht] using hc
      rw [cmpI_lt (val_cmp B32_pos ox oy h0 (i - 1) (by omega) d1 hc)]
    · refine draw_ [] [0, 1, 2, 3, 4, 5, 6, 7, 8, 9] [] [] [] (by kernel_rfl) rfl rfl ?_
      refine ix_ ⟨by omega, by omega⟩ (by rw [ht]; show i - 1 < xs.length; omega) ?_
      refine ix_ ⟨by omega, by omega⟩ (by rw [ht]; show i - 1 < ys.length; omega) ?_
      refine Br.mk (fun hd => ?_) (fun hd => ?_)
      · refine fin_val rfl fun _ _ => ?_
        have hd : ys.getD (i - 1) 0 < xs.getD (i - 1) 0 := by simpa [ht] using hd
        rw [cmpI_gt (val_cmp B32_pos oy ox h0.symm (i - 1) (by omega) d1.symm hd)]
      · have hc : ys.getD (i - 1) 0 ≤ xs.getD (i - 1) 0 := by simpa [ht] using hc
        have hd : xs.getD (i - 1) 0 ≤ ys.getD (i - 1) 0 := by simpa [ht] using hd
        refine ⟨i - 1, M1, Ref.sub (by exact ⟨rfl, rfl, some_nrm (by rw [wrap_in _ (by omega) (by omega)]; omega), trivial⟩), ⟨by omega, ?_⟩, by omega⟩
        rw [drop_getD xs (i - 1) (by omega), drop_getD ys (i - 1) (by omega), d1]
        congr 1
        omega
  · refine fin_val rfl fun _ _ => ?_
    have hb : i = 0 := by simp at hb; omega
    subst hb
    rw [cmpI_eq (by simpa using congrArg (val B32) h3)]

set_option maxRecDepth 10000 in
theorem less_calls (xs ys : List Int) (va vb : Value) (m : Mo) (hm : m.okm) (ha : m.ints va .u32 xs) (hb : m.ints vb .u32 ys) (ox : okd B32 xs) (oy : okd B32 ys) (hl : ys.length ≤ xs.length) (hv : val B32 ys ≤ val B32 xs) (hx : xs.length ≤ 1000000000) :
    Calls Try.prog 45 #[va, vb] m.w (PostF m fun m v => ∃ zs, (zs.length = xs.length ∧ okd B32 zs ∧ val B32 zs = val B32 xs - val B32 ys) ∧ m.ints v .u32 zs) := by
  obtain ⟨a, ca, rfl, hca, hsa, hra⟩ := ha
  obtain ⟨b, cb, rfl, hcb, hsb, hrb⟩ := hb
  refine enter2_ Try.f45 _ 43 [a, b] [⟨none, .ints .u32 xs⟩, ⟨none, .ints .u32 ys⟩] [.ls 0 0 xs.length ca, .ls 1 0 ys.length cb] (by kernel_rfl) rfl (by kernel_rfl) hm rfl (by simp [okL, AV.ok]) ⟨⟨rfl, hsa, trivial, hra⟩, ⟨rfl, hsb, trivial, hrb⟩, trivial⟩ ?_
  refine callo_ (I := fun zs => zs = xs) (by kernel_rfl) (fun l w hr => clone_calls xs _ ⟨_, w⟩ hr.bds (hr.ints_ro (id := 0) rfl hca) hx) ?_
  intro M c xs' le hxs hc
  subst hxs
  refine loop_ (ι := Nat × List Int × Int) (fun i => [(13, .v (.int .i64 i.1)), (12, .v (.int .i64 xs'.length)), (5, .ls 2 0 xs'.length c), (6, .v (.int .u64 i.2.2)), (1, .ls 1 0 ys.length cb)])
    (fun i => [⟨none, .ints .u32 xs'⟩, ⟨none, .ints .u32 ys⟩, ⟨some (60, c), .ints .u32 i.2.1⟩])
    (fun i _ => i.2.1.length = xs'.length ∧ i.1 ≤ xs'.length ∧ i.2.1.drop i.1 = xs'.drop i.1 ∧ okd B32 (i.2.1.take i.1) ∧ (i.2.2 = 0 ∨ i.2.2 = 1) ∧ val B32 (i.2.1.take i.1) = val B32 (xs'.take i.1) - val B32 (ys.take i.1) + B32 ^ i.1 * i.2.2) (fun i => xs'.length - i.1) (0, xs', 0) (M0 := M) ?_ ?_ ?_
  · exact Ref.sub (by exact ⟨rfl, rfl, rfl, rfl, rfl, trivial⟩)
  · exact ⟨rfl, Nat.zero_le _, rfl, okd.nil _, .inl rfl, rfl⟩
  rintro ⟨i, out, u⟩ M1 ⟨h1, h2, h3, h4, h5, h6⟩
  simp only at h1 h2 h3 h4 h5 h6
  have hgo : out.getD i 0 = xs'.getD i 0 := by
    have := congrArg (fun l => l.getD 0 0) h3
    simpa [List.getD] using this
  have ro := ox.getD B32_pos i
  have ry := oy.getD B32_pos i
  have fin : ∀ (w u' : Int), i < xs'.length → (u' = 0 ∨ u' = 1) → w = out.getD i 0 - u - ys.getD i 0 + B32 * u' → (0 ≤ w ∧ w < B32) →
      (out.set i w).length = xs'.length ∧ i + 1 ≤ xs'.length ∧ (out.set i w).drop (i + 1) = xs'.drop (i + 1) ∧ okd B32 ((out.set i w).take (i + 1)) ∧ (u' = 0 ∨ u' = 1) ∧ val B32 ((out.set i w).take (i + 1)) = val B32 (xs'.take (i + 1)) - val B32 (ys.take (i + 1)) + B32 ^ (i + 1) * u' := by
    intro w u' hlt g1 g2 g3
    refine ⟨by simpa using h1, by omega, ?_, ?_, g1, ?_⟩
    · rw [set_drop']
      have := congrArg (fun l => l.drop 1) h3
      simpa using this
    · rw [set_take _ _ _ (by omega)]; exact h4.snoc g3
    · rw [set_take _ _ _ (by omega), val_snoc, List.length_take, Nat.min_eq_left (by omega), h6, val_take B32 xs' i, val_take B32 ys i, g2, hgo, Int.pow_succ]
      simp only [Int.mul_add, Int.mul_sub, Int.mul_assoc]
      omega
  refine Br.mk (fun hb => ?_) (fun hb => ?_)
  · have hlt : i < xs'.length := by simpa using hb
    refine ix_ (by omega) (by show (i : Int).toNat < out.length; omega) ?_
    refine Br.mk (fun hb2 => ?_) (fun hb2 => ?_)
    · have hlt2 : i < ys.length := by simpa using hb2
      refine ix_ (by omega) (by show (i : Int).toNat < ys.length; omega) ?_
      refine ix_ (by omega) (by show (i : Int).toNat < out.length; omega) ?_
      refine And.intro (by decide) ?_
      obtain ⟨s1, s2, s3, s4⟩ := less_step (a := out.getD i 0) (y := ys.getD i 0) (hgo ▸ ro) h5 ry rfl
      exact ⟨(i + 1, out.set i _, _), M1, Ref.sub (by exact ⟨some_nrm (wrap_in _ (by omega) (by omega)), rfl, rfl, some_nrm (shr63 _), rfl, trivial⟩), fin _ _ hlt s1 s2 ⟨s3, s4⟩, by simp only; omega⟩
    · have hlt2 : ys.length ≤ i := by simpa using hb2
      refine ix_ (by omega) (by show (i : Int).toNat < out.length; omega) ?_
      refine And.intro (by decide) ?_
      have e0 : ys.getD i 0 = 0 := by simp [List.getD, List.getElem?_eq_none hlt2]
      obtain ⟨s1, s2, s3, s4⟩ := less_step (a := out.getD i 0) (y := 0) (hgo ▸ ro) h5 (by decide) rfl
      rw [show IntKind.u64.wrap (IntKind.u64.wrap (IntKind.u64.wrap (out.getD i 0) - u) - IntKind.u64.wrap 0) = IntKind.u64.wrap (IntKind.u64.wrap (out.getD i 0) - u) by simp only [wrap_u64]; omega] at s1 s2 s3 s4
      exact ⟨(i + 1, out.set i _, _), M1, Ref.sub (by exact ⟨some_nrm (wrap_in _ (by omega) (by omega)), rfl, rfl, some_nrm (shr63 _), rfl, trivial⟩), fin _ _ hlt s1 (by rw [e0]; exact s2) ⟨s3, s4⟩, by simp only; omega⟩
  · have hb : i = xs'.length := by simp at hb; omega
    subst hb
    rw [List.take_of_length_le (by omega), List.take_of_length_le (Nat.le_refl _), List.take_of_length_le (by omega)] at h6
    rw [List.take_of_length_le (by omega)] at h4
    refine fin_own rfl rfl h1.symm (by omega) ⟨h1, h4, ?_⟩
    have h7 := val_lt B32_pos h4
    rw [h1] at h7
    rcases h5 with h5 | h5
    · rw [h6, h5]; omega
    · rw [h5] at h6; omega

theorem plus_step {o a y d : Int} (ha : 0 ≤ a ∧ a < B32) (hu : o = 0 ∨ o = 1) (hy : 0 ≤ y ∧ y < B32) (hd : d = IntKind.u64.wrap (IntKind.u64.wrap (o + IntKind.u64.wrap a) + IntKind.u64.wrap y)) :
    (d / 4294967296 = 0 ∨ d / 4294967296 = 1) ∧ IntKind.u32.wrap d = o + a + y - B32 * (d / 4294967296) ∧ 0 ≤ IntKind.u32.wrap d ∧ IntKind.u32.wrap d < B32 := by
  subst hd
  unfold B32 at *
  simp only [wrap_u64, wrap_u32]
  omega


set_option maxRecDepth 10000 in
theorem plus_calls (xs ys : List Int) (va vb : Value) (m : Mo) (hm : m.okm) (ha : m.ints va .u32 xs) (hb : m.ints vb .u32 ys) (ox : okd B32 xs) (oy : okd B32 ys) (hx : xs.length ≤ 1000000000) (hy : ys.length ≤ 1000000000) :
    Calls Try.prog 43 #[va, vb] m.w (PostF m fun m v => ∃ zs, (zs.length ≤ max xs.length ys.length + 1 ∧ okd B32 zs ∧ val B32 zs = val B32 xs + val B32 ys) ∧ m.ints v .u32 zs) := by
  obtain ⟨a, ca, rfl, hca, hsa, hra⟩ := ha
  obtain ⟨b, cb, rfl, hcb, hsb, hrb⟩ := hb
  refine enter2_ Try.f43 _ 54 [a, b] [⟨none, .ints .u32 xs⟩, ⟨none, .ints .u32 ys⟩] [.ls 0 0 xs.length ca, .ls 1 0 ys.length cb] (by kernel_rfl) rfl (by kernel_rfl) hm rfl (by simp [okL, AV.ok]) ⟨⟨rfl, hsa, trivial, hra⟩, ⟨rfl, hsb, trivial, hrb⟩, trivial⟩ ?_
  refine Br.mk (fun h0 => ?_) (fun h0 => ?_)
  · have h0 : xs.length < ys.length := by simpa using h0
    refine mk_ (e := 60) .u32 (ys.length + 1) (by kernel_rfl) (by kernel_rfl) (by rw [wrap_in _ (by omega) (by omega)]; omega) (by omega) ?_
    refine cpy_ 60 (xs := List.replicate (ys.length + 1) 0) (news := ys) rfl (by simp) (by kernel_rfl) (by kernel_rfl) (rd_row (id := 1) (own := none) (e' := 60) (by kernel_rfl) rfl cb) rfl ?_
    have e1 : (List.replicate (ys.length + 1) (0 : Int)).take 0 ++ ys.take (min ys.length (ys.length + 1)) ++ (List.replicate (ys.length + 1) (0 : Int)).drop (0 + min ys.length (ys.length + 1)) = ys ++ [0] := by
      rw [Nat.min_eq_left (by omega)]
      simp [List.drop_replicate]
    refine loop_ (ι := Nat × List Int × Int) (fun i => [(24, .v (.int .i64 i.1)), (23, .v (.int .i64 (ys.length + 1 : Nat))), (5, .ls 1 0 (ys.length + 1) (ys.length + 1)), (6, .v (.int .u64 i.2.2)), (1, .ls 0 0 xs.length ca)])
      (fun i => [⟨none, .ints .u32 xs⟩, ⟨some (60, ys.length + 1), .ints .u32 i.2.1⟩])
      (fun i _ => i.2.1.length = ys.length + 1 ∧ i.1 ≤ ys.length + 1 ∧ i.2.1.drop i.1 = (ys ++ [0]).drop i.1 ∧ okd B32 (i.2.1.take i.1) ∧ (i.2.2 = 0 ∨ i.2.2 = 1) ∧ val B32 (i.2.1.take i.1) = val B32 ((ys ++ [0]).take i.1) + val B32 (xs.take i.1) - B32 ^ i.1 * i.2.2) (fun i => ys.length + 1 - i.1) (0, ys ++ [0], 0) (M0 := m) ?_ ?_ ?_
    · exact Ref.ren [some 0, some 2] (by rfl) (by exact ⟨⟨rfl, trivial⟩, ⟨some_nrm rfl, trivial⟩, ⟨rfl, by simp [AV.ok]⟩, ⟨rfl, trivial⟩, ⟨rfl, by simp [AV.ok]⟩, trivial⟩) (by exact ⟨⟨rfl, trivial⟩, ⟨congrArg (fun z => some (Ob.mk _ (.ints .u32 z))) e1, trivial⟩, trivial⟩)
    · exact ⟨by simp, Nat.zero_le _, rfl, okd.nil _, .inl rfl, rfl⟩
    rintro ⟨i, out, u⟩ M1 ⟨h1, h2, h3, h4, h5, h6⟩
    simp only at h1 h2 h3 h4 h5 h6
    have ox1 : okd B32 (ys ++ [0]) := (oy).snoc (by decide)
    have hgo : out.getD i 0 = (ys ++ [0]).getD i 0 := by
      have := congrArg (fun l => l.getD 0 0) h3
      simpa [List.getD, List.getElem?_drop] using this
    have ro := ox1.getD B32_pos i
    have ry := (ox).getD B32_pos i
    have fin : ∀ (w u' : Int), i < ys.length + 1 → (u' = 0 ∨ u' = 1) → w = u + out.getD i 0 + xs.getD i 0 - B32 * u' → (0 ≤ w ∧ w < B32) →
        (out.set i w).length = ys.length + 1 ∧ i + 1 ≤ ys.length + 1 ∧ (out.set i w).drop (i + 1) = (ys ++ [0]).drop (i + 1) ∧ okd B32 ((out.set i w).take (i + 1)) ∧ (u' = 0 ∨ u' = 1) ∧ val B32 ((out.set i w).take (i + 1)) = val B32 ((ys ++ [0]).take (i + 1)) + val B32 (xs.take (i + 1)) - B32 ^ (i + 1) * u' := by
      intro w u' hlt g1 g2 g3
      refine ⟨by simpa using h1, by omega, ?_, ?_, g1, ?_⟩
      · rw [set_drop']
        have := congrArg (fun l => l.drop 1) h3
        simpa [List.drop_drop] using this
      · rw [set_take _ _ _ (by omega)]; exact h4.snoc g3
      · rw [set_take _ _ _ (by omega), val_snoc, List.length_take, Nat.min_eq_left (by omega), h6, val_take B32 (ys ++ [0]) i, val_take B32 xs i, g2, hgo, Int.pow_succ]
        simp only [Int.mul_add, Int.mul_sub, Int.mul_assoc]
        omega
    refine Br.mk (fun hb => ?_) (fun hb => ?_)
    · have hlt : i < ys.length + 1 := by simp at hb; omega
      refine ix_ ⟨by omega, by omega⟩ (by show (i : Int).toNat < out.length; omega) ?_
      refine Br.mk (fun hb2 => ?_) (fun hb2 => ?_)
      · have hlt2 : i < xs.length := by simpa using hb2
        refine ix_ (by omega) (by show (i : Int).toNat < xs.length; omega) ?_
        refine ix_ ⟨by omega, by omega⟩ (by show (i : Int).toNat < out.length; omega) ?_
        refine And.intro (by decide) ?_
        obtain ⟨s1, s2, s3, s4⟩ := plus_step (a := out.getD i 0) (y := xs.getD i 0) (hgo ▸ ro) h5 ry rfl
        exact ⟨(i + 1, out.set i _, _), M1, Ref.sub (by exact ⟨some_nrm (wrap_in _ (by omega) (by omega)), rfl, rfl, some_nrm (shr32 _), rfl, trivial⟩), fin _ _ hlt s1 s2 ⟨s3, s4⟩, by simp only; omega⟩
      · have hlt2 : xs.length ≤ i := by simpa using hb2
        refine ix_ ⟨by omega, by omega⟩ (by show (i : Int).toNat < out.length; omega) ?_
        refine And.intro (by decide) ?_
        have e0 : xs.getD i 0 = 0 := by simp [List.getD, List.getElem?_eq_none hlt2]
        obtain ⟨s1, s2, s3, s4⟩ := plus_step (a := out.getD i 0) (y := 0) (hgo ▸ ro) h5 (by decide) rfl
        rw [show IntKind.u64.wrap (IntKind.u64.wrap (u + IntKind.u64.wrap (out.getD i 0)) + IntKind.u64.wrap 0) = IntKind.u64.wrap (u + IntKind.u64.wrap (out.getD i 0)) by simp only [wrap_u64]; omega] at s1 s2 s3 s4
        exact ⟨(i + 1, out.set i _, _), M1, Ref.sub (by exact ⟨some_nrm (wrap_in _ (by omega) (by omega)), rfl, rfl, some_nrm (shr32 _), rfl, trivial⟩), fin _ _ hlt s1 (by rw [e0]; exact s2) ⟨s3, s4⟩, by simp only; omega⟩
    · have hb : i = ys.length + 1 := by simp at hb; omega
      subst hb
      rw [List.take_of_length_le (by omega), List.take_of_length_le (by simp), List.take_of_length_le (by omega), val_snoc] at h6
      rw [List.take_of_length_le (by omega)] at h4
      refine fin_own rfl rfl h1.symm (by omega) ⟨by simp only; omega, h4, ?_⟩
      simp only
      have h7 := val_nonneg B32_pos h4
      have h8 := val_lt B32_pos oy
      have h9 := val_lt B32_pos ox
      have h10 := pow_mono (B := B32) B32_pos (show xs.length ≤ ys.length by omega)
      rcases h5 with h5 | h5
      · rw [h6, h5]; omega
      · rw [h5, Int.pow_succ] at h6
        have : B32 ^ ys.length * B32 = B32 ^ ys.length * 4294967296 := rfl
        have : 0 < B32 ^ ys.length := Int.pow_pos B32_pos
        omega
  · have h0 : ys.length ≤ xs.length := by simpa using h0
    refine mk_ (e := 60) .u32 (xs.length + 1) (by kernel_rfl) (by kernel_rfl) (by rw [wrap_in _ (by omega) (by omega)]; omega) (by omega) ?_
    refine cpy_ 60 (xs := List.replicate (xs.length + 1) 0) (news := xs) rfl (by simp) (by kernel_rfl) (by kernel_rfl) (rd_row (id := 0) (own := none) (e' := 60) (by kernel_rfl) rfl ca) rfl ?_
    have e1 : (List.replicate (xs.length + 1) (0 : Int)).take 0 ++ xs.take (min xs.length (xs.length + 1)) ++ (List.replicate (xs.length + 1) (0 : Int)).drop (0 + min xs.length (xs.length + 1)) = xs ++ [0] := by
      rw [Nat.min_eq_left (by omega)]
      simp [List.drop_replicate]
    refine loop_ (ι := Nat × List Int × Int) (fun i => [(24, .v (.int .i64 i.1)), (23, .v (.int .i64 (xs.length + 1 : Nat))), (5, .ls 1 0 (xs.length + 1) (xs.length + 1)), (6, .v (.int .u64 i.2.2)), (1, .ls 0 0 ys.length cb)])
      (fun i => [⟨none, .ints .u32 ys⟩, ⟨some (60, xs.length + 1), .ints .u32 i.2.1⟩])
      (fun i _ => i.2.1.length = xs.length + 1 ∧ i.1 ≤ xs.length + 1 ∧ i.2.1.drop i.1 = (xs ++ [0]).drop i.1 ∧ okd B32 (i.2.1.take i.1) ∧ (i.2.2 = 0 ∨ i.2.2 = 1) ∧ val B32 (i.2.1.take i.1) = val B32 ((xs ++ [0]).take i.1) + val B32 (ys.take i.1) - B32 ^ i.1 * i.2.2) (fun i => xs.length + 1 - i.1) (0, xs ++ [0], 0) (M0 := m) ?_ ?_ ?_
    · exact Ref.ren [some 1, some 2] (by rfl) (by exact ⟨⟨rfl, trivial⟩, ⟨some_nrm rfl, trivial⟩, ⟨rfl, by simp [AV.ok]⟩, ⟨rfl, trivial⟩, ⟨rfl, by simp [AV.ok]⟩, trivial⟩) (by exact ⟨⟨rfl, trivial⟩, ⟨congrArg (fun z => some (Ob.mk _ (.ints .u32 z))) e1, trivial⟩, trivial⟩)
    · exact ⟨by simp, Nat.zero_le _, rfl, okd.nil _, .inl rfl, rfl⟩
    rintro ⟨i, out, u⟩ M1 ⟨h1, h2, h3, h4, h5, h6⟩
    simp only at h1 h2 h3 h4 h5 h6
    have ox1 : okd B32 (xs ++ [0]) := (ox).snoc (by decide)
    have hgo : out.getD i 0 = (xs ++ [0]).getD i 0 := by
      have := congrArg (fun l => l.getD 0 0) h3
      simpa [List.getD, List.getElem?_drop] using this
    have ro := ox1.getD B32_pos i
    have ry := (oy).getD B32_pos i
    have fin : ∀ (w u' : Int), i < xs.length + 1 → (u' = 0 ∨ u' = 1) → w = u + out.getD i 0 + ys.getD i 0 - B32 * u' → (0 ≤ w ∧ w < B32) →
        (out.set i w).length = xs.length + 1 ∧ i + 1 ≤ xs.length + 1 ∧ (out.set i w).drop (i + 1) = (xs ++ [0]).drop (i + 1) ∧ okd B32 ((out.set i w).take (i + 1)) ∧ (u' = 0 ∨ u' = 1) ∧ val B32 ((out.set i w).take (i + 1)) = val B32 ((xs ++ [0]).take (i + 1)) + val B32 (ys.take (i + 1)) - B32 ^ (i + 1) * u' := by
      intro w u' hlt g1 g2 g3
      refine ⟨by simpa using h1, by omega, ?_, ?_, g1, ?_⟩
      · rw [set_drop']
        have := congrArg (fun l => l.drop 1) h3
        simpa [List.drop_drop] using this
      · rw [set_take _ _ _ (by omega)]; exact h4.snoc g3
      · rw [set_take _ _ _ (by omega), val_snoc, List.length_take, Nat.min_eq_left (by omega), h6, val_take B32 (xs ++ [0]) i, val_take B32 ys i, g2, hgo, Int.pow_succ]
        simp only [Int.mul_add, Int.mul_sub, Int.mul_assoc]
        omega
    refine Br.mk (fun hb => ?_) (fun hb => ?_)
    · have hlt : i < xs.length + 1 := by simp at hb; omega
      refine ix_ ⟨by omega, by omega⟩ (by show (i : Int).toNat < out.length; omega) ?_
      refine Br.mk (fun hb2 => ?_) (fun hb2 => ?_)
      · have hlt2 : i < ys.length := by simpa using hb2
        refine ix_ (by omega) (by show (i : Int).toNat < ys.length; omega) ?_
        refine ix_ ⟨by omega, by omega⟩ (by show (i : Int).toNat < out.length; omega) ?_
        refine And.intro (by decide) ?_
        obtain ⟨s1, s2, s3, s4⟩ := plus_step (a := out.getD i 0) (y := ys.getD i 0) (hgo ▸ ro) h5 ry rfl
        exact ⟨(i + 1, out.set i _, _), M1, Ref.sub (by exact ⟨some_nrm (wrap_in _ (by omega) (by omega)), rfl, rfl, some_nrm (shr32 _), rfl, trivial⟩), fin _ _ hlt s1 s2 ⟨s3, s4⟩, by simp only; omega⟩
      · have hlt2 : ys.length ≤ i := by simpa using hb2
        refine ix_ ⟨by omega, by omega⟩ (by show (i : Int).toNat < out.length; omega) ?_
        refine And.intro (by decide) ?_
        have e0 : ys.getD i 0 = 0 := by simp [List.getD, List.getElem?_eq_none hlt2]
        obtain ⟨s1, s2, s3, s4⟩ := plus_step (a := out.getD i 0) (y := 0) (hgo ▸ ro) h5 (by decide) rfl
        rw [show IntKind.u64.wrap (IntKind.u64.wrap (u + IntKind.u64.wrap (out.getD i 0)) + IntKind.u64.wrap 0) = IntKind.u64.wrap (u + IntKind.u64.wrap (out.getD i 0)) by simp only [wrap_u64]; omega] at s1 s2 s3 s4
        exact ⟨(i + 1, out.set i _, _), M1, Ref.sub (by exact ⟨some_nrm (wrap_in _ (by omega) (by omega)), rfl, rfl, some_nrm (shr32 _), rfl, trivial⟩), fin _ _ hlt s1 (by rw [e0]; exact s2) ⟨s3, s4⟩, by simp only; omega⟩
    · have hb : i = xs.length + 1 := by simp at hb; omega
      subst hb
      rw [List.take_of_length_le (by omega), List.take_of_length_le (by simp), List.take_of_length_le (by omega), val_snoc] at h6
      rw [List.take_of_length_le (by omega)] at h4
      refine fin_own rfl rfl h1.symm (by omega) ⟨by simp only; omega, h4, ?_⟩
      simp only
      have h7 := val_nonneg B32_pos h4
      have h8 := val_lt B32_pos ox
      have h9 := val_lt B32_pos oy
      have h10 := pow_mono (B := B32) B32_pos (show ys.length ≤ xs.length by omega)
      rcases h5 with h5 | h5
      · rw [h6, h5]; omega
      · rw [h5, Int.pow_succ] at h6
        have : B32 ^ xs.length * B32 = B32 ^ xs.length * 4294967296 := rfl
        have : 0 < B32 ^ xs.length := Int.pow_pos B32_pos
        omega

end Go.Proofs.Ytdkamjbcpmlheaa

/- Rows of parts: what the program's inner functions make of them, second part. -/
namespace Go.Proofs.Ytdkamjbcpmlheaa
open Go Go.Gw Go.Lg
set_option pp.deepTerms false
set_option pp.deepTerms.threshold 6
set_option pp.maxSteps 3000

theorem shl32 (d : Int) (h0 : 0 ≤ d) (h : d < 4294967296) : IntKind.u64.wrap (d * 2 ^ (min (Int.toNat 32) IntKind.u64.bits)) = d * 4294967296 := by
  have : (2 : Int) ^ (min (Int.toNat 32) IntKind.u64.bits) = 4294967296 := by decide
  rw [this, wrap_u64]; omega
theorem by_step {r a b t : Int} (hr : 0 ≤ r ∧ r < b) (ha : 0 ≤ a ∧ a < B32) (hb : 0 < b ∧ b < B32)
    (ht : t = IntKind.u64.wrap (((BitVec.ofInt IntKind.u64.bits (IntKind.u64.wrap (r * 2 ^ (min (Int.toNat 32) IntKind.u64.bits))) ||| BitVec.ofInt IntKind.u64.bits (IntKind.u64.wrap a)).toNat : Nat) : Int)) :
    t = r * B32 + a ∧ IntKind.u64.wrap b = b ∧ IntKind.u32.wrap (IntKind.u64.wrap (t.tdiv (IntKind.u64.wrap b))) = t / b ∧ t.tmod (IntKind.u64.wrap b) = t % b ∧ 0 ≤ t / b ∧ t / b < B32 ∧ 0 ≤ t % b ∧ t % b < b := by
  unfold B32 at *
  have e1 : IntKind.u64.wrap a = a := by rw [wrap_u64]; omega
  rw [shl32 r (by omega) (by omega), e1, or64 32 (r * 4294967296) a (by omega) (by rw [show (2 : Int) ^ 32 = 4294967296 by decide]; omega) (by omega) (by rw [show (2 : Int) ^ 32 = 4294967296 by decide]; omega) (by omega)] at ht
  have h0 : 0 ≤ t := by omega
  have h1 : t / b < 4294967296 := by
    apply Int.ediv_lt_of_lt_mul hb.1
    have : r * 4294967296 + 4294967296 ≤ b * 4294967296 := by omega
    rw [Int.mul_comm 4294967296 b]
    omega
  have h2 : 0 ≤ t / b := Int.ediv_nonneg h0 (by omega)
  have h3 : IntKind.u64.wrap b = b := by rw [wrap_u64]; omega
  rw [h3]
  refine ⟨ht, rfl, ?_, Int.tmod_eq_emod_of_nonneg h0, h2, h1, Int.emod_nonneg _ (by omega), Int.emod_lt_of_pos _ hb.1⟩
  rw [Int.tdiv_eq_ediv_of_nonneg h0, wrap_u64, wrap_u32]
  generalize t / b = q at *
  omega

set_option maxRecDepth 10000 in
theorem by_calls (xs : List Int) (va : Value) (b : Int) (m : Mo) (hm : m.okm) (ha : m.ints va .u32 xs) (ox : okd B32 xs) (hb : 0 < b ∧ b < B32) (hx : xs.length ≤ 1000000000) :
    Calls Try.prog 41 #[va, .int .u32 b] m.w (Post m fun m v => ∃ vq qs r, v = .tuple #[vq, .int .u32 r] ∧ m.ints vq .u32 qs ∧ qs.length = xs.length ∧ okd B32 qs ∧ (0 ≤ r ∧ r < b) ∧ val B32 xs = val B32 qs * b + r) := by
  obtain ⟨a, ca, rfl, hca, hsa, hra⟩ := ha
  refine enter2_ Try.f41 _ 42 [a] [⟨none, .ints .u32 xs⟩] [.ls 0 0 xs.length ca, .v (.int .u32 b)] (by kernel_rfl) rfl (by kernel_rfl) hm rfl (by simp [okL, AV.ok]) ⟨⟨rfl, hsa, trivial, hra⟩, trivial⟩ ?_
  refine mk_ (e := 60) .u32 xs.length (by kernel_rfl) (by kernel_rfl) rfl (by omega) ?_
  refine loop_ (ι := Nat × List Int × Int) (fun i => [(8, .v (.int .i64 ((i.1 : Int) - 1))), (7, .v (.int .u64 i.2.2)), (6, .ls 1 0 xs.length xs.length), (0, .ls 0 0 xs.length ca), (1, .v (.int .u32 b))])
    (fun i => [⟨none, .ints .u32 xs⟩, ⟨some (60, xs.length), .ints .u32 i.2.1⟩])
    (fun i _ => i.2.1.length = xs.length ∧ i.1 ≤ xs.length ∧ okd B32 (i.2.1.drop i.1) ∧ (0 ≤ i.2.2 ∧ i.2.2 < b) ∧ val B32 (xs.drop i.1) = val B32 (i.2.1.drop i.1) * b + i.2.2) (fun i => i.1) (xs.length, List.replicate xs.length 0, 0) (M0 := m) ?_ ?_ ?_
  · exact Ref.sub (by exact ⟨some_nrm (wrap_in _ (by omega) (by omega)), rfl, rfl, rfl, rfl, trivial⟩)
  · exact ⟨by simp, Nat.le_refl _, by rw [List.drop_eq_nil_of_le (by simp)]; exact okd.nil _, ⟨by simp, by simpa using hb.1⟩, by rw [List.drop_eq_nil_of_le (by simp), List.drop_eq_nil_of_le (by simp)]; simp [val]⟩
  rintro ⟨i, out, r⟩ M1 ⟨h1, h2, h3, h4, h5⟩
  simp only at h1 h2 h3 h4 h5
  have fin : ∀ (k : Nat) (q r' t : Int), 1 ≤ i → k = i - 1 → q = t / b → r' = t % b → t = r * B32 + xs.getD (i - 1) 0 →
      (out.set k q).length = xs.length ∧ i - 1 ≤ xs.length ∧ okd B32 ((out.set k q).drop (i - 1)) ∧ (0 ≤ r' ∧ r' < b) ∧ val B32 (xs.drop (i - 1)) = val B32 ((out.set k q).drop (i - 1)) * b + r' := by
    intro k q r' t hi ek eq er et
    subst ek
    have ro := ox.getD B32_pos (i - 1)
    have b1 : 0 ≤ t := by have := Int.mul_nonneg h4.1 (Int.le_of_lt B32_pos); omega
    have b2 : 0 ≤ q := by rw [eq]; exact Int.ediv_nonneg b1 (by omega)
    have b3 : q < B32 := by
      rw [eq]
      apply Int.ediv_lt_of_lt_mul hb.1
      have : (r + 1) * B32 ≤ b * B32 := Int.mul_le_mul_of_nonneg_right (by omega) (Int.le_of_lt B32_pos)
      rw [Int.mul_comm B32 b]
      rw [Int.add_mul] at this
      omega
    have b4 := Int.emod_nonneg t (show b ≠ 0 by omega)
    have b5 := Int.emod_lt_of_pos t hb.1
    have b6 := Int.mul_ediv_add_emod t b
    have e1 : (out.set (i - 1) q).drop (i - 1) = q :: out.drop i := by
      rw [set_drop _ _ _ (by omega), Nat.sub_add_cancel hi]
    refine ⟨by simpa using h1, by omega, ?_, by omega, ?_⟩
    · rw [e1]; exact h3.cons ⟨b2, b3⟩
    · rw [e1, val, val_drop B32 xs (i - 1) (by omega), Nat.sub_add_cancel hi, h5, Int.mul_add, Int.add_mul, er, eq]
      rw [show B32 * val B32 (out.drop i) * b = B32 * (val B32 (out.drop i) * b) from Int.mul_assoc ..]
      rw [Int.mul_comm r B32] at et
      rw [Int.mul_comm (t / b) b]
      omega
  refine Br.mk (fun hb1 => ?_) (fun hb1 => ?_)
  · have hi : 1 ≤ i := by simp at hb1; omega
    have ht : ((i : Int) - 1).toNat = i - 1 := by omega
    have ro := ox.getD B32_pos (i - 1)
    obtain ⟨s1, s2, s3, s4, s5, s6, s7, s8⟩ := by_step h4 ro hb rfl
    refine And.intro (by decide) ?_
    refine ix_ ⟨by omega, by omega⟩ (by rw [ht]; show i - 1 < xs.length; omega) ?_
    rw [ht]
    refine And.intro (by rw [s2]; omega) ?_
    refine ix_ ⟨by omega, by omega⟩ (by rw [ht]; show i - 1 < out.length; omega) ?_
    refine And.intro (by rw [s2]; omega) ?_
    exact ⟨(i - 1, out.set _ _, _), M1, Ref.sub (by exact ⟨some_nrm (by rw [wrap_in _ (by omega) (by omega)]; omega), rfl, rfl, rfl, rfl, trivial⟩), fin _ _ _ _ hi (by first | rfl | exact ht) s3 s4 s1, by simp only; omega⟩
  · have hi : i = 0 := by simp at hb1; omega
    subst hi
    refine FinK.pub 1 fun M' _ => ?_
    refine fin_see rfl fun l m' s hL => ?_
    have hr : IntKind.u32.wrap r = r := by rw [wrap_u32]; unfold B32 at hb; omega
    refine ⟨conc l (.ls 1 0 xs.length xs.length), out, r, ?_, Mo.ints.less ?_ hL, h1, h3, h4, h5⟩
    · simp [conc, concL, hr]
    · have := s.ints (id := 1) (xs := out) rfl 0 xs.length xs.length (by omega) (Nat.le_refl _)
      rwa [← h1, List.drop_zero, List.take_length, h1] at this

theorem mult_le {P Q m : Int} (hP : 0 < P) (h : m % P = 0) (hm : m < P * Q) : m ≤ P * Q - P := by
  have h1 := Int.mul_ediv_add_emod m P
  have h2 : m / P < Q := Int.ediv_lt_of_lt_mul hP (by rw [Int.mul_comm]; exact hm)
  have h3 : P * (m / P) ≤ P * (Q - 1) := Int.mul_le_mul_of_nonneg_left (by omega) (Int.le_of_lt hP)
  rw [Int.mul_sub] at h3
  omega
theorem pow_dvd32 {n : Nat} (hn : n ≤ 32) : (2 : Int) ^ n * 2 ^ (32 - n) = B32 := by
  rw [← Int.pow_add, show n + (32 - n) = 32 by omega]; decide
theorem shift_step {x o w : Int} {n : Nat} (hn : n ≤ 31) (hx : 0 ≤ x ∧ x < B32) (ho : 0 ≤ o ∧ o < 2 ^ n)
    (hw : w = IntKind.u64.wrap (IntKind.u64.wrap x * 2 ^ (min (Int.toNat n) IntKind.u64.bits))) :
    w = x * 2 ^ n ∧
    IntKind.u32.wrap (((BitVec.ofInt IntKind.u32.bits o ||| BitVec.ofInt IntKind.u32.bits (IntKind.u32.wrap w)).toNat : Nat) : Int) = o + w % B32 ∧ 0 ≤ o + w % B32 ∧ o + w % B32 < B32 ∧
    IntKind.u32.wrap (((BitVec.ofInt IntKind.u32.bits 0 ||| BitVec.ofInt IntKind.u32.bits (IntKind.u32.wrap (w.fdiv (2 ^ (min (Int.toNat 32) IntKind.u64.bits))))).toNat : Nat) : Int) = w / B32 ∧ 0 ≤ w / B32 ∧ w / B32 < 2 ^ n := by
  have hmin : min (Int.toNat n) IntKind.u64.bits = n := by
    show min ((n : Int).toNat) 64 = n
    rw [Int.toNat_natCast]; omega
  have hPQ := pow_dvd32 (show n ≤ 32 by omega)
  have hP : (0 : Int) < 2 ^ n := Int.pow_pos (by decide)
  have hP31 : (2 : Int) ^ n ≤ 2 ^ 31 := pow_mono (by decide) hn
  rw [show (2 : Int) ^ 31 = 2147483648 by decide] at hP31
  have e1 : IntKind.u64.wrap x = x := by rw [wrap_u64]; unfold B32 at hx; omega
  rw [hmin, e1] at hw
  have h0 : 0 ≤ x * 2 ^ n := Int.mul_nonneg hx.1 (Int.le_of_lt hP)
  have h1 : x * 2 ^ n < B32 * 2 ^ n := Int.mul_lt_mul_of_pos_right hx.2 hP
  have h2 : B32 * 2 ^ n ≤ B32 * 2147483648 := Int.mul_le_mul_of_nonneg_left hP31 (by decide)
  have hB : B32 * 2147483648 = 9223372036854775808 := by decide
  have e2 : w = x * 2 ^ n := by rw [hw, wrap_u64]; omega
  have h3 : w % B32 % 2 ^ n = 0 := by
    rw [Int.emod_emod_of_dvd _ ⟨_, hPQ.symm⟩, e2, Int.mul_emod_left]
  have h4 := Int.emod_nonneg w (show B32 ≠ 0 by decide)
  have h5 := Int.emod_lt_of_pos w B32_pos
  have h6 := mult_le hP h3 (by rw [hPQ]; exact h5)
  rw [hPQ] at h6
  have h7 : w / B32 < 2 ^ n := Int.ediv_lt_of_lt_mul B32_pos (by rw [e2, Int.mul_comm (2 ^ n)]; exact h1)
  have h8 : 0 ≤ w / B32 := Int.ediv_nonneg (by omega) (by decide)
  have e3 : IntKind.u32.wrap w = w % B32 := wrap_u32 w
  have e4 : IntKind.u32.wrap (w.fdiv (2 ^ (min (Int.toNat 32) IntKind.u64.bits))) = w / B32 := by
    rw [shr32, wrap_u32]
    show w / B32 % B32 = w / B32
    exact Int.emod_eq_of_lt h8 (by unfold B32 at *; omega)
  refine ⟨e2, ?_, by omega, by omega, ?_, h8, h7⟩
  · rw [e3, or32' n (w % B32) o h4 h3 ho.1 ho.2 (by show w % B32 + o < B32; omega)]; omega
  · rw [e4, or32 n 0 (w / B32) (by omega) (Int.zero_emod _) h8 h7 (by unfold B32 at *; omega)]; omega

set_option maxRecDepth 10000 in
theorem shifted_calls (xs : List Int) (va : Value) (n : Nat) (m : Mo) (hm : m.okm) (ha : m.ints va .u32 xs) (ox : okd B32 xs) (hn : n ≤ 31) (hx : xs.length ≤ 1000000000) :
    Calls Try.prog 55 #[va, .int .i64 n] m.w fun en w' => ∃ v zs, en = .returned v ∧ Fr [] m.w w' ∧ (zs.length = xs.length + 1 ∧ okd B32 zs ∧ val B32 zs = val B32 xs * 2 ^ n) ∧ Mo.own ⟨[], w'⟩ m.w.heap.size 60 v .u32 zs := by
  obtain ⟨a, ca, rfl, hca, hsa, hra⟩ := ha
  refine enter2_ Try.f55 _ 44 [a] [⟨none, .ints .u32 xs⟩] [.ls 0 0 xs.length ca, .v (.int .i64 n)] (by kernel_rfl) rfl (by kernel_rfl) hm rfl (by simp [okL, AV.ok]) ⟨⟨rfl, hsa, trivial, hra⟩, trivial⟩ ?_
  refine mk_ (e := 60) .u32 (xs.length + 1) (by kernel_rfl) (by kernel_rfl) (by rw [wrap_in _ (by omega) (by omega)]; omega) (by omega) ?_
  refine loop_ (ι := Nat × List Int) (fun i => [(15, .v (.int .i64 i.1)), (14, .v (.int .i64 xs.length)), (13, .ls 0 0 xs.length ca), (5, .ls 1 0 (xs.length + 1) (xs.length + 1)), (0, .ls 0 0 xs.length ca), (1, .v (.int .i64 n))])
    (fun i => [⟨none, .ints .u32 xs⟩, ⟨some (60, xs.length + 1), .ints .u32 i.2⟩])
    (fun i _ => i.2.length = xs.length + 1 ∧ i.1 ≤ xs.length ∧ okd B32 (i.2.take (i.1 + 1)) ∧ (0 ≤ i.2.getD i.1 0 ∧ i.2.getD i.1 0 < 2 ^ n) ∧ (∀ j, i.1 < j → i.2.getD j 0 = 0) ∧ val B32 (i.2.take (i.1 + 1)) = val B32 (xs.take i.1) * 2 ^ n) (fun i => xs.length - i.1) (0, List.replicate (xs.length + 1) 0) (M0 := m) ?_ ?_ ?_
  · exact Ref.sub (by exact ⟨rfl, rfl, rfl, rfl, rfl, rfl, trivial⟩)
  · have hz : ∀ j, (List.replicate (xs.length + 1) (0 : Int)).getD j 0 = 0 := fun j => by
      simp only [List.getD, List.getElem?_replicate]; split <;> rfl
    refine ⟨by simp, Nat.zero_le _, (okd.zeros B32_pos _).take _, ⟨by simp only [hz]; omega, by simp only [hz]; exact Int.pow_pos (by decide)⟩, fun j _ => hz j, ?_⟩
    simp [List.take_replicate, val]
  rintro ⟨i, out⟩ M1 ⟨h1, h2, h3, h4, h5, h6⟩
  simp only at h1 h2 h3 h4 h5 h6
  have ro := ox.getD B32_pos i
  obtain ⟨w, hw0⟩ : ∃ w, w = IntKind.u64.wrap (IntKind.u64.wrap (xs.getD i 0) * 2 ^ (min (Int.toNat n) IntKind.u64.bits)) := ⟨_, rfl⟩
  obtain ⟨s1, s2, s3, s4, s5, s6, s7⟩ := shift_step hn ro h4 hw0
  have fin : ∀ (k k' : Nat) (p q w : Int), i < xs.length → k = i → k' = i + 1 → w = xs.getD i 0 * 2 ^ n → p = out.getD i 0 + w % B32 → q = w / B32 → 0 ≤ p → p < B32 → 0 ≤ q → q < 2 ^ n →
      ((out.set k p).set k' q).length = xs.length + 1 ∧ i + 1 ≤ xs.length ∧ okd B32 (((out.set k p).set k' q).take (i + 1 + 1)) ∧ (0 ≤ ((out.set k p).set k' q).getD (i + 1) 0 ∧ ((out.set k p).set k' q).getD (i + 1) 0 < 2 ^ n) ∧ (∀ j, i + 1 < j → ((out.set k p).set k' q).getD j 0 = 0) ∧ val B32 (((out.set k p).set k' q).take (i + 1 + 1)) = val B32 (xs.take (i + 1)) * 2 ^ n := by
    intro k k' p q w hi ek ek' ew ep eq p0 p1 q0 q1
    subst ek; subst ek'
    have t1 : ((out.set k p).set (k + 1) q).take (k + 1 + 1) = out.take k ++ [p] ++ [q] := by
      rw [set_take _ _ _ (by simp; omega), set_take _ _ _ (by omega)]
    have t2 : ((out.set k p).set (k + 1) q).getD (k + 1) 0 = q := by rw [set_getD _ _ _ _ (by simp; omega), if_pos rfl]
    have hP31 : (2 : Int) ^ n ≤ 2 ^ 31 := pow_mono (by decide) hn
    rw [show (2 : Int) ^ 31 = 2147483648 by decide] at hP31
    refine ⟨by simpa using h1, by omega, ?_, by rw [t2]; exact ⟨q0, q1⟩, fun j hj => ?_, ?_⟩
    · rw [t1]
      refine (okd.snoc ?_ ⟨p0, p1⟩).snoc ⟨q0, by unfold B32; omega⟩
      have := h3.take k
      rwa [List.take_take, Nat.min_eq_left (by omega)] at this
    · rw [set_getD _ _ _ _ (by simp; omega), if_neg (by omega), set_getD _ _ _ _ (by omega), if_neg (by omega)]
      exact h5 j (by omega)
    · rw [val_take] at h6
      rw [t1, val_snoc, val_snoc, val_take B32 xs k, Int.add_mul, ← h6]
      have l1 : (out.take k).length = k := by rw [List.length_take]; omega
      have l2 : (out.take k ++ [p]).length = k + 1 := by rw [List.length_append, l1]; rfl
      have e := Int.mul_ediv_add_emod w B32
      rw [l1, l2, ep, eq, Int.pow_succ, Int.mul_assoc (B32 ^ k), Int.mul_assoc (B32 ^ k), ← ew, Int.mul_add]
      rw [show B32 ^ k * w = B32 ^ k * (B32 * (w / B32)) + B32 ^ k * (w % B32) by rw [← Int.mul_add, e]]
      omega
  refine Br.mk (fun hb => ?_) (fun hb => ?_)
  · have hi : i < xs.length := by simpa using hb
    refine ix_ (by omega) (by show (i : Int).toNat < xs.length; omega) ?_
    refine And.intro (by omega) ?_
    refine ix_ ⟨by omega, by omega⟩ (by show (i : Int).toNat < out.length; omega) ?_
    refine ix_ ⟨by omega, by omega⟩ (by show (i : Int).toNat < out.length; omega) ?_
    have hw : IntKind.i64.wrap ((i : Int) + 1) = ((i + 1 : Nat) : Int) := by rw [wrap_in _ (by omega) (by omega)]; omega
    have ht : (IntKind.i64.wrap ((i : Int) + 1)).toNat = i + 1 := by rw [hw]; rfl
    have hz : ∀ p : Int, (out.set i p).getD (i + 1) 0 = 0 := fun p => by
      rw [set_getD _ _ _ _ (by omega), if_neg (by omega)]; exact h5 _ (by omega)
    refine ix_ (by rw [hw]; omega) (by rw [ht]; show i + 1 < (out.set _ _).length; simp; omega) ?_
    refine And.intro (by decide) ?_
    refine ix_ (by rw [hw]; omega) (by rw [ht]; show i + 1 < (out.set _ _).length; simp; omega) ?_
    refine ⟨(i + 1, (out.set i (out.getD i 0 + w % B32)).set (i + 1) (w / B32)), M1, Ref.subS (by exact ⟨some_nrm hw, rfl, rfl, rfl, rfl, rfl, trivial⟩) ?_, fin i (i + 1) _ _ w hi rfl rfl s1 rfl rfl s3 s4 s6 s7, by simp only; omega⟩
    rw [Int.toNat_natCast] at hw0
    simp only [ht, Int.toNat_natCast, hz, ← hw0, s2, s5]
  · have hb : i = xs.length := by simp at hb; omega
    subst hb
    refine fin_mine rfl rfl h1.symm ⟨h1, ?_, ?_⟩
    · rwa [List.take_of_length_le (by omega)] at h3
    · rwa [List.take_of_length_le (by omega), List.take_length] at h6

end Go.Proofs.Ytdkamjbcpmlheaa

/- Rows of parts: what the program's inner functions make of them, third part. -/
namespace Go.Proofs.Ytdkamjbcpmlheaa
open Go Go.Gw Go.Lg
set_option pp.deepTerms false
set_option pp.deepTerms.threshold 6
set_option pp.maxSteps 3000

def len8 (b : Nat) : Nat := if b = 0 then 0 else if b < 2 then 1 else if b < 4 then 2 else if b < 8 then 3 else if b < 16 then 4 else if b < 32 then 5 else if b < 64 then 6 else if b < 128 then 7 else 8
def tab : List Int := (List.range 256).map fun b => (len8 b : Int)
theorem tab_get (b : Nat) (h : b < 256) : tab.getD b 0 = (len8 b : Int) := by
  unfold tab
  rw [List.getD, List.getElem?_map, List.getElem?_range h]
  rfl
theorem len8_ok (b : Nat) (h : b < 256) : len8 b ≤ 8 ∧ b < 2 ^ len8 b ∧ (len8 b = 0 ∨ 2 ^ (len8 b - 1) ≤ b) := by
  unfold len8
  repeat' split
  all_goals omega
theorem tabL (s : ByteArray) (hs : bytesI s = tab) (y : Int) (hy : 0 ≤ y ∧ y < 256) :
    (0 ≤ IntKind.u8.wrap y ∧ IntKind.u8.wrap y < s.size) ∧ ∃ t : Nat, (bytesI s).getD (IntKind.u8.wrap y).toNat 0 = t ∧ t ≤ 8 ∧ y < 2 ^ t ∧ (t = 0 ∨ 2 ^ (t - 1) ≤ y) := by
  have hw : IntKind.u8.wrap y = y := by rw [wrap_u8]; omega
  have hz : s.size = 256 := by rw [← bytesI_length, hs]; simp [tab]
  obtain ⟨b, rfl⟩ := Int.eq_ofNat_of_zero_le hy.1
  have hb : b < 256 := by omega
  rw [hw, hs, Int.toNat_natCast, tab_get b hb, hz]
  obtain ⟨h1, h2, h3⟩ := len8_ok b hb
  refine ⟨by omega, len8 b, rfl, h1, by exact_mod_cast h2, ?_⟩
  rcases h3 with h3 | h3
  · exact .inl h3
  · exact .inr (by exact_mod_cast h3)
theorem tab_ {s : ByteArray} {y : Int} {K : Prop} (hs : bytesI s = tab) (hy : 0 ≤ y ∧ y < 256) (h : ∀ t : Nat, (bytesI s).getD (IntKind.u8.wrap y).toNat 0 = t → t ≤ 8 → y < 2 ^ t → (t = 0 ∨ 2 ^ (t - 1) ≤ y) → K) :
    (0 ≤ IntKind.u8.wrap y ∧ IntKind.u8.wrap y < s.size) ∧ K := by
  obtain ⟨h1, t, h2, h3, h4, h5⟩ := tabL s hs y hy
  exact ⟨h1, h t h2 h3 h4 h5⟩
theorem shr_u32 (x : Int) (k : Nat) (hk : k ≤ 32) : x.fdiv (2 ^ (min (Int.toNat k) IntKind.u32.bits)) = x / 2 ^ k := by
  have : min (Int.toNat k) IntKind.u32.bits = k := by
    show min ((k : Int).toNat) 32 = k
    rw [Int.toNat_natCast]; omega
  rw [this, Int.fdiv_eq_ediv_of_nonneg _ (Int.le_of_lt (Int.pow_pos (by decide)))]
theorem len_fin {x y : Int} {k t : Nat} (hk : k ≤ 24) (ht : t ≤ 8) (hy : y = x / 2 ^ k) (h1 : y < 2 ^ t) (h2 : t = 0 ∨ 2 ^ (t - 1) ≤ y) (h3 : k = 0 ∨ 1 ≤ y) {v : Value} (hv : v = .int .i64 ((k : Int) + t)) :
    ∃ n : Nat, v = .int .i64 n ∧ n ≤ 32 ∧ x < 2 ^ n ∧ (n = 0 ∨ 2 ^ (n - 1) ≤ x) := by
  have hp : (0 : Int) < 2 ^ k := Int.pow_pos (by decide)
  have e := Int.mul_ediv_add_emod x (2 ^ k)
  have l := Int.emod_lt_of_pos x hp
  have l0 := Int.emod_nonneg x (show (2 : Int) ^ k ≠ 0 by omega)
  rw [← hy] at e
  refine ⟨k + t, by rw [hv]; rfl, by omega, ?_, ?_⟩
  · have : 2 ^ k * (y + 1) ≤ 2 ^ k * 2 ^ t := Int.mul_le_mul_of_nonneg_left (by omega) (Int.le_of_lt hp)
    rw [Int.pow_add]
    rw [Int.mul_add] at this
    omega
  · rcases h2 with h2 | h2
    · rcases h3 with h3 | h3
      · left; omega
      · subst h2; simp at h1; omega
    · by_cases h0 : k + t = 0
      · exact .inl h0
      right
      by_cases ht0 : t = 0
      · subst ht0
        rcases h3 with h3 | h3
        · omega
        · simp at h1; omega
      · have : 2 ^ k * 2 ^ (t - 1) ≤ 2 ^ k * y := Int.mul_le_mul_of_nonneg_left h2 (Int.le_of_lt hp)
        rw [← Int.pow_add, show k + (t - 1) = k + t - 1 by omega] at this
        omega

set_option maxRecDepth 10000 in
theorem len32_calls (x : Int) (m : Mo) (hm : m.okm) (hx : 0 ≤ x ∧ x < B32) :
    Calls Try.prog 52 #[.int .u32 x] m.w (Post m fun _ v => ∃ n : Nat, v = .int .i64 n ∧ n ≤ 32 ∧ x < 2 ^ n ∧ (n = 0 ∨ 2 ^ (n - 1) ≤ x)) := by
  refine enter_ Try.f52 _ 19 (args := [.int .u32 x]) (by kernel_rfl) rfl (by kernel_rfl) hm ?_
  have e16 := shr_u32 x 16 (by decide)
  have e8 := shr_u32 x 8 (by decide)
  have e24 : ((x / 2 ^ 16) / 2 ^ 8) = x / 2 ^ 24 := by
    rw [Int.ediv_ediv_of_nonneg (by decide)]; rfl
  have n16 : (2 : Int) ^ 16 = 65536 := by decide
  have n8 : (2 : Int) ^ 8 = 256 := by decide
  have n24 : (2 : Int) ^ 24 = 16777216 := by decide
  unfold B32 at hx
  have r16 : Int.toNat 16 = Int.toNat ((16 : Nat) : Int) := rfl
  have r8 : Int.toNat 8 = Int.toNat ((8 : Nat) : Int) := rfl
  have w1 : ∀ (k t : Nat), k ≤ 24 → t ≤ 8 → IntKind.i64.wrap ((k : Int) + IntKind.i64.wrap t) = (k : Int) + t := fun k t hk ht => by rw [wrap_in (t : Int) (by omega) (by omega), wrap_in _ (by omega) (by omega)]
  refine Br.mk (fun h0 => ?_) (fun h0 => ?_)
  · have h0 : 65536 ≤ x := by simpa using h0
    refine And.intro (by decide) ?_
    refine Br.mk (fun h1 => ?_) (fun h1 => ?_)
    · refine And.intro (by decide) ?_
      have h1 : 256 ≤ x / 65536 := by rw [← n16, ← e16]; simpa using h1
      have e : (x.fdiv (2 ^ (min (Int.toNat 16) IntKind.u32.bits))).fdiv (2 ^ (min (Int.toNat 8) IntKind.u32.bits)) = x / 2 ^ 24 := by rw [r16, e16, r8, shr_u32 _ 8 (by decide), e24]
      have hr : 0 ≤ x / 2 ^ 24 ∧ x / 2 ^ 24 < 256 := by rw [n24]; omega
      rw [e]
      refine tab_ ?_ hr fun t et t8 tl tlo => ?_
      · decide
      exact fin_val rfl fun _ _ => len_fin (k := 24) (by decide) t8 rfl tl tlo (.inr (by rw [n24]; omega)) (by rw [et]; exact congrArg _ (w1 24 t (by decide) t8))
    · have h1 : x / 65536 < 256 := by rw [← n16, ← e16]; simpa using h1
      have e : x.fdiv (2 ^ (min (Int.toNat 16) IntKind.u32.bits)) = x / 2 ^ 16 := by rw [r16, e16]
      have hr : 0 ≤ x / 2 ^ 16 ∧ x / 2 ^ 16 < 256 := by rw [n16]; omega
      rw [e]
      refine tab_ ?_ hr fun t et t8 tl tlo => ?_
      · decide
      exact fin_val rfl fun _ _ => len_fin (k := 16) (by decide) t8 rfl tl tlo (.inr (by rw [n16]; omega)) (by rw [et]; exact congrArg _ (w1 16 t (by decide) t8))
  · have h0 : x < 65536 := by simpa using h0
    refine Br.mk (fun h1 => ?_) (fun h1 => ?_)
    · refine And.intro (by decide) ?_
      have h1 : 256 ≤ x := by simpa using h1
      have e : x.fdiv (2 ^ (min (Int.toNat 8) IntKind.u32.bits)) = x / 2 ^ 8 := by rw [r8, e8]
      have hr : 0 ≤ x / 2 ^ 8 ∧ x / 2 ^ 8 < 256 := by rw [n8]; omega
      rw [e]
      refine tab_ ?_ hr fun t et t8 tl tlo => ?_
      · decide
      exact fin_val rfl fun _ _ => len_fin (k := 8) (by decide) t8 rfl tl tlo (.inr (by rw [n8]; omega)) (by rw [et]; exact congrArg _ (w1 8 t (by decide) t8))
    · have h1 : x < 256 := by simpa using h1
      refine tab_ ?_ ⟨hx.1, h1⟩ fun t et t8 tl tlo => ?_
      · decide
      exact fin_val rfl fun _ _ => len_fin (k := 0) (by decide) t8 (by simp) tl tlo (.inl rfl) (by rw [et]; exact congrArg _ (w1 0 t (by decide) t8))

set_option maxRecDepth 10000 in
theorem lz32_calls (x : Int) (m : Mo) (hm : m.okm) (hx : 0 ≤ x ∧ x < B32) :
    Calls Try.prog 54 #[.int .u32 x] m.w (Post m fun _ v => ∃ n : Nat, v = .int .i64 n ∧ n ≤ 32 ∧ (x = 0 ∨ n ≤ 31 ∧ x * 2 ^ n < B32 ∧ 2147483648 ≤ x * 2 ^ n)) := by
  refine enter_ Try.f54 _ 6 (args := [.int .u32 x]) (by kernel_rfl) rfl (by kernel_rfl) hm ?_
  refine callS_ (by kernel_rfl) (fun l m s => len32_calls x m s.okm hx) ?_
  rintro M v le ⟨n, rfl, h1, h2, h3⟩
  refine fin_val rfl fun _ _ => ⟨32 - n, ?_, by omega, ?_⟩
  · rw [wrap_in _ (by omega) (by omega)]; congr 1; omega
  · by_cases h0 : n = 0
    · left; subst h0; simp at h2; omega
    · right
      have h3 := h3.resolve_left h0
      have hp : (0 : Int) < 2 ^ (32 - n) := Int.pow_pos (by decide)
      have g1 := pow_dvd32 (n := n) h1
      refine ⟨by omega, ?_, ?_⟩
      · rw [← g1]; exact Int.mul_lt_mul_of_pos_right h2 hp
      · have g2 := Int.mul_le_mul_of_nonneg_right h3 (Int.le_of_lt hp)
        rw [← Int.pow_add, show n - 1 + (32 - n) = 31 by omega] at g2
        exact g2
end Go.Proofs.Ytdkamjbcpmlheaa

/- Rows of parts: what the program's inner functions make of them, fourth part. -/
namespace Go.Proofs.Ytdkamjbcpmlheaa
open Go Go.Gw Go.Lg
set_option pp.deepTerms false
set_option pp.deepTerms.threshold 6
set_option pp.maxSteps 3000

theorem times_step {o a y t : Int} (ho : 0 ≤ o ∧ o < B32) (ha : 0 ≤ a ∧ a < B32) (hy : 0 ≤ y ∧ y < B32) (ht : t = IntKind.u64.wrap (o + IntKind.u64.wrap (IntKind.u64.wrap a * IntKind.u64.wrap y))) :
    t = o + a * y ∧ (0 ≤ t / 4294967296 ∧ t / 4294967296 < B32) ∧ IntKind.u32.wrap t = t % B32 ∧ 0 ≤ t % B32 ∧ t % B32 < B32 := by
  have e1 : IntKind.u64.wrap a = a := by rw [wrap_u64]; unfold B32 at ha; omega
  have e2 : IntKind.u64.wrap y = y := by rw [wrap_u64]; unfold B32 at hy; omega
  have h1 : a * y ≤ (B32 - 1) * (B32 - 1) := Int.mul_le_mul (by omega) (by omega) hy.1 (by decide)
  have h0 : 0 ≤ a * y := Int.mul_nonneg ha.1 hy.1
  have h2 : (B32 - 1) * (B32 - 1) = 18446744065119617025 := by decide
  rw [e1, e2] at ht
  generalize a * y = p at *
  have e3 : t = o + p := by
    rw [ht, wrap_u64, wrap_u64]; unfold B32 at ho; omega
  refine ⟨e3, ?_, wrap_u32 t, ?_⟩ <;> unfold B32 at * <;> omega

theorem no_over {v y : Int} {k : Nat} (hv : v < B32 ^ k) (_ : 0 ≤ v) (hy : 0 ≤ y ∧ y < B32) : v * y < B32 ^ (k + 1) := by
  have g3 : v * y ≤ B32 ^ k * y := Int.mul_le_mul_of_nonneg_right (by omega) hy.1
  have g4 : B32 ^ k * y < B32 ^ k * B32 := Int.mul_lt_mul_of_pos_left hy.2 (Int.pow_pos B32_pos)
  have e : B32 ^ k * B32 = B32 ^ (k + 1) := (Int.pow_succ ..).symm
  omega

set_option maxRecDepth 10000 in
theorem takes_calls (ys bs : List Int) (off n ca : Nat) (vb : Value) (many : Int) (m : Mo) (hm : m.okm) (b : Nat) (arr : Array Value) (tot : Nat) (hbm : b ∈ m.L) (hg : m.w.heap[b]? = some (.cells arr 60 (0, 0))) (hs : arr.size = tot) (hc : arr.toList.take ys.length = ys.map (.int .u32))
    (hb : m.ints vb .u32 bs) (hn : n = bs.length + 1) (hca : n ≤ ca) (hoff : off + n ≤ ys.length) (oy : okd B32 ys) (ob : okd B32 bs) (hmany : 0 ≤ many ∧ many < B32) (hx : ys.length ≤ 1000000000) :
    Calls Try.prog 57 #[.slice (some ⟨b, off, none⟩) n ca, vb, .int .u32 many] m.w (PostM b 60 tot .u32 m.w fun _ ys' v =>
      (v = .bool true ∧ val B32 ((ys.drop off).take n) < val B32 bs * many ∧ ys' = ys) ∨
      (v = .bool false ∧ val B32 bs * many ≤ val B32 ((ys.drop off).take n) ∧ ys'.length = ys.length ∧ okd B32 ys' ∧ ys'.take off = ys.take off ∧ ys'.drop (off + n) = ys.drop (off + n) ∧ val B32 ((ys'.drop off).take n) = val B32 ((ys.drop off).take n) - val B32 bs * many)) := by
  obtain ⟨a, cb, rfl, hcb, hsb, hrb⟩ := hb
  refine enterM_ Try.f57 _ 70 b 60 tot .u32 ys [a] [⟨none, .ints .u32 bs⟩] [.ls 0 off n ca, .ls 1 0 bs.length cb, .v (.int .u32 many)] (by kernel_rfl) rfl (by kernel_rfl) hm hbm hg hs hc (by simp [concL, conc, Base.up]) (by simp [okL, AV.ok]) ⟨⟨rfl, hsb, trivial, hrb⟩, trivial⟩ ?_
  refine callo_ (I := fun zs => zs = bs) (by kernel_rfl) (fun l w hr => clone_calls bs _ ⟨_, w⟩ hr.bds (hr.ints_ro (id := 1) rfl hcb) (by omega)) ?_
  intro M c bs' le hbs hcc
  subst hbs
  refine app_ .u32 (xs := bs') (news := [0]) rfl (fun _ => rfl) rfl (by kernel_rfl) (by kernel_rfl) ?_ (by simp; omega) fun cap' hcap => ?_
  · exact rd_obj (id := 3) (xs := [0]) (e' := 60) (by kernel_rfl) rfl (fun _ => rfl) 0 1 1 (by decide)
  have len1 : (bs' ++ [0]).length = n := by simp [hn]
  replace hcap : bs'.length + 1 ≤ cap' := hcap
  refine loop_ (ι := Nat × List Int × Int) (fun i => [(17, .v (.int .i64 i.1)), (16, .v (.int .i64 n)), (7, .ls 2 0 n cap'), (8, .v (.int .u64 i.2.2)), (0, .ls 0 off n ca), (2, .v (.int .u32 many))])
    (fun i => [⟨some (60, tot), .ints .u32 ys⟩, ⟨none, .ints .u32 bs'⟩, ⟨some (60, cap'), .ints .u32 i.2.1⟩])
    (fun i _ => i.2.1.length = n ∧ i.1 ≤ n ∧ i.2.1.drop i.1 = (bs' ++ [0]).drop i.1 ∧ okd B32 (i.2.1.take i.1) ∧ (0 ≤ i.2.2 ∧ i.2.2 < B32) ∧ val B32 (i.2.1.take i.1) + B32 ^ i.1 * i.2.2 = val B32 ((bs' ++ [0]).take i.1) * many) (fun i => n - i.1) (0, bs' ++ [0], 0) (M0 := M) ?_ ?_ ?_
  · exact Ref.ren [some 0, some 1, some 4] (by rfl) (by exact ⟨⟨rfl, trivial⟩, ⟨some_nrm (by simp [hn]), trivial⟩, ⟨by rw [hn]; rfl, by simp [AV.ok]⟩, ⟨rfl, trivial⟩, ⟨rfl, by simp [AV.ok]⟩, ⟨rfl, trivial⟩, trivial⟩) (by exact ⟨⟨rfl, trivial⟩, ⟨rfl, trivial⟩, ⟨rfl, trivial⟩, trivial⟩)
  · exact ⟨len1, Nat.zero_le _, rfl, okd.nil _, ⟨by simp, B32_pos⟩, by simp [val]⟩
  rintro ⟨i, out, o⟩ M1 ⟨h1, h2, h3, h4, h5, h6⟩
  simp only at h1 h2 h3 h4 h5 h6
  have ob1 : okd B32 (bs' ++ [0]) := ob.snoc (by decide)
  have hgo : out.getD i 0 = (bs' ++ [0]).getD i 0 := by
    have := congrArg (fun l => l.getD 0 0) h3
    simpa [List.getD, List.getElem?_drop] using this
  have ro := ob1.getD B32_pos i
  obtain ⟨t, ht⟩ : ∃ t, t = IntKind.u64.wrap (o + IntKind.u64.wrap (IntKind.u64.wrap (out.getD i 0) * IntKind.u64.wrap many)) := ⟨_, rfl⟩
  obtain ⟨s1, s2, s3, s4, s5⟩ := times_step h5 (hgo ▸ ro) hmany ht
  refine Br.mk (fun hb => ?_) (fun hb => ?_)
  · have hi : i < n := by simpa using hb
    refine ix_ (by omega) (by show (i : Int).toNat < out.length; omega) ?_
    refine ix_ (by omega) (by show (i : Int).toNat < out.length; omega) ?_
    refine And.intro (by decide) ?_
    refine ⟨(i + 1, out.set i (t % B32), t / 4294967296), M1, Ref.subS (by exact ⟨some_nrm (wrap_in _ (by omega) (by omega)), rfl, rfl, some_nrm (by simp only [Int.toNat_natCast, ← ht]; exact shr32 t), rfl, rfl, trivial⟩) ?_, ⟨by simpa using h1, by simp only; omega, ?_, ?_, s2, ?_⟩, by simp only; omega⟩
    · simp only [Int.toNat_natCast, ← ht, s3]
    · simp only
      rw [set_drop']
      have := congrArg (fun l => l.drop 1) h3
      simpa [List.drop_drop] using this
    · simp only
      rw [set_take _ _ _ (by omega)]; exact h4.snoc ⟨s4, s5⟩
    · simp only
      have e := Int.mul_ediv_add_emod t B32
      rw [set_take _ _ _ (by omega), val_snoc, List.length_take, Nat.min_eq_left (by omega), val_take B32 (bs' ++ [0]) i, Int.add_mul, ← h6, ← hgo, Int.pow_succ, Int.mul_assoc, Int.mul_assoc]
      show val B32 (out.take i) + B32 ^ i * (t % B32) + B32 ^ i * (B32 * (t / B32)) = val B32 (out.take i) + B32 ^ i * o + B32 ^ i * (out.getD i 0 * many)
      rw [Int.add_assoc, ← Int.mul_add, Int.add_comm (t % B32), e, s1, Int.mul_add, Int.add_assoc]
  · have hi : i = n := by simp at hb; omega
    subst hi
    rw [List.take_of_length_le (by omega)] at h4 h6
    rw [List.take_of_length_le (by omega), val_snoc, Int.mul_zero, Int.add_zero] at h6
    have o0 : o = 0 := by
      have g1 := val_nonneg B32_pos h4
      have g2 := val_lt B32_pos ob
      have g3 := no_over (k := bs'.length) (by omega : val B32 bs' < _) (val_nonneg B32_pos ob) hmany
      rw [← hn] at g3
      have g5 : B32 ^ i * o < B32 ^ i * 1 := by omega
      have := Int.lt_of_mul_lt_mul_left g5 (Int.le_of_lt (Int.pow_pos B32_pos))
      omega
    rw [o0, Int.mul_zero, Int.add_zero] at h6
    have ow : okd B32 ((ys.drop off).take i) := (oy.drop off).take i
    have lw : ((ys.drop off).take i).length = i := by simp; omega
    have gw : ∀ j, j < i → ((ys.drop off).take i).getD j 0 = ys.getD (off + j) 0 := fun j hj => by
      simp only [List.getD, List.getElem?_take, List.getElem?_drop, if_pos hj]
    rw [← h6]
    refine loop_ (ι := Nat) (fun j => [(10, .v (.int .i64 ((j : Int) - 1))), (7, .ls 2 0 i cap'), (0, .ls 0 off i ca)])
      (fun _ => [⟨some (60, tot), .ints .u32 ys⟩, ⟨none, .ints .u32 bs'⟩, ⟨some (60, cap'), .ints .u32 out⟩])
      (fun j _ => j ≤ i ∧ ((ys.drop off).take i).drop j = out.drop j) (fun j => j) i (M0 := M1) ?_ ?_ ?_
    · exact Ref.sub (by exact ⟨some_nrm (wrap_in _ (by omega) (by omega)), rfl, rfl, trivial⟩)
    · exact ⟨Nat.le_refl _, by rw [List.drop_eq_nil_of_le (by omega), List.drop_eq_nil_of_le (by omega)]⟩
    rintro j M2 ⟨j1, j2⟩
    refine draw_ [] [0, 1, 2, 3, 4, 5, 6, 7, 8, 9, 10, 11, 12] [] [] [] (by kernel_rfl) rfl rfl ?_
    refine Br.mk (fun hb => ?_) (fun hb => ?_)
    · have hj : 1 ≤ j := by simp at hb; omega
      have ht : ((j : Int) - 1).toNat = j - 1 := by omega
      refine ixo_ ⟨by omega, by omega⟩ (by rw [ht]; show off + (j - 1) < ys.length; omega) ?_
      refine And.intro (by rw [ht]; omega) ?_
      refine ix_ ⟨by omega, by omega⟩ (by rw [ht]; show j - 1 < out.length; omega) ?_
      have d1 : ((ys.drop off).take i).drop (j - 1 + 1) = out.drop (j - 1 + 1) := by rw [Nat.sub_add_cancel hj]; exact j2
      have ga := gw (j - 1) (by omega)
      refine Br.mk (fun hd => ?_) (fun hd => ?_)
      · refine draw_ [] [0, 1, 2, 3, 4, 5, 6, 7, 8] [] [] [] (by kernel_rfl) rfl rfl ?_
        refine ixo_ ⟨by omega, by omega⟩ (by rw [ht]; show off + (j - 1) < ys.length; omega) ?_
        refine And.intro (by rw [ht]; omega) ?_
        refine ix_ ⟨by omega, by omega⟩ (by rw [ht]; show j - 1 < out.length; omega) ?_
        refine Br.mk (fun he => ?_) (fun he => ?_)
        · refine fin_mut rfl rfl fun _ => .inl ⟨rfl, ?_, rfl⟩
          have he : ys.getD (off + (j - 1)) 0 < out.getD (j - 1) 0 := by simpa [ht] using he
          exact val_cmp B32_pos ow h4 (by omega) (j - 1) (by omega) d1 (by rw [ga]; exact he)
        · have he : out.getD (j - 1) 0 ≤ ys.getD (off + (j - 1)) 0 := by simpa [ht] using he
          have hd : ys.getD (off + (j - 1)) 0 ≤ out.getD (j - 1) 0 := by simpa [ht] using hd
          refine ⟨j - 1, M2, Ref.sub (by exact ⟨some_nrm (by rw [wrap_in _ (by omega) (by omega)]; omega), rfl, rfl, trivial⟩), ⟨by omega, ?_⟩, by omega⟩
          rw [drop_getD _ (j - 1) (by omega), drop_getD out (j - 1) (by omega), d1, ga]
          congr 1
          omega
      · have hd : out.getD (j - 1) 0 < ys.getD (off + (j - 1)) 0 := by simpa [ht] using hd
        have hle : val B32 out < val B32 ((ys.drop off).take i) := val_cmp B32_pos h4 ow (by omega) (j - 1) (by omega) d1.symm (by rw [ga]; exact hd)
        refine callf_ (R := fun m v => ∃ zs, (zs.length = i ∧ okd B32 zs ∧ val B32 zs = val B32 ((ys.drop off).take i) - val B32 out) ∧ m.ints v .u32 zs) (by kernel_rfl) (fun l w hr => ?_) ?_
        · have g1 := hr.ints_own' (id := 0) (xs := ys) rfl off i ca hoff hca
          have g2 := hr.ints_own' (id := 2) (xs := out) rfl 0 i cap' (by omega) (by omega)
          rw [List.drop_zero, List.take_of_length_le (by omega)] at g2
          have := less_calls ((ys.drop off).take i) out _ _ ⟨_, w⟩ (fun b hb => Nat.lt_of_lt_of_le (hr.bd b hb) hr.ent.size) g1 g2 ow h4 (by omega) (Int.le_of_lt hle) (by omega)
          rw [lw] at this
          exact this
        rintro M3 v le3 ⟨zs, ⟨z1, z2, z3⟩, hv⟩
        refine cpy_ 60 (xs := ys) (news := zs) rfl hoff (by kernel_rfl) (by kernel_rfl) (rd_op (e' := 60) (by kernel_rfl) hv) (m := i) (by omega) ?_
        have ez : zs.take i = zs := List.take_of_length_le (by omega)
        have l1 : (ys.take off).length = off := by simp; omega
        refine fin_mut rfl rfl fun _ => .inr ⟨rfl, (Int.le_of_lt hle), ?_, ?_, ?_, ?_, ?_⟩
        · rw [ez]; simp; omega
        · rw [ez]; exact ((oy.take off).append z2).append (oy.drop _)
        · rw [List.append_assoc, List.take_append_of_le_length (by omega), List.take_of_length_le (by omega)]
        · rw [ez, List.drop_append, List.drop_of_length_le (by simp; omega), List.length_append, l1, z1, Nat.sub_self]; simp
        · rw [ez, List.append_assoc, List.drop_append, List.drop_of_length_le (by omega), l1, Nat.sub_self, List.nil_append, List.drop_zero, List.take_append_of_le_length (by omega), List.take_of_length_le (by omega), z3]
    · have hb : j = 0 := by simp at hb; omega
      subst hb
      have hle : val B32 ((ys.drop off).take i) = val B32 out := by simpa using congrArg (val B32) j2
      refine callf_ (R := fun m v => ∃ zs, (zs.length = i ∧ okd B32 zs ∧ val B32 zs = val B32 ((ys.drop off).take i) - val B32 out) ∧ m.ints v .u32 zs) (by kernel_rfl) (fun l w hr => ?_) ?_
      · have g1 := hr.ints_own' (id := 0) (xs := ys) rfl off i ca hoff hca
        have g2 := hr.ints_own' (id := 2) (xs := out) rfl 0 i cap' (by omega) (by omega)
        rw [List.drop_zero, List.take_of_length_le (by omega)] at g2
        have := less_calls ((ys.drop off).take i) out _ _ ⟨_, w⟩ (fun b hb => Nat.lt_of_lt_of_le (hr.bd b hb) hr.ent.size) g1 g2 ow h4 (by omega) (Int.le_of_eq hle.symm) (by omega)
        rw [lw] at this
        exact this
      rintro M3 v le3 ⟨zs, ⟨z1, z2, z3⟩, hv⟩
      refine cpy_ 60 (xs := ys) (news := zs) rfl hoff (by kernel_rfl) (by kernel_rfl) (rd_op (e' := 60) (by kernel_rfl) hv) (m := i) (by omega) ?_
      have ez : zs.take i = zs := List.take_of_length_le (by omega)
      have l1 : (ys.take off).length = off := by simp; omega
      refine fin_mut rfl rfl fun _ => .inr ⟨rfl, (Int.le_of_eq hle.symm), ?_, ?_, ?_, ?_, ?_⟩
      · rw [ez]; simp; omega
      · rw [ez]; exact ((oy.take off).append z2).append (oy.drop _)
      · rw [List.append_assoc, List.take_append_of_le_length (by omega), List.take_of_length_le (by omega)]
      · rw [ez, List.drop_append, List.drop_of_length_le (by simp; omega), List.length_append, l1, z1, Nat.sub_self]; simp
      · rw [ez, List.append_assoc, List.drop_append, List.drop_of_length_le (by omega), l1, Nat.sub_self, List.nil_append, List.drop_zero, List.take_append_of_le_length (by omega), List.take_of_length_le (by omega), z3]
end Go.Proofs.Ytdkamjbcpmlheaa

/- Rows of parts: the long division. -/
namespace Go.Proofs.Ytdkamjbcpmlheaa
open Go Go.Gw Go.Lg
set_option pp.deepTerms false
set_option pp.deepTerms.threshold 6
set_option pp.maxSteps 3000

theorem val_split (B : Int) (xs : List Int) (i : Nat) (h : i ≤ xs.length) : val B xs = val B (xs.take i) + B ^ i * val B (xs.drop i) := by
  conv => lhs; rw [← List.take_append_drop i xs]
  rw [val_append, List.length_take, Nat.min_eq_left h]

/-- No digit of the quotient is above what the first parts say. -/
theorem guess_ok {low : List Int} {x y d bt vb W : Int} {k : Nat} (hl : okd B32 low) (hk : low.length = k) (hW : W = val B32 low + B32 ^ k * (x + B32 * y)) (hb : B32 ^ k * bt ≤ vb) (hbt : 0 < bt) (hd : 0 ≤ d) (h : d * vb ≤ W) : d ≤ (y * B32 + x) / bt := by
  have hp : 0 < B32 ^ k := Int.pow_pos B32_pos
  have h1 := val_lt B32_pos hl
  rw [hk] at h1
  have h2 : d * (B32 ^ k * bt) ≤ d * vb := Int.mul_le_mul_of_nonneg_left hb hd
  have h3 : B32 ^ k * (d * bt) < B32 ^ k * (x + B32 * y + 1) := by
    rw [show B32 ^ k * (d * bt) = d * (B32 ^ k * bt) by rw [← Int.mul_assoc, ← Int.mul_assoc, Int.mul_comm (B32 ^ k) d], Int.mul_add (B32 ^ k) (x + B32 * y) 1]
    omega
  have h4 := Int.lt_of_mul_lt_mul_left h3 (Int.le_of_lt hp)
  rw [Int.le_ediv_iff_mul_le hbt, Int.mul_comm y B32]
  omega

theorem guess_start {x y bt T G : Int} (hx : 0 ≤ x ∧ x < B32) (hy : 0 ≤ y ∧ y < B32) (hbt : 0 < bt ∧ bt < B32)
    (hT : T = IntKind.u64.wrap (((BitVec.ofInt IntKind.u64.bits (IntKind.u64.wrap (IntKind.u64.wrap y * 2 ^ (min (Int.toNat 32) IntKind.u64.bits))) ||| BitVec.ofInt IntKind.u64.bits (IntKind.u64.wrap x)).toNat : Nat) : Int))
    (hG : G = if 4294967295 < IntKind.u64.wrap (T.tdiv (IntKind.u64.wrap bt)) then 4294967295 else IntKind.u64.wrap (T.tdiv (IntKind.u64.wrap bt))) :
    IntKind.u64.wrap bt ≠ 0 ∧ 0 ≤ G ∧ G < B32 ∧ ∀ d, d < B32 → d ≤ (y * B32 + x) / bt → d ≤ G := by
  unfold B32 at *
  have e1 : IntKind.u64.wrap x = x := by rw [wrap_u64]; omega
  have e2 : IntKind.u64.wrap y = y := by rw [wrap_u64]; omega
  have e3 : IntKind.u64.wrap bt = bt := by rw [wrap_u64]; omega
  rw [e1, e2, shl32 y (by omega) (by omega), or64 32 (y * 4294967296) x (by omega) (by rw [show (2 : Int) ^ 32 = 4294967296 by decide]; omega) (by omega) (by rw [show (2 : Int) ^ 32 = 4294967296 by decide]; omega) (by omega)] at hT
  have h0 : 0 ≤ T := by omega
  rw [← hT]
  have hq0 : 0 ≤ T / bt := Int.ediv_nonneg h0 (by omega)
  have hq1 : T / bt ≤ T := Int.ediv_le_self _ h0
  rw [e3, Int.tdiv_eq_ediv_of_nonneg h0] at hG
  rw [e3]
  have e4 : IntKind.u64.wrap (T / bt) = T / bt := by rw [wrap_u64]; generalize T / bt = q at *; omega
  rw [e4] at hG
  generalize T / bt = q at *
  refine ⟨by omega, ?_, ?_, fun d h1 h2 => ?_⟩ <;> split at hG <;> omega

theorem long_math (a' bs : List Int) (i : Nat) (h3 : okd B32 a') (ob : okd B32 bs) (hnb1 : 1 ≤ bs.length) (hi : i + bs.length < a'.length) (htop : 0 < bs.getD (bs.length - 1) 0) (h6 : val B32 (a'.drop (i + 1)) < val B32 bs) :
    ∃ D, 0 ≤ D ∧ D < B32 ∧ D ≤ (a'.getD (i + bs.length) 0 * B32 + a'.getD (i + bs.length - 1) 0) / bs.getD (bs.length - 1) 0 ∧
      (∀ g, D ≤ g → val B32 ((a'.drop i).take (bs.length + 1)) < val B32 bs * g → D < g) ∧
      (∀ (g : Int) (a2 : List Int), D ≤ g → val B32 bs * g ≤ val B32 ((a'.drop i).take (bs.length + 1)) → a2.length = a'.length → a2.take i = a'.take i → a2.drop (i + (bs.length + 1)) = a'.drop (i + (bs.length + 1)) →
        val B32 ((a2.drop i).take (bs.length + 1)) = val B32 ((a'.drop i).take (bs.length + 1)) - val B32 bs * g → g = D ∧ val B32 (a2.drop i) < val B32 bs ∧ val B32 a' = val B32 a2 + B32 ^ i * (g * val B32 bs)) := by
  have hB := B32_pos
  have vb0 : 0 < val B32 bs := by
    have e := val_split B32 bs (bs.length - 1) (by omega)
    have n1 := val_nonneg B32_pos (ob.take (bs.length - 1))
    rw [val_drop B32 bs (bs.length - 1) (by omega), List.drop_of_length_le (by omega), val, Int.mul_zero, Int.add_zero] at e
    have n2 : 0 < B32 ^ (bs.length - 1) * bs.getD (bs.length - 1) 0 := Int.mul_pos (Int.pow_pos B32_pos) htop
    omega
  obtain ⟨W, hW⟩ : ∃ W, W = val B32 ((a'.drop i).take (bs.length + 1)) := ⟨_, rfl⟩
  obtain ⟨H, hH⟩ : ∃ H, H = val B32 ((a'.drop i).drop (bs.length + 1)) := ⟨_, rfl⟩
  have oi := h3.drop i
  have lw : ((a'.drop i).take (bs.length + 1)).length = bs.length + 1 := by simp; omega
  have W0 : 0 ≤ W := by rw [hW]; exact val_nonneg B32_pos (oi.take _)
  have H0 : 0 ≤ H := by rw [hH]; exact val_nonneg B32_pos (oi.drop _)
  have es : val B32 (a'.drop i) = W + B32 ^ (bs.length + 1) * H := by rw [hW, hH, ← val_split _ _ _ (by simp; omega)]
  have ed := val_drop B32 a' i (by omega)
  have ri := h3.getD B32_pos i
  have m1 : B32 * val B32 (a'.drop (i + 1)) ≤ B32 * (val B32 bs - 1) := Int.mul_le_mul_of_nonneg_left (by omega) (Int.le_of_lt B32_pos)
  rw [Int.mul_sub, Int.mul_one] at m1
  have m2 : B32 * val B32 bs ≤ B32 * B32 ^ bs.length := Int.mul_le_mul_of_nonneg_left (Int.le_of_lt (val_lt B32_pos ob)) (Int.le_of_lt B32_pos)
  have m3 : B32 * B32 ^ bs.length = B32 ^ (bs.length + 1) := by rw [Int.mul_comm]; exact (Int.pow_succ ..).symm
  have Hz : H = 0 := by
    have h : B32 ^ (bs.length + 1) * H < B32 ^ (bs.length + 1) * 1 := by omega
    have := Int.lt_of_mul_lt_mul_left h (Int.le_of_lt (Int.pow_pos B32_pos))
    omega
  rw [Hz, Int.mul_zero, Int.add_zero] at es
  have WB : W < B32 * val B32 bs := by omega
  obtain ⟨D, hD⟩ : ∃ D, D = W / val B32 bs := ⟨_, rfl⟩
  have D0 : 0 ≤ D := by rw [hD]; exact Int.ediv_nonneg W0 (Int.le_of_lt vb0)
  have DB : D < B32 := by rw [hD]; exact Int.ediv_lt_of_lt_mul vb0 WB
  have eD := Int.mul_ediv_add_emod W (val B32 bs)
  have lD := Int.emod_lt_of_pos W vb0
  have nD := Int.emod_nonneg W (show val B32 bs ≠ 0 by omega)
  rw [← hD] at eD
  have p0 : ((a'.drop i).take (bs.length - 1)).length = bs.length - 1 := by simp; omega
  have p1 : W = val B32 ((a'.drop i).take (bs.length - 1)) + B32 ^ (bs.length - 1) * (a'.getD (i + bs.length - 1) 0 + B32 * a'.getD (i + bs.length) 0) := by
    have q1 := val_take B32 (a'.drop i) bs.length
    have q2 := val_take B32 (a'.drop i) (bs.length - 1)
    have q3 : B32 ^ (bs.length - 1) * B32 = B32 ^ bs.length := by
      have := (Int.pow_succ B32 (bs.length - 1)).symm
      rwa [Nat.succ_eq_add_one, Nat.sub_add_cancel hnb1] at this
    rw [Nat.sub_add_cancel hnb1] at q2
    rw [getD_drop] at q1 q2
    rw [show i + (bs.length - 1) = i + bs.length - 1 by omega] at q2
    rw [hW, q1, q2, Int.mul_add, ← Int.mul_assoc, q3]
    omega
  have p2 : B32 ^ (bs.length - 1) * bs.getD (bs.length - 1) 0 ≤ val B32 bs := by
    have e := val_split B32 bs (bs.length - 1) (by omega)
    have n1 := val_nonneg B32_pos (ob.take (bs.length - 1))
    rw [val_drop B32 bs (bs.length - 1) (by omega), List.drop_of_length_le (by omega), val, Int.mul_zero, Int.add_zero] at e
    omega
  have p3 : D * val B32 bs ≤ W := by rw [Int.mul_comm]; omega
  have DG := guess_ok (oi.take (bs.length - 1)) p0 p1 p2 htop D0 p3
  have hlt : ∀ g, D < g → W < val B32 bs * g := fun g hg => by
    have : val B32 bs * (D + 1) ≤ val B32 bs * g := Int.mul_le_mul_of_nonneg_left (by omega) (Int.le_of_lt vb0)
    rw [Int.mul_add, Int.mul_one] at this
    omega
  have hle : ∀ g, g ≤ D → val B32 bs * g ≤ W := fun g hg => by
    have : val B32 bs * g ≤ val B32 bs * D := Int.mul_le_mul_of_nonneg_left hg (Int.le_of_lt vb0)
    omega
  refine ⟨D, D0, DB, DG, fun g hg h => ?_, fun g a2 hg h k1 k2 k3 k4 => ?_⟩
  · rw [← hW] at h
    by_cases e : D < g
    · exact e
    · have := hle g (by omega); omega
  · rw [← hW] at h k4
    have eg : g = D := by
      by_cases e : D < g
      · have := hlt g e; omega
      · omega
    subst eg
    have e2 : val B32 (a2.drop i) = W - val B32 bs * g := by
      rw [val_split B32 (a2.drop i) (bs.length + 1) (by simp; omega), k4, List.drop_drop, k3, ← List.drop_drop, ← hH, Hz, Int.mul_zero, Int.add_zero]
    refine ⟨rfl, by omega, ?_⟩
    rw [val_split B32 a' i (by omega), val_split B32 a2 i (by omega), k2, e2, es, Int.mul_sub, Int.mul_comm g]
    omega

set_option maxRecDepth 10000 in
theorem long_calls (ys bs : List Int) (nb ca : Nat) (vb : Value) (m : Mo) (hm : m.okm) (b : Nat) (arr : Array Value) (tot : Nat) (hbm : b ∈ m.L) (hg : m.w.heap[b]? = some (.cells arr 60 (0, 0))) (hs : arr.size = tot) (hc : arr.toList.take ys.length = ys.map (.int .u32))
    (hb : m.ints vb .u32 bs) (hnb : nb = bs.length) (hnb1 : 1 ≤ nb) (hca : ys.length ≤ ca) (hna : nb ≤ ys.length) (oy : okd B32 ys) (ob : okd B32 bs) (htop : 0 < bs.getD (nb - 1) 0) (hfit : val B32 (ys.drop (ys.length - nb)) < val B32 bs) (hx : ys.length ≤ 1000000000) :
    Calls Try.prog 56 #[.slice (some ⟨b, 0, none⟩) ys.length ca, vb] m.w (PostM b 60 tot .u32 m.w fun w' ys' v => ∃ zs, (ys'.length = ys.length ∧ okd B32 ys' ∧ zs.length = ys.length - nb ∧ okd B32 zs ∧ val B32 ys = val B32 zs * val B32 bs + val B32 ys' ∧ val B32 ys' < val B32 bs) ∧ Mo.own ⟨[], w'⟩ m.w.heap.size 60 v .u32 zs) := by
  obtain ⟨a, cb, rfl, hcb, hsb, hrb⟩ := hb
  subst hnb
  refine enterM_ Try.f56 _ 72 b 60 tot .u32 ys [a] [⟨none, .ints .u32 bs⟩] [.ls 0 0 ys.length ca, .ls 1 0 bs.length cb] (by kernel_rfl) rfl (by kernel_rfl) hm hbm hg hs hc (by simp [concL, conc, Base.up]) (by simp [okL, AV.ok]) ⟨⟨rfl, hsb, trivial, hrb⟩, trivial⟩ ?_
  have w1 : IntKind.i64.wrap ((ys.length : Int) - bs.length) = ((ys.length - bs.length : Nat) : Int) := by rw [wrap_in _ (by omega) (by omega)]; omega
  refine mk_ (e := 60) .u32 (ys.length - bs.length) (by kernel_rfl) (by kernel_rfl) (by rw [w1]; split <;> omega) (by omega) ?_
  have hlen : ∀ x : Int, (if x > 0 then x else 0) = if x > 0 then x else 0 := fun _ => rfl
  refine loop_ (ι := Nat × List Int × List Int) (fun i => [(7, .v (.int .i64 ((i.1 : Int) - 1))), (6, .ls 2 0 (ys.length - bs.length) (ys.length - bs.length)), (5, .v (.int .i64 bs.length)), (0, .ls 0 0 ys.length ca), (1, .ls 1 0 bs.length cb)])
    (fun i => [⟨some (60, tot), .ints .u32 i.2.1⟩, ⟨none, .ints .u32 bs⟩, ⟨some (60, ys.length - bs.length), .ints .u32 i.2.2⟩])
    (fun i _ => i.1 ≤ ys.length - bs.length ∧ i.2.1.length = ys.length ∧ okd B32 i.2.1 ∧ i.2.2.length = ys.length - bs.length ∧ okd B32 (i.2.2.drop i.1) ∧ val B32 (i.2.1.drop i.1) < val B32 bs ∧ val B32 ys = val B32 i.2.1 + B32 ^ i.1 * (val B32 (i.2.2.drop i.1) * val B32 bs)) (fun i => i.1) (ys.length - bs.length, ys, List.replicate (ys.length - bs.length) 0) (M0 := m) ?_ ?_ ?_
  · exact Ref.sub (by exact ⟨some_nrm (by rw [w1, wrap_in _ (by omega) (by omega)]), rfl, rfl, rfl, rfl, trivial⟩)
  · exact ⟨Nat.le_refl _, rfl, oy, by simp, by rw [List.drop_of_length_le (by simp)]; exact okd.nil _, hfit, by rw [List.drop_of_length_le (by simp)]; simp [val]⟩
  rintro ⟨k, a', q⟩ M1 ⟨h1, h2, h3, h4, h5, h6, h7⟩
  simp only at h1 h2 h3 h4 h5 h6 h7
  refine Br.mk (fun hb => ?_) (fun hb => ?_)
  · have hk : 1 ≤ k := by simp at hb; omega
    obtain ⟨i, rfl⟩ : ∃ i, k = i + 1 := ⟨k - 1, by omega⟩
    have ei : (((i + 1 : Nat) : Int) - 1) = (i : Int) := by omega
    rw [ei]
    have w2 : IntKind.i64.wrap ((i : Int) + bs.length) = ((i + bs.length : Nat) : Int) := by rw [wrap_in _ (by omega) (by omega)]; omega
    have w3 : IntKind.i64.wrap (IntKind.i64.wrap ((i : Int) + bs.length) - 1) = ((i + bs.length - 1 : Nat) : Int) := by rw [w2, wrap_in _ (by omega) (by omega)]; omega
    have w4 : IntKind.i64.wrap ((bs.length : Int) - 1) = ((bs.length - 1 : Nat) : Int) := by rw [wrap_in _ (by omega) (by omega)]; omega
    refine draw_ [] [0, 1, 2, 3, 4, 5, 6, 7, 8, 9, 10, 11, 12, 13, 14, 15, 16, 17] [] [] [] (by kernel_rfl) rfl rfl ?_
    have t2 : (IntKind.i64.wrap ((i : Int) + bs.length)).toNat = i + bs.length := by rw [w2]; rfl
    have t3 : (IntKind.i64.wrap (IntKind.i64.wrap ((i : Int) + bs.length) - 1)).toNat = i + bs.length - 1 := by rw [w3]; rfl
    have t4 : (IntKind.i64.wrap ((bs.length : Int) - 1)).toNat = bs.length - 1 := by rw [w4]; rfl
    have rx := h3.getD B32_pos (i + bs.length - 1)
    have ry := h3.getD B32_pos (i + bs.length)
    have rb := ob.getD B32_pos (bs.length - 1)
    obtain ⟨T, hT⟩ : ∃ T, T = IntKind.u64.wrap (((BitVec.ofInt IntKind.u64.bits (IntKind.u64.wrap (IntKind.u64.wrap (a'.getD (i + bs.length) 0) * 2 ^ (min (Int.toNat 32) IntKind.u64.bits))) ||| BitVec.ofInt IntKind.u64.bits (IntKind.u64.wrap (a'.getD (i + bs.length - 1) 0))).toNat : Nat) : Int) := ⟨_, rfl⟩
    obtain ⟨G, hG⟩ : ∃ G, G = (if 4294967295 < IntKind.u64.wrap (T.tdiv (IntKind.u64.wrap (bs.getD (bs.length - 1) 0))) then 4294967295 else IntKind.u64.wrap (T.tdiv (IntKind.u64.wrap (bs.getD (bs.length - 1) 0)))) := ⟨_, rfl⟩
    obtain ⟨g1, g2, g3, g4⟩ := guess_start rx ry ⟨htop, rb.2⟩ hT hG
    refine ix_ (by rw [w2]; omega) (by rw [t2]; show i + bs.length < a'.length; omega) ?_
    refine And.intro (by decide) ?_
    refine ix_ (by rw [w3]; omega) (by rw [t3]; show i + bs.length - 1 < a'.length; omega) ?_
    refine ix_ (by rw [w4]; omega) (by rw [t4]; show bs.length - 1 < bs.length; omega) ?_
    rw [t2, t3, t4]
    refine And.intro g1 ?_
    obtain ⟨D, D0, DB, D1, D2, D3⟩ := long_math a' bs i h3 ob hnb1 (by omega) htop h6
    have DG := g4 D DB D1
    refine loop_ (ι := Int) (fun g => [(9, .v (.int .u64 g)), (7, .v (.int .i64 i)), (6, .ls 2 0 (ys.length - bs.length) (ys.length - bs.length)), (5, .v (.int .i64 bs.length)), (0, .ls 0 0 ys.length ca), (1, .ls 1 0 bs.length cb)])
      (fun _ => [⟨some (60, tot), .ints .u32 a'⟩, ⟨none, .ints .u32 bs⟩, ⟨some (60, ys.length - bs.length), .ints .u32 q⟩])
      (fun g _ => g < B32 ∧ D ≤ g) (fun g => (g - D).toNat) G (M0 := M1) ?_ ?_ ?_
    · exact Ref.sub (by exact ⟨some_nrm (by rw [hG, hT]), rfl, rfl, rfl, rfl, rfl, trivial⟩)
    · exact ⟨g3, DG⟩
    clear g4 hG hT DG g1 g2 g3 rx ry
    rintro g M2 ⟨gB, Dg⟩
    have w5 : IntKind.i64.wrap (IntKind.i64.wrap ((i : Int) + bs.length) + 1) = ((i + bs.length + 1 : Nat) : Int) := by rw [w2, wrap_in _ (by omega) (by omega)]; omega
    have t5 : (IntKind.i64.wrap (IntKind.i64.wrap ((i : Int) + bs.length) + 1)).toNat = i + bs.length + 1 := by rw [w5]; rfl
    refine And.intro (by rw [w5]; omega) (And.intro (by rw [t5]; omega) ?_)
    have g0 : 0 ≤ g := by omega
    have eg : IntKind.u32.wrap g = g := by rw [wrap_u32]; unfold B32 at gB; omega
    refine callm_ (id := 0) (ys := a') (R := fun ys' v => (v = .bool true ∧ val B32 ((a'.drop i).take (bs.length + 1)) < val B32 bs * g ∧ ys' = a') ∨ (v = .bool false ∧ val B32 bs * g ≤ val B32 ((a'.drop i).take (bs.length + 1)) ∧ ys'.length = a'.length ∧ okd B32 ys' ∧ ys'.take i = a'.take i ∧ ys'.drop (i + (bs.length + 1)) = a'.drop (i + (bs.length + 1)) ∧ val B32 ((ys'.drop i).take (bs.length + 1)) = val B32 ((a'.drop i).take (bs.length + 1)) - val B32 bs * g)) (by kernel_rfl) rfl (fun e => by rw [e] at h2; simp at h2; omega) (fun l m' b' arr' hw => ?_) ?_
    · have tk := takes_calls a' bs i (bs.length + 1) (ca - i) (conc l (.ls 1 0 bs.length cb)) g m' hw.sees.okm b' arr' tot hw.mem hw.heap hw.size hw.cells (hw.sees.ints0 (id := 1) rfl hcb) rfl (by omega) (by omega) h3 ob ⟨g0, gB⟩ (by omega)
      refine Eq.mpr (congrArg (fun z => Calls _ _ (List.toArray z) _ _) ?_) tk
      simp only [concL, hw.arg, t5, Int.toNat_natCast, eg]
      rw [if_neg (by omega), Nat.zero_add, show i + bs.length + 1 - i = bs.length + 1 by omega]
      show [Value.slice (some ⟨b', i * 1, none⟩) _ _, _, _] = _
      rw [Nat.mul_one]
      rfl
    · rintro M3 a2 v le3 (⟨rfl, c1, rfl⟩ | ⟨rfl, c1, c2, c3, c4, c5, c6⟩)
      · refine Br.mk (fun _ => ?_) (fun h => by cases h)
        have := D2 g Dg c1
        refine ⟨g - 1, M3, Ref.sub (by exact ⟨some_nrm (by rw [wrap_u64]; unfold B32 at gB; omega), rfl, rfl, rfl, rfl, rfl, trivial⟩), ⟨by omega, by omega⟩, by omega⟩
      · refine Br.mk (fun h => by cases h) (fun _ => ?_)
        obtain ⟨f1, f2, f3⟩ := D3 g a2 Dg c1 c2 c4 c5 c6
        subst f1
        refine ix_ ⟨by omega, by omega⟩ (by show (i : Int).toNat < q.length; omega) ?_
        refine ⟨(i, a2, q.set i g), M3, Ref.subS (by exact ⟨some_nrm (wrap_in _ (by omega) (by omega)), rfl, rfl, rfl, rfl, trivial⟩) ?_, ⟨by simp only; omega, by simp only; omega, c3, by simp only; simpa using h4, ?_, f2, ?_⟩, by simp only; omega⟩
        · simp only [Int.toNat_natCast, eg]
        · simp only
          rw [set_drop _ _ _ (by omega)]
          exact h5.cons ⟨g0, gB⟩
        · simp only
          rw [set_drop _ _ _ (by omega), val, h7, f3, Int.pow_succ, Int.add_mul, Int.mul_add (B32 ^ i), Int.mul_assoc (B32 ^ i), Int.mul_assoc B32]
          omega
  · have hk : k = 0 := by simp at hb; omega
    subst hk
    exact fin_mutO rfl rfl (by decide) rfl h4.symm ⟨h2, h3, h4, h5, by simp at h7; simp only; omega, h6⟩
end Go.Proofs.Ytdkamjbcpmlheaa

/- Rows of parts: the division in all. -/
namespace Go.Proofs.Ytdkamjbcpmlheaa
open Go Go.Gw Go.Lg
set_option pp.deepTerms false
set_option pp.deepTerms.threshold 6
set_option pp.maxSteps 3000

/-- A row divided by a power of two, from the lowest part on. -/
theorem down_step {x P Q V U : Int} {i : Nat} (hPQ : P * Q = B32) (hP : 0 < P) (hU : U = V / P) (hi : 1 ≤ i) :
    (V + B32 ^ i * x) / P = U + B32 ^ (i - 1) * (Q * (x % P)) + B32 ^ i * (x / P) := by
  have e := Int.mul_ediv_add_emod x P
  have e1 : B32 ^ i = P * (B32 ^ (i - 1) * Q) := by
    have : B32 ^ (i - 1) * B32 = B32 ^ i := by
      have := (Int.pow_succ B32 (i - 1)).symm
      rwa [Nat.succ_eq_add_one, Nat.sub_add_cancel hi] at this
    rw [← this, show B32 ^ (i - 1) * B32 = B32 ^ (i - 1) * (P * Q) by rw [hPQ], ← Int.mul_assoc, ← Int.mul_assoc, Int.mul_comm (B32 ^ (i - 1)) P]
  have e2 : V + B32 ^ i * x = V + P * (B32 ^ (i - 1) * (Q * (x % P)) + B32 ^ i * (x / P)) := by
    conv => lhs; rw [← e]
    rw [Int.mul_add, Int.mul_add P]
    have h1 : B32 ^ i * (P * (x / P)) = P * (B32 ^ i * (x / P)) := by rw [← Int.mul_assoc, ← Int.mul_assoc, Int.mul_comm (B32 ^ i) P]
    have h2 : B32 ^ i * (x % P) = P * (B32 ^ (i - 1) * (Q * (x % P))) := by
      rw [e1]; simp only [Int.mul_assoc]
    omega
  rw [e2, Int.add_mul_ediv_left _ _ (by omega), ← hU]
  omega

theorem part_math {xs bs us ws : List Int} {n : Nat} (hn : n ≤ 31) (ox : okd B32 xs) (ob : okd B32 bs) (ou : okd B32 us) (ow : okd B32 ws) (hbl : 1 ≤ bs.length) (hl : bs.length ≤ xs.length) (lu : us.length = xs.length + 1) (lw : ws.length = bs.length + 1)
    (vu : val B32 us = val B32 xs * 2 ^ n) (vw : val B32 ws = val B32 bs * 2 ^ n) (t1 : bs.getD (bs.length - 1) 0 * 2 ^ n < B32) (t2 : 2147483648 ≤ bs.getD (bs.length - 1) 0 * 2 ^ n) :
    val B32 (ws.take bs.length) = val B32 bs * 2 ^ n ∧ 0 < (ws.take bs.length).getD (bs.length - 1) 0 ∧ val B32 (us.drop (us.length - bs.length)) < val B32 (ws.take bs.length) := by
  have hP : (0 : Int) < 2 ^ n := Int.pow_pos (by decide)
  have hP31 : (2 : Int) ^ n ≤ 2147483648 := by
    have := pow_mono (B := 2) (by decide) hn
    rwa [show (2 : Int) ^ 31 = 2147483648 by decide] at this
  have hPQ := pow_dvd32 (show n ≤ 32 by omega)
  have hK : (0 : Int) < B32 ^ (bs.length - 1) := Int.pow_pos B32_pos
  have e := val_split B32 bs (bs.length - 1) (by omega)
  rw [val_drop B32 bs (bs.length - 1) (by omega), List.drop_of_length_le (by omega), val, Int.mul_zero, Int.add_zero] at e
  have lo0 := val_nonneg B32_pos (ob.take (bs.length - 1))
  have lo1 := val_lt B32_pos (ob.take (bs.length - 1))
  rw [List.length_take, Nat.min_eq_left (by omega)] at lo1
  generalize bs.getD (bs.length - 1) 0 = t at *
  have m1 : t * 2 ^ n ≤ 2 ^ n * 2 ^ (32 - n) - 2 ^ n := mult_le hP (Int.mul_emod_left ..) (by rw [hPQ]; exact t1)
  rw [hPQ] at m1
  have hup : val B32 bs * 2 ^ n < B32 ^ bs.length := by
    have h1 : val B32 bs * 2 ^ n < B32 ^ (bs.length - 1) * (t + 1) * 2 ^ n := Int.mul_lt_mul_of_pos_right (by rw [Int.mul_add]; omega) hP
    have h2 : B32 ^ (bs.length - 1) * (t + 1) * 2 ^ n ≤ B32 ^ (bs.length - 1) * B32 := by
      rw [Int.mul_assoc, Int.add_mul]
      exact Int.mul_le_mul_of_nonneg_left (by omega) (Int.le_of_lt hK)
    have h3 : B32 ^ (bs.length - 1) * B32 = B32 ^ bs.length := by
      have := (Int.pow_succ B32 (bs.length - 1)).symm
      rwa [Nat.succ_eq_add_one, Nat.sub_add_cancel hbl] at this
    omega
  have hlow : B32 ^ (bs.length - 1) * 2147483648 ≤ val B32 bs * 2 ^ n := by
    have h1 : B32 ^ (bs.length - 1) * t * 2 ^ n ≤ val B32 bs * 2 ^ n := Int.mul_le_mul_of_nonneg_right (by omega) (Int.le_of_lt hP)
    have h2 : B32 ^ (bs.length - 1) * 2147483648 ≤ B32 ^ (bs.length - 1) * (t * 2 ^ n) := Int.mul_le_mul_of_nonneg_left t2 (Int.le_of_lt hK)
    rw [← Int.mul_assoc] at h2
    omega
  have ew := val_take B32 ws bs.length
  rw [List.take_of_length_le (by omega), vw] at ew
  have dw := ow.getD B32_pos bs.length
  have nw := val_nonneg B32_pos (ow.take bs.length)
  have hz : ws.getD bs.length 0 = 0 := by
    have h1 : B32 ^ bs.length * ws.getD bs.length 0 < B32 ^ bs.length * 1 := by omega
    have := Int.lt_of_mul_lt_mul_left h1 (Int.le_of_lt (Int.pow_pos B32_pos))
    omega
  rw [hz, Int.mul_zero, Int.add_zero] at ew
  refine ⟨ew.symm, ?_, ?_⟩
  · have g1 := val_take B32 ws (bs.length - 1)
    rw [Nat.sub_add_cancel hbl, ← ew] at g1
    have g2 := val_lt B32_pos (ow.take (bs.length - 1))
    rw [List.length_take, Nat.min_eq_left (by omega)] at g2
    have g3 := ow.getD B32_pos (bs.length - 1)
    have g4 : (ws.take bs.length).getD (bs.length - 1) 0 = ws.getD (bs.length - 1) 0 := by
      simp only [List.getD, List.getElem?_take, if_pos (show bs.length - 1 < bs.length by omega)]
    rw [g4]
    by_cases h : ws.getD (bs.length - 1) 0 = 0
    · rw [h, Int.mul_zero] at g1; omega
    · omega
  · rw [← ew]
    refine Int.lt_of_lt_of_le ?_ hlow
    have e2 := val_split B32 us (us.length - bs.length) (by omega)
    have n2 := val_nonneg B32_pos (ou.take (us.length - bs.length))
    have h1 : val B32 xs * 2 ^ n < B32 ^ xs.length * 2 ^ n := Int.mul_lt_mul_of_pos_right (val_lt B32_pos ox) hP
    have h2 : B32 ^ xs.length * 2 ^ n ≤ B32 ^ xs.length * 2147483648 := Int.mul_le_mul_of_nonneg_left hP31 (Int.le_of_lt (Int.pow_pos B32_pos))
    have h3 : B32 ^ xs.length = B32 ^ (us.length - bs.length) * B32 ^ (bs.length - 1) := by
      rw [← Int.pow_add]; congr 1; omega
    have h4 : B32 ^ (us.length - bs.length) * val B32 (us.drop (us.length - bs.length)) < B32 ^ (us.length - bs.length) * (B32 ^ (bs.length - 1) * 2147483648) := by
      rw [← Int.mul_assoc, ← h3]; omega
    exact Int.lt_of_mul_lt_mul_left h4 (Int.le_of_lt (Int.pow_pos B32_pos))

theorem pow31 {n : Nat} (hn : n ≤ 31) : (2 : Int) ^ n ≤ 2147483648 := by
  have := pow_mono (B := 2) (by decide) hn
  rwa [show (2 : Int) ^ 31 = 2147483648 by decide] at this
theorem down1 {x a : Int} {n : Nat} (hn : n ≤ 31) (hx : 0 ≤ x ∧ x < B32) (ha : a = 0) :
    IntKind.u32.wrap (((BitVec.ofInt IntKind.u32.bits a ||| BitVec.ofInt IntKind.u32.bits (x.fdiv (2 ^ (min n IntKind.u32.bits)))).toNat : Nat) : Int) = x / 2 ^ n := by
  have sh : x.fdiv (2 ^ (min n IntKind.u32.bits)) = x / 2 ^ n := shr_u32 x n (by omega)
  have hP : (0 : Int) < 2 ^ n := Int.pow_pos (by decide)
  have h0 : 0 ≤ x / 2 ^ n := Int.ediv_nonneg hx.1 (Int.le_of_lt hP)
  have h1 : x / 2 ^ n ≤ x := Int.ediv_le_self _ hx.1
  have hx2 := hx.2
  unfold B32 at hx2
  rw [sh, ha, or32 32 0 (x / 2 ^ n) (by omega) (by decide) h0 (by rw [show (2 : Int) ^ 32 = 4294967296 by decide]; omega) (by omega), Int.zero_add]
theorem down2 {x y : Int} {n : Nat} (hn : n ≤ 31) (hx : 0 ≤ x ∧ x < B32) (hy : 0 ≤ y ∧ y < 2 ^ (32 - n)) :
    IntKind.u32.wrap (((BitVec.ofInt IntKind.u32.bits y ||| BitVec.ofInt IntKind.u32.bits (IntKind.u32.wrap (IntKind.u64.wrap (IntKind.u64.wrap x * 2 ^ (min (Int.toNat (IntKind.i64.wrap (32 - n))) IntKind.u64.bits))))).toNat : Nat) : Int) = y + 2 ^ (32 - n) * (x % 2 ^ n) := by
  have hP : (0 : Int) < 2 ^ n := Int.pow_pos (by decide)
  have hQ : (0 : Int) < 2 ^ (32 - n) := Int.pow_pos (by decide)
  have hPQ := pow_dvd32 (show n ≤ 32 by omega)
  have hQ32 : (2 : Int) ^ (32 - n) ≤ 4294967296 := by
    have := pow_mono (B := 2) (by decide) (show 32 - n ≤ 32 by omega)
    rwa [show (2 : Int) ^ 32 = 4294967296 by decide] at this
  have e0 : (Int.toNat (IntKind.i64.wrap (32 - n))) = 32 - n := by rw [wrap_in _ (by omega) (by omega)]; omega
  have e1 : min (32 - n) IntKind.u64.bits = 32 - n := Nat.min_eq_left (by show 32 - n ≤ 64; omega)
  have e2 : IntKind.u64.wrap x = x := by rw [wrap_u64]; unfold B32 at hx; omega
  have e3 : IntKind.u64.wrap (x * 2 ^ (32 - n)) = x * 2 ^ (32 - n) := by
    have h1 : x * 2 ^ (32 - n) ≤ x * 4294967296 := Int.mul_le_mul_of_nonneg_left hQ32 hx.1
    have h2 : 0 ≤ x * 2 ^ (32 - n) := Int.mul_nonneg hx.1 (Int.le_of_lt hQ)
    rw [wrap_u64]; unfold B32 at hx; omega
  have m0 := Int.emod_nonneg x (Int.ne_of_gt hP)
  have m1 := Int.emod_lt_of_pos x hP
  have e4 : IntKind.u32.wrap (x * 2 ^ (32 - n)) = 2 ^ (32 - n) * (x % 2 ^ n) := by
    rw [wrap_u32]
    show x * 2 ^ (32 - n) % B32 = _
    rw [← hPQ, Int.mul_comm x, Int.mul_comm (2 ^ n), Int.mul_emod_mul_of_pos _ _ hQ]
  rw [e0, e1, e2, e3, e4]
  have b1 : 2 ^ (32 - n) * (x % 2 ^ n) ≤ 2 ^ (32 - n) * (2 ^ n - 1) := Int.mul_le_mul_of_nonneg_left (by omega) (Int.le_of_lt hQ)
  have b2 : 2 ^ (32 - n) * (2 ^ n - 1) = B32 - 2 ^ (32 - n) := by rw [Int.mul_sub, Int.mul_one, Int.mul_comm, hPQ]
  have b3 : 0 ≤ 2 ^ (32 - n) * (x % 2 ^ n) := Int.mul_nonneg (Int.le_of_lt hQ) m0
  rw [or32' (32 - n) (2 ^ (32 - n) * (x % 2 ^ n)) y b3 (Int.mul_emod_right _ _) hy.1 hy.2 (by unfold B32 at b2; omega), Int.add_comm]
theorem down_fin1 {ds out : List Int} {i n : Nat} (hPQ : (2 : Int) ^ n * 2 ^ (32 - n) = B32) (hP : (0 : Int) < 2 ^ n) (h2 : out.length = ds.length) (hi : i < ds.length) (h0 : i = 0) (h4 : okd B32 out) (h6 : ∀ j, i ≤ j → out.getD j 0 = 0)
    (h7 : val B32 (out.take i) = val B32 (ds.take i) / 2 ^ n) (rx : 0 ≤ ds.getD i 0 ∧ ds.getD i 0 < B32) :
    (out.set i (ds.getD i 0 / 2 ^ n)).length = ds.length ∧ i + 1 ≤ ds.length ∧ okd B32 (out.set i (ds.getD i 0 / 2 ^ n)) ∧ (i + 1 = 0 ∨ (out.set i (ds.getD i 0 / 2 ^ n)).getD (i + 1 - 1) 0 < 2 ^ (32 - n)) ∧ (∀ j, i + 1 ≤ j → (out.set i (ds.getD i 0 / 2 ^ n)).getD j 0 = 0) ∧ val B32 ((out.set i (ds.getD i 0 / 2 ^ n)).take (i + 1)) = val B32 (ds.take (i + 1)) / 2 ^ n := by
  have b0 : 0 ≤ ds.getD i 0 / 2 ^ n := Int.ediv_nonneg rx.1 (Int.le_of_lt hP)
  have b1 : ds.getD i 0 / 2 ^ n < 2 ^ (32 - n) := Int.ediv_lt_of_lt_mul hP (by rw [Int.mul_comm, hPQ]; exact rx.2)
  have b2 : ds.getD i 0 / 2 ^ n ≤ ds.getD i 0 := Int.ediv_le_self _ rx.1
  refine ⟨by simpa using h2, hi, fun a ha => ?_, .inr ?_, fun j hj => ?_, ?_⟩
  · rcases List.mem_or_eq_of_mem_set ha with h | h
    · exact h4 a h
    · omega
  · rw [set_getD _ _ _ _ (by omega), if_pos (by omega)]; exact b1
  · rw [set_getD _ _ _ _ (by omega), if_neg (by omega)]; exact h6 j (by omega)
  · subst h0
    rw [set_take _ _ _ (by omega), val_snoc, val_take B32 ds 0]
    simp [val]
theorem down_fin2 {ds out : List Int} {i n : Nat} (hPQ : (2 : Int) ^ n * 2 ^ (32 - n) = B32) (hP : (0 : Int) < 2 ^ n) (h2 : out.length = ds.length) (hi : i < ds.length) (h1 : 1 ≤ i) (h4 : okd B32 out) (h5 : 0 ≤ out.getD (i - 1) 0 ∧ out.getD (i - 1) 0 < 2 ^ (32 - n)) (h6 : ∀ j, i ≤ j → out.getD j 0 = 0)
    (h7 : val B32 (out.take i) = val B32 (ds.take i) / 2 ^ n) (rx : 0 ≤ ds.getD i 0 ∧ ds.getD i 0 < B32) :
    ((out.set i (ds.getD i 0 / 2 ^ n)).set (i - 1) (out.getD (i - 1) 0 + 2 ^ (32 - n) * (ds.getD i 0 % 2 ^ n))).length = ds.length ∧ i + 1 ≤ ds.length ∧ okd B32 ((out.set i (ds.getD i 0 / 2 ^ n)).set (i - 1) (out.getD (i - 1) 0 + 2 ^ (32 - n) * (ds.getD i 0 % 2 ^ n))) ∧
      (i + 1 = 0 ∨ ((out.set i (ds.getD i 0 / 2 ^ n)).set (i - 1) (out.getD (i - 1) 0 + 2 ^ (32 - n) * (ds.getD i 0 % 2 ^ n))).getD (i + 1 - 1) 0 < 2 ^ (32 - n)) ∧ (∀ j, i + 1 ≤ j → ((out.set i (ds.getD i 0 / 2 ^ n)).set (i - 1) (out.getD (i - 1) 0 + 2 ^ (32 - n) * (ds.getD i 0 % 2 ^ n))).getD j 0 = 0) ∧
      val B32 (((out.set i (ds.getD i 0 / 2 ^ n)).set (i - 1) (out.getD (i - 1) 0 + 2 ^ (32 - n) * (ds.getD i 0 % 2 ^ n))).take (i + 1)) = val B32 (ds.take (i + 1)) / 2 ^ n := by
  have hQ : (0 : Int) < 2 ^ (32 - n) := Int.pow_pos (by decide)
  have b0 : 0 ≤ ds.getD i 0 / 2 ^ n := Int.ediv_nonneg rx.1 (Int.le_of_lt hP)
  have b1 : ds.getD i 0 / 2 ^ n < 2 ^ (32 - n) := Int.ediv_lt_of_lt_mul hP (by rw [Int.mul_comm, hPQ]; exact rx.2)
  have b2 : ds.getD i 0 / 2 ^ n ≤ ds.getD i 0 := Int.ediv_le_self _ rx.1
  have m0 := Int.emod_nonneg (ds.getD i 0) (Int.ne_of_gt hP)
  have m1 := Int.emod_lt_of_pos (ds.getD i 0) hP
  have c0 : 0 ≤ 2 ^ (32 - n) * (ds.getD i 0 % 2 ^ n) := Int.mul_nonneg (Int.le_of_lt hQ) m0
  have c1 : 2 ^ (32 - n) * (ds.getD i 0 % 2 ^ n) ≤ 2 ^ (32 - n) * (2 ^ n - 1) := Int.mul_le_mul_of_nonneg_left (by omega) (Int.le_of_lt hQ)
  have c2 : 2 ^ (32 - n) * (2 ^ n - 1) = B32 - 2 ^ (32 - n) := by rw [Int.mul_sub, Int.mul_one, Int.mul_comm, hPQ]
  have st := down_step (x := ds.getD i 0) (V := val B32 (ds.take i)) (U := val B32 (out.take i)) hPQ hP h7 h1
  generalize ds.getD i 0 / 2 ^ n = p at *
  generalize 2 ^ (32 - n) * (ds.getD i 0 % 2 ^ n) = r at *
  refine ⟨by simpa using h2, hi, fun a ha => ?_, .inr ?_, fun j hj => ?_, ?_⟩
  · rcases List.mem_or_eq_of_mem_set ha with h | h
    · rcases List.mem_or_eq_of_mem_set h with h | h
      · exact h4 a h
      · omega
    · omega
  · rw [set_getD _ _ _ _ (by simp; omega), if_neg (by omega), set_getD _ _ _ _ (by omega), if_pos (by omega)]; exact b1
  · rw [set_getD _ _ _ _ (by simp; omega), if_neg (by omega), set_getD _ _ _ _ (by omega), if_neg (by omega)]; exact h6 j (by omega)
  · rw [val_take B32 ds i, st]
    have e1 : ((out.set i p).set (i - 1) (out.getD (i - 1) 0 + r)).take (i + 1) = (out.take i).set (i - 1) (out.getD (i - 1) 0 + r) ++ [p] := by
      rw [List.take_set, set_take _ _ _ (by omega), List.set_append_left _ _ (by simp; omega)]
    have e2 : (out.take i).set (i - 1) (out.getD (i - 1) 0 + r) = out.take (i - 1) ++ [out.getD (i - 1) 0 + r] := by
      rw [← List.take_set]
      have := set_take out (i - 1) (out.getD (i - 1) 0 + r) (by omega)
      rwa [Nat.sub_add_cancel h1] at this
    have e3 := val_take B32 out (i - 1)
    rw [Nat.sub_add_cancel h1] at e3
    rw [e1, e2, val_snoc, val_snoc, e3, Int.mul_add]
    have l1 : (out.take (i - 1)).length = i - 1 := by simp; omega
    have l2 : (out.take (i - 1) ++ [out.getD (i - 1) 0 + r]).length = i := by rw [List.length_append, l1]; simp; omega
    rw [l1, l2]
    omega
theorem part_fin {X U Q B V P : Int} (hP : 0 < P) (u3 : U = X * P) (q5 : U = Q * (B * P) + V) : X = Q * B + V / P := by
  have e : V = P * (X - Q * B) := by
    rw [Int.mul_sub]
    have h1 : Q * (B * P) = P * (Q * B) := by rw [← Int.mul_assoc, Int.mul_comm P]
    have h2 : X * P = P * X := Int.mul_comm _ _
    omega
  rw [e, Int.mul_ediv_cancel_left _ (by omega)]
  omega

/-- What a division gives. -/
def PartR (xs bs : List Int) (m : Mo) (v : Value) : Prop :=
  ∃ vq vr qs rs, v = .tuple #[vq, vr] ∧ m.ints vq .u32 qs ∧ m.ints vr .u32 rs ∧ okd B32 qs ∧ okd B32 rs ∧ qs.length ≤ xs.length + 1 ∧ rs.length ≤ xs.length + 1 ∧ val B32 xs = val B32 qs * val B32 bs + val B32 rs ∧ val B32 rs < val B32 bs

set_option maxRecDepth 10000 in
theorem parted_calls (xs bs : List Int) (va vb : Value) (m : Mo) (hm : m.okm) (ha : m.ints va .u32 xs) (hb : m.ints vb .u32 bs) (ox : okd B32 xs) (ob : okd B32 bs) (nx : nrmd xs) (nb : nrmd bs) (hbs : bs ≠ []) (hx : xs.length ≤ 100000000) (hy : bs.length ≤ 100000000) :
    Calls Try.prog 49 #[va, vb] m.w (Post m (PartR xs bs)) := by
  have ha0 := ha
  have hb0 := hb
  obtain ⟨a, ca, rfl, hca, hsa, hra⟩ := ha
  obtain ⟨b, cb, rfl, hcb, hsb, hrb⟩ := hb
  have hbl : 1 ≤ bs.length := by
    rcases Nat.eq_zero_or_pos bs.length with h | h
    · exact absurd (List.eq_nil_of_length_eq_zero h) hbs
    · exact h
  have vb0 := nrmd_pos B32_pos ob nb hbs
  refine enter2_ Try.f49 _ 93 [a, b] [⟨none, .ints .u32 xs⟩, ⟨none, .ints .u32 bs⟩] [.ls 0 0 xs.length ca, .ls 1 0 bs.length cb] (by kernel_rfl) rfl (by kernel_rfl) hm rfl (by simp [okL, AV.ok]) ⟨⟨rfl, hsa, trivial, hra⟩, ⟨rfl, hsb, trivial, hrb⟩, trivial⟩ ?_
  refine callS_ (by kernel_rfl) (fun l m s => cmp_calls xs bs _ _ m s.okm (s.ints0 (id := 0) rfl hca) (s.ints0 (id := 1) rfl hcb) ox ob nx nb (by omega)) ?_
  rintro M1 v le1 rfl
  refine Br.mk (fun h0 => ?_) (fun h0 => ?_)
  · have h0 : val B32 xs < val B32 bs := by
      unfold cmpI at h0
      split at h0
      · assumption
      · split at h0 <;> simp at h0
    refine fin_see rfl fun l m' s hL => ?_
    refine ⟨_, _, [], xs, rfl, Mo.ints_nil _ _, Mo.ints.less (s.ints0 (id := 0) rfl hca) hL, okd.nil _, ox, by simp, by simp, by simp [val], h0⟩
  refine Br.mk (fun h1 => ?_) (fun h1 => ?_)
  · have h1 : bs.length = 1 := by simp at h1; omega
    refine ix_ ⟨by omega, by omega⟩ (by show 0 < bs.length; omega) ?_
    have eb : bs = [bs.getD 0 0] := by
      match bs, h1 with
      | [x], _ => rfl
    have evb : val B32 bs = bs.getD 0 0 := by
      conv => lhs; rw [eb]
      simp [val]
    have rb := ob.getD B32_pos 0
    refine callS_ (by kernel_rfl) (fun l m s => by_calls xs _ (bs.getD 0 0) m s.okm (s.ints0 (id := 0) rfl hca) ox ⟨by omega, rb.2⟩ (by omega)) ?_
    rintro M2 v le2 ⟨vq, qs, r, rfl, q1, q2, q3, q4, q5⟩
    refine FinK.pub 2 fun M3 le3 => ?_
    refine fin_see rfl fun l m' s hL => ?_
    refine ⟨vq, _, qs, [r], rfl, Mo.ints.less (q1.mono (le3.trans s.le)) hL, Mo.ints.less (s.ints_lit (id := 2) (xs := [r]) rfl (fun _ => rfl) (Nat.le_refl _)) hL, q3, (okd.nil _).cons ⟨q4.1, by omega⟩, by omega, by simp, by rw [evb]; simp [val, q5], by rw [evb]; show r + B32 * 0 < _; omega⟩
  have h1 : bs.length ≠ 1 := by simp at h1; omega
  have hge : val B32 bs ≤ val B32 xs := by
    unfold cmpI at h0
    split at h0
    · simp at h0
    · omega
  have hlen : bs.length ≤ xs.length := by
    by_cases h : bs.length ≤ xs.length
    · exact h
    · have := val_lt_len B32_pos ox ob nb (by omega); omega
  have w1 : IntKind.i64.wrap ((bs.length : Int) - 1) = ((bs.length - 1 : Nat) : Int) := by rw [wrap_in _ (by omega) (by omega)]; omega
  have t1 : (IntKind.i64.wrap ((bs.length : Int) - 1)).toNat = bs.length - 1 := by rw [w1]; rfl
  have rtop := ob.getD B32_pos (bs.length - 1)
  have htop : 0 < bs.getD (bs.length - 1) 0 := by
    have h2 : bs.getD (bs.length - 1) 0 ≠ 0 := by
      intro h
      refine nb ?_
      rw [List.getLast?_eq_getElem?]
      rw [List.getD, List.getElem?_eq_getElem (by omega)] at h
      rw [List.getElem?_eq_getElem (by omega)]
      simpa using h
    omega
  refine ix_ (by rw [w1]; omega) (by rw [t1]; show bs.length - 1 < bs.length; omega) ?_
  rw [t1]
  refine callS_ (by kernel_rfl) (fun l m s => lz32_calls _ m s.okm rtop) ?_
  rintro M2 v le2 ⟨n, rfl, n1, n2⟩
  have n2 : n ≤ 31 ∧ bs.getD (bs.length - 1) 0 * 2 ^ n < B32 ∧ 2147483648 ≤ bs.getD (bs.length - 1) 0 * 2 ^ n := by
    rcases n2 with n2 | n2
    · omega
    · exact n2
  refine callo_ (by kernel_rfl) (fun l w hr => shifted_calls xs _ n ⟨_, w⟩ hr.bds (hr.ints_ro (id := 0) rfl hca) ox n2.1 (by omega)) ?_
  rintro M3 c3 us le3 ⟨u1, u2, u3⟩ hc3
  refine callo_ (by kernel_rfl) (fun l w hr => shifted_calls bs _ n ⟨_, w⟩ hr.bds (hr.ints_ro (id := 1) rfl hcb) ob n2.1 (by omega)) ?_
  rintro M4 c4 ws le4 ⟨v1, v2, v3⟩ hc4
  refine And.intro ⟨by omega, by omega⟩ ?_
  obtain ⟨y1, y2, y3⟩ := part_math n2.1 ox ob u2 v2 hbl hlen u1 v1 u3 v3 n2.2.1 n2.2.2
  have lws : (ws.take bs.length).length = bs.length := by simp; omega
  refine CallK.pub 3 fun M5 le5 => ?_
  refine callmo_ (id := 2) (e := 60) (kd' := .u32) (ys := us) (I := fun ys' zs => ys'.length = us.length ∧ okd B32 ys' ∧ zs.length = us.length - bs.length ∧ okd B32 zs ∧ val B32 us = val B32 zs * val B32 (ws.take bs.length) + val B32 ys' ∧ val B32 ys' < val B32 (ws.take bs.length)) (by kernel_rfl) rfl (fun e => by rw [e] at u1; simp at u1) (fun l m' b' arr' hw => ?_) ?_
  · have g := hw.sees.ints (id := 3) (xs := ws) rfl 0 bs.length c4 (by omega) (by omega)
    rw [List.drop_zero] at g
    have tk := long_calls us (ws.take bs.length) bs.length c3 _ m' hw.sees.okm b' arr' c3 hw.mem hw.heap hw.size hw.cells g lws.symm hbl hc3 (by omega) u2 (v2.take _) y2 y3 (by omega)
    refine Eq.mpr (congrArg (fun z => Calls _ _ (List.toArray z) _ _) ?_) tk
    show [conc l (.ls 2 0 us.length c3), conc l (.ls 3 (if c4 = 0 then 0 else 0 + 0 * 1) ((bs.length : Int).toNat - 0) (c4 - 0))] = _
    rw [hw.arg, show (if c4 = 0 then 0 else 0 + 0 * 1) = 0 by split <;> rfl, Int.toNat_natCast, Nat.sub_zero, Nat.sub_zero]
  rintro M6 c6 us' qs le6 ⟨q1, q2, q3, q4, q5, q6⟩ hc6
  refine CallK.pub 2 fun M7 le7 => ?_
  refine callSa_ (kd := .u32) (I := fun _ ds => okd B32 ds ∧ ds.length ≤ us'.length ∧ val B32 ds = val B32 us') (by kernel_rfl) (fun l m' s => ?_) ?_
  · refine (made_calls false us' _ m' s.okm (q1 ▸ s.ints0 (id := 2) (xs := us') rfl (by omega)) (by omega)).mono ?_
    rintro e w' ⟨v, e1, e2, k, vr, e3, e4, e5, e6, e7⟩
    exact ⟨v, e1, e2, _, vr, _, e3, ⟨q2.take k, by simp; omega, val_take_zeros e5 e6⟩, e4⟩
  rintro M8 c8 bb ds le8 ⟨d1, d2, d3⟩ hc8
  have hP : (0 : Int) < 2 ^ n := Int.pow_pos (by decide)
  have hPQ := pow_dvd32 (show n ≤ 32 by omega)
  refine mk_ (e := 60) .u32 ds.length (by kernel_rfl) (by kernel_rfl) rfl (by omega) ?_
  refine loop_ (ι := Nat × List Int) (fun i => [(61, .v (.int .i64 i.1)), (60, .v (.int .i64 ds.length)), (59, .ls 1 0 ds.length c8), (11, .ls 2 0 ds.length ds.length), (8, .v (.int .i64 n)), (4, .ls 0 0 qs.length c6)])
    (fun i => [⟨some (60, c6), .ints .u32 qs⟩, ⟨none, .ints .u32 ds⟩, ⟨some (60, ds.length), .ints .u32 i.2⟩])
    (fun i _ => i.2.length = ds.length ∧ i.1 ≤ ds.length ∧ okd B32 i.2 ∧ (i.1 = 0 ∨ i.2.getD (i.1 - 1) 0 < 2 ^ (32 - n)) ∧ (∀ j, i.1 ≤ j → i.2.getD j 0 = 0) ∧ val B32 (i.2.take i.1) = val B32 (ds.take i.1) / 2 ^ n) (fun i => ds.length - i.1) (0, List.replicate ds.length 0) (M0 := M8) ?_ ?_ ?_
  · exact Ref.ren [some 4, some 5, some 6] (by rfl) (by exact ⟨⟨rfl, trivial⟩, ⟨rfl, trivial⟩, ⟨rfl, by simp [AV.ok]⟩, ⟨rfl, by simp [AV.ok]⟩, ⟨rfl, trivial⟩, ⟨rfl, by simp [AV.ok]⟩, trivial⟩) (by exact ⟨⟨rfl, trivial⟩, ⟨rfl, trivial⟩, ⟨rfl, trivial⟩, trivial⟩)
  · have hz : ∀ j, (List.replicate ds.length (0 : Int)).getD j 0 = 0 := fun j => by
      simp only [List.getD, List.getElem?_replicate]; split <;> rfl
    exact ⟨by simp, Nat.zero_le _, okd.zeros B32_pos _, .inl rfl, fun j _ => hz j, by simp [val]⟩
  rintro ⟨i, out⟩ M9 ⟨h2, h3, h4, h5, h6, h7⟩
  simp only at h2 h3 h4 h5 h6 h7
  refine Br.mk (fun hb => ?_) (fun hb => ?_)
  · have hi : i < ds.length := by simpa using hb
    refine ix_ (by omega) (by show (i : Int).toNat < ds.length; omega) ?_
    rw [Int.toNat_natCast]
    have rx := d1.getD B32_pos i
    refine draw_ [(2, []), (3, []), (8, [])] [0, 1, 2, 3, 4, 5, 6, 7, 8] [] [9] [(9, 2)] (by kernel_rfl) rfl rfl ?_
    refine ix_ ⟨by omega, by omega⟩ (by show (i : Int).toNat < out.length; omega) ?_
    refine And.intro (by omega) ?_
    refine And.intro ⟨by omega, by omega⟩ (And.intro (by show (i : Int).toNat < out.length; omega) (And.intro (by show (i : Int).toNat < out.length; omega) ?_))
    refine Br.mk (fun hb2 => ?_) (fun hb2 => ?_)
    · have w1 : IntKind.i64.wrap ((i : Int) - 1) = ((i - 1 : Nat) : Int) := by simp at hb2; rw [wrap_in _ (by omega) (by omega)]; omega
      have t1 : (IntKind.i64.wrap ((i : Int) - 1)).toNat = i - 1 := by rw [w1]; rfl
      refine draw_ [(3, []), (4, []), (12, [])] [0, 1, 2, 3, 4, 5, 6, 7, 8, 9, 10, 11, 12] [] [13] [(13, 2)] (by kernel_rfl) rfl rfl ?_
      refine ix_ (by rw [w1]; omega) (by rw [t1]; show i - 1 < (out.set _ _).length; simp; omega) ?_
      refine And.intro (by rw [wrap_in _ (by omega) (by omega)]; omega) ?_
      refine And.intro (by rw [w1]; omega) (And.intro (by rw [t1]; show i - 1 < (out.set _ _).length; simp; omega) (And.intro (by rw [t1]; show i - 1 < (out.set _ _).length; simp; omega) ?_))
      have hi1 : 1 ≤ i := by simp at hb2; omega
      have h5 : out.getD (i - 1) 0 < 2 ^ (32 - n) := by rcases h5 with h | h; omega; exact h
      have ro := h4.getD B32_pos (i - 1)
      have r1 := down1 (n := n) (by omega) rx (h6 i (Nat.le_refl _))
      have e2 : ∀ p, (out.set i p).getD (i - 1) 0 = out.getD (i - 1) 0 := fun p => by rw [set_getD _ _ _ _ (by omega), if_neg (by omega)]
      have r2 := down2 (n := n) (by omega) rx ⟨ro.1, h5⟩
      refine ⟨(i + 1, (out.set i (ds.getD i 0 / 2 ^ n)).set (i - 1) (out.getD (i - 1) 0 + 2 ^ (32 - n) * (ds.getD i 0 % 2 ^ n))), M9, Ref.subS (by exact ⟨some_nrm (wrap_in _ (by omega) (by omega)), rfl, rfl, rfl, rfl, rfl, trivial⟩) ?_, down_fin2 hPQ hP h2 hi hi1 h4 ⟨ro.1, h5⟩ h6 h7 rx, by simp only; omega⟩
      simp only [t1, Int.toNat_natCast, e2, r1, r2]
    · have h0 : i = 0 := by simp at hb2; omega
      have r1 := down1 (n := n) (by omega) rx (h6 i (Nat.le_refl _))
      refine ⟨(i + 1, out.set i (ds.getD i 0 / 2 ^ n)), M9, Ref.subS (by exact ⟨some_nrm (wrap_in _ (by omega) (by omega)), rfl, rfl, rfl, rfl, rfl, trivial⟩) ?_, down_fin1 hPQ hP h2 hi h0 h4 h6 h7 rx, by simp only; omega⟩
      simp only [Int.toNat_natCast, r1]
  · have hb : i = ds.length := by simp at hb; omega
    subst hb
    refine FinK.pub 0 fun M10 le10 => FinK.pub 2 fun M11 le11 => ?_
    refine fin_see rfl fun l m' s hL => ?_
    rw [List.take_of_length_le (by omega), List.take_of_length_le (by omega)] at h7
    refine ⟨_, _, qs, out, rfl, Mo.ints.less (s.ints0 (id := 0) rfl hc6) hL, ?_, q4, h4, by omega, by omega, ?_, ?_⟩
    · have := s.ints0 (id := 2) (kd := .u32) (xs := out) rfl (Nat.le_refl _)
      rw [h2] at this
      exact Mo.ints.less this hL
    · rw [y1] at q5 q6
      rw [h7, d3]
      exact part_fin hP u3 q5
    · rw [y1] at q6
      rw [h7, d3]
      exact Int.ediv_lt_of_lt_mul hP q6
end Go.Proofs.Ytdkamjbcpmlheaa
