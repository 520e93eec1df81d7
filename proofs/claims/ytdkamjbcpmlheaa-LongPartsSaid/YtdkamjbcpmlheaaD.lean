/- Whole numbers of any size: sums, products, quotients, binary digits, roots. -/
import Derived.Test.YtdkamjbcpmlheaaC
set_option linter.unusedVariables false
set_option linter.unusedSimpArgs false
/- Whole numbers of any size, as the program has them: what is told of a value, and what Of, Sign, Neg, Add, Sub and Cmp make of it. -/
namespace Go.Gw
open Go Go.RowKit
/-- What a body gives back, where nothing of it is the call's own. -/
theorem fin_at {C : Cx} {σ : Store} {M : Mo} {av : AV} {R : Mo → Value → Prop} {v : Value} (h : ∀ m, M.Le m → R m v) (hmu : C.mu = [] := by rfl) (hv : ∀ l, conc l av = v := by exact fun _ => rfl) : FinK C (Post ⟨C.L0, C.w0⟩ R) av σ M :=
  ⟨fun l w hr _ => ⟨v, by rw [hv], by simpa [hmu] using hr.ent, h _ hr.le⟩⟩
end Go.Gw
namespace Go.Proofs.Ytdkamjbcpmlheaa
open Go Go.Gw Go.Lg
set_option pp.deepTerms false
set_option pp.deepTerms.threshold 6
set_option pp.maxSteps 3000

/-- How many parts a number has. -/
def sz (n : Int) : Nat := if n = 0 then 0 else n.natAbs.log2 / 32 + 1
theorem B32_pow (k : Nat) : B32 ^ k = ((2 ^ (32 * k) : Nat) : Int) := by
  rw [Nat.pow_mul, Int.natCast_pow]
  rfl
theorem sz_lt (n : Int) : (n.natAbs : Int) < B32 ^ sz n := by
  rw [B32_pow]
  unfold sz
  split
  · rename_i h; subst h; decide
  · rename_i h
    have h1 : n.natAbs ≠ 0 := by omega
    have := (Nat.log2_lt h1 (k := 32 * (n.natAbs.log2 / 32 + 1))).1 (by omega)
    omega
theorem sz_le {n : Int} {k : Nat} (h : (n.natAbs : Int) < B32 ^ k) : sz n ≤ k := by
  rw [B32_pow] at h
  unfold sz
  split
  · omega
  · rename_i h0
    have h1 : n.natAbs ≠ 0 := by omega
    have := (Nat.log2_lt h1 (k := 32 * k)).2 (by omega)
    omega
theorem sz_low {n : Int} {k : Nat} (h : B32 ^ k ≤ (n.natAbs : Int)) : k + 1 ≤ sz n := by
  by_cases hc : k + 1 ≤ sz n
  · exact hc
  · have h1 := sz_lt n
    have := pow_mono (B := B32) B32_pos (show sz n ≤ k by omega)
    omega
theorem sz_neg (n : Int) : sz (-n) = sz n := by unfold sz; simp only [Int.natAbs_neg]; split <;> split <;> first | rfl | omega
theorem sz_add (a b : Int) : sz (a + b) ≤ max (sz a) (sz b) + 1 := by
  apply sz_le
  have h1 := sz_lt a
  have h2 := sz_lt b
  have h3 := pow_mono (B := B32) B32_pos (show sz a ≤ max (sz a) (sz b) by omega)
  have h4 := pow_mono (B := B32) B32_pos (show sz b ≤ max (sz a) (sz b) by omega)
  have h5 : B32 ^ (max (sz a) (sz b) + 1) = B32 ^ (max (sz a) (sz b)) * 4294967296 := Int.pow_succ ..
  omega
theorem sz_sub (a b : Int) : sz (a - b) ≤ max (sz a) (sz b) + 1 := by
  have := sz_add a (-b)
  rwa [sz_neg] at this
theorem sz_mul (a b : Int) : sz (a * b) ≤ sz a + sz b := by
  apply sz_le
  rw [Int.natAbs_mul, Int.pow_add, Int.natCast_mul]
  have h1 := sz_lt a
  have h2 := sz_lt b
  have h3 : (a.natAbs : Int) * b.natAbs ≤ a.natAbs * B32 ^ sz b := Int.mul_le_mul_of_nonneg_left (by omega) (by omega)
  have h4 : (a.natAbs : Int) * B32 ^ sz b < B32 ^ sz a * B32 ^ sz b := Int.mul_lt_mul_of_pos_right h1 (Int.pow_pos B32_pos)
  omega
theorem sz_i64 {n : Int} (h : -9223372036854775808 ≤ n) (h' : n ≤ 9223372036854775807) : sz n ≤ 2 := by
  apply sz_le
  rw [show B32 ^ 2 = 18446744073709551616 by decide]
  omega
theorem sz_mono {a b : Int} (h : a.natAbs ≤ b.natAbs) : sz a ≤ sz b := by
  apply sz_le
  have := sz_lt b
  omega

/-- What is told of a number's value. -/
def IntR (m : Mo) (v : Value) (n : Int) : Prop := ∃ b vr xs, v = .agg #[.bool b, vr] ∧ m.ints vr .u32 xs ∧ okd B32 xs ∧ nrmd xs ∧ (b = true → xs ≠ []) ∧ n = sg b (val B32 xs)
theorem IntR.mono {m m' : Mo} {v : Value} {n : Int} (h : IntR m v n) (l : m.Le m') : IntR m' v n :=
  let ⟨b, vr, xs, h1, h2, h3⟩ := h; ⟨b, vr, xs, h1, h2.mono l, h3⟩
theorem IntR.cast {m : Mo} {v : Value} {n k : Int} (h : IntR m v n) (e : n = k) : IntR m v k := e ▸ h
theorem IntR.shape {m : Mo} {v : Value} {n : Int} (h : IntR m v n) : ∃ b p k c, v = .agg #[.bool b, .slice p k c] ∧ IntR m (.agg #[.bool b, .slice p k c]) n :=
  let ⟨b, vr, xs, h1, ⟨a, c, h2, h3⟩, h4⟩ := h; ⟨b, Base.up a 0, xs.length, c, by rw [h1, h2], b, vr, xs, by rw [h2], ⟨a, c, h2, h3⟩, h4⟩
theorem IntR_zero (m : Mo) : IntR m (.agg #[.bool false, .slice none 0 0]) 0 := ⟨false, _, [], rfl, Mo.ints_nil _ _, okd.nil _, by simp [nrmd], by simp, rfl⟩
theorem fin_int {C : Cx} {σ : Store} {M : Mo} {av : AV} {n k : Int} {v : Value} (h : IntR M v n) (e : n = k) (hmu : C.mu = [] := by rfl) (hv : ∀ l, conc l av = v := by exact fun _ => rfl) : FinK C (Post ⟨C.L0, C.w0⟩ fun m v => IntR m v k) av σ M :=
  fin_at (fun _ le => e ▸ h.mono le) hmu hv
theorem len_sz {xs : List Int} {b : Bool} (ox : okd B32 xs) (nx : nrmd xs) : xs.length ≤ sz (sg b (val B32 xs)) := by
  by_cases hx : xs = []
  · subst hx; simp
  have h1 := nrmd_low B32_pos ox nx hx
  have h2 := val_nonneg B32_pos ox
  have h4 : xs.length ≠ 0 := fun e => hx (List.eq_nil_of_length_eq_zero e)
  have h3 := sz_low (n := sg b (val B32 xs)) (k := xs.length - 1) (by
    have : ((sg b (val B32 xs)).natAbs : Int) = val B32 xs := by unfold sg; split <;> omega
    rw [this]; exact h1)
  omega

theorem made_int (b : Bool) (xs : List Int) (va : Value) (m : Mo) (hm : m.okm) (ha : m.ints va .u32 xs) (ox : okd B32 xs) (hx : xs.length ≤ 1000000000) :
    Calls Try.prog 39 #[.bool b, va] m.w (Post m fun m v => IntR m v (sg b (val B32 xs))) := by
  refine (made_calls b xs va m hm ha hx).mono ?_
  rintro e w' ⟨v, e1, e2, n, vr, e3, e4, e5, e6, e7⟩
  refine ⟨v, e1, e2, _, vr, _, e3, e4, ox.take n, nrmd_take e5 e7, ?_, ?_⟩
  · intro h1 h2
    simp at h1
    have := congrArg List.length h2
    simp at this
    rcases this with h | h
    · omega
    · have h3 : xs.length = 0 := by simp [h]
      omega
  · rw [val_take_zeros e5 e6]
    by_cases h : 0 < n
    · simp [h]
    · have : n = 0 := by omega
      subst this
      have h0 := val_take_zeros (B := B32) e5 e6
      simp [val] at h0
      rw [← h0]
      cases b <;> rfl

set_option maxRecDepth 10000 in
theorem of_calls (n : Int) (m : Mo) (hm : m.okm) (h : -9223372036854775808 ≤ n) (h' : n ≤ 9223372036854775807) :
    Calls Try.prog 34 #[.int .i64 n] m.w (Post m fun m v => IntR m v n) := by
  refine enter_ Try.f34 _ 19 (args := [.int .i64 n]) (by kernel_rfl) rfl (by kernel_rfl) hm ?_
  have key : ∀ (u : Int), 0 ≤ u → u < 18446744073709551616 → okd B32 [IntKind.u32.wrap u, IntKind.u32.wrap (u.fdiv (2 ^ (min (Int.toNat 32) IntKind.u64.bits)))] ∧ val B32 [IntKind.u32.wrap u, IntKind.u32.wrap (u.fdiv (2 ^ (min (Int.toNat 32) IntKind.u64.bits)))] = u := by
    intro u h0 h1
    have := shr32 u
    rw [this, wrap_u32, wrap_u32]
    refine ⟨(((okd.nil _).cons ?_).cons ?_), ?_⟩
    · unfold B32; omega
    · unfold B32; omega
    · simp only [val]; unfold B32; omega
  refine Br.mk (fun hb => ?_) (fun hb => ?_)
  · have hb : n < 0 := by simpa using hb
    have hu : IntKind.u64.wrap (0 - IntKind.u64.wrap n) = -n := by rw [wrap_u64, wrap_u64]; omega
    refine And.intro (by decide) ?_
    obtain ⟨k1, k2⟩ := key (IntKind.u64.wrap (0 - IntKind.u64.wrap n)) (by omega) (by omega)
    refine CallK.pub 1 fun M2 le2 => ?_
    refine callS_ (by kernel_rfl) (fun l m' s => made_int (decide (n < 0)) _ _ m' s.okm (s.ints_lit (id := 1) (xs := [IntKind.u32.wrap (IntKind.u64.wrap (0 - IntKind.u64.wrap n)), IntKind.u32.wrap ((IntKind.u64.wrap (0 - IntKind.u64.wrap n)).fdiv (2 ^ (min (Int.toNat 32) IntKind.u64.bits)))]) rfl (fun _ => rfl) (Nat.le_refl _)) k1 (by simp)) ?_
    rintro M1 v le1 h1
    obtain ⟨b', p', k', c', rfl, h1⟩ := h1.shape
    refine fin_int h1 ?_
    rw [k2, hu]; simp [sg, hb]
  · have hb : 0 ≤ n := by simpa using hb
    have hu : IntKind.u64.wrap n = n := by rw [wrap_u64]; omega
    refine And.intro (by decide) ?_
    obtain ⟨k1, k2⟩ := key (IntKind.u64.wrap n) (by omega) (by omega)
    refine CallK.pub 1 fun M2 le2 => ?_
    refine callS_ (by kernel_rfl) (fun l m' s => made_int (decide (n < 0)) _ _ m' s.okm (s.ints_lit (id := 1) (xs := [IntKind.u32.wrap (IntKind.u64.wrap n), IntKind.u32.wrap ((IntKind.u64.wrap n).fdiv (2 ^ (min (Int.toNat 32) IntKind.u64.bits)))]) rfl (fun _ => rfl) (Nat.le_refl _)) k1 (by simp)) ?_
    rintro M1 v le1 h1
    obtain ⟨b', p', k', c', rfl, h1⟩ := h1.shape
    refine fin_int h1 ?_
    rw [k2, hu]; simp [sg]; omega

set_option maxRecDepth 10000 in
theorem sign_calls (n : Int) (va : Value) (m : Mo) (hm : m.okm) (ha : IntR m va n) (hs : sz n ≤ 400000000) :
    Calls Try.prog 21 #[va] m.w (Post m fun _ v => v = .int .i64 (cmpI n 0)) := by
  obtain ⟨b, vr, xs, rfl, ⟨a, ca, rfl, hca, hsa, hra⟩, ox, nx, hb, hn⟩ := ha
  have hx := len_sz (b := b) ox nx
  rw [← hn] at hx
  refine enter_ Try.f21 _ 11 (args := [.agg #[.bool b, .slice (Base.up a 0) xs.length ca]]) (by kernel_rfl) rfl (by kernel_rfl) hm ?_
  refine Br.mk (fun h0 => ?_) (fun h0 => ?_)
  · have h0 : xs = [] := by apply List.eq_nil_of_length_eq_zero; simpa using h0
    subst h0
    refine fin_at (v := (.int .i64 0)) (fun _ _ => ?_)
    rw [hn, cmpI_eq]
    cases b <;> rfl
  have h0 : xs ≠ [] := fun e => by subst e; simp at h0
  have hp := nrmd_pos B32_pos ox nx h0
  refine Br.mk (fun h1 => ?_) (fun h1 => ?_)
  · refine fin_at (v := (.int .i64 (-1))) (fun _ _ => ?_)
    rw [hn, h1, cmpI_lt]
    simp [sg]; omega
  · refine fin_at (v := (.int .i64 1)) (fun _ _ => ?_)
    rw [hn, h1, cmpI_gt]
    simpa [sg] using hp

set_option maxRecDepth 10000 in
theorem neg_calls (n : Int) (va : Value) (m : Mo) (hm : m.okm) (ha : IntR m va n) (hs : sz n ≤ 400000000) :
    Calls Try.prog 20 #[va] m.w (Post m fun m v => IntR m v (-n)) := by
  obtain ⟨b, vr, xs, rfl, hr, ox, nx, hb, hn⟩ := ha
  have hx := len_sz (b := b) ox nx
  rw [← hn] at hx
  refine enter_ Try.f20 _ 9 (args := [.agg #[.bool b, vr]]) (by kernel_rfl) rfl (by kernel_rfl) hm ?_
  refine callS_ (by kernel_rfl) (fun l m' s => made_int (!b) xs vr m' s.okm (hr.mono s.le) ox (by omega)) ?_
  rintro M1 v le1 h1
  obtain ⟨b', p', k', c', rfl, h1⟩ := h1.shape
  refine fin_int h1 ?_
  subst hn
  cases b <;> simp [sg]

set_option maxRecDepth 10000 in
theorem add_calls (n k : Int) (va vb : Value) (m : Mo) (hm : m.okm) (ha : IntR m va n) (hb : IntR m vb k) (hs : sz n ≤ 400000000) (ht : sz k ≤ 400000000) :
    Calls Try.prog 17 #[va, vb] m.w (Post m fun m v => IntR m v (n + k)) := by
  obtain ⟨b, vr, xs, rfl, hr, ox, nx, hb0, hn⟩ := ha
  obtain ⟨c, vs, ys, rfl, hq, oy, ny, hc0, hk⟩ := hb
  have hx := len_sz (b := b) ox nx
  rw [← hn] at hx
  have hy := len_sz (b := c) oy ny
  rw [← hk] at hy
  refine enter_ Try.f17 _ 42 (args := [.agg #[.bool b, vr], .agg #[.bool c, vs]]) (by kernel_rfl) rfl (by kernel_rfl) hm ?_
  refine Br.mk (fun h0 => ?_) (fun h0 => ?_)
  · have h0 : b = c := by simpa using h0
    subst h0
    refine draw_ [] [0, 1, 2, 3, 4, 5, 6, 7] [] [8] [(8, 2)] (by kernel_rfl) rfl rfl ?_
    refine callD_ (by kernel_rfl) (fun l m' s => (plus_calls xs ys vr vs m' s.okm (hr.mono s.le) (hq.mono s.le) ox oy (by omega) (by omega)).mono fun _ _ h => h.post s.okm) ?_
    rintro M1 v le1 ⟨zs, ⟨z1, z2, z3⟩, hz⟩
    refine callD_ (by kernel_rfl) (fun l m' s => made_int b zs v m' s.okm (hz.mono s.le) z2 (by omega)) ?_
    rintro M2 v2 le2 h1
    obtain ⟨b', p', k', c', rfl, h1⟩ := h1.shape
    refine fin_int h1 ?_
    rw [z3, hn, hk]; cases b <;> simp [sg]; omega
  have h0 : c = !b := by cases b <;> cases c <;> simp_all
  subst h0
  refine callS_ (by kernel_rfl) (fun l m' s => cmp_calls xs ys vr vs m' s.okm (hr.mono s.le) (hq.mono s.le) ox oy nx ny (by omega)) ?_
  rintro M0 v0 le0 rfl
  refine Br.mk (fun h1 => ?_) (fun h1 => ?_)
  · have h1 : val B32 ys ≤ val B32 xs := by
      unfold cmpI at h1
      split at h1
      · simp at h1
      · omega
    refine draw_ [] [0, 1, 2, 3, 4, 5, 6, 7] [] [8] [(8, 2)] (by kernel_rfl) rfl rfl ?_
    refine callD_ (by kernel_rfl) (fun l m' s => (less_calls xs ys vr vs m' s.okm (hr.mono (le0.trans s.le)) (hq.mono (le0.trans s.le)) ox oy ?_ h1 (by omega)).mono fun _ _ h => h.post s.okm) ?_
    · by_cases h : ys.length ≤ xs.length
      · exact h
      · have := val_lt_len B32_pos ox oy ny (by omega); omega
    rintro M1 v le1 ⟨zs, ⟨z1, z2, z3⟩, hz⟩
    refine callD_ (by kernel_rfl) (fun l m' s => made_int b zs v m' s.okm (hz.mono s.le) z2 (by omega)) ?_
    rintro M2 v2 le2 h1
    obtain ⟨b', p', k', c', rfl, h1⟩ := h1.shape
    refine fin_int h1 ?_
    rw [z3, hn, hk]; cases b <;> simp [sg] <;> omega
  · have h1 : val B32 xs < val B32 ys := by
      unfold cmpI at h1
      split at h1
      · assumption
      · split at h1 <;> simp at h1
    refine draw_ [] [0, 1, 2, 3, 4, 5, 6, 7] [] [8] [(8, 2)] (by kernel_rfl) rfl rfl ?_
    refine callD_ (by kernel_rfl) (fun l m' s => (less_calls ys xs vs vr m' s.okm (hq.mono (le0.trans s.le)) (hr.mono (le0.trans s.le)) oy ox ?_ (by omega) (by omega)).mono fun _ _ h => h.post s.okm) ?_
    · by_cases h : xs.length ≤ ys.length
      · exact h
      · have := val_lt_len B32_pos oy ox nx (by omega); omega
    rintro M1 v le1 ⟨zs, ⟨z1, z2, z3⟩, hz⟩
    refine callD_ (by kernel_rfl) (fun l m' s => made_int (!b) zs v m' s.okm (hz.mono s.le) z2 (by omega)) ?_
    rintro M2 v2 le2 h1
    obtain ⟨b', p', k', c', rfl, h1⟩ := h1.shape
    refine fin_int h1 ?_
    rw [z3, hn, hk]; cases b <;> simp [sg] <;> omega

set_option maxRecDepth 10000 in
theorem sub_calls (n k : Int) (va vb : Value) (m : Mo) (hm : m.okm) (ha : IntR m va n) (hb : IntR m vb k) (hs : sz n ≤ 400000000) (ht : sz k ≤ 400000000) :
    Calls Try.prog 18 #[va, vb] m.w (Post m fun m v => IntR m v (n - k)) := by
  obtain ⟨b, p, xl, xc, rfl, ha⟩ := ha.shape
  obtain ⟨c, q, yl, yc, rfl, hb⟩ := hb.shape
  refine enter_ Try.f18 _ 9 (args := [.agg #[.bool b, .slice p xl xc], .agg #[.bool c, .slice q yl yc]]) (by kernel_rfl) rfl (by kernel_rfl) hm ?_
  refine draw_ [] [0, 1, 2, 3] [] [4] [(4, 2)] (by kernel_rfl) rfl rfl ?_
  refine callD_ (by kernel_rfl) (fun l m' s => neg_calls k _ m' s.okm (hb.mono s.le) ht) ?_
  rintro M1 v le1 h1
  refine callD_ (by kernel_rfl) (fun l m' s => add_calls n (-k) _ v m' s.okm (ha.mono (le1.trans s.le)) (h1.mono s.le) hs (by rw [sz_neg]; exact ht)) ?_
  rintro M2 v2 le2 h2
  obtain ⟨b', p', k', c', rfl, h2⟩ := h2.shape
  exact fin_int h2 rfl

set_option maxRecDepth 10000 in
theorem intcmp_calls (n k : Int) (va vb : Value) (m : Mo) (hm : m.okm) (ha : IntR m va n) (hb : IntR m vb k) (hs : sz n ≤ 300000000) (ht : sz k ≤ 300000000) :
    Calls Try.prog 22 #[va, vb] m.w (Post m fun _ v => v = .int .i64 (cmpI n k)) := by
  obtain ⟨b, p, xl, xc, rfl, ha⟩ := ha.shape
  obtain ⟨c, q, yl, yc, rfl, hb⟩ := hb.shape
  refine enter_ Try.f22 _ 9 (args := [.agg #[.bool b, .slice p xl xc], .agg #[.bool c, .slice q yl yc]]) (by kernel_rfl) rfl (by kernel_rfl) hm ?_
  refine callS_ (by kernel_rfl) (fun l m' s => sub_calls n k _ _ m' s.okm (ha.mono s.le) (hb.mono s.le) (by omega) (by omega)) ?_
  rintro M1 v le1 h1
  refine callS_ (by kernel_rfl) (fun l m' s => sign_calls (n - k) _ m' s.okm (h1.mono s.le) (by have := sz_sub n k; omega)) ?_
  rintro M2 v2 le2 rfl
  refine fin_at (v := _) (fun _ _ => ?_)
  congr 1
  unfold cmpI
  split <;> split <;> first | rfl | omega | (split <;> split <;> first | rfl | omega) | (split <;> first | rfl | omega)
end Go.Proofs.Ytdkamjbcpmlheaa

/- Whole numbers of any size, as the program has them: products. -/
namespace Go.Proofs.Ytdkamjbcpmlheaa
open Go Go.Gw Go.Lg
set_option pp.deepTerms false
set_option pp.deepTerms.threshold 6
set_option pp.maxSteps 3000

theorem val_set (B : Int) : ∀ (xs : List Int) (j : Nat) (v : Int), j < xs.length → val B (xs.set j v) = val B xs + B ^ j * (v - xs.getD j 0)
  | [], j, v, h => by simp at h
  | a :: r, 0, v, h => by simp [val]; omega
  | a :: r, j + 1, v, h => by
    have := val_set B r j v (by simpa using h)
    simp only [List.set_cons_succ, val, this, Int.pow_succ, Int.mul_add]
    have e : (a :: r).getD (j + 1) 0 = r.getD j 0 := by simp [List.getD]
    rw [e, ← Int.mul_assoc B, Int.mul_comm B (B ^ j)]
    omega
theorem okd_set {B : Int} {xs : List Int} (h : okd B xs) (j : Nat) {v : Int} (hv : 0 ≤ v ∧ v < B) : okd B (xs.set j v) := fun a ha => by
  rcases List.mem_or_eq_of_mem_set ha with h1 | h1
  · exact h a h1
  · subst h1; exact hv
theorem getD_set_ne (xs : List Int) (i j : Nat) (v : Int) (h : i ≠ j) : (xs.set i v).getD j 0 = xs.getD j 0 := by
  simp only [List.getD, List.getElem?_set, if_neg h]
theorem mul_step {o a b c T : Int} (ho : 0 ≤ o ∧ o < B32) (ha : 0 ≤ a ∧ a < B32) (hb : 0 ≤ b ∧ b < B32) (hc : 0 ≤ c ∧ c < B32)
    (hT : T = IntKind.u64.wrap (o + IntKind.u64.wrap (IntKind.u64.wrap (IntKind.u64.wrap a * IntKind.u64.wrap b) + IntKind.u64.wrap c))) :
    T = o + a * b + c ∧ IntKind.u32.wrap T = T % B32 ∧ 0 ≤ T ∧ T / B32 < B32 := by
  have h1 : a * b ≤ 4294967295 * 4294967295 := Int.le_trans (Int.mul_le_mul_of_nonneg_right (show a ≤ 4294967295 by unfold B32 at ha; omega) hb.1) (Int.mul_le_mul_of_nonneg_left (show b ≤ 4294967295 by unfold B32 at hb; omega) (by decide))
  have h2 : 0 ≤ a * b := Int.mul_nonneg ha.1 hb.1
  unfold B32 at *
  have e1 : IntKind.u64.wrap a = a := by rw [wrap_u64]; omega
  have e2 : IntKind.u64.wrap b = b := by rw [wrap_u64]; omega
  have e3 : IntKind.u64.wrap c = c := by rw [wrap_u64]; omega
  rw [e1, e2, e3] at hT
  simp only [wrap_u64] at hT
  rw [wrap_u32]
  generalize a * b = p at *
  omega
theorem digit_step {V V' d o o' x y r T Bi Bk : Int} (hd : d = T % B32) (ho : o' = T / B32) (hT : T = o + x * y + r) (hV : V' = V + Bi * Bk * (d - r)) : V' + Bi * (Bk * B32) * o' = V + Bi * Bk * o + x * (Bk * y) * Bi := by
  have e := Int.mul_ediv_add_emod T B32
  rw [hV, hd, ho]
  have h1 : Bi * (Bk * B32) * (T / B32) = Bi * Bk * (B32 * (T / B32)) := by simp only [Int.mul_assoc]
  have h2 : x * (Bk * y) * Bi = Bi * Bk * (x * y) := by
    rw [Int.mul_comm (x * (Bk * y)), Int.mul_assoc Bi, ← Int.mul_assoc x, Int.mul_comm x Bk, Int.mul_assoc Bk]
  rw [h1, h2]
  have h3 : T % B32 = o + x * y + r - B32 * (T / B32) := by omega
  rw [h3]
  generalize Bi * Bk = P
  simp only [Int.mul_sub, Int.mul_add]
  omega

set_option maxRecDepth 10000 in
theorem mul_calls (n k : Int) (va vb : Value) (m : Mo) (hm : m.okm) (ha : IntR m va n) (hb : IntR m vb k) (hs : sz n ≤ 400000000) (ht : sz k ≤ 400000000) :
    Calls Try.prog 19 #[va, vb] m.w (Post m fun m v => IntR m v (n * k)) := by
  obtain ⟨b, vr, xs, rfl, ⟨a, ca, rfl, hca, hsa, hra⟩, ox, nx, hb0, hn⟩ := ha
  obtain ⟨c, vs, ys, rfl, ⟨a', cb, rfl, hcb, hsb, hrb⟩, oy, ny, hc0, hk⟩ := hb
  have hx := len_sz (b := b) ox nx
  rw [← hn] at hx
  have hy := len_sz (b := c) oy ny
  rw [← hk] at hy
  refine enter2_ Try.f19 _ 78 [a, a'] [⟨none, .ints .u32 xs⟩, ⟨none, .ints .u32 ys⟩] [.agg [.v (.bool b), .ls 0 0 xs.length ca], .agg [.v (.bool c), .ls 1 0 ys.length cb]] (by kernel_rfl) rfl (by kernel_rfl) hm rfl (by simp [okL, AV.ok]) ⟨⟨rfl, hsa, trivial, hra⟩, ⟨rfl, hsb, trivial, hrb⟩, trivial⟩ ?_
  have w1 : IntKind.i64.wrap (IntKind.i64.wrap ((xs.length : Int) + ys.length) + 1) = ((xs.length + ys.length + 1 : Nat) : Int) := by rw [wrap_in ((xs.length : Int) + ys.length) (by omega) (by omega), wrap_in _ (by omega) (by omega)]; omega
  refine mk_ (e := 60) .u32 (xs.length + ys.length + 1) (by kernel_rfl) (by kernel_rfl) w1 (by omega) ?_
  refine loop_ (ι := Nat × List Int) (fun i => [(23, .v (.int .i64 i.1)), (22, .v (.int .i64 xs.length)), (21, .ls 0 0 xs.length ca), (5, .ls 5 0 (xs.length + ys.length + 1) (xs.length + ys.length + 1)), (2, .lp 2 0), (3, .lp 3 0), (4, .lp 4 0)])
    (fun i => [⟨none, .ints .u32 xs⟩, ⟨none, .ints .u32 ys⟩, ⟨some (25, 2), .lit [.v (.bool b), .ls 0 0 xs.length ca]⟩, ⟨some (25, 2), .lit [.v (.bool c), .ls 1 0 ys.length cb]⟩, ⟨some (25, 2), .lit [.v (.bool false), .v (.slice none 0 0)]⟩, ⟨some (60, xs.length + ys.length + 1), .ints .u32 i.2⟩])
    (fun i _ => i.2.length = xs.length + ys.length + 1 ∧ i.1 ≤ xs.length ∧ okd B32 i.2 ∧ (∀ j, i.1 + ys.length ≤ j → i.2.getD j 0 = 0) ∧ val B32 i.2 = val B32 (xs.take i.1) * val B32 ys) (fun i => xs.length - i.1) (0, List.replicate (xs.length + ys.length + 1) 0) (M0 := m) ?_ ?_ ?_
  · exact Ref.sub (by exact ⟨rfl, rfl, rfl, rfl, rfl, rfl, rfl, trivial⟩)
  · have hz : ∀ j, (List.replicate (xs.length + ys.length + 1) (0 : Int)).getD j 0 = 0 := fun j => by
      simp only [List.getD, List.getElem?_replicate]; split <;> rfl
    exact ⟨by simp, Nat.zero_le _, okd.zeros B32_pos _, fun j _ => hz j, by simp [val, val_zeros]⟩
  rintro ⟨i, out⟩ M1 ⟨h1, h2, h3, h4, h5⟩
  simp only at h1 h2 h3 h4 h5
  refine Br.mk (fun hb => ?_) (fun hb => ?_)
  · have hi : i < xs.length := by simpa using hb
    have rx := ox.getD B32_pos i
    refine ix_ (by omega) (by show (i : Int).toNat < xs.length; omega) ?_
    refine loop_ (ι := Nat × List Int × Int) (fun q => [(31, .v (.int .i64 q.1)), (30, .v (.int .i64 ys.length)), (29, .ls 1 0 ys.length cb), (8, .v (.int .u64 q.2.2)), (7, .v (.int .u32 (xs.getD i 0))), (6, .v (.int .i64 i)), (23, .v (.int .i64 i)), (22, .v (.int .i64 xs.length)), (21, .ls 0 0 xs.length ca), (5, .ls 5 0 (xs.length + ys.length + 1) (xs.length + ys.length + 1)), (2, .lp 2 0), (3, .lp 3 0), (4, .lp 4 0)])
      (fun q => [⟨none, .ints .u32 xs⟩, ⟨none, .ints .u32 ys⟩, ⟨some (25, 2), .lit [.v (.bool b), .ls 0 0 xs.length ca]⟩, ⟨some (25, 2), .lit [.v (.bool c), .ls 1 0 ys.length cb]⟩, ⟨some (25, 2), .lit [.v (.bool false), .v (.slice none 0 0)]⟩, ⟨some (60, xs.length + ys.length + 1), .ints .u32 q.2.1⟩])
      (fun q _ => q.2.1.length = xs.length + ys.length + 1 ∧ q.1 ≤ ys.length ∧ okd B32 q.2.1 ∧ (∀ j, i + ys.length ≤ j → q.2.1.getD j 0 = 0) ∧ (0 ≤ q.2.2 ∧ q.2.2 < B32) ∧ val B32 q.2.1 + B32 ^ i * B32 ^ q.1 * q.2.2 = val B32 out + xs.getD i 0 * val B32 (ys.take q.1) * B32 ^ i) (fun q => ys.length - q.1) (0, out, 0) (M0 := M1) ?_ ?_ ?_
    · exact Ref.sub (by exact ⟨rfl, rfl, rfl, rfl, rfl, rfl, rfl, rfl, rfl, rfl, rfl, rfl, rfl, trivial⟩)
    · exact ⟨h1, Nat.zero_le _, h3, h4, ⟨Int.le_refl _, B32_pos⟩, by simp [val]⟩
    rintro ⟨k, o, u⟩ M2 ⟨g1, g2, g3, g4, g5, g6⟩
    simp only at g1 g2 g3 g4 g5 g6
    refine Br.mk (fun hb => ?_) (fun hb => ?_)
    · have hk : k < ys.length := by simpa using hb
      have ry := oy.getD B32_pos k
      have rr := g3.getD B32_pos (i + k)
      have w2 : IntKind.i64.wrap ((i : Int) + k) = ((i + k : Nat) : Int) := by rw [wrap_in _ (by omega) (by omega)]; omega
      have t2 : (IntKind.i64.wrap ((i : Int) + k)).toNat = i + k := by rw [w2]; rfl
      refine ix_ (by omega) (by show (k : Int).toNat < ys.length; omega) ?_
      refine ix_ (by rw [w2]; omega) (by rw [t2]; show i + k < o.length; omega) ?_
      refine And.intro (by rw [w2]; omega) (And.intro (by rw [t2]; show i + k < o.length; omega) (And.intro (by rw [t2]; show i + k < o.length; omega) ?_))
      refine And.intro (by decide) ?_
      obtain ⟨T, hT⟩ : ∃ T, T = IntKind.u64.wrap (u + IntKind.u64.wrap (IntKind.u64.wrap (IntKind.u64.wrap (xs.getD i 0) * IntKind.u64.wrap (ys.getD k 0)) + IntKind.u64.wrap (o.getD (i + k) 0))) := ⟨_, rfl⟩
      obtain ⟨s1, s2, s3, s4⟩ := mul_step g5 rx ry rr hT
      refine ⟨(k + 1, o.set (i + k) (T % B32), T / B32), M2, Ref.subS (by exact ⟨some_nrm (wrap_in _ (by omega) (by omega)), rfl, rfl, some_nrm (by simp only [t2, Int.toNat_natCast, ← hT]; exact shr32 T), rfl, rfl, rfl, rfl, rfl, rfl, rfl, rfl, rfl, trivial⟩) ?_, ⟨by simpa using g1, by simp only; omega, ?_, ?_, ?_, ?_⟩, by simp only; omega⟩
      · simp only [t2, Int.toNat_natCast, ← hT, s2]
      · exact okd_set g3 _ ⟨Int.emod_nonneg _ (by decide), Int.emod_lt_of_pos _ B32_pos⟩
      · intro j hj
        simp only
        rw [getD_set_ne _ _ _ _ (by omega)]; exact g4 j hj
      · exact ⟨Int.ediv_nonneg s3 (by decide), s4⟩
      · simp only
        have e1 := val_set B32 o (i + k) (T % B32) (by omega)
        rw [Int.pow_add] at e1
        have e2 := digit_step (x := xs.getD i 0) (y := ys.getD k 0) (r := o.getD (i + k) 0) (o := u) rfl rfl s1 e1
        rw [Int.pow_succ, e2, val_take, Int.mul_add, Int.add_mul, g6]
        omega
    · have hk : k = ys.length := by simp at hb; omega
      subst hk
      rw [List.take_of_length_le (Nat.le_refl _)] at g6
      have w2 : IntKind.i64.wrap ((i : Int) + ys.length) = ((i + ys.length : Nat) : Int) := by rw [wrap_in _ (by omega) (by omega)]; omega
      have t2 : (IntKind.i64.wrap ((i : Int) + ys.length)).toNat = i + ys.length := by rw [w2]; rfl
      have eu : IntKind.u32.wrap u = u := by rw [wrap_u32]; unfold B32 at g5; omega
      refine And.intro (by rw [w2]; omega) (And.intro (by rw [t2]; show i + ys.length < o.length; omega) (And.intro (by rw [t2]; show i + ys.length < o.length; omega) ?_))
      refine ⟨(i + 1, o.set (i + ys.length) u), M2, Ref.subS (by exact ⟨some_nrm (wrap_in _ (by omega) (by omega)), rfl, rfl, rfl, rfl, rfl, rfl, trivial⟩) ?_, ⟨by simpa using g1, by simp only; omega, okd_set g3 _ g5, ?_, ?_⟩, by simp only; omega⟩
      · simp only [t2, eu]
      · intro j hj
        simp only at hj ⊢
        rw [getD_set_ne _ _ _ _ (by omega)]; exact g4 j (by omega)
      · simp only
        rw [val_set _ _ _ _ (by omega), g4 _ (Nat.le_refl _), val_take, Int.add_mul, Int.sub_zero, Int.pow_add, g6, h5]
        rw [Int.mul_assoc, Int.mul_comm (B32 ^ i), Int.mul_comm (val B32 ys), Int.mul_assoc]
  · have hi : i = xs.length := by simp at hb; omega
    subst hi
    rw [List.take_of_length_le (Nat.le_refl _)] at h5
    refine CallK.pub 5 fun M3 le3 => ?_
    refine callS_ (by kernel_rfl) (fun l m' s => made_int (b != c) out _ m' s.okm (h1 ▸ s.ints0 (id := 5) (xs := out) rfl (by omega)) h3 (by omega)) ?_
    rintro M1 v le1 r1
    obtain ⟨b', p', k', c', rfl, r1⟩ := r1.shape
    refine fin_int r1 ?_
    rw [h5, hn, hk]; cases b <;> cases c <;> simp [sg, Int.neg_mul, Int.mul_neg]
end Go.Proofs.Ytdkamjbcpmlheaa

/- Whole numbers of any size, as the program has them: quotients and rests. -/
namespace Go.Proofs.Ytdkamjbcpmlheaa
open Go Go.Gw Go.Lg
set_option pp.deepTerms false
set_option pp.deepTerms.threshold 6
set_option pp.maxSteps 3000

theorem fdiv_unique {n k q r : Int} (h : n = q * k + r) (hr : (0 ≤ r ∧ r < k) ∨ (k < r ∧ r ≤ 0)) : n.fdiv k = q ∧ n.fmod k = r := by
  have h1 : n.fdiv k = q := by
    rcases hr with ⟨h1, h2⟩ | ⟨h1, h2⟩
    · rw [Int.fdiv_eq_ediv_of_nonneg _ (by omega), h, Int.add_comm, Int.add_mul_ediv_right _ _ (by omega), Int.ediv_eq_zero_of_lt h1 h2]
      omega
    · have e : n.fdiv k = (-n).fdiv (-k) := by rw [Int.neg_fdiv_neg]
      rw [e, Int.fdiv_eq_ediv_of_nonneg _ (by omega), h]
      have : -(q * k + r) = -r + q * (-k) := by rw [Int.mul_neg]; omega
      rw [this, Int.add_mul_ediv_right _ _ (by omega), Int.ediv_eq_zero_of_lt (by omega) (by omega)]
      omega
  refine ⟨h1, ?_⟩
  have := Int.fmod_add_mul_fdiv n k
  rw [h1, Int.mul_comm] at this
  omega

theorem IntR.sign {m : Mo} {b : Bool} {vr : Value} {n : Int} (h : IntR m (.agg #[.bool b, vr]) n) : b = decide (n < 0) := by
  obtain ⟨b', vr', xs, h1, h2, ox, nx, h3, h4⟩ := h
  injection h1 with h1
  injection h1 with h1
  injection h1 with h1 h5
  injection h1 with h1
  subst h1
  have h6 := val_nonneg B32_pos ox
  cases b with
  | true =>
    have := nrmd_pos B32_pos ox nx (h3 rfl)
    simp [sg] at h4; simp; omega
  | false => simp [sg] at h4; simp; omega

/-- A quotient and a rest. -/
def QuoR (m : Mo) (v : Value) (n k : Int) : Prop := ∃ vq vr e, v = .tuple #[vq, vr, .int .i64 e] ∧ (k ≠ 0 → e = 0 ∧ IntR m vq (n.fdiv k) ∧ IntR m vr (n.fmod k)) ∧ (k = 0 → e = 11 ∧ IntR m vq 0 ∧ IntR m vr 0)

theorem quo_math {X Y Q R : Int} (b c : Bool) (h0 : 0 ≤ R) (h1 : R < Y) (h2 : X = Q * Y + R) :
    (R = 0 ∨ b = c → sg (b != c) Q = (sg b X).fdiv (sg c Y) ∧ sg b R = (sg b X).fmod (sg c Y)) ∧
    (R ≠ 0 → b ≠ c → sg (b != c) Q - 1 = (sg b X).fdiv (sg c Y) ∧ sg b R + sg c Y = (sg b X).fmod (sg c Y)) := by
  constructor
  · intro h
    have := fdiv_unique (n := sg b X) (k := sg c Y) (q := sg (b != c) Q) (r := sg b R) ?_ ?_
    · exact ⟨this.1.symm, this.2.symm⟩
    · rw [h2]; cases b <;> cases c <;> simp [sg, Int.neg_mul, Int.mul_neg] <;> omega
    · rcases h with h | h
      · subst h; cases b <;> cases c <;> simp [sg] <;> omega
      · subst h; cases b <;> simp [sg] <;> omega
  · intro h h'
    have := fdiv_unique (n := sg b X) (k := sg c Y) (q := sg (b != c) Q - 1) (r := sg b R + sg c Y) ?_ ?_
    · exact ⟨this.1.symm, this.2.symm⟩
    · rw [h2]; cases b <;> cases c <;> simp [sg, Int.neg_mul, Int.mul_neg, Int.sub_mul] at h' ⊢ <;> omega
    · cases b <;> cases c <;> simp [sg] at h' ⊢ <;> omega

theorem val_div_le {X Y Q R : Int} (h0 : 0 ≤ R) (h1 : R < Y) (h2 : X = Q * Y + R) (hq : 0 ≤ Q) : Q ≤ X := by
  have : Q * 1 ≤ Q * Y := Int.mul_le_mul_of_nonneg_left (by omega) hq
  omega

set_option maxRecDepth 10000 in
theorem quo_calls (n k : Int) (va vb : Value) (m : Mo) (hm : m.okm) (ha : IntR m va n) (hb : IntR m vb k) (hs : sz n ≤ 100000000) (ht : sz k ≤ 100000000) :
    Calls Try.prog 30 #[va, vb] m.w (Post m fun m v => QuoR m v n k) := by
  have hB := hb
  obtain ⟨b, vr, xs, rfl, hr, ox, nx, hb0, hn⟩ := ha
  obtain ⟨c, vs, ys, rfl, hq0, oy, ny, hc0, hk⟩ := hb
  have hq := hq0
  obtain ⟨p, cb, rfl, hcb, _, _⟩ := hq
  obtain ⟨p', ca, rfl, hca, _, _⟩ := id hr
  have hx := len_sz (b := b) ox nx
  rw [← hn] at hx
  have hy := len_sz (b := c) oy ny
  rw [← hk] at hy
  refine enter_ Try.f30 _ 52 (args := [.agg #[.bool b, .slice (Base.up p' 0) xs.length ca], .agg #[.bool c, .slice (Base.up p 0) ys.length cb]]) (by kernel_rfl) rfl (by kernel_rfl) hm ?_
  refine Br.mk (fun h0 => ?_) (fun h0 => ?_)
  · have h0 : ys = [] := by apply List.eq_nil_of_length_eq_zero; simpa using h0
    subst h0
    refine fin_at (v := .tuple #[.agg #[.bool false, .slice none 0 0], .agg #[.bool false, .slice none 0 0], .int .i64 11]) (fun m' _ => ?_)
    refine ⟨_, _, _, rfl, fun h => absurd ?_ h, fun _ => ⟨rfl, IntR_zero _, IntR_zero _⟩⟩
    rw [hk]; cases c <;> rfl
  have h0 : ys ≠ [] := fun e => by subst e; simp at h0
  have hp := nrmd_pos B32_pos oy ny h0
  have hk0 : k ≠ 0 := by rw [hk]; cases c <;> simp [sg] <;> omega
  refine callS_ (by kernel_rfl) (fun l m' s => parted_calls xs ys _ _ m' s.okm (hr.mono s.le) (hq0.mono s.le) ox oy nx ny h0 (by omega) (by omega)) ?_
  rintro M1 v le1 ⟨vq, vs, qs, rs, rfl, i1, i2, o1, o2, l1, l2, e1, e2⟩
  have hr0 := val_nonneg B32_pos o2
  have hqq0 := val_nonneg B32_pos o1
  obtain ⟨mm1, mm2⟩ := quo_math b c hr0 e2 e1
  rw [← hn, ← hk] at mm1 mm2
  refine draw_ [(1, []), (3, []), (8, [])] [0, 1, 2, 3, 4, 5, 7, 8, 9, 6, 10] [] [11, 12] [(11, 2), (12, 3)] (by kernel_rfl) rfl rfl ?_
  refine callD_ (by kernel_rfl) (fun l m' s => made_int (b != c) qs _ m' s.okm (i1.mono s.le) o1 (by omega)) ?_
  rintro M2 v2 le2 j1
  refine callD_ (by kernel_rfl) (fun l m' s => made_int b rs _ m' s.okm (i2.mono (le2.trans s.le)) o2 (by omega)) ?_
  rintro M3 v3 le3 j2
  replace j1 := j1.mono le3
  obtain ⟨b1, p1, k1, c1, rfl, j1⟩ := j1.shape
  obtain ⟨b2, p2, k2, c2, rfl, j2⟩ := j2.shape
  have sb2 := j2.sign
  have szr : sz (sg b (val B32 rs)) ≤ 100000000 := by
    refine Nat.le_trans (sz_mono ?_) ht
    rw [hk]; cases b <;> cases c <;> simp [sg] <;> omega
  have szq : sz (sg (b != c) (val B32 qs)) ≤ 100000000 := by
    refine Nat.le_trans (sz_mono ?_) hs
    have := val_div_le hr0 e2 e1 hqq0
    rw [hn]; unfold sg; split <;> split <;> omega
  refine callS_ (by kernel_rfl) (fun l m' s => sign_calls _ _ m' s.okm (j2.mono s.le) (by omega)) ?_
  rintro M4 v4 le4 rfl
  have fin : ∀ {M : Mo} {q r : Value}, IntR M q (n.fdiv k) → IntR M r (n.fmod k) → ∀ m', M.Le m' → QuoR m' (.tuple #[q, r, .int .i64 0]) n k := fun g1 g2 m' le =>
    ⟨_, _, _, rfl, fun _ => ⟨rfl, g1.mono le, g2.mono le⟩, fun h => absurd h hk0⟩
  have ez : (cmpI (sg b (val B32 rs)) 0 != 0) = true ↔ val B32 rs ≠ 0 := by
    unfold cmpI sg
    cases b <;> simp <;> split <;> (try split) <;> simp <;> omega
  refine Br.mk (fun h1 => ?_) (fun h1 => ?_)
  · have hrz : val B32 rs ≠ 0 := ez.1 h1
    have eb2 : b2 = b := by rw [sb2]; cases b <;> simp [sg] <;> omega
    refine Br.mk (fun h2 => ?_) (fun h2 => ?_)
    · have hbc : b ≠ c := by rw [eb2] at h2; simpa using h2
      obtain ⟨f1, f2⟩ := mm2 hrz hbc
      refine draw_ [(0, []), (3, []), (4, [])] [0, 3, 4, 1, 2, 5] [] [6, 7] [(6, 2), (7, 3)] (by kernel_rfl) rfl rfl ?_
      refine callD_ (by kernel_rfl) (fun l m' s => of_calls 1 m' s.okm (by omega) (by omega)) ?_
      rintro M5 v5 le5 g1
      refine callD_ (by kernel_rfl) (fun l m' s => sub_calls _ _ _ _ m' s.okm (j1.mono (le4.trans (le5.trans s.le))) (g1.mono s.le) (by omega) (Nat.le_trans (sz_i64 (by omega) (by omega)) (by omega))) ?_
      rintro M6 v6 le6 g2
      refine callD_ (by kernel_rfl) (fun l m' s => add_calls _ _ _ _ m' s.okm (j2.mono (le4.trans (le5.trans (le6.trans s.le)))) (hB.mono (le1.trans (le2.trans (le3.trans (le4.trans (le5.trans (le6.trans s.le))))))) (by omega) (by omega)) ?_
      rintro M7 v7 le7 g3
      replace g2 := g2.mono le7
      obtain ⟨b3, p3, k3, c3, rfl, g2⟩ := g2.shape
      obtain ⟨b4, p4, k4, c4, rfl, g3⟩ := g3.shape
      refine draw_ [(0, []), (1, [2])] [0, 1] [] [2, 3, 4] [(2, 2), (3, 3)] (by kernel_rfl) rfl rfl ?_
      exact fin_at (fin (g2.cast f1) (g3.cast f2))
    · have hbc : b = c := by rw [eb2] at h2; simpa using h2
      obtain ⟨f1, f2⟩ := mm1 (.inr hbc)
      refine draw_ [(0, []), (1, [2])] [0, 1] [] [2, 3, 4] [(2, 2), (3, 3)] (by kernel_rfl) rfl rfl ?_
      exact fin_at (fin ((j1.mono le4).cast f1) ((j2.mono le4).cast f2))
  · have hrz : val B32 rs = 0 := by
      by_cases h : val B32 rs = 0
      · exact h
      · rw [ez.2 h] at h1; cases h1
    obtain ⟨f1, f2⟩ := mm1 (.inl hrz)
    refine draw_ [(0, []), (1, [2])] [0, 1] [] [2, 3, 4] [(2, 2), (3, 3)] (by kernel_rfl) rfl rfl ?_
    exact fin_at (fin ((j1.mono le4).cast f1) ((j2.mono le4).cast f2))
end Go.Proofs.Ytdkamjbcpmlheaa

/- Whole numbers of any size, as the program has them: binary digits. -/
namespace Go.Gw
theorem or64' (k : Nat) (a y : Int) (ha : 0 ≤ a) (hm : a % 2 ^ k = 0) (hy : 0 ≤ y) (hyk : y < 2 ^ k) (hb : a + y < 18446744073709551616) : IntKind.u64.wrap (((BitVec.ofInt IntKind.u64.bits y ||| BitVec.ofInt IntKind.u64.bits a).toNat : Nat) : Int) = a + y := by
  rw [BitVec.or_comm]; exact or64 k a y ha hm hy hyk hb
end Go.Gw
namespace Go.Proofs.Ytdkamjbcpmlheaa
open Go Go.Gw Go.Lg
set_option pp.deepTerms false
set_option pp.deepTerms.threshold 6
set_option pp.maxSteps 3000

/-- How many binary digits a number has. -/
def blen (n : Int) : Nat := if n = 0 then 0 else n.natAbs.log2 + 1
theorem blen_zero : blen 0 = 0 := rfl
theorem blen_lt (n : Int) : n.natAbs < 2 ^ blen n := by
  unfold blen
  split
  · rename_i h; subst h; decide
  · rename_i h; exact (Nat.log2_lt (by omega)).1 (by omega)
theorem blen_low {n : Int} (h : n ≠ 0) : 2 ^ (blen n - 1) ≤ n.natAbs := by
  unfold blen
  rw [if_neg h, Nat.add_sub_cancel]
  exact Nat.log2_self_le (by omega)
theorem blen_unique {n : Int} {k : Nat} (h1 : n.natAbs < 2 ^ k) (h2 : 2 ^ (k - 1) ≤ n.natAbs) (hk : k ≠ 0) : blen n = k := by
  have h0 : n.natAbs ≠ 0 := by have := Nat.pow_pos (n := k - 1) (show 0 < 2 by decide); omega
  unfold blen
  rw [if_neg (by omega)]
  have h3 := (Nat.log2_lt h0).2 h1
  have h4 : k - 1 ≤ n.natAbs.log2 := (Nat.le_log2 h0).2 h2
  omega
theorem blen_sz (n : Int) : blen n ≤ 32 * sz n := by
  unfold blen sz
  split <;> omega

theorem bits_math {xs : List Int} {t : Nat} (ox : okd B32 xs) (hx : xs ≠ []) (h1 : xs.getD (xs.length - 1) 0 < 2 ^ t) (h2 : t = 0 ∨ 2 ^ (t - 1) ≤ xs.getD (xs.length - 1) 0) (hne : xs.getD (xs.length - 1) 0 ≠ 0) (b : Bool) :
    blen (sg b (val B32 xs)) = 32 * (xs.length - 1) + t := by
  have hl : xs.length ≠ 0 := fun e => hx (List.eq_nil_of_length_eq_zero e)
  have e := val_split B32 xs (xs.length - 1) (by omega)
  rw [val_drop B32 xs (xs.length - 1) (by omega), List.drop_of_length_le (by omega), val, Int.mul_zero, Int.add_zero] at e
  have n1 := val_nonneg B32_pos (ox.take (xs.length - 1))
  have n2 := val_lt B32_pos (ox.take (xs.length - 1))
  rw [List.length_take, Nat.min_eq_left (by omega)] at n2
  have hd := ox.getD B32_pos (xs.length - 1)
  have hnn := val_nonneg B32_pos ox
  generalize xs.getD (xs.length - 1) 0 = d at *
  have ht : t ≠ 0 := by
    intro h; subst h; rw [Int.pow_zero] at h1; omega
  have h2 : (2 : Int) ^ (t - 1) ≤ d := by rcases h2 with h | h; omega; exact h
  have hK : (0 : Int) < B32 ^ (xs.length - 1) := Int.pow_pos B32_pos
  have hab : ((sg b (val B32 xs)).natAbs : Int) = val B32 xs := by unfold sg; split <;> omega
  have p1 : B32 ^ (xs.length - 1) = ((2 ^ (32 * (xs.length - 1)) : Nat) : Int) := B32_pow _
  refine blen_unique ?_ ?_ (by omega)
  · have q1 : B32 ^ (xs.length - 1) * (d + 1) ≤ B32 ^ (xs.length - 1) * 2 ^ t := Int.mul_le_mul_of_nonneg_left (by omega) (Int.le_of_lt hK)
    have q2 : B32 ^ (xs.length - 1) * 2 ^ t = ((2 ^ (32 * (xs.length - 1) + t) : Nat) : Int) := by rw [p1, Nat.pow_add]; simp
    rw [q2, Int.mul_add] at q1
    omega
  · have q1 : B32 ^ (xs.length - 1) * 2 ^ (t - 1) ≤ B32 ^ (xs.length - 1) * d := Int.mul_le_mul_of_nonneg_left h2 (Int.le_of_lt hK)
    have q2 : B32 ^ (xs.length - 1) * 2 ^ (t - 1) = ((2 ^ (32 * (xs.length - 1) + (t - 1)) : Nat) : Int) := by rw [p1, Nat.pow_add]; simp
    rw [q2] at q1
    rw [show 32 * (xs.length - 1) + t - 1 = 32 * (xs.length - 1) + (t - 1) by omega]
    omega

theorem top_ne {xs : List Int} (nx : nrmd xs) (hx : xs ≠ []) : xs.getD (xs.length - 1) 0 ≠ 0 := by
  have hl : xs.length ≠ 0 := fun e => hx (List.eq_nil_of_length_eq_zero e)
  intro h
  refine nx ?_
  rw [List.getLast?_eq_getElem?]
  rw [List.getD, List.getElem?_eq_getElem (by omega)] at h
  rw [List.getElem?_eq_getElem (by omega)]
  simpa using h

set_option maxRecDepth 10000 in
theorem bits_calls (n : Int) (va : Value) (m : Mo) (hm : m.okm) (ha : IntR m va n) (hs : sz n ≤ 100000000) :
    Calls Try.prog 33 #[va] m.w (Post m fun _ v => v = .int .i64 (blen n)) := by
  obtain ⟨b, vr, xs, rfl, ⟨a, ca, rfl, hca, hsa, hra⟩, ox, nx, hb0, hn⟩ := ha
  have hx := len_sz (b := b) ox nx
  rw [← hn] at hx
  refine enter2_ Try.f33 _ 22 [a] [⟨none, .ints .u32 xs⟩] [.agg [.v (.bool b), .ls 0 0 xs.length ca]] (by kernel_rfl) rfl (by kernel_rfl) hm rfl (by simp [okL, AV.ok]) ⟨⟨rfl, hsa, trivial, hra⟩, trivial⟩ ?_
  refine Br.mk (fun h0 => ?_) (fun h0 => ?_)
  · have h0 : xs = [] := by apply List.eq_nil_of_length_eq_zero; simpa using h0
    subst h0
    refine fin_at (v := .int .i64 0) (fun _ _ => ?_)
    rw [hn]; cases b <;> rfl
  have h0 : xs ≠ [] := fun e => by subst e; simp at h0
  have hl : xs.length ≠ 0 := fun e => h0 (List.eq_nil_of_length_eq_zero e)
  have w1 : IntKind.i64.wrap ((xs.length : Int) - 1) = ((xs.length - 1 : Nat) : Int) := by rw [wrap_in _ (by omega) (by omega)]; omega
  have t1 : (IntKind.i64.wrap ((xs.length : Int) - 1)).toNat = xs.length - 1 := by rw [w1]; rfl
  refine draw_ [] [0, 1, 2, 3, 4, 5, 6, 7, 8, 9, 10, 11, 12, 13, 14, 15] [] [] [] (by kernel_rfl) rfl rfl ?_
  refine ix_ (by rw [w1]; omega) (by rw [t1]; show xs.length - 1 < xs.length; omega) ?_
  rw [t1]
  refine callD_ (by kernel_rfl) (fun l m' s => len32_calls _ m' s.okm (ox.getD B32_pos _)) ?_
  rintro M1 v le1 ⟨t, rfl, ht, h1, h2⟩
  refine fin_at (fun _ _ => ?_)
  rw [hn, bits_math ox h0 h1 h2 (top_ne nx h0) b]
  rw [w1, wrap_in (32 * _) (by omega) (by omega), wrap_in _ (by omega) (by omega)]
  congr 1

theorem cmpI_neg (a b : Int) : cmpI a b < 0 ↔ a < b := by unfold cmpI; split <;> (try split) <;> omega
theorem cmpI_pos (a b : Int) : 0 < cmpI a b ↔ b < a := by unfold cmpI; split <;> (try split) <;> omega
theorem small_step {xs : List Int} {i : Nat} (ox : okd B32 xs) (hx : xs.length ≤ 2) (hi : i < xs.length) :
    IntKind.u64.wrap (((BitVec.ofInt IntKind.u64.bits (val B32 (xs.take i)) ||| BitVec.ofInt IntKind.u64.bits (IntKind.u64.wrap (IntKind.u64.wrap (xs.getD (Int.toNat i) 0) * 2 ^ (min (Int.toNat ((32 * i : Nat) : Int)) IntKind.u64.bits)))).toNat : Nat) : Int) = val B32 (xs.take (i + 1)) := by
  have rx := ox.getD B32_pos i
  have h1 := val_nonneg B32_pos (ox.take i)
  have h2 := val_lt B32_pos (ox.take i)
  rw [List.length_take, Nat.min_eq_left (by omega)] at h2
  rw [val_take]
  simp only [Int.toNat_natCast]
  generalize xs.getD i 0 = x at *
  generalize val B32 (xs.take i) = u at *
  have e1 : IntKind.u64.wrap x = x := by rw [wrap_u64]; unfold B32 at rx; omega
  rw [e1]
  have hi2 : i = 0 ∨ i = 1 := by omega
  rcases hi2 with rfl | rfl
  · have e2 : (2 : Int) ^ (min (32 * 0) IntKind.u64.bits) = 1 := by decide
    rw [e2, Int.mul_one, e1]
    rw [Int.pow_zero] at h2 ⊢
    have hu : u = 0 := by omega
    subst hu
    have := or64 32 0 x (by omega) (by decide) rx.1 (by have := rx.2; rw [show (2 : Int) ^ 32 = 4294967296 by decide]; unfold B32 at this; omega) (by have := rx.2; unfold B32 at this; omega)
    rw [this]; omega
  · have e2 : (2 : Int) ^ (min (32 * 1) IntKind.u64.bits) = 4294967296 := by decide
    have e3 : IntKind.u64.wrap (x * 4294967296) = x * 4294967296 := by rw [wrap_u64]; unfold B32 at rx; omega
    rw [e2, e3]
    have h2 : u < 4294967296 := by rw [Int.pow_one] at h2; exact h2
    have := or64' 32 (x * 4294967296) u (by omega) (by rw [show (2 : Int) ^ 32 = 4294967296 by decide]; omega) h1 (by rw [show (2 : Int) ^ 32 = 4294967296 by decide]; omega) (by unfold B32 at rx; omega)
    rw [this, Int.pow_one]
    unfold B32
    omega

set_option maxRecDepth 10000 in
theorem small_calls (n : Int) (va : Value) (m : Mo) (hm : m.okm) (ha : IntR m va n) (hs : sz n ≤ 100000000) :
    Calls Try.prog 36 #[va] m.w (Post m fun _ v => v = .tuple #[.int .i64 (if -9223372036854775808 ≤ n ∧ n ≤ 9223372036854775807 then n else 0), .bool (decide (-9223372036854775808 ≤ n ∧ n ≤ 9223372036854775807))]) := by
  have hA := ha
  obtain ⟨b, vr, xs, rfl, ⟨a, ca, rfl, hca, hsa, hra⟩, ox, nx, hb0, hn⟩ := ha
  have hx := len_sz (b := b) ox nx
  rw [← hn] at hx
  refine enter2_ Try.f36 _ 41 [a] [⟨none, .ints .u32 xs⟩] [.agg [.v (.bool b), .ls 0 0 xs.length ca]] (by kernel_rfl) rfl (by kernel_rfl) hm rfl (by simp [okL, AV.ok]) ⟨⟨rfl, hsa, trivial, hra⟩, trivial⟩ ?_
  refine callS_ (by kernel_rfl) (fun l m' s => of_calls _ m' s.okm (by omega) (by omega)) ?_
  rintro M1 v1 le1 g1
  obtain ⟨b1, p1, k1, c1, rfl, g1⟩ := g1.shape
  have szl : sz (-9223372036854775808) ≤ 300000000 := Nat.le_trans (sz_i64 (by omega) (by omega)) (by omega)
  have szm : sz 9223372036854775807 ≤ 300000000 := Nat.le_trans (sz_i64 (by omega) (by omega)) (by omega)
  refine draw_ [] [0, 1, 2, 3, 4, 5, 6, 7, 8, 9] [] [] [] (by kernel_rfl) rfl rfl ?_
  refine callD_ (by kernel_rfl) (fun l m' s => intcmp_calls n (-9223372036854775808) _ _ m' s.okm ?_ (g1.mono s.le) (by omega) szl) ?_
  · obtain ⟨b', vr', xs', e1, e2, e3⟩ := hA.mono (le1.trans s.le)
    have := s.ints0 (id := 0) (kd := .u32) (xs := xs) rfl hca
    exact ⟨b, _, xs, rfl, this, ox, nx, hb0, hn⟩
  rintro M2 v2 le2 rfl
  refine Br.mk (fun h1 => ?_) (fun h1 => ?_)
  · have h1 : n < -9223372036854775808 := by simpa [cmpI_neg] using h1
    refine fin_at (v := .tuple #[.int .i64 0, .bool false]) (fun _ _ => ?_)
    rw [if_neg (by omega), decide_eq_false (by omega)]
  have h1 : -9223372036854775808 ≤ n := by simp [cmpI_neg] at h1; exact h1
  refine callD_ (by kernel_rfl) (fun l m' s => of_calls _ m' s.okm (by omega) (by omega)) ?_
  rintro M3 v3 le3 g2
  refine callD_ (by kernel_rfl) (fun l m' s => intcmp_calls n 9223372036854775807 _ _ m' s.okm ?_ (g2.mono s.le) (by omega) szm) ?_
  · exact ⟨b, _, xs, rfl, s.ints0 (id := 0) (kd := .u32) (xs := xs) rfl hca, ox, nx, hb0, hn⟩
  rintro M4 v4 le4 rfl
  refine Br.mk (fun h2 => ?_) (fun h2 => ?_)
  · have h2 : 9223372036854775807 < n := by simpa [cmpI_pos] using h2
    refine fin_at (v := .tuple #[.int .i64 0, .bool false]) (fun _ _ => ?_)
    rw [if_neg (by omega), decide_eq_false (by omega)]
  have h2 : n ≤ 9223372036854775807 := by simp [cmpI_pos] at h2; exact h2
  have hx2 : xs.length ≤ 2 := Nat.le_trans hx (sz_i64 h1 h2)
  have hv0 := val_nonneg B32_pos ox
  have hvn : val B32 xs ≤ 9223372036854775808 := by cases b <;> simp [sg] at hn <;> omega
  refine loop_ (ι := Nat) (fun i => [(22, .v (.int .i64 i)), (21, .v (.int .i64 xs.length)), (20, .ls 0 0 xs.length ca), (5, .v (.int .u64 (val B32 (xs.take i)))), (1, .lp 1 0)])
    (fun i => [⟨none, .ints .u32 xs⟩, ⟨some (25, 2), .lit [.v (.bool b), .ls 0 0 xs.length ca]⟩])
    (fun i _ => i ≤ xs.length) (fun i => xs.length - i) 0 (M0 := M4) ?_ ?_ ?_
  · exact Ref.ren [some 0, some 1] (by rfl) (by exact ⟨⟨rfl, trivial⟩, ⟨rfl, trivial⟩, ⟨rfl, by simp [AV.ok]⟩, ⟨rfl, trivial⟩, ⟨rfl, by simp [AV.ok]⟩, trivial⟩) (by exact ⟨⟨rfl, trivial⟩, ⟨rfl, by simp [Cells.ok, okL, AV.ok]⟩, trivial⟩)
  · exact Nat.zero_le _
  rintro i M5 h3
  refine Br.mk (fun hb => ?_) (fun hb => ?_)
  · have hi : i < xs.length := by simpa using hb
    have rx := ox.getD B32_pos i
    have w1 : IntKind.i64.wrap (32 * (i : Int)) = ((32 * i : Nat) : Int) := by rw [wrap_in _ (by omega) (by omega)]; omega
    refine ix_ (by omega) (by show (i : Int).toNat < xs.length; omega) ?_
    refine And.intro (by rw [w1]; omega) ?_
    refine ⟨i + 1, M5, Ref.sub (by exact ⟨some_nrm (wrap_in _ (by omega) (by omega)), rfl, rfl, some_nrm (by rw [w1]; exact small_step ox hx2 hi), rfl, trivial⟩), by omega, by omega⟩
  · have hi : i = xs.length := by simp at hb; omega
    subst hi
    refine Br.mk (fun h4 => ?_) (fun h4 => ?_)
    · refine fin_at (v := .tuple #[.int .i64 n, .bool true]) (fun _ _ => ?_) (hv := fun l => ?_)
      · rw [if_pos ⟨h1, h2⟩, decide_eq_true ⟨h1, h2⟩]
      · subst h4
        simp only [conc, concL]
        rw [List.take_of_length_le (Nat.le_refl _), show IntKind.i64.wrap (IntKind.u64.wrap (0 - val B32 xs)) = n by rw [wrap_u64, wrap_i64]; simp [sg] at hn; omega]
    · refine fin_at (v := .tuple #[.int .i64 n, .bool true]) (fun _ _ => ?_) (hv := fun l => ?_)
      · rw [if_pos ⟨h1, h2⟩, decide_eq_true ⟨h1, h2⟩]
      · subst h4
        simp only [conc, concL]
        rw [List.take_of_length_le (Nat.le_refl _), show IntKind.i64.wrap (val B32 xs) = n by rw [wrap_i64]; simp [sg] at hn; omega]
end Go.Proofs.Ytdkamjbcpmlheaa

/- Whole numbers of any size, as the program has them: square roots. -/
namespace Go.Proofs.Ytdkamjbcpmlheaa
open Go Go.Gw Go.Lg
set_option pp.deepTerms false
set_option pp.deepTerms.threshold 6
set_option pp.maxSteps 3000

theorem sq_nonneg' (a : Int) : 0 ≤ a * a := by
  rcases Int.le_total 0 a with h | h
  · exact Int.mul_nonneg h h
  · have := Int.mul_nonneg (show 0 ≤ -a by omega) (show 0 ≤ -a by omega)
    rwa [Int.neg_mul_neg] at this
theorem newton_low {n r : Int} (hr : 0 < r) (hn : 0 ≤ n) : n < ((r + n / r) / 2 + 1) * ((r + n / r) / 2 + 1) := by
  have e := Int.mul_ediv_add_emod n r
  have l := Int.emod_lt_of_pos n hr
  have hq : 0 ≤ n / r := Int.ediv_nonneg hn (by omega)
  generalize n / r = q at *
  generalize n % r = u at *
  obtain ⟨t, ht⟩ : ∃ t, t = (r + q) / 2 + 1 := ⟨_, rfl⟩
  obtain ⟨p, hp⟩ : ∃ p, p = q + 1 := ⟨_, rfl⟩
  rw [← ht]
  have h1 : r + p ≤ 2 * t := by omega
  have h2 := Int.mul_le_mul h1 h1 (by omega) (by omega)
  have h3 := sq_nonneg' (r - p)
  have e1 : (r - p) * (r - p) = r * r - 2 * (r * p) + p * p := by
    rw [Int.sub_mul, Int.mul_sub, Int.mul_sub, Int.mul_comm p r]; omega
  have e2 : (r + p) * (r + p) = r * r + 2 * (r * p) + p * p := by
    rw [Int.add_mul, Int.mul_add, Int.mul_add, Int.mul_comm p r]; omega
  have e3 : 2 * t * (2 * t) = 4 * (t * t) := by
    rw [Int.mul_assoc, Int.mul_left_comm t 2 t]; omega
  have e4 : r * p = r * q + r := by rw [hp, Int.mul_add, Int.mul_one]
  omega
theorem newton_stop {n r : Int} (hr : 0 < r) (h : r ≤ (r + n / r) / 2) : r * r ≤ n := by
  have e := Int.mul_ediv_add_emod n r
  have l := Int.emod_nonneg n (show r ≠ 0 by omega)
  have h1 : r * r ≤ r * (n / r) := Int.mul_le_mul_of_nonneg_left (by omega) (by omega)
  omega

/-- A whole number's root. -/
def RootR (m : Mo) (v : Value) (n : Int) : Prop := ∃ vr e, v = .tuple #[vr, .int .i64 e] ∧ (n < 0 → e = 12 ∧ IntR m vr 0) ∧ (0 ≤ n → e = 0 ∧ ∃ r, 0 ≤ r ∧ r * r ≤ n ∧ n < (r + 1) * (r + 1) ∧ IntR m vr r)

theorem first_math {L k j : Nat} (hk : k = (L / 2 + 1) / 32) (hj : j = (L / 2 + 1) % 32) : val B32 ((List.replicate (L / 64 + 2) (0 : Int)).set k (2 ^ j)) = 2 ^ (L / 2 + 1) := by
  rw [val_set _ _ _ _ (by simp; omega), val_zeros]
  have e : (List.replicate (L / 64 + 2) (0 : Int)).getD k 0 = 0 := by
    simp only [List.getD, List.getElem?_replicate]; split <;> rfl
  rw [e, Int.sub_zero, Int.zero_add, B32_pow, Int.natCast_pow]
  show (2 : Int) ^ (32 * k) * 2 ^ j = _
  rw [← Int.pow_add]
  congr 1
  omega
theorem first_big {n : Int} (hn : 0 ≤ n) : n < (2 ^ (blen n / 2 + 1) + 1) * (2 ^ (blen n / 2 + 1) + 1) := by
  have h1 := blen_lt n
  have h2 : (2 : Int) ^ blen n ≤ 2 ^ (2 * (blen n / 2 + 1)) := pow_mono (by decide) (by omega)
  have h3 : (2 : Int) ^ (2 * (blen n / 2 + 1)) = 2 ^ (blen n / 2 + 1) * 2 ^ (blen n / 2 + 1) := by rw [← Int.pow_add]; congr 1; omega
  have h4 : (n.natAbs : Int) < 2 ^ blen n := by exact_mod_cast h1
  have h5 : (0 : Int) < 2 ^ (blen n / 2 + 1) := Int.pow_pos (by decide)
  rw [Int.add_mul, Int.mul_add]
  omega

set_option maxRecDepth 10000 in
theorem root_calls (n : Int) (va : Value) (m : Mo) (hm : m.okm) (ha : IntR m va n) (hs : sz n ≤ 10000000) :
    Calls Try.prog 32 #[va] m.w (Post m fun m v => RootR m v n) := by
  have hA := ha
  obtain ⟨b, vr, xs, rfl, ⟨a, ca, rfl, hca, hsa, hra⟩, ox, nx, hb0, hn⟩ := ha
  have hx := len_sz (b := b) ox nx
  rw [← hn] at hx
  have hbs := hA.sign
  refine enter_ Try.f32 _ 62 (args := [.agg #[.bool b, .slice (Base.up a 0) xs.length ca]]) (by kernel_rfl) rfl (by kernel_rfl) hm ?_
  refine Br.mk (fun h0 => ?_) (fun h0 => ?_)
  · have h0 : n < 0 := by rw [h0] at hbs; simpa using hbs
    refine fin_at (v := .tuple #[.agg #[.bool false, .slice none 0 0], .int .i64 12]) (fun m' _ => ⟨_, _, rfl, fun _ => ⟨rfl, IntR_zero _⟩, fun h => by omega⟩)
  have hn0 : 0 ≤ n := by rw [h0] at hbs; simp at hbs; exact hbs
  subst h0
  refine Br.mk (fun h0 => ?_) (fun h0 => ?_)
  · have h0 : xs = [] := by apply List.eq_nil_of_length_eq_zero; simpa using h0
    subst h0
    have hz : n = 0 := hn
    subst hz
    refine fin_at (v := .tuple #[.agg #[.bool false, .slice none 0 0], .int .i64 0]) (fun m' _ => ⟨_, _, rfl, fun h => by omega, fun _ => ⟨rfl, 0, by omega, by omega, by omega, IntR_zero _⟩⟩)
  have h0 : xs ≠ [] := fun e => by subst e; simp at h0
  have hn1 : 0 < n := by rw [hn]; exact nrmd_pos B32_pos ox nx h0
  refine callS_ (by kernel_rfl) (fun l m' s => bits_calls n _ m' s.okm (hA.mono s.le) (by omega)) ?_
  rintro M1 v1 le1 rfl
  have hL := blen_sz n
  have hfb := first_big hn0
  have q1 : IntKind.i64.wrap (((blen n : Nat) : Int).tdiv 64) = ((blen n / 64 : Nat) : Int) := by rw [Int.tdiv_eq_ediv_of_nonneg (by omega), wrap_in _ (by omega) (by omega)]; omega
  have q2 : IntKind.i64.wrap (((blen n : Nat) : Int).tdiv 2) = ((blen n / 2 : Nat) : Int) := by rw [Int.tdiv_eq_ediv_of_nonneg (by omega), wrap_in _ (by omega) (by omega)]; omega
  have q3 : IntKind.i64.wrap (IntKind.i64.wrap (((blen n : Nat) : Int).tdiv 2) + 1) = ((blen n / 2 + 1 : Nat) : Int) := by rw [q2, wrap_in _ (by omega) (by omega)]; omega
  have q4 : IntKind.i64.wrap ((IntKind.i64.wrap (IntKind.i64.wrap (((blen n : Nat) : Int).tdiv 2) + 1)).tdiv 32) = (((blen n / 2 + 1) / 32 : Nat) : Int) := by rw [q3, Int.tdiv_eq_ediv_of_nonneg (by omega), wrap_in _ (by omega) (by omega)]; omega
  have q5 : (IntKind.i64.wrap (IntKind.i64.wrap (((blen n : Nat) : Int).tdiv 2) + 1)).tmod 32 = (((blen n / 2 + 1) % 32 : Nat) : Int) := by rw [q3, Int.tmod_eq_emod_of_nonneg (by omega)]; omega
  have q6 : IntKind.u32.wrap (1 * 2 ^ (min (Int.toNat (((blen n / 2 + 1) % 32 : Nat) : Int)) IntKind.u32.bits)) = 2 ^ ((blen n / 2 + 1) % 32) := by
    have h1 : min (Int.toNat (((blen n / 2 + 1) % 32 : Nat) : Int)) IntKind.u32.bits = (blen n / 2 + 1) % 32 := by
      rw [Int.toNat_natCast]; exact Nat.min_eq_left (by show _ ≤ 32; omega)
    have h2 : (2 : Int) ^ ((blen n / 2 + 1) % 32) ≤ 2 ^ 31 := pow_mono (by decide) (by omega)
    have h3 : (0 : Int) < 2 ^ ((blen n / 2 + 1) % 32) := Int.pow_pos (by decide)
    rw [show (2 : Int) ^ 31 = 2147483648 by decide] at h2
    rw [h1, Int.one_mul, wrap_u32]
    omega
  have q7 : (2 : Int) ^ ((blen n / 2 + 1) % 32) < B32 := by
    have h2 : (2 : Int) ^ ((blen n / 2 + 1) % 32) ≤ 2 ^ 31 := pow_mono (by decide) (by omega)
    rw [show (2 : Int) ^ 31 = 2147483648 by decide] at h2
    unfold B32; omega
  have q8 : (0 : Int) < 2 ^ ((blen n / 2 + 1) % 32) := Int.pow_pos (by decide)
  have fm := first_math (L := blen n) rfl rfl
  have fp : (0 : Int) < 2 ^ (blen n / 2 + 1) := Int.pow_pos (by decide)
  have hR0 : sz (2 ^ (blen n / 2 + 1)) ≤ 10000003 := by
    refine Nat.le_trans (sz_le (k := blen n / 64 + 2) ?_) (by omega)
    rw [← fm]
    have ok := okd_set (okd.zeros B32_pos (blen n / 64 + 2)) ((blen n / 2 + 1) / 32) ⟨Int.le_of_lt q8, q7⟩
    have h1 := val_nonneg B32_pos ok
    have h2 := val_lt B32_pos ok
    rw [List.length_set, List.length_replicate] at h2
    omega
  have fs : sz (2 ^ (blen n / 2 + 1)) ≤ 100000000 := by omega
  generalize hLL : blen n = L at *
  refine And.intro (by decide) ?_
  refine mk_ (e := 60) .u32 (L / 64 + 2) (by kernel_rfl) (by kernel_rfl) (by rw [q1, wrap_in _ (by omega) (by omega)]; omega) (by omega) ?_
  refine draw_ [(1, []), (6, []), (12, [])] [0, 1, 6, 2, 3, 4, 5, 7, 8, 9, 10, 11, 12] [] [13] [(13, 2)] (by kernel_rfl) rfl rfl ?_
  refine callD_ (by kernel_rfl) (fun l m' s => bits_calls n _ m' s.okm (hA.mono (le1.trans s.le)) (by omega)) ?_
  rintro M2 v2 le2 rfl
  rw [hLL]
  refine And.intro (by decide) (And.intro (by decide) ?_)
  refine callD_ (by kernel_rfl) (fun l m' s => bits_calls n _ m' s.okm (hA.mono (le1.trans (le2.trans s.le))) (by omega)) ?_
  rintro M3 v3 le3 rfl
  rw [hLL]
  refine And.intro (by decide) (And.intro (by decide) ?_)
  rw [q4, q5]
  refine And.intro (by omega) ?_
  refine And.intro ⟨by omega, by omega⟩ (And.intro (by show (_ : Int).toNat < (List.replicate _ _).length; simp; omega) (And.intro (by show (_ : Int).toNat < (List.replicate _ _).length; simp; omega) ?_))
  refine CallK.pub 2 fun M4 le4 => ?_
  have okF : okd B32 ((List.replicate (L / 64 + 2) (0 : Int)).set ((L / 2 + 1) / 32) (IntKind.u32.wrap (1 * 2 ^ (min (Int.toNat (((L / 2 + 1) % 32 : Nat) : Int)) IntKind.u32.bits)))) := by
    rw [q6]; exact okd_set (okd.zeros B32_pos _) _ ⟨Int.le_of_lt q8, q7⟩
  refine callS_ (by kernel_rfl) (fun l m' s => made_int false ((List.replicate (L / 64 + 2) (0 : Int)).set ((L / 2 + 1) / 32) (IntKind.u32.wrap (1 * 2 ^ (min (Int.toNat (((L / 2 + 1) % 32 : Nat) : Int)) IntKind.u32.bits)))) _ m' s.okm ?_ okF (by simp; omega)) ?_
  · have := s.ints0 (id := 2) (kd := .u32) (xs := (List.replicate (L / 64 + 2) (0 : Int)).set ((L / 2 + 1) / 32) (IntKind.u32.wrap (1 * 2 ^ (min (Int.toNat (((L / 2 + 1) % 32 : Nat) : Int)) IntKind.u32.bits)))) rfl (Nat.le_refl _)
    rw [List.length_set, List.length_replicate] at this
    exact this
  rintro M5 v5 le5 g0
  rw [q6, fm] at g0
  replace g0 : IntR M5 v5 (2 ^ (L / 2 + 1)) := g0
  obtain ⟨b0, p0, k0, c0, rfl, g0⟩ := g0.shape
  have leM : m.Le M5 := le1.trans (le2.trans (le3.trans (le4.trans le5)))
  clear q1 q2 q3 q4 q5 q6 q7 q8 fm okF
  generalize (2 : Int) ^ (L / 2 + 1) = R0 at *
  refine loop_ (ι := Int × Bool × Option Addr × Nat × Nat) (fun _ => [(1, .lp 0 0), (2, .lp 1 0), (5, .lp 2 0)])
    (fun i => [⟨some (25, 2), .lit [.v (.bool false), .v (.slice (Base.up a 0) xs.length ca)]⟩, ⟨some (25, 2), .lit [.v (.bool false), .v (.slice none 0 0)]⟩, ⟨some (25, 2), .lit [.v (.bool i.2.1), .v (.slice i.2.2.1 i.2.2.2.1 i.2.2.2.2)]⟩])
    (fun i M => m.Le M ∧ 0 < i.1 ∧ i.1 ≤ R0 ∧ n < (i.1 + 1) * (i.1 + 1) ∧ IntR M (.agg #[.bool i.2.1, .slice i.2.2.1 i.2.2.2.1 i.2.2.2.2]) i.1) (fun i => i.1.toNat) (R0, b0, p0, k0, c0) (M0 := M5) ?_ ?_ ?_
  · exact Ref.ren [some 0, some 1, some 3] (by rfl) (by exact ⟨⟨rfl, by simp [AV.ok]⟩, ⟨rfl, by simp [AV.ok]⟩, ⟨rfl, by simp [AV.ok]⟩, trivial⟩) (by exact ⟨⟨rfl, by simp [Cells.ok, okL, AV.ok]⟩, ⟨rfl, by simp [Cells.ok, okL, AV.ok]⟩, ⟨rfl, by simp [Cells.ok, okL, AV.ok]⟩, trivial⟩)
  · exact ⟨leM, fp, Int.le_refl _, hfb, g0⟩
  rintro ⟨r, b1, p1, k1, c1⟩ M6 ⟨h1, h2, h3, h4, h5⟩
  simp only at h1 h2 h3 h4 h5
  have szr : sz r ≤ 100000000 := Nat.le_trans (sz_mono (by omega)) fs
  have hfd : n.fdiv r = n / r := Int.fdiv_eq_ediv_of_nonneg _ (by omega)
  have hq0 : 0 ≤ n / r := Int.ediv_nonneg hn0 (by omega)
  have hqn : n / r ≤ n := Int.ediv_le_self _ hn0
  have szq : sz (n / r) ≤ 10000000 := Nat.le_trans (sz_mono (by omega)) hs
  refine callS_ (by kernel_rfl) (fun l m' s => quo_calls n r _ _ m' s.okm (hA.mono (h1.trans s.le)) (h5.mono s.le) (by omega) szr) ?_
  rintro M7 v7 le7 ⟨vq, vr, e, rfl, hqr, _⟩
  obtain ⟨rfl, i1, i2⟩ := hqr (by omega)
  rw [hfd] at i1
  obtain ⟨b2, p2, k2, c2, rfl, i1⟩ := i1.shape
  obtain ⟨b3, p3, k3, c3, rfl, i2⟩ := i2.shape
  refine callS_ (by kernel_rfl) (fun l m' s => add_calls r (n / r) _ _ m' s.okm (h5.mono (le7.trans s.le)) (i1.mono s.le) (by omega) (by omega)) ?_
  rintro M8 v8 le8 i3
  refine callS_ (by kernel_rfl) (fun l m' s => of_calls 2 m' s.okm (by omega) (by omega)) ?_
  rintro M9 v9 le9 i4
  refine callS_ (by kernel_rfl) (fun l m' s => quo_calls (r + n / r) 2 _ _ m' s.okm (i3.mono (le9.trans s.le)) (i4.mono s.le) ?_ (Nat.le_trans (sz_i64 (by omega) (by omega)) (by omega))) ?_
  · have := sz_add r (n / r)
    have h7 : sz r ≤ 10000003 := by
      have h8 : r * r ≤ R0 * R0 := Int.mul_le_mul h3 h3 (by omega) (by omega)
      refine Nat.le_trans (sz_mono (show r.natAbs ≤ R0.natAbs by omega)) hR0
    omega
  rintro M10 v10 le10 ⟨vq2, vr2, e2, rfl, hqr2, _⟩
  obtain ⟨rfl, i5, i6⟩ := hqr2 (by omega)
  rw [Int.fdiv_eq_ediv_of_nonneg _ (show (0 : Int) ≤ 2 by omega)] at i5
  obtain ⟨b4, p4, k4, c4, rfl, i5⟩ := i5.shape
  obtain ⟨b5, p5, k5, c5, rfl, i6⟩ := i6.shape
  have nl := newton_low h2 hn0
  have hnx : 0 < (r + n / r) / 2 := by
    by_cases h : 0 < (r + n / r) / 2
    · exact h
    · have : (r + n / r) / 2 = 0 := by omega
      rw [this] at nl
      omega
  have sznx : sz ((r + n / r) / 2) ≤ 300000000 := by
    refine Nat.le_trans (sz_mono (show ((r + n / r) / 2).natAbs ≤ (r + n / r).natAbs by omega)) ?_
    have := sz_add r (n / r)
    omega
  refine callS_ (by kernel_rfl) (fun l m' s => intcmp_calls _ r _ _ m' s.okm (i5.mono s.le) (h5.mono (le7.trans (le8.trans (le9.trans (le10.trans s.le))))) sznx (by omega)) ?_
  rintro M11 v11 le11 rfl
  refine Br.mk (fun h6 => ?_) (fun h6 => ?_)
  · have h6 : r ≤ (r + n / r) / 2 := by
      have := cmpI_neg ((r + n / r) / 2) r
      simp at h6; omega
    refine fin_at (v := .tuple #[.agg #[.bool b1, .slice p1 k1 c1], .int .i64 0]) (fun m' le => ⟨_, _, rfl, fun h => by omega, fun _ => ⟨rfl, r, by omega, newton_stop h2 h6, h4, h5.mono (le7.trans (le8.trans (le9.trans (le10.trans (le11.trans le)))))⟩⟩)
  · have h6 : (r + n / r) / 2 < r := by
      have := cmpI_neg ((r + n / r) / 2) r
      simp at h6; omega
    refine ⟨((r + n / r) / 2, b4, p4, k4, c4), M11, Ref.ren [some 0, some 1, some 2] (by rfl) (by exact ⟨⟨rfl, by simp [AV.ok]⟩, ⟨rfl, by simp [AV.ok]⟩, ⟨rfl, by simp [AV.ok]⟩, trivial⟩) (by exact ⟨⟨rfl, by simp [Cells.ok, okL, AV.ok]⟩, ⟨rfl, by simp [Cells.ok, okL, AV.ok]⟩, ⟨rfl, by simp [Cells.ok, okL, AV.ok]⟩, trivial⟩), ⟨h1.trans (le7.trans (le8.trans (le9.trans (le10.trans le11)))), hnx, by simp only; omega, nl, i5.mono le11⟩, by simp only; omega⟩
end Go.Proofs.Ytdkamjbcpmlheaa
