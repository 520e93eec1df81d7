/- The laws of layer 1: sums, products, quotients, order, small numbers, roots. -/
import Derived.Test.YtdkamjbcpmlheaaF
import Derived.Test.YtdkamjbcpmlheaaB
set_option linter.unusedVariables false
set_option linter.unusedSimpArgs false
/- Whole numbers with their sizes: the program's functions, as they are called most. -/
namespace Go.Proofs.Ytdkamjbcpmlheaa
open Go Go.Gw Go.Lg
set_option pp.deepTerms false
set_option pp.deepTerms.threshold 6
set_option pp.maxSteps 3000

/-- A number's value, of which something is told of the size. -/
structure IntS (m : Mo) (v : Value) (n : Int) (k : Nat) : Prop where
  r : IntR m v n
  z : sz n ≤ k
theorem IntS.mono {m m' : Mo} {v : Value} {n : Int} {k : Nat} (h : IntS m v n k) (l : m.Le m') : IntS m' v n k := ⟨h.r.mono l, h.z⟩
theorem IntS.cast {m : Mo} {v : Value} {n n' : Int} {k : Nat} (h : IntS m v n k) (e : n = n') : IntS m v n' k := e ▸ h
theorem IntS.shape {m : Mo} {v : Value} {n : Int} {i : Nat} (h : IntS m v n i) : ∃ b p k c, v = .agg #[.bool b, .slice p k c] ∧ IntS m (.agg #[.bool b, .slice p k c]) n i :=
  let ⟨b, p, k, c, e, g⟩ := h.r.shape; ⟨b, p, k, c, e, g, h.z⟩
theorem IntS.le {m : Mo} {v : Value} {n : Int} {i j : Nat} (h : IntS m v n i) (e : i ≤ j) : IntS m v n j := ⟨h.r, Nat.le_trans h.z e⟩

theorem fmod_le (n : Int) {k : Int} (hk : k ≠ 0) : (n.fmod k).natAbs ≤ k.natAbs := by
  rcases Int.lt_or_gt_of_ne hk with h | h
  · have h1 := Int.neg_fmod_neg n k
    have h2 := Int.fmod_nonneg_of_pos (-n) (show 0 < -k by omega)
    have h3 := Int.fmod_lt_of_pos (-n) (show 0 < -k by omega)
    omega
  · have h2 := Int.fmod_nonneg_of_pos n h
    have h3 := Int.fmod_lt_of_pos n h
    omega
theorem fdiv_le (n : Int) {k : Int} (hk : k ≠ 0) : (n.fdiv k).natAbs ≤ n.natAbs := by
  have key : ∀ n k : Int, 0 < k → (n.fdiv k).natAbs ≤ n.natAbs := by
    intro n k h
    rw [Int.fdiv_eq_ediv_of_nonneg _ (by omega)]
    rcases Int.le_total 0 n with h0 | h0
    · have h1 := Int.ediv_nonneg h0 (show 0 ≤ k by omega)
      have h2 := Int.ediv_le_self k h0
      omega
    · have h1 : n ≤ n / k := (Int.le_ediv_iff_mul_le h).2 (by
        have := Int.mul_le_mul_of_nonneg_left (show 1 ≤ k by omega) (show 0 ≤ -n by omega)
        rw [Int.neg_mul, Int.neg_mul] at this
        omega)
      have h2 : n / k < 1 := Int.ediv_lt_of_lt_mul h (by omega)
      omega
  rcases Int.lt_or_gt_of_ne hk with h | h
  · rw [← Int.neg_fdiv_neg]
    have := key (-n) (-k) (by omega)
    omega
  · exact key n k h
section
variable {m : Mo} {va vb : Value} {n k : Int} {i j : Nat} (hm : m.okm)
include hm
theorem addS (ha : IntS m va n i) (hb : IntS m vb k j) (h : i ≤ 400000000 := by omega) (h' : j ≤ 400000000 := by omega) : Calls Try.prog 17 #[va, vb] m.w (Post m fun m v => IntS m v (n + k) (max i j + 1)) :=
  (add_calls n k va vb m hm ha.r hb.r (Nat.le_trans ha.z h) (Nat.le_trans hb.z h')).mono fun _ _ ⟨v, h1, h2, h3⟩ => ⟨v, h1, h2, h3, by have := sz_add n k; have := ha.z; have := hb.z; omega⟩
theorem subS (ha : IntS m va n i) (hb : IntS m vb k j) (h : i ≤ 400000000 := by omega) (h' : j ≤ 400000000 := by omega) : Calls Try.prog 18 #[va, vb] m.w (Post m fun m v => IntS m v (n - k) (max i j + 1)) :=
  (sub_calls n k va vb m hm ha.r hb.r (Nat.le_trans ha.z h) (Nat.le_trans hb.z h')).mono fun _ _ ⟨v, h1, h2, h3⟩ => ⟨v, h1, h2, h3, by have := sz_sub n k; have := ha.z; have := hb.z; omega⟩
theorem mulS (ha : IntS m va n i) (hb : IntS m vb k j) (h : i ≤ 400000000 := by omega) (h' : j ≤ 400000000 := by omega) : Calls Try.prog 19 #[va, vb] m.w (Post m fun m v => IntS m v (n * k) (i + j)) :=
  (mul_calls n k va vb m hm ha.r hb.r (Nat.le_trans ha.z h) (Nat.le_trans hb.z h')).mono fun _ _ ⟨v, h1, h2, h3⟩ => ⟨v, h1, h2, h3, by have := sz_mul n k; have := ha.z; have := hb.z; omega⟩
theorem negS (ha : IntS m va n i) (h : i ≤ 400000000 := by omega) : Calls Try.prog 20 #[va] m.w (Post m fun m v => IntS m v (-n) i) :=
  (neg_calls n va m hm ha.r (Nat.le_trans ha.z h)).mono fun _ _ ⟨v, h1, h2, h3⟩ => ⟨v, h1, h2, h3, by rw [sz_neg]; exact ha.z⟩
theorem cmpS (ha : IntS m va n i) (hb : IntS m vb k j) (h : i ≤ 300000000 := by omega) (h' : j ≤ 300000000 := by omega) : Calls Try.prog 22 #[va, vb] m.w (Post m fun _ v => v = .int .i64 (cmpI n k)) :=
  intcmp_calls n k va vb m hm ha.r hb.r (Nat.le_trans ha.z h) (Nat.le_trans hb.z h')
theorem signS (ha : IntS m va n i) (h : i ≤ 400000000 := by omega) : Calls Try.prog 21 #[va] m.w (Post m fun _ v => v = .int .i64 (cmpI n 0)) := sign_calls n va m hm ha.r (Nat.le_trans ha.z h)
theorem stringS (ha : IntS m va n i) (h : i ≤ 10000000 := by omega) : Calls Try.prog 15 #[va] m.w (Post m fun _ v => v = .string (decB n)) := string_calls n va m hm ha.r (Nat.le_trans ha.z h)
theorem bitsS (ha : IntS m va n i) (h : i ≤ 100000000 := by omega) : Calls Try.prog 33 #[va] m.w (Post m fun _ v => v = .int .i64 (blen n)) := bits_calls n va m hm ha.r (Nat.le_trans ha.z h)
theorem smallS (ha : IntS m va n i) (h : i ≤ 100000000 := by omega) : Calls Try.prog 36 #[va] m.w (Post m fun _ v => v = .tuple #[.int .i64 (if -9223372036854775808 ≤ n ∧ n ≤ 9223372036854775807 then n else 0), .bool (decide (-9223372036854775808 ≤ n ∧ n ≤ 9223372036854775807))]) := small_calls n va m hm ha.r (Nat.le_trans ha.z h)
theorem ofS (n : Int) (h : -9223372036854775808 ≤ n := by omega) (h' : n ≤ 9223372036854775807 := by omega) : Calls Try.prog 34 #[.int .i64 n] m.w (Post m fun m v => IntS m v n 2) :=
  (of_calls n m hm h h').mono fun _ _ ⟨v, h1, h2, h3⟩ => ⟨v, h1, h2, h3, sz_i64 h h'⟩
theorem quoS (ha : IntS m va n i) (hb : IntS m vb k j) (hk : k ≠ 0) (h : i ≤ 100000000 := by omega) (h' : j ≤ 100000000 := by omega) :
    Calls Try.prog 30 #[va, vb] m.w (Post m fun m v => ∃ b p l c b' p' l' c', v = .tuple #[.agg #[.bool b, .slice p l c], .agg #[.bool b', .slice p' l' c'], .int .i64 0] ∧ IntS m (.agg #[.bool b, .slice p l c]) (n.fdiv k) i ∧ IntS m (.agg #[.bool b', .slice p' l' c']) (n.fmod k) j) :=
  (quo_calls n k va vb m hm ha.r hb.r (Nat.le_trans ha.z h) (Nat.le_trans hb.z h')).mono fun _ _ ⟨v, h1, h2, h3⟩ => by
    obtain ⟨b, p, l, c, b', p', l', c', e, g1, g2⟩ := h3.ok hk
    refine ⟨v, h1, h2, b, p, l, c, b', p', l', c', e, ⟨g1, ?_⟩, ⟨g2, ?_⟩⟩
    · exact Nat.le_trans (sz_mono (fdiv_le n hk)) ha.z
    · exact Nat.le_trans (sz_mono (fmod_le n hk)) hb.z
theorem quo0S (ha : IntS m va n i) (hb : IntS m vb 0 j) (h : i ≤ 100000000 := by omega) (h' : j ≤ 100000000 := by omega) :
    Calls Try.prog 30 #[va, vb] m.w (Post m fun m v => ∃ b p l c b' p' l' c', v = .tuple #[.agg #[.bool b, .slice p l c], .agg #[.bool b', .slice p' l' c'], .int .i64 11] ∧ IntS m (.agg #[.bool b, .slice p l c]) 0 0 ∧ IntS m (.agg #[.bool b', .slice p' l' c']) 0 0) :=
  (quo_calls n 0 va vb m hm ha.r hb.r (Nat.le_trans ha.z h) (Nat.le_trans hb.z h')).mono fun _ _ ⟨v, h1, h2, vq, vr, e, e1, _, h3⟩ => by
    obtain ⟨rfl, g1, g2⟩ := h3 rfl
    obtain ⟨b, p, l, c, rfl, g1⟩ := g1.shape
    obtain ⟨b', p', l', c', rfl, g2⟩ := g2.shape
    exact ⟨v, h1, h2, b, p, l, c, b', p', l', c', e1, ⟨g1, Nat.le_refl _⟩, ⟨g2, Nat.le_refl _⟩⟩
theorem rootS (ha : IntS m va n i) (hn : 0 ≤ n) (h : i ≤ 10000000 := by omega) :
    Calls Try.prog 32 #[va] m.w (Post m fun m v => ∃ b p l c r, v = .tuple #[.agg #[.bool b, .slice p l c], .int .i64 0] ∧ 0 ≤ r ∧ r * r ≤ n ∧ n < (r + 1) * (r + 1) ∧ IntS m (.agg #[.bool b, .slice p l c]) r i) :=
  (root_calls n va m hm ha.r (Nat.le_trans ha.z h)).mono fun _ _ ⟨v, h1, h2, h3⟩ => by
    obtain ⟨b, p, l, c, r, e, g1, g2, g3, g4⟩ := h3.ok hn
    refine ⟨v, h1, h2, b, p, l, c, r, e, g1, g2, g3, g4, Nat.le_trans (sz_mono ?_) ha.z⟩
    by_cases hr : r = 0
    · omega
    · have := Int.mul_le_mul_of_nonneg_left (show (1 : Int) ≤ r by omega) g1
      omega
theorem rootNegS (ha : IntS m va n i) (hn : n < 0) (h : i ≤ 10000000 := by omega) :
    Calls Try.prog 32 #[va] m.w (Post m fun m v => ∃ b p l c, v = .tuple #[.agg #[.bool b, .slice p l c], .int .i64 12] ∧ IntS m (.agg #[.bool b, .slice p l c]) 0 0) :=
  (root_calls n va m hm ha.r (Nat.le_trans ha.z h)).mono fun _ _ ⟨v, h1, h2, vr, e, e1, h3, _⟩ => by
    obtain ⟨rfl, g1⟩ := h3 hn
    obtain ⟨b, p, l, c, rfl, g1⟩ := g1.shape
    exact ⟨v, h1, h2, b, p, l, c, e1, g1, Nat.le_refl _⟩
end

/-- Two texts' numbers, with sizes. -/
theorem twoS (sa sb : ByteArray) {ba bb : List Int} (ha : bytesI sa = ba) (hb : bytesI sb = bb) {m : Mo} (hm : m.okm) : Calls Try.prog 16 #[.string sa, .string sb] m.w (Post m fun m v => ∃ bx px kx cx bY pY kY cY n k p2 c2 n' p3 c3 k' is,
    v = .tuple #[.agg #[.bool bx, .slice px kx cx], .agg #[.bool bY, .slice pY kY cY], .agg #[.bool (decide (n' < 0)), .slice p2 (digs n'.natAbs).length c2], .agg #[.bool (decide (k' < 0)), .slice p3 (digs k'.natAbs).length c3], .bool is] ∧
    IntR m (.agg #[.bool bx, .slice px kx cx]) n ∧ IntR m (.agg #[.bool bY, .slice pY kY cY]) k ∧ RefR m (.agg #[.bool (decide (n' < 0)), .slice p2 (digs n'.natAbs).length c2]) n' ∧ RefR m (.agg #[.bool (decide (k' < 0)), .slice p3 (digs k'.natAbs).length c3]) k' ∧
    (is = true → parsed ba = some n ∧ parsed bb = some k ∧ n' = n ∧ k' = k ∧ sz n ≤ 2000 ∧ sz k ≤ 2000 ∧ ba.length ≤ 150 ∧ bb.length ≤ 150)) :=
  (two_calls sa sb ba bb ha hb m hm).mono fun _ _ ⟨v, h1, h2, bx, px, kx, cx, bY, pY, kY, cY, n, k, p2, c2, n', p3, c3, k', is, e, g1, g2, g3, g4, g5⟩ =>
    ⟨v, h1, h2, bx, px, kx, cx, bY, pY, kY, cY, n, k, p2, c2, n', p3, c3, k', is, e, g1, g2, g3, g4, fun h => by
      obtain ⟨f1, f2, f3, f4, f5, f6⟩ := g5 h
      exact ⟨f1, f2, f3, f4, parsed_sz f1 (by omega), parsed_sz f2 (by omega), f5, f6⟩⟩
end Go.Proofs.Ytdkamjbcpmlheaa

/- The laws of layer 1: sums and products; quotients; order; small numbers. -/
namespace Go.Proofs.Ytdkamjbcpmlheaa
open Go Go.Gw Go.Lg
set_option pp.deepTerms false
set_option pp.deepTerms.threshold 6
set_option pp.maxSteps 3000

theorem bytes0 : bytesI ⟨#[48]⟩ = [48] := rfl


set_option maxRecDepth 20000 in
set_option maxHeartbeats 2000000 in
theorem ring_calls (sa sb sc : ByteArray) (m : Mo) (hm : m.okm) : Calls Try.prog 6 #[.string sa, .string sb, .string sc] m.w (Post m fun _ v => v = .bool true) := by
  obtain ⟨ba, ha⟩ : ∃ bs, bytesI sa = bs := ⟨_, rfl⟩
  obtain ⟨bb, hb⟩ : ∃ bs, bytesI sb = bs := ⟨_, rfl⟩
  obtain ⟨bc, hc⟩ : ∃ bs, bytesI sc = bs := ⟨_, rfl⟩
  refine enter_ Try.f6 _ 140 (args := [.string sa, .string sb, .string sc]) (by kernel_rfl) rfl (by kernel_rfl) hm ?_
  refine callS_ (by kernel_rfl) (fun l m' s => (fun h => awake_calls _ h) s.okm ) ?_
  rintro Mq1 vq1 leq1 rfl
  refine callS_ (by kernel_rfl) (fun l m' s => (fun h => twoS sa sb ha hb h) s.okm ) ?_
  rintro Mq2 vq2 leq2 ⟨b1, p1, k1, c1, b2, p2, k2, c2, n, k, p3, c3, n', p4, c4, k', is, rfl, x, y, -, -, hi⟩
  refine callS_ (by kernel_rfl) (fun l m' s => (fun h => twoS sc ⟨#[48]⟩ hc bytes0 h) s.okm ) ?_
  rintro Mq3 vq3 leq3 ⟨b5, p5, k5, c5, b6, p6, k6, c6, o, o0, p7, c7, o', p8, c8, o0', is2, rfl, z, -, -, -, hi2⟩
  replace x := x.mono leq3
  replace y := y.mono leq3
  refine Br.mk (fun h0 => ?_) (fun h0 => ?_)
  · exact fin_at (fun _ _ => rfl)
  refine Br.mk (fun h1 => ?_) (fun h1 => ?_)
  · exact fin_at (fun _ _ => rfl)
  obtain ⟨-, -, -, -, sx, sy, -, -⟩ := hi (by simpa using h0)
  obtain ⟨-, -, -, -, sz, -, -, -⟩ := hi2 (by simpa using h1)
  have x : IntS _ _ n 2000 := ⟨x, sx⟩
  have y : IntS _ _ k 2000 := ⟨y, sy⟩
  have z : IntS _ _ o 2000 := ⟨z, sz⟩
  refine draw_ [] [0, 1, 3, 5, 6, 7, 2, 4, 8, 9, 10, 11] [] [] [] (by kernel_rfl) rfl rfl ?_
  refine callD_ (by kernel_rfl) (fun l m' s => addS s.okm (x.mono s.le) (y.mono s.le)) ?_
  rintro Mq4 vq4 leq4 a
  replace x := x.mono leq4
  replace y := y.mono leq4
  replace z := z.mono leq4
  refine callD_ (by kernel_rfl) (fun l m' s => addS s.okm (a.mono s.le) (z.mono s.le)) ?_
  rintro Mq5 vq5 leq5 a2
  replace x := x.mono leq5
  replace y := y.mono leq5
  replace z := z.mono leq5
  replace a := a.mono leq5
  refine callD_ (by kernel_rfl) (fun l m' s => addS s.okm (y.mono s.le) (z.mono s.le)) ?_
  rintro Mq6 vq6 leq6 b
  replace x := x.mono leq6
  replace y := y.mono leq6
  replace z := z.mono leq6
  replace a := a.mono leq6
  replace a2 := a2.mono leq6
  refine callD_ (by kernel_rfl) (fun l m' s => addS s.okm (x.mono s.le) (b.mono s.le)) ?_
  rintro Mq7 vq7 leq7 b2
  replace x := x.mono leq7
  replace y := y.mono leq7
  replace z := z.mono leq7
  replace a := a.mono leq7
  replace a2 := a2.mono leq7
  replace b := b.mono leq7
  refine callD_ (by kernel_rfl) (fun l m' s => cmpS s.okm (a2.mono s.le) (b2.mono s.le)) ?_
  rintro Mq8 vq8 leq8 e1
  replace x := x.mono leq8
  replace y := y.mono leq8
  replace z := z.mono leq8
  replace a := a.mono leq8
  replace a2 := a2.mono leq8
  replace b := b.mono leq8
  replace b2 := b2.mono leq8
  rw [cmpI_eq (by omega)] at e1; subst e1
  refine draw_ [] [0, 1, 3, 5, 6, 7, 2, 4, 8, 9, 10, 11] [] [] [] (by kernel_rfl) rfl rfl ?_
  refine callD_ (by kernel_rfl) (fun l m' s => mulS s.okm (x.mono s.le) (y.mono s.le)) ?_
  rintro Mq9 vq9 leq9 a
  replace x := x.mono leq9
  replace y := y.mono leq9
  replace z := z.mono leq9
  refine callD_ (by kernel_rfl) (fun l m' s => mulS s.okm (a.mono s.le) (z.mono s.le)) ?_
  rintro Mq10 vq10 leq10 a2
  replace x := x.mono leq10
  replace y := y.mono leq10
  replace z := z.mono leq10
  replace a := a.mono leq10
  refine callD_ (by kernel_rfl) (fun l m' s => mulS s.okm (y.mono s.le) (z.mono s.le)) ?_
  rintro Mq11 vq11 leq11 b
  replace x := x.mono leq11
  replace y := y.mono leq11
  replace z := z.mono leq11
  replace a := a.mono leq11
  replace a2 := a2.mono leq11
  refine callD_ (by kernel_rfl) (fun l m' s => mulS s.okm (x.mono s.le) (b.mono s.le)) ?_
  rintro Mq12 vq12 leq12 b2
  replace x := x.mono leq12
  replace y := y.mono leq12
  replace z := z.mono leq12
  replace a := a.mono leq12
  replace a2 := a2.mono leq12
  replace b := b.mono leq12
  refine callD_ (by kernel_rfl) (fun l m' s => cmpS s.okm (a2.mono s.le) (b2.mono s.le)) ?_
  rintro Mq13 vq13 leq13 e1
  replace x := x.mono leq13
  replace y := y.mono leq13
  replace z := z.mono leq13
  replace a := a.mono leq13
  replace a2 := a2.mono leq13
  replace b := b.mono leq13
  replace b2 := b2.mono leq13
  rw [cmpI_eq (Int.mul_assoc ..)] at e1; subst e1
  refine draw_ [] [0, 1, 2, 5, 6, 8, 9, 3, 4, 7, 10, 11, 12, 13] [] [] [] (by kernel_rfl) rfl rfl ?_
  refine callD_ (by kernel_rfl) (fun l m' s => addS s.okm (y.mono s.le) (z.mono s.le)) ?_
  rintro Mq14 vq14 leq14 a
  replace x := x.mono leq14
  replace y := y.mono leq14
  replace z := z.mono leq14
  refine callD_ (by kernel_rfl) (fun l m' s => mulS s.okm (x.mono s.le) (a.mono s.le)) ?_
  rintro Mq15 vq15 leq15 a2
  replace x := x.mono leq15
  replace y := y.mono leq15
  replace z := z.mono leq15
  replace a := a.mono leq15
  refine callD_ (by kernel_rfl) (fun l m' s => mulS s.okm (x.mono s.le) (y.mono s.le)) ?_
  rintro Mq16 vq16 leq16 b
  replace x := x.mono leq16
  replace y := y.mono leq16
  replace z := z.mono leq16
  replace a := a.mono leq16
  replace a2 := a2.mono leq16
  refine callD_ (by kernel_rfl) (fun l m' s => mulS s.okm (x.mono s.le) (z.mono s.le)) ?_
  rintro Mq17 vq17 leq17 c
  replace x := x.mono leq17
  replace y := y.mono leq17
  replace z := z.mono leq17
  replace a := a.mono leq17
  replace a2 := a2.mono leq17
  replace b := b.mono leq17
  refine callD_ (by kernel_rfl) (fun l m' s => addS s.okm (b.mono s.le) (c.mono s.le)) ?_
  rintro Mq18 vq18 leq18 b2
  replace x := x.mono leq18
  replace y := y.mono leq18
  replace z := z.mono leq18
  replace a := a.mono leq18
  replace a2 := a2.mono leq18
  replace b := b.mono leq18
  replace c := c.mono leq18
  refine callD_ (by kernel_rfl) (fun l m' s => cmpS s.okm (a2.mono s.le) (b2.mono s.le)) ?_
  rintro Mq19 vq19 leq19 e1
  replace x := x.mono leq19
  replace y := y.mono leq19
  replace z := z.mono leq19
  replace a := a.mono leq19
  replace a2 := a2.mono leq19
  replace b := b.mono leq19
  replace c := c.mono leq19
  replace b2 := b2.mono leq19
  rw [cmpI_eq (Int.mul_add ..)] at e1; subst e1
  refine draw_ [] [0, 1, 3, 4, 2, 5, 6, 7] [] [] [] (by kernel_rfl) rfl rfl ?_
  refine callD_ (by kernel_rfl) (fun l m' s => addS s.okm (x.mono s.le) (y.mono s.le)) ?_
  rintro Mq20 vq20 leq20 a
  replace x := x.mono leq20
  replace y := y.mono leq20
  replace z := z.mono leq20
  refine callD_ (by kernel_rfl) (fun l m' s => addS s.okm (y.mono s.le) (x.mono s.le)) ?_
  rintro Mq21 vq21 leq21 b
  replace x := x.mono leq21
  replace y := y.mono leq21
  replace z := z.mono leq21
  replace a := a.mono leq21
  refine callD_ (by kernel_rfl) (fun l m' s => cmpS s.okm (a.mono s.le) (b.mono s.le)) ?_
  rintro Mq22 vq22 leq22 e1
  replace x := x.mono leq22
  replace y := y.mono leq22
  replace z := z.mono leq22
  replace a := a.mono leq22
  replace b := b.mono leq22
  rw [cmpI_eq (Int.add_comm ..)] at e1; subst e1
  refine draw_ [] [0, 1, 3, 4, 2, 5, 6, 7] [] [] [] (by kernel_rfl) rfl rfl ?_
  refine callD_ (by kernel_rfl) (fun l m' s => mulS s.okm (x.mono s.le) (y.mono s.le)) ?_
  rintro Mq23 vq23 leq23 a
  replace x := x.mono leq23
  replace y := y.mono leq23
  replace z := z.mono leq23
  refine callD_ (by kernel_rfl) (fun l m' s => mulS s.okm (y.mono s.le) (x.mono s.le)) ?_
  rintro Mq24 vq24 leq24 b
  replace x := x.mono leq24
  replace y := y.mono leq24
  replace z := z.mono leq24
  replace a := a.mono leq24
  refine callD_ (by kernel_rfl) (fun l m' s => cmpS s.okm (a.mono s.le) (b.mono s.le)) ?_
  rintro Mq25 vq25 leq25 e1
  replace x := x.mono leq25
  replace y := y.mono leq25
  replace z := z.mono leq25
  replace a := a.mono leq25
  replace b := b.mono leq25
  rw [cmpI_eq (Int.mul_comm ..)] at e1; subst e1
  refine draw_ [] [0, 1, 3, 4, 2, 5, 6, 7, 8] [] [] [] (by kernel_rfl) rfl rfl ?_
  refine callD_ (by kernel_rfl) (fun l m' s => subS s.okm (x.mono s.le) (y.mono s.le)) ?_
  rintro Mq26 vq26 leq26 a
  replace x := x.mono leq26
  replace y := y.mono leq26
  replace z := z.mono leq26
  refine callD_ (by kernel_rfl) (fun l m' s => negS s.okm (y.mono s.le)) ?_
  rintro Mq27 vq27 leq27 b
  replace x := x.mono leq27
  replace y := y.mono leq27
  replace z := z.mono leq27
  replace a := a.mono leq27
  refine callD_ (by kernel_rfl) (fun l m' s => addS s.okm (x.mono s.le) (b.mono s.le)) ?_
  rintro Mq28 vq28 leq28 b2
  replace x := x.mono leq28
  replace y := y.mono leq28
  replace z := z.mono leq28
  replace a := a.mono leq28
  replace b := b.mono leq28
  refine callD_ (by kernel_rfl) (fun l m' s => cmpS s.okm (a.mono s.le) (b2.mono s.le)) ?_
  rintro Mq29 vq29 leq29 e1
  replace x := x.mono leq29
  replace y := y.mono leq29
  replace z := z.mono leq29
  replace a := a.mono leq29
  replace b := b.mono leq29
  replace b2 := b2.mono leq29
  rw [cmpI_eq (by omega)] at e1; subst e1
  refine callS_ (by kernel_rfl) (fun l m' s => subS s.okm (x.mono s.le) (x.mono s.le)) ?_
  rintro Mq30 vq30 leq30 a
  replace x := x.mono leq30
  replace y := y.mono leq30
  replace z := z.mono leq30
  refine callS_ (by kernel_rfl) (fun l m' s => signS s.okm (a.mono s.le)) ?_
  rintro Mq31 vq31 leq31 e1
  replace x := x.mono leq31
  replace y := y.mono leq31
  replace z := z.mono leq31
  replace a := a.mono leq31
  rw [cmpI_eq (by omega)] at e1; subst e1
  refine Br.yes rfl (Br.yes rfl (Br.yes rfl (Br.yes rfl (Br.yes rfl (Br.yes rfl (Br.yes rfl ?_))))))
  exact fin_at (v := .bool true) (fun _ _ => rfl)
end Go.Proofs.Ytdkamjbcpmlheaa

/- The laws of layer 1: quotients, order. -/
namespace Go.Proofs.Ytdkamjbcpmlheaa
open Go Go.Gw Go.Lg
set_option pp.deepTerms false
set_option pp.deepTerms.threshold 6
set_option pp.maxSteps 3000

theorem bytes0' : bytesI ⟨#[48]⟩ = [48] := rfl
theorem cmpI_cases (a b : Int) : (a < b ∧ cmpI a b = -1) ∨ (a = b ∧ cmpI a b = 0) ∨ (b < a ∧ cmpI a b = 1) := by
  rcases Int.lt_trichotomy a b with h | h | h
  · exact .inl ⟨h, cmpI_lt h⟩
  · exact .inr (.inl ⟨h, cmpI_eq h⟩)
  · exact .inr (.inr ⟨h, cmpI_gt h⟩)
theorem cmpI_swap (a b : Int) : cmpI b a = -cmpI a b := by
  rcases cmpI_cases a b with ⟨h, e⟩ | ⟨h, e⟩ | ⟨h, e⟩ <;> rcases cmpI_cases b a with ⟨h', e'⟩ | ⟨h', e'⟩ | ⟨h', e'⟩ <;> omega
theorem cmpI_add (a b c : Int) : cmpI (a + c) (b + c) = cmpI a b := by
  rcases cmpI_cases a b with ⟨h, e⟩ | ⟨h, e⟩ | ⟨h, e⟩ <;> rcases cmpI_cases (a + c) (b + c) with ⟨h', e'⟩ | ⟨h', e'⟩ | ⟨h', e'⟩ <;> omega
theorem cmpI_mul (a b c : Int) : cmpI (a * c) (b * c) = cmpI a b * cmpI c 0 := by
  rcases cmpI_cases a b with ⟨h, e⟩ | ⟨h, e⟩ | ⟨h, e⟩
  · rcases cmpI_cases c 0 with ⟨k, f⟩ | ⟨k, f⟩ | ⟨k, f⟩
    · rw [cmpI_gt (Int.mul_lt_mul_of_neg_right h k), e, f]; rfl
    · subst k; rw [Int.mul_zero, Int.mul_zero, e]; rfl
    · rw [cmpI_lt (Int.mul_lt_mul_of_pos_right h k), e, f]; rfl
  · subst h; rw [cmpI_eq rfl, cmpI_eq rfl, Int.zero_mul]
  · rcases cmpI_cases c 0 with ⟨k, f⟩ | ⟨k, f⟩ | ⟨k, f⟩
    · rw [cmpI_lt (Int.mul_lt_mul_of_neg_right h k), e, f]; rfl
    · subst k; rw [Int.mul_zero, Int.mul_zero, e]; rfl
    · rw [cmpI_gt (Int.mul_lt_mul_of_pos_right h k), e, f]; rfl
theorem fmod_sign (n : Int) {k : Int} (hk : k ≠ 0) : (cmpI (n.fmod k) 0 = 0 ∨ cmpI (n.fmod k) 0 = cmpI k 0) ∧ cmpI (n.fmod k - k) 0 = -cmpI k 0 := by
  rcases Int.lt_or_gt_of_ne hk with h | h
  · have h1 := Int.neg_fmod_neg n k
    have h2 := Int.fmod_nonneg_of_pos (-n) (show 0 < -k by omega)
    have h3 := Int.fmod_lt_of_pos (-n) (show 0 < -k by omega)
    rw [cmpI_lt h, cmpI_gt (show 0 < n.fmod k - k by omega)]
    refine ⟨?_, rfl⟩
    rcases cmpI_cases (n.fmod k) 0 with ⟨k, f⟩ | ⟨k, f⟩ | ⟨k, f⟩ <;> omega
  · have h2 := Int.fmod_nonneg_of_pos n h
    have h3 := Int.fmod_lt_of_pos n h
    rw [cmpI_gt h, cmpI_lt (show n.fmod k - k < 0 by omega)]
    refine ⟨?_, rfl⟩
    rcases cmpI_cases (n.fmod k) 0 with ⟨k, f⟩ | ⟨k, f⟩ | ⟨k, f⟩ <;> omega
theorem quo_back (n k : Int) : n.fdiv k * k + n.fmod k = n := by
  have := Int.fmod_add_mul_fdiv n k
  rw [Int.mul_comm] at this; omega

set_option maxRecDepth 20000 in
set_option maxHeartbeats 2000000 in
theorem divides_calls (sa sb : ByteArray) (m : Mo) (hm : m.okm) : Calls Try.prog 7 #[.string sa, .string sb] m.w (Post m fun _ v => v = .bool true) := by
  obtain ⟨ba, ha⟩ : ∃ bs, bytesI sa = bs := ⟨_, rfl⟩
  obtain ⟨bb, hb⟩ : ∃ bs, bytesI sb = bs := ⟨_, rfl⟩
  refine enter_ Try.f7 _ 115 (args := [.string sa, .string sb]) (by kernel_rfl) rfl (by kernel_rfl) hm ?_
  refine callS_ (by kernel_rfl) (fun l m' s => (fun h => awake_calls _ h) s.okm ) ?_
  rintro Mq1 vq1 leq1 rfl
  refine callS_ (by kernel_rfl) (fun l m' s => (fun h => twoS sa sb ha hb h) s.okm ) ?_
  rintro Mq2 vq2 leq2 ⟨b1, p1, k1, c1, b2, p2, k2, c2, n, k, p3, c3, n', p4, c4, k', is, rfl, x, y, -, -, hi⟩
  refine Br.mk (fun h0 => ?_) (fun h0 => ?_)
  · exact fin_at (fun _ _ => rfl)
  obtain ⟨-, -, -, -, sx, sy, -, -⟩ := hi (by simpa using h0)
  have x : IntS _ _ n 2000 := ⟨x, sx⟩
  have y : IntS _ _ k 2000 := ⟨y, sy⟩
  by_cases hk : k = 0
  · subst hk
    refine callS_ (by kernel_rfl) (fun l m' s => quo0S s.okm (x.mono s.le) (y.mono s.le)) ?_
    rintro Mq3 vq3 leq3 ⟨b5, p5, k5, c5, b6, p6, k6, c6, rfl, -, -⟩
    replace x := x.mono leq3
    replace y := y.mono leq3
    refine callS_ (by kernel_rfl) (fun l m' s => signS s.okm (y.mono s.le)) ?_
    rintro Mq4 vq4 leq4 rfl
    replace x := x.mono leq4
    replace y := y.mono leq4
    refine Br.yes rfl (Br.yes rfl ?_)
    exact fin_at (v := .bool true) (fun _ _ => rfl)
  obtain ⟨hs, hnear⟩ := fmod_sign n hk
  refine callS_ (by kernel_rfl) (fun l m' s => quoS s.okm (x.mono s.le) (y.mono s.le) hk) ?_
  rintro Mq5 vq5 leq5 ⟨b5, p5, k5, c5, b6, p6, k6, c6, rfl, q, r⟩
  replace x := x.mono leq5
  replace y := y.mono leq5
  refine callS_ (by kernel_rfl) (fun l m' s => signS s.okm (y.mono s.le)) ?_
  rintro Mq6 vq6 leq6 rfl
  replace x := x.mono leq6
  replace y := y.mono leq6
  replace q := q.mono leq6
  replace r := r.mono leq6
  refine Br.no (by rcases cmpI_cases k 0 with ⟨_, e⟩ | ⟨h, e⟩ | ⟨_, e⟩ <;> rw [e] <;> first | rfl | exact absurd h hk) ?_
  refine draw_ [] [0, 1, 3, 5, 2, 4, 6, 7] [] [] [] (by kernel_rfl) rfl rfl ?_
  refine callD_ (by kernel_rfl) (fun l m' s => mulS s.okm (q.mono s.le) (y.mono s.le)) ?_
  rintro Mq7 vq7 leq7 a
  replace x := x.mono leq7
  replace y := y.mono leq7
  replace q := q.mono leq7
  replace r := r.mono leq7
  refine callD_ (by kernel_rfl) (fun l m' s => addS s.okm (a.mono s.le) (r.mono s.le)) ?_
  rintro Mq8 vq8 leq8 b
  replace x := x.mono leq8
  replace y := y.mono leq8
  replace q := q.mono leq8
  replace r := r.mono leq8
  replace a := a.mono leq8
  refine callD_ (by kernel_rfl) (fun l m' s => cmpS s.okm (b.mono s.le) (x.mono s.le)) ?_
  rintro Mq9 vq9 leq9 e1
  replace x := x.mono leq9
  replace y := y.mono leq9
  replace q := q.mono leq9
  replace r := r.mono leq9
  replace a := a.mono leq9
  replace b := b.mono leq9
  rw [cmpI_eq (quo_back n k)] at e1; subst e1
  refine callS_ (by kernel_rfl) (fun l m' s => signS s.okm (r.mono s.le)) ?_
  rintro Mq10 vq10 leq10 rfl
  replace x := x.mono leq10
  replace y := y.mono leq10
  replace q := q.mono leq10
  replace r := r.mono leq10
  refine callS_ (by kernel_rfl) (fun l m' s => subS s.okm (r.mono s.le) (y.mono s.le)) ?_
  rintro Mq11 vq11 leq11 d
  replace x := x.mono leq11
  replace y := y.mono leq11
  replace q := q.mono leq11
  replace r := r.mono leq11
  refine callS_ (by kernel_rfl) (fun l m' s => signS s.okm (d.mono s.le)) ?_
  rintro Mq12 vq12 leq12 e1
  replace x := x.mono leq12
  replace y := y.mono leq12
  replace q := q.mono leq12
  replace r := r.mono leq12
  replace d := d.mono leq12
  rw [hnear] at e1; subst e1
  refine draw_ [] [0, 1, 3, 2, 4, 5, 6, 7, 8] [9, 10] [11, 12, 13] [] (by kernel_rfl) rfl rfl ?_
  refine callD_ (by kernel_rfl) (fun l m' s => mulS s.okm (x.mono s.le) (y.mono s.le)) ?_
  rintro Mq13 vq13 leq13 a
  replace x := x.mono leq13
  replace y := y.mono leq13
  refine callD_ (by kernel_rfl) (fun l m' s => quoS s.okm (a.mono s.le) (y.mono s.le) hk) ?_
  rintro Mq14 vq14 leq14 ⟨b7, p7, k7, c7, b8, p8, k8, c8, rfl, q, r⟩
  replace x := x.mono leq14
  replace y := y.mono leq14
  replace a := a.mono leq14
  refine callS_ (by kernel_rfl) (fun l m' s => cmpS s.okm (q.mono s.le) (x.mono s.le)) ?_
  rintro Mq15 vq15 leq15 e1
  replace x := x.mono leq15
  replace y := y.mono leq15
  replace a := a.mono leq15
  replace q := q.mono leq15
  replace r := r.mono leq15
  rw [cmpI_eq (Int.mul_fdiv_cancel n hk)] at e1; subst e1
  refine callS_ (by kernel_rfl) (fun l m' s => signS s.okm (r.mono s.le)) ?_
  rintro Mq16 vq16 leq16 e1
  replace x := x.mono leq16
  replace y := y.mono leq16
  replace a := a.mono leq16
  replace q := q.mono leq16
  replace r := r.mono leq16
  rw [cmpI_eq (Int.mul_fmod_left ..)] at e1; subst e1
  refine Br.yes rfl (Br.yes rfl (Br.yes rfl (Br.yes rfl ?_)))
  have wneg : IntKind.i64.wrap (0 - cmpI k 0) = -cmpI k 0 := by
    rcases cmpI_cases k 0 with ⟨_, e⟩ | ⟨h, e⟩ | ⟨_, e⟩ <;> rw [e] <;> rfl
  refine Br.mk (fun h1 => ?_) (fun h1 => ?_)
  · refine Br.yes rfl (Br.yes (by rw [wneg]; simp) (Br.yes rfl ?_))
    exact fin_at (v := .bool true) (fun _ _ => rfl)
  · refine Br.yes (by rcases hs with e | e; rw [e] at h1; cases h1; rw [e]; simp) (Br.yes (by rw [wneg]; simp) (Br.yes rfl ?_))
    exact fin_at (v := .bool true) (fun _ _ => rfl)

set_option maxRecDepth 20000 in
set_option maxHeartbeats 2000000 in
theorem order_calls (sa sb sc : ByteArray) (m : Mo) (hm : m.okm) : Calls Try.prog 9 #[.string sa, .string sb, .string sc] m.w (Post m fun _ v => v = .bool true) := by
  obtain ⟨ba, ha⟩ : ∃ bs, bytesI sa = bs := ⟨_, rfl⟩
  obtain ⟨bb, hb⟩ : ∃ bs, bytesI sb = bs := ⟨_, rfl⟩
  obtain ⟨bc, hc⟩ : ∃ bs, bytesI sc = bs := ⟨_, rfl⟩
  refine enter_ Try.f9 _ 123 (args := [.string sa, .string sb, .string sc]) (by kernel_rfl) rfl (by kernel_rfl) hm ?_
  refine callS_ (by kernel_rfl) (fun l m' s => (fun h => awake_calls _ h) s.okm ) ?_
  rintro Mq17 vq17 leq17 rfl
  refine callS_ (by kernel_rfl) (fun l m' s => (fun h => twoS sa sb ha hb h) s.okm ) ?_
  rintro Mq18 vq18 leq18 ⟨b1, p1, k1, c1, b2, p2, k2, c2, n, k, p3, c3, n', p4, c4, k', is, rfl, x, y, -, -, hi⟩
  refine callS_ (by kernel_rfl) (fun l m' s => (fun h => twoS sc ⟨#[48]⟩ hc bytes0' h) s.okm ) ?_
  rintro Mq19 vq19 leq19 ⟨b5, p5, k5, c5, b6, p6, k6, c6, o, o0, p7, c7, o', p8, c8, o0', is2, rfl, z, -, -, -, hi2⟩
  replace x := x.mono leq19
  replace y := y.mono leq19
  refine Br.mk (fun h0 => ?_) (fun h0 => ?_)
  · exact fin_at (fun _ _ => rfl)
  refine Br.mk (fun h1 => ?_) (fun h1 => ?_)
  · exact fin_at (fun _ _ => rfl)
  obtain ⟨-, -, -, -, sx, sy, -, -⟩ := hi (by simpa using h0)
  obtain ⟨-, -, -, -, sz, -, -, -⟩ := hi2 (by simpa using h1)
  have x : IntS _ _ n 2000 := ⟨x, sx⟩
  have y : IntS _ _ k 2000 := ⟨y, sy⟩
  have z : IntS _ _ o 2000 := ⟨z, sz⟩
  refine callS_ (by kernel_rfl) (fun l m' s => cmpS s.okm (x.mono s.le) (y.mono s.le)) ?_
  rintro Mq20 vq20 leq20 rfl
  replace x := x.mono leq20
  replace y := y.mono leq20
  replace z := z.mono leq20
  refine callS_ (by kernel_rfl) (fun l m' s => cmpS s.okm (y.mono s.le) (x.mono s.le)) ?_
  rintro Mq21 vq21 leq21 e1
  replace x := x.mono leq21
  replace y := y.mono leq21
  replace z := z.mono leq21
  rw [cmpI_swap n k] at e1; subst e1
  refine draw_ [] [0, 1, 3, 4, 2, 5, 6, 7] [] [] [] (by kernel_rfl) rfl rfl ?_
  refine callD_ (by kernel_rfl) (fun l m' s => addS s.okm (x.mono s.le) (z.mono s.le)) ?_
  rintro Mq22 vq22 leq22 a
  replace x := x.mono leq22
  replace y := y.mono leq22
  replace z := z.mono leq22
  refine callD_ (by kernel_rfl) (fun l m' s => addS s.okm (y.mono s.le) (z.mono s.le)) ?_
  rintro Mq23 vq23 leq23 b
  replace x := x.mono leq23
  replace y := y.mono leq23
  replace z := z.mono leq23
  replace a := a.mono leq23
  refine callD_ (by kernel_rfl) (fun l m' s => cmpS s.okm (a.mono s.le) (b.mono s.le)) ?_
  rintro Mq24 vq24 leq24 e1
  replace x := x.mono leq24
  replace y := y.mono leq24
  replace z := z.mono leq24
  replace a := a.mono leq24
  replace b := b.mono leq24
  rw [cmpI_add] at e1; subst e1
  refine draw_ [] [0, 1, 3, 4, 2, 5, 6, 7] [] [] [] (by kernel_rfl) rfl rfl ?_
  refine callD_ (by kernel_rfl) (fun l m' s => mulS s.okm (x.mono s.le) (z.mono s.le)) ?_
  rintro Mq25 vq25 leq25 a
  replace x := x.mono leq25
  replace y := y.mono leq25
  replace z := z.mono leq25
  refine callD_ (by kernel_rfl) (fun l m' s => mulS s.okm (y.mono s.le) (z.mono s.le)) ?_
  rintro Mq26 vq26 leq26 b
  replace x := x.mono leq26
  replace y := y.mono leq26
  replace z := z.mono leq26
  replace a := a.mono leq26
  refine callD_ (by kernel_rfl) (fun l m' s => cmpS s.okm (a.mono s.le) (b.mono s.le)) ?_
  rintro Mq27 vq27 leq27 e1
  replace x := x.mono leq27
  replace y := y.mono leq27
  replace z := z.mono leq27
  replace a := a.mono leq27
  replace b := b.mono leq27
  rw [cmpI_mul] at e1; subst e1
  refine callS_ (by kernel_rfl) (fun l m' s => signS s.okm (z.mono s.le)) ?_
  rintro Mq28 vq28 leq28 rfl
  replace x := x.mono leq28
  replace y := y.mono leq28
  replace z := z.mono leq28
  refine callS_ (by kernel_rfl) (fun l m' s => cmpS s.okm (y.mono s.le) (z.mono s.le)) ?_
  rintro Mq29 vq29 leq29 rfl
  replace x := x.mono leq29
  replace y := y.mono leq29
  replace z := z.mono leq29
  refine callS_ (by kernel_rfl) (fun l m' s => cmpS s.okm (x.mono s.le) (z.mono s.le)) ?_
  rintro Mq30 vq30 leq30 rfl
  replace x := x.mono leq30
  replace y := y.mono leq30
  replace z := z.mono leq30
  refine callS_ (by kernel_rfl) (fun l m' s => stringS s.okm (x.mono s.le)) ?_
  rintro Mq31 vq31 leq31 rfl
  replace x := x.mono leq31
  replace y := y.mono leq31
  replace z := z.mono leq31
  refine callS_ (by kernel_rfl) (fun l m' s => stringS s.okm (y.mono s.le)) ?_
  rintro Mq32 vq32 leq32 rfl
  replace x := x.mono leq32
  replace y := y.mono leq32
  replace z := z.mono leq32
  have wneg : IntKind.i64.wrap (0 - cmpI n k) = -cmpI n k := by
    rcases cmpI_cases n k with ⟨_, e⟩ | ⟨h, e⟩ | ⟨_, e⟩ <;> rw [e] <;> rfl
  have wmul : IntKind.i64.wrap (cmpI n k * cmpI o 0) = cmpI n k * cmpI o 0 := by
    rcases cmpI_cases n k with ⟨_, e⟩ | ⟨h, e⟩ | ⟨_, e⟩ <;> rcases cmpI_cases o 0 with ⟨_, f⟩ | ⟨h, f⟩ | ⟨_, f⟩ <;> rw [e, f] <;> rfl
  have hpq : (((decB n).toList == (decB k).toList) == (cmpI n k == 0)) = true := by
    rw [decB_eq, bytes_decB]
    rcases cmpI_cases n k with ⟨h, e⟩ | ⟨h, e⟩ | ⟨h, e⟩ <;> rw [e]
    · rw [decide_eq_false (fun h' => by have := decS_inj h'; omega)]; rfl
    · rw [decide_eq_true (by rw [h])]; rfl
    · rw [decide_eq_false (fun h' => by have := decS_inj h'; omega)]; rfl
  refine Br.yes rfl (Br.yes (by rw [wneg]; simp) (Br.yes (by simp) (Br.yes (by rw [wmul]; simp) ?_)))
  refine Br.mk (fun h2 => ?_) (fun h2 => ?_)
  · refine Br.yes rfl (Br.yes rfl ?_)
    exact fin_at (v := .bool true) (fun _ _ => rfl) (hv := fun _ => congrArg Value.bool hpq)
  · refine Br.mk (fun h3 => ?_) (fun h3 => ?_)
    · refine Br.yes rfl ?_
      exact fin_at (v := .bool true) (fun _ _ => rfl) (hv := fun _ => congrArg Value.bool hpq)
    · have h2 := of_decide_eq_false h2
      have h3 := of_decide_eq_false h3
      have g1 := (cmpI_neg n k).1 (by omega)
      have g2 := (cmpI_neg k o).1 (by omega)
      refine Br.yes (by simp only [decide_eq_true_eq]; exact (cmpI_neg n o).2 (by omega)) ?_
      exact fin_at (v := .bool true) (fun _ _ => rfl) (hv := fun _ => congrArg Value.bool hpq)
end Go.Proofs.Ytdkamjbcpmlheaa

/- The laws of layer 1: small numbers; roots. -/
namespace Go.Proofs.Ytdkamjbcpmlheaa
open Go Go.Gw Go.Lg
set_option pp.deepTerms false
set_option pp.deepTerms.threshold 6
set_option pp.maxSteps 3000
set_option exponentiation.threshold 2000

theorem tdiv2 {a : Int} (h : -9223372036854775808 ≤ a ∧ a ≤ 9223372036854775807) : -4611686018427387904 ≤ a.tdiv 2 ∧ a.tdiv 2 ≤ 4611686018427387903 := by
  rcases Int.le_total 0 a with h0 | h0
  · rw [Int.tdiv_eq_ediv_of_nonneg h0]; omega
  · have e : a.tdiv 2 = -((-a).tdiv 2) := by rw [Int.neg_tdiv, Int.neg_neg]
    rw [e, Int.tdiv_eq_ediv_of_nonneg (by omega)]; omega
theorem decS_len (n : Int) : (decS n).length ≤ blen n + 2 := by
  have := digs_len (blen n) n.natAbs (blen_lt n)
  unfold decS
  split
  · simp
  · simp only [List.length_append, List.length_reverse, asc, List.length_map]
    split <;> simp <;> omega

set_option maxRecDepth 20000 in
set_option maxHeartbeats 2000000 in
theorem lsmall_calls (a b : Int) (m : Mo) (hm : m.okm) (ha : -9223372036854775808 ≤ a ∧ a ≤ 9223372036854775807) (hb : -9223372036854775808 ≤ b ∧ b ≤ 9223372036854775807) : Calls Try.prog 11 #[.int .i64 a, .int .i64 b] m.w (Post m fun _ v => v = .bool true) := by
  refine enter_ Try.f11 _ 98 (args := [.int .i64 a, .int .i64 b]) (by kernel_rfl) rfl (by kernel_rfl) hm ?_
  refine callS_ (by kernel_rfl) (fun l m' s => (fun h => awake_calls _ h) s.okm ) ?_
  rintro Mq1 vq1 leq1 rfl
  refine callS_ (by kernel_rfl) (fun l m' s => (fun h => ofS h a ha.1 ha.2) s.okm ) ?_
  rintro Mq2 vq2 leq2 x
  obtain ⟨bx, px, kx, cx, rfl, x⟩ := x.shape
  refine callS_ (by kernel_rfl) (fun l m' s => smallS s.okm (x.mono s.le)) ?_
  rintro Mq3 vq3 leq3 e1
  replace x := x.mono leq3
  rw [if_pos ha, decide_eq_true ha] at e1; subst e1
  refine callS_ (by kernel_rfl) (fun l m' s => stringS s.okm (x.mono s.le)) ?_
  rintro Mq4 vq4 leq4 rfl
  replace x := x.mono leq4
  refine callS_ (by kernel_rfl) (fun l m' s => (fun h => parse_calls (decB a) (decS a) (bytes_decB a) _ h) s.okm ) ?_
  rintro Mq5 vq5 leq5 y0
  replace x := x.mono leq5
  have hl : (decS a).length ≤ 2000 := by
    have h1 := decS_len a
    have h2 := blen_sz a
    have h3 := sz_i64 ha.1 ha.2
    omega
  obtain ⟨by', py, ky, cy, rfl, y1⟩ := y0.ok (parsed_decS a) hl
  have y : IntS _ _ a 2 := ⟨y1, sz_i64 ha.1 ha.2⟩
  refine callS_ (by kernel_rfl) (fun l m' s => cmpS s.okm (y.mono s.le) (x.mono s.le)) ?_
  rintro Mq6 vq6 leq6 e1
  replace x := x.mono leq6
  replace y := y.mono leq6
  rw [cmpI_eq rfl] at e1; subst e1
  have a1 : (a.tmod 2000000000).natAbs < 2000000000 := by rw [Int.natAbs_tmod]; exact Nat.mod_lt _ (by decide)
  have b1 : (b.tmod 2000000000).natAbs < 2000000000 := by rw [Int.natAbs_tmod]; exact Nat.mod_lt _ (by decide)
  have ab : ((a.tmod 2000000000) * (b.tmod 2000000000)).natAbs ≤ 2000000000 * 2000000000 := by
    rw [Int.natAbs_mul]; exact Nat.mul_le_mul (by omega) (by omega)
  have wm : IntKind.i64.wrap ((a.tmod 2000000000) * (b.tmod 2000000000)) = (a.tmod 2000000000) * (b.tmod 2000000000) := wrap_in _ (by omega) (by omega)
  generalize hA : a.tmod 2000000000 = A at *
  generalize hB : b.tmod 2000000000 = B at *
  refine And.intro (by decide) (And.intro (by decide) ?_)
  refine And.intro (by decide) ?_
  refine callS_ (by kernel_rfl) (fun l m' s => (fun h => ofS h (a.tmod 2000000000) (by omega) (by omega)) s.okm ) ?_
  rintro Mq7 vq7 leq7 u
  refine And.intro (by decide) ?_
  refine callS_ (by kernel_rfl) (fun l m' s => (fun h => ofS h (b.tmod 2000000000) (by omega) (by omega)) s.okm ) ?_
  rintro Mq8 vq8 leq8 v
  replace u := u.mono leq8
  rw [hA] at u; rw [hB] at v
  refine callS_ (by kernel_rfl) (fun l m' s => mulS s.okm (u.mono s.le) (v.mono s.le)) ?_
  rintro Mq9 vq9 leq9 w
  replace u := u.mono leq9
  replace v := v.mono leq9
  refine callS_ (by kernel_rfl) (fun l m' s => smallS s.okm (w.mono s.le)) ?_
  rintro Mq10 vq10 leq10 e1
  replace u := u.mono leq10
  replace v := v.mono leq10
  replace w := w.mono leq10
  rw [if_pos (by omega), decide_eq_true (by omega)] at e1; subst e1
  have a2 := tdiv2 ha
  have b2 := tdiv2 hb
  have wa : IntKind.i64.wrap (a.tdiv 2) = a.tdiv 2 := wrap_in _ (by omega) (by omega)
  have wb : IntKind.i64.wrap (b.tdiv 2) = b.tdiv 2 := wrap_in _ (by omega) (by omega)
  have ws : IntKind.i64.wrap (IntKind.i64.wrap (a.tdiv 2) + IntKind.i64.wrap (b.tdiv 2)) = a.tdiv 2 + b.tdiv 2 := by rw [wa, wb, wrap_in _ (by omega) (by omega)]
  refine And.intro (by decide) ?_
  refine callS_ (by kernel_rfl) (fun l m' s => (fun h => ofS h (IntKind.i64.wrap (a.tdiv 2)) (by rw [wa]; omega) (by rw [wa]; omega)) s.okm ) ?_
  rintro Mq11 vq11 leq11 u
  refine And.intro (by decide) ?_
  refine callS_ (by kernel_rfl) (fun l m' s => (fun h => ofS h (IntKind.i64.wrap (b.tdiv 2)) (by rw [wb]; omega) (by rw [wb]; omega)) s.okm ) ?_
  rintro Mq12 vq12 leq12 v
  replace u := u.mono leq12
  refine callS_ (by kernel_rfl) (fun l m' s => addS s.okm (u.mono s.le) (v.mono s.le)) ?_
  rintro Mq13 vq13 leq13 w
  replace u := u.mono leq13
  replace v := v.mono leq13
  refine callS_ (by kernel_rfl) (fun l m' s => smallS s.okm (w.mono s.le)) ?_
  rintro Mq14 vq14 leq14 e1
  replace u := u.mono leq14
  replace v := v.mono leq14
  replace w := w.mono leq14
  rw [wa, wb, if_pos (by omega), decide_eq_true (by omega)] at e1; subst e1
  refine Br.yes rfl (Br.yes rfl (Br.yes (by simp) (Br.yes rfl (Br.yes rfl (Br.yes rfl (Br.yes ?_ (Br.yes rfl ?_)))))))
  · simp only [hA, hB, wm, beq_self_eq_true]
  refine And.intro (by decide) (And.intro (by decide) ?_)
  refine fin_at (v := .bool true) (fun _ _ => rfl) (hv := fun _ => ?_)
  show Value.bool (a.tdiv 2 + b.tdiv 2 == IntKind.i64.wrap (IntKind.i64.wrap (a.tdiv 2) + IntKind.i64.wrap (b.tdiv 2))) = _
  rw [ws]
  simp

/-! ### Roots -/
theorem ten_two {n : Nat} (h : n ≤ 150) : 10 ^ n ≤ 2 ^ 500 := Nat.le_trans (Nat.pow_le_pow_right (by decide) h) (Nat.le_of_ble_eq_true (by kernel_rfl))
theorem parsed_blen {bs : List Int} {n : Int} (h : parsed bs = some n) (hl : bs.length ≤ 150) : blen n ≤ 501 := by
  have key : ∀ (ds : List Int) (b : Bool), ds.length ≤ 150 → (if ds.all isDig then some (sg b (dval ds)) else none) = some n → blen n ≤ 501 := by
    intro ds b h1 h2
    split at h2
    · rename_i hall
      have hr := dval_range ds hall
      have hN : n.natAbs < 10 ^ ds.length := by
        have h3 : ((dval ds).toNat : Int) < ((10 ^ ds.length : Nat) : Int) := by
          rw [Int.natCast_pow]; show ((dval ds).toNat : Int) < 10 ^ ds.length; omega
        have h4 : (dval ds).toNat < 10 ^ ds.length := by exact_mod_cast h3
        have : sg b (dval ds) = n := by simpa using h2
        rw [← this]; unfold sg; split <;> omega
      have ht := ten_two h1
      by_cases h0 : n = 0
      · subst h0; decide
      · have hlow := blen_low h0
        by_cases hb : blen n ≤ 501
        · exact hb
        · exfalso
          have h5 : 2 ^ 500 ≤ 2 ^ (blen n - 1) := Nat.pow_le_pow_right (by decide) (by omega)
          generalize 2 ^ 500 = P at *
          omega
    · cases h2
  by_cases hne : bs = []
  · subst hne; cases h
  by_cases h2 : bs.getD 0 0 = 45
  · rw [parsed_neg hne h2] at h
    split at h
    · cases h
    · exact key _ _ (by rw [List.length_tail]; omega) h
  · rw [parsed_pos hne h2] at h
    split at h
    · cases h
    · exact key _ _ hl h
theorem sz_pow2 (i : Nat) : sz (2 ^ i) ≤ i + 1 := by
  apply sz_le
  have h1 : (0 : Int) < 2 ^ i := Int.pow_pos (by decide)
  have h2 : ∀ i : Nat, (2 : Int) ^ i ≤ B32 ^ i := fun i => by
    induction i with
    | zero => decide
    | succ i ih =>
      rw [Int.pow_succ, Int.pow_succ]
      exact Int.mul_le_mul ih (by decide) (by decide) (Int.le_of_lt (Int.pow_pos B32_pos))
  have h3 := h2 i
  have h4 : B32 ^ i < B32 ^ (i + 1) := by
    rw [Int.pow_succ]
    have : B32 ^ i * 1 < B32 ^ i * B32 := Int.mul_lt_mul_of_pos_left (by decide) (Int.pow_pos B32_pos)
    omega
  omega
end Go.Proofs.Ytdkamjbcpmlheaa

/- The laws of layer 1: roots. -/
namespace Go.Proofs.Ytdkamjbcpmlheaa
open Go Go.Gw Go.Lg
set_option pp.deepTerms false
set_option pp.deepTerms.threshold 6
set_option pp.maxSteps 3000

theorem sq_abs (n : Int) : (n.natAbs : Int) * n.natAbs = n * n := by
  rcases Int.natAbs_eq n with h | h
  · rw [← h]
  · have : n * n = (-(n.natAbs : Int)) * (-(n.natAbs : Int)) := by rw [← h]
    rw [this, Int.neg_mul_neg]



set_option maxRecDepth 20000 in
set_option maxHeartbeats 4000000 in
theorem roots_calls (sa : ByteArray) (m : Mo) (hm : m.okm) : Calls Try.prog 8 #[.string sa] m.w (Post m fun _ v => v = .bool true) := by
  obtain ⟨ba, ha⟩ : ∃ bs, bytesI sa = bs := ⟨_, rfl⟩
  refine enter_ Try.f8 _ 156 (args := [.string sa]) (by kernel_rfl) rfl (by kernel_rfl) hm ?_
  refine callS_ (by kernel_rfl) (fun l m' s => (fun h => awake_calls _ h) s.okm ) ?_
  rintro Mq1 vq1 leq1 rfl
  refine callS_ (by kernel_rfl) (fun l m' s => (fun h => twoS sa ⟨#[48]⟩ ha bytes0' h) s.okm ) ?_
  rintro Mq2 vq2 leq2 ⟨b1, p1, k1, c1, b2, p2, k2, c2, n, k, p3, c3, n', p4, c4, k', is, rfl, x, -, -, -, hi⟩
  refine Br.mk (fun h0 => ?_) (fun h0 => ?_)
  · exact fin_at (fun _ _ => rfl)
  obtain ⟨hpn, -, -, -, sx, -, hla, -⟩ := hi (by simpa using h0)
  have x : IntS _ _ n 2000 := ⟨x, sx⟩
  refine callS_ (by kernel_rfl) (fun l m' s => mulS s.okm (x.mono s.le) (x.mono s.le)) ?_
  rintro Mq3 vq3 leq3 sq
  replace x := x.mono leq3
  obtain ⟨bq, pq, kq, cq, rfl, sq⟩ := sq.shape
  refine callS_ (by kernel_rfl) (fun l m' s => rootS s.okm (sq.mono s.le) (sq_nonneg' n)) ?_
  rintro Mq4 vq4 leq4 ⟨br, pr, kr, cr, r, rfl, r1, r2, r3, rt⟩
  replace x := x.mono leq4
  replace sq := sq.mono leq4
  have hr : r = (n.natAbs : Int) := by
    have e := sq_abs n
    refine root_unique r1 (by omega) r2 r3 (by omega) ?_
    rw [Int.add_mul, Int.mul_add]; omega
  subst hr
  have hlt : (n.natAbs : Int) < 2 ^ blen n := by
    have := blen_lt n
    exact_mod_cast this
  by_cases hn : n < 0
  · skip
    refine callS_ (by kernel_rfl) (fun l m' s => signS s.okm (x.mono s.le)) ?_
    rintro Mq5 vq5 leq5 e1
    replace x := x.mono leq5
    replace rt := rt.mono leq5
    rw [cmpI_lt hn] at e1; subst e1
    refine Br.yes rfl ?_
    refine callS_ (by kernel_rfl) (fun l m' s => negS s.okm (x.mono s.le)) ?_
    rintro Mq6 vq6 leq6 plus
    replace x := x.mono leq6
    replace rt := rt.mono leq6
    have plus := plus.cast (show -n = (n.natAbs : Int) by omega)
    obtain ⟨bp, pp, kp, cp, rfl, plus⟩ := plus.shape
    refine callS_ (by kernel_rfl) (fun l m' s => cmpS s.okm (rt.mono s.le) (plus.mono s.le)) ?_
    rintro Mq7 vq7 leq7 e1
    replace x := x.mono leq7
    replace rt := rt.mono leq7
    replace plus := plus.mono leq7
    rw [cmpI_eq rfl] at e1; subst e1
    refine callS_ (by kernel_rfl) (fun l m' s => rootNegS s.okm (x.mono s.le) hn) ?_
    rintro Mq8 vq8 leq8 ⟨bs, ps, ks, cs, rfl, sr⟩
    replace x := x.mono leq8
    replace plus := plus.mono leq8
    refine callS_ (by kernel_rfl) (fun l m' s => bitsS s.okm (x.mono s.le)) ?_
    rintro Mq9 vq9 leq9 rfl
    replace x := x.mono leq9
    replace plus := plus.mono leq9
    replace sr := sr.mono leq9
    refine callS_ (by kernel_rfl) (fun l m' s => (fun h => ofS h 1) s.okm ) ?_
    rintro Mq10 vq10 leq10 one
    replace x := x.mono leq10
    replace plus := plus.mono leq10
    replace sr := sr.mono leq10
    obtain ⟨bo, po, ko, co, rfl, one⟩ := one.shape
    have hbl := parsed_blen hpn (by omega)
    refine loop_ (ι := Nat × Bool × Option Addr × Nat × Nat) (fun i => [(3, .v (.bool true)), (4, .lp 0 0), (12, .lp 1 0), (15, .lp 2 0), (18, .lp 3 0), (11, .v (.int .i64 0)), (13, .v (.int .i64 (-1))), (14, .v (.int .i64 0)), (16, .v (.int .i64 12)), (17, .v (.int .i64 (blen n))), (19, .v (.int .i64 i.1))])
      (fun i => [⟨some (25, 2), .lit [.v (.bool b1), .v (.slice p1 k1 c1)]⟩, ⟨some (25, 2), .lit [.v (.bool bp), .v (.slice pp kp cp)]⟩, ⟨some (25, 2), .lit [.v (.bool bs), .v (.slice ps ks cs)]⟩, ⟨some (25, 2), .lit [.v (.bool i.2.1), .v (.slice i.2.2.1 i.2.2.2.1 i.2.2.2.2)]⟩])
      (fun i M => Mo.Le _ M ∧ i.1 ≤ blen n ∧ IntR M (.agg #[.bool i.2.1, .slice i.2.2.1 i.2.2.2.1 i.2.2.2.2]) (2 ^ i.1)) (fun i => blen n - i.1) (0, bo, po, ko, co) ?_ ⟨.refl _, Nat.zero_le _, one.r⟩ ?_
    · exact Ref.ren [some 0, some 6, some 7, some 8] (by rfl) (by exact ⟨⟨rfl, trivial⟩, ⟨rfl, by simp [AV.ok]⟩, ⟨rfl, by simp [AV.ok]⟩, ⟨rfl, by simp [AV.ok]⟩, ⟨rfl, by simp [AV.ok]⟩, ⟨rfl, trivial⟩, ⟨rfl, trivial⟩, ⟨rfl, trivial⟩, ⟨rfl, trivial⟩, ⟨rfl, trivial⟩, ⟨rfl, trivial⟩, trivial⟩) (by exact ⟨⟨rfl, by simp [Cells.ok, okL, AV.ok]⟩, ⟨rfl, by simp [Cells.ok, okL, AV.ok]⟩, ⟨rfl, by simp [Cells.ok, okL, AV.ok]⟩, ⟨rfl, by simp [Cells.ok, okL, AV.ok]⟩, trivial⟩)
    rintro ⟨i, bw, pw, kw, cw⟩ ML ⟨l1, l2, l3⟩
    simp only at l1 l2 l3
    have sz2 := sz_pow2 i
    have w : IntS ML _ (2 ^ i) 502 := ⟨l3, by omega⟩
    refine Br.mk (fun h1 => ?_) (fun h1 => ?_)
    · have h1 : i < blen n := by have := of_decide_eq_true h1; simp only at this; omega
      refine Br.yes (by simp only [decide_eq_true_eq]; omega) ?_
      refine draw_ [(0, [])] [0, 1, 2] [] [3] [(3, 3)] (by kernel_rfl) rfl rfl ?_
      refine callD_ (by kernel_rfl) (fun l m' s => ofS s.okm 2) ?_
      rintro Ma va lea two
      refine callD_ (by kernel_rfl) (fun l m' s => mulS s.okm (w.mono (lea.trans s.le)) (two.mono s.le)) ?_
      rintro Mb vb leb w2
      obtain ⟨b9, p9, k9, c9, rfl, w2⟩ := w2.shape
      refine ⟨(i + 1, b9, p9, k9, c9), _, Ref.sub (by exact ⟨rfl, rfl, rfl, rfl, rfl, rfl, rfl, rfl, rfl, rfl, some_nrm (wrap_in _ (by omega) (by omega)), trivial⟩), ⟨l1.trans (lea.trans leb), by simp only; omega, ?_⟩, by simp only; omega⟩
      simp only
      rw [Int.pow_succ]; exact w2.r
    · skip
      have h1 : i = blen n := by
        have := of_decide_eq_false h1; simp only at this; omega
      subst h1
      replace x := x.mono l1
      replace plus := plus.mono l1
      replace sr := sr.mono l1
      refine callS_ (by kernel_rfl) (fun l m' s => cmpS s.okm (plus.mono s.le) (w.mono s.le)) ?_
      rintro Mq11 vq11 leq11 e1
      replace x := x.mono leq11
      replace plus := plus.mono leq11
      replace sr := sr.mono leq11
      replace w := w.mono leq11
      rw [cmpI_lt hlt] at e1; subst e1
      refine draw_ [] [0, 3, 1, 2, 4, 5] [] [] [] (by kernel_rfl) rfl rfl ?_
      refine callD_ (by kernel_rfl) (fun l m' s => (fun h => ofS h 2) s.okm ) ?_
      rintro Mq12 vq12 leq12 two
      replace x := x.mono leq12
      replace plus := plus.mono leq12
      replace sr := sr.mono leq12
      replace w := w.mono leq12
      refine callD_ (by kernel_rfl) (fun l m' s => mulS s.okm (plus.mono s.le) (two.mono s.le)) ?_
      rintro Mq13 vq13 leq13 tw
      replace x := x.mono leq13
      replace plus := plus.mono leq13
      replace sr := sr.mono leq13
      replace w := w.mono leq13
      replace two := two.mono leq13
      refine callD_ (by kernel_rfl) (fun l m' s => cmpS s.okm (tw.mono s.le) (w.mono s.le)) ?_
      rintro Mq14 vq14 leq14 rfl
      replace x := x.mono leq14
      replace plus := plus.mono leq14
      replace sr := sr.mono leq14
      replace w := w.mono leq14
      replace two := two.mono leq14
      replace tw := tw.mono leq14
      have hge : ¬ (cmpI ((n.natAbs : Int) * 2) (2 ^ blen n) < 0) := by
        rw [cmpI_neg]
        have h1 := blen_low (show n ≠ 0 by omega)
        have h2 : ((2 ^ (blen n - 1) : Nat) : Int) ≤ (n.natAbs : Int) := by exact_mod_cast h1
        have h3 : (2 : Int) ^ blen n = 2 ^ (blen n - 1) * 2 := by
          rw [← Int.pow_succ]; congr 1
          have : blen n ≠ 0 := by unfold blen; rw [if_neg (by omega)]; omega
          omega
        rw [Int.natCast_pow] at h2
        rw [h3]
        have h2 : (2 : Int) ^ (blen n - 1) ≤ (n.natAbs : Int) := h2
        omega
      refine Br.yes rfl (Br.yes rfl (Br.yes rfl (Br.yes rfl (Br.yes rfl (Br.yes rfl ?_)))))
      refine fin_at (v := .bool true) (fun _ _ => rfl) (hv := fun _ => ?_)
      show Value.bool (decide (cmpI ((n.natAbs : Int) * 2) (2 ^ blen n) ≥ 0)) = _
      rw [decide_eq_true (by omega)]
  · skip
    have plus : IntS _ _ (n.natAbs : Int) 2000 := x.cast (show n = (n.natAbs : Int) by omega)
    by_cases hz : n = 0
    · skip
      refine callS_ (by kernel_rfl) (fun l m' s => signS s.okm (x.mono s.le)) ?_
      rintro Mq15 vq15 leq15 e1
      replace x := x.mono leq15
      replace rt := rt.mono leq15
      replace plus := plus.mono leq15
      rw [cmpI_eq hz] at e1; subst e1
      refine Br.no rfl ?_
      refine callS_ (by kernel_rfl) (fun l m' s => cmpS s.okm (rt.mono s.le) (plus.mono s.le)) ?_
      rintro Mq16 vq16 leq16 e1
      replace x := x.mono leq16
      replace rt := rt.mono leq16
      replace plus := plus.mono leq16
      rw [cmpI_eq rfl] at e1; subst e1
      refine callS_ (by kernel_rfl) (fun l m' s => rootS s.okm (x.mono s.le) (show 0 ≤ n by omega)) ?_
      rintro Mq17 vq17 leq17 ⟨bs, ps, ks, cs, q, rfl, q1, q2, q3, sr⟩
      replace x := x.mono leq17
      replace plus := plus.mono leq17
      refine callS_ (by kernel_rfl) (fun l m' s => bitsS s.okm (x.mono s.le)) ?_
      rintro Mq18 vq18 leq18 rfl
      replace x := x.mono leq18
      replace plus := plus.mono leq18
      replace sr := sr.mono leq18
      refine callS_ (by kernel_rfl) (fun l m' s => (fun h => ofS h 1) s.okm ) ?_
      rintro Mq19 vq19 leq19 one
      replace x := x.mono leq19
      replace plus := plus.mono leq19
      replace sr := sr.mono leq19
      obtain ⟨bo, po, ko, co, rfl, one⟩ := one.shape
      have hbl := parsed_blen hpn (by omega)
      refine loop_ (ι := Nat × Bool × Option Addr × Nat × Nat) (fun i => [(3, .v (.bool true)), (4, .lp 0 0), (12, .lp 1 0), (15, .lp 2 0), (18, .lp 3 0), (11, .v (.int .i64 0)), (13, .v (.int .i64 (0))), (14, .v (.int .i64 0)), (16, .v (.int .i64 0)), (17, .v (.int .i64 (blen n))), (19, .v (.int .i64 i.1))])
        (fun i => [⟨some (25, 2), .lit [.v (.bool b1), .v (.slice p1 k1 c1)]⟩, ⟨some (25, 2), .lit [.v (.bool b1), .v (.slice p1 k1 c1)]⟩, ⟨some (25, 2), .lit [.v (.bool bs), .v (.slice ps ks cs)]⟩, ⟨some (25, 2), .lit [.v (.bool i.2.1), .v (.slice i.2.2.1 i.2.2.2.1 i.2.2.2.2)]⟩])
        (fun i M => Mo.Le _ M ∧ i.1 ≤ blen n ∧ IntR M (.agg #[.bool i.2.1, .slice i.2.2.1 i.2.2.2.1 i.2.2.2.2]) (2 ^ i.1)) (fun i => blen n - i.1) (0, bo, po, ko, co) ?_ ⟨.refl _, Nat.zero_le _, one.r⟩ ?_
      · exact Ref.ren [some 0, some 6, some 7, some 8] (by rfl) (by exact ⟨⟨rfl, trivial⟩, ⟨rfl, by simp [AV.ok]⟩, ⟨rfl, by simp [AV.ok]⟩, ⟨rfl, by simp [AV.ok]⟩, ⟨rfl, by simp [AV.ok]⟩, ⟨rfl, trivial⟩, ⟨rfl, trivial⟩, ⟨rfl, trivial⟩, ⟨rfl, trivial⟩, ⟨rfl, trivial⟩, ⟨rfl, trivial⟩, trivial⟩) (by exact ⟨⟨rfl, by simp [Cells.ok, okL, AV.ok]⟩, ⟨rfl, by simp [Cells.ok, okL, AV.ok]⟩, ⟨rfl, by simp [Cells.ok, okL, AV.ok]⟩, ⟨rfl, by simp [Cells.ok, okL, AV.ok]⟩, trivial⟩)
      rintro ⟨i, bw, pw, kw, cw⟩ ML ⟨l1, l2, l3⟩
      simp only at l1 l2 l3
      have sz2 := sz_pow2 i
      have w : IntS ML _ (2 ^ i) 502 := ⟨l3, by omega⟩
      refine Br.mk (fun h1 => ?_) (fun h1 => ?_)
      · have h1 : i < blen n := by have := of_decide_eq_true h1; simp only at this; omega
        refine Br.yes (by simp only [decide_eq_true_eq]; omega) ?_
        refine draw_ [(0, [])] [0, 1, 2] [] [3] [(3, 3)] (by kernel_rfl) rfl rfl ?_
        refine callD_ (by kernel_rfl) (fun l m' s => ofS s.okm 2) ?_
        rintro Ma va lea two
        refine callD_ (by kernel_rfl) (fun l m' s => mulS s.okm (w.mono (lea.trans s.le)) (two.mono s.le)) ?_
        rintro Mb vb leb w2
        obtain ⟨b9, p9, k9, c9, rfl, w2⟩ := w2.shape
        refine ⟨(i + 1, b9, p9, k9, c9), _, Ref.sub (by exact ⟨rfl, rfl, rfl, rfl, rfl, rfl, rfl, rfl, rfl, rfl, some_nrm (wrap_in _ (by omega) (by omega)), trivial⟩), ⟨l1.trans (lea.trans leb), by simp only; omega, ?_⟩, by simp only; omega⟩
        simp only
        rw [Int.pow_succ]; exact w2.r
      · skip
        have h1 : i = blen n := by
          have := of_decide_eq_false h1; simp only at this; omega
        subst h1
        replace x := x.mono l1
        replace plus := plus.mono l1
        replace sr := sr.mono l1
        refine callS_ (by kernel_rfl) (fun l m' s => cmpS s.okm (plus.mono s.le) (w.mono s.le)) ?_
        rintro Mq20 vq20 leq20 e1
        replace x := x.mono leq20
        replace plus := plus.mono leq20
        replace sr := sr.mono leq20
        replace w := w.mono leq20
        rw [cmpI_lt hlt] at e1; subst e1
        refine draw_ [] [0, 3, 1, 2, 4, 5] [] [] [] (by kernel_rfl) rfl rfl ?_
        refine callD_ (by kernel_rfl) (fun l m' s => (fun h => ofS h 2) s.okm ) ?_
        rintro Mq21 vq21 leq21 two
        replace x := x.mono leq21
        replace plus := plus.mono leq21
        replace sr := sr.mono leq21
        replace w := w.mono leq21
        refine callD_ (by kernel_rfl) (fun l m' s => mulS s.okm (plus.mono s.le) (two.mono s.le)) ?_
        rintro Mq22 vq22 leq22 tw
        replace x := x.mono leq22
        replace plus := plus.mono leq22
        replace sr := sr.mono leq22
        replace w := w.mono leq22
        replace two := two.mono leq22
        refine callD_ (by kernel_rfl) (fun l m' s => cmpS s.okm (tw.mono s.le) (w.mono s.le)) ?_
        rintro Mq23 vq23 leq23 rfl
        replace x := x.mono leq23
        replace plus := plus.mono leq23
        replace sr := sr.mono leq23
        replace w := w.mono leq23
        replace two := two.mono leq23
        replace tw := tw.mono leq23
        refine Br.no rfl ?_
        refine draw_ [(0, [])] [0, 1, 2] [3] [4] [] (by kernel_rfl) rfl rfl ?_
        refine callD_ (by kernel_rfl) (fun l m' s => (fun h => ofS h 1) s.okm ) ?_
        rintro Mq24 vq24 leq24 one1
        replace x := x.mono leq24
        replace sr := sr.mono leq24
        refine callD_ (by kernel_rfl) (fun l m' s => addS s.okm (sr.mono s.le) (one1.mono s.le)) ?_
        rintro Mq25 vq25 leq25 nx
        replace x := x.mono leq25
        replace sr := sr.mono leq25
        replace one1 := one1.mono leq25
        obtain ⟨bn, pn, kn, cn, rfl, nx⟩ := nx.shape
        refine draw_ [] [0, 1, 3, 2, 4, 5] [] [] [] (by kernel_rfl) rfl rfl ?_
        refine callD_ (by kernel_rfl) (fun l m' s => mulS s.okm (sr.mono s.le) (sr.mono s.le)) ?_
        rintro Mq26 vq26 leq26 ss
        replace x := x.mono leq26
        replace sr := sr.mono leq26
        replace nx := nx.mono leq26
        refine callD_ (by kernel_rfl) (fun l m' s => cmpS s.okm (ss.mono s.le) (x.mono s.le)) ?_
        rintro Mq27 vq27 leq27 rfl
        replace x := x.mono leq27
        replace sr := sr.mono leq27
        replace nx := nx.mono leq27
        replace ss := ss.mono leq27
        refine draw_ [] [0, 1, 3, 2, 4, 5] [] [] [] (by kernel_rfl) rfl rfl ?_
        refine callD_ (by kernel_rfl) (fun l m' s => mulS s.okm (nx.mono s.le) (nx.mono s.le)) ?_
        rintro Mq28 vq28 leq28 nn
        replace x := x.mono leq28
        replace sr := sr.mono leq28
        replace nx := nx.mono leq28
        replace ss := ss.mono leq28
        refine callD_ (by kernel_rfl) (fun l m' s => cmpS s.okm (nn.mono s.le) (x.mono s.le)) ?_
        rintro Mq29 vq29 leq29 rfl
        replace x := x.mono leq29
        replace sr := sr.mono leq29
        replace nx := nx.mono leq29
        replace ss := ss.mono leq29
        replace nn := nn.mono leq29
        have hlow : decide (cmpI (q * q) n ≤ 0) = true := by
          rcases cmpI_cases (q * q) n with ⟨_, e⟩ | ⟨_, e⟩ | ⟨h, e⟩
          · rw [e]; rfl
          · rw [e]; rfl
          · omega
        have hhigh : decide (cmpI ((q + 1) * (q + 1)) n > 0) = true := by rw [cmpI_gt q3]; rfl
        refine Br.yes rfl (Br.yes rfl (Br.yes rfl (Br.yes rfl (Br.yes hlow (Br.yes hhigh (Br.yes rfl ?_))))))
        subst hz
        refine Br.no rfl (Br.yes rfl ?_)
        exact fin_at (v := .bool true) (fun _ _ => rfl)
    · skip
      refine callS_ (by kernel_rfl) (fun l m' s => signS s.okm (x.mono s.le)) ?_
      rintro Mq30 vq30 leq30 e1
      replace x := x.mono leq30
      replace rt := rt.mono leq30
      replace plus := plus.mono leq30
      rw [cmpI_gt (show 0 < n by omega)] at e1; subst e1
      refine Br.no rfl ?_
      refine callS_ (by kernel_rfl) (fun l m' s => cmpS s.okm (rt.mono s.le) (plus.mono s.le)) ?_
      rintro Mq31 vq31 leq31 e1
      replace x := x.mono leq31
      replace rt := rt.mono leq31
      replace plus := plus.mono leq31
      rw [cmpI_eq rfl] at e1; subst e1
      refine callS_ (by kernel_rfl) (fun l m' s => rootS s.okm (x.mono s.le) (show 0 ≤ n by omega)) ?_
      rintro Mq32 vq32 leq32 ⟨bs, ps, ks, cs, q, rfl, q1, q2, q3, sr⟩
      replace x := x.mono leq32
      replace plus := plus.mono leq32
      refine callS_ (by kernel_rfl) (fun l m' s => bitsS s.okm (x.mono s.le)) ?_
      rintro Mq33 vq33 leq33 rfl
      replace x := x.mono leq33
      replace plus := plus.mono leq33
      replace sr := sr.mono leq33
      refine callS_ (by kernel_rfl) (fun l m' s => (fun h => ofS h 1) s.okm ) ?_
      rintro Mq34 vq34 leq34 one
      replace x := x.mono leq34
      replace plus := plus.mono leq34
      replace sr := sr.mono leq34
      obtain ⟨bo, po, ko, co, rfl, one⟩ := one.shape
      have hbl := parsed_blen hpn (by omega)
      refine loop_ (ι := Nat × Bool × Option Addr × Nat × Nat) (fun i => [(3, .v (.bool true)), (4, .lp 0 0), (12, .lp 1 0), (15, .lp 2 0), (18, .lp 3 0), (11, .v (.int .i64 0)), (13, .v (.int .i64 (1))), (14, .v (.int .i64 0)), (16, .v (.int .i64 0)), (17, .v (.int .i64 (blen n))), (19, .v (.int .i64 i.1))])
        (fun i => [⟨some (25, 2), .lit [.v (.bool b1), .v (.slice p1 k1 c1)]⟩, ⟨some (25, 2), .lit [.v (.bool b1), .v (.slice p1 k1 c1)]⟩, ⟨some (25, 2), .lit [.v (.bool bs), .v (.slice ps ks cs)]⟩, ⟨some (25, 2), .lit [.v (.bool i.2.1), .v (.slice i.2.2.1 i.2.2.2.1 i.2.2.2.2)]⟩])
        (fun i M => Mo.Le _ M ∧ i.1 ≤ blen n ∧ IntR M (.agg #[.bool i.2.1, .slice i.2.2.1 i.2.2.2.1 i.2.2.2.2]) (2 ^ i.1)) (fun i => blen n - i.1) (0, bo, po, ko, co) ?_ ⟨.refl _, Nat.zero_le _, one.r⟩ ?_
      · exact Ref.ren [some 0, some 6, some 7, some 8] (by rfl) (by exact ⟨⟨rfl, trivial⟩, ⟨rfl, by simp [AV.ok]⟩, ⟨rfl, by simp [AV.ok]⟩, ⟨rfl, by simp [AV.ok]⟩, ⟨rfl, by simp [AV.ok]⟩, ⟨rfl, trivial⟩, ⟨rfl, trivial⟩, ⟨rfl, trivial⟩, ⟨rfl, trivial⟩, ⟨rfl, trivial⟩, ⟨rfl, trivial⟩, trivial⟩) (by exact ⟨⟨rfl, by simp [Cells.ok, okL, AV.ok]⟩, ⟨rfl, by simp [Cells.ok, okL, AV.ok]⟩, ⟨rfl, by simp [Cells.ok, okL, AV.ok]⟩, ⟨rfl, by simp [Cells.ok, okL, AV.ok]⟩, trivial⟩)
      rintro ⟨i, bw, pw, kw, cw⟩ ML ⟨l1, l2, l3⟩
      simp only at l1 l2 l3
      have sz2 := sz_pow2 i
      have w : IntS ML _ (2 ^ i) 502 := ⟨l3, by omega⟩
      refine Br.mk (fun h1 => ?_) (fun h1 => ?_)
      · have h1 : i < blen n := by have := of_decide_eq_true h1; simp only at this; omega
        refine Br.yes (by simp only [decide_eq_true_eq]; omega) ?_
        refine draw_ [(0, [])] [0, 1, 2] [] [3] [(3, 3)] (by kernel_rfl) rfl rfl ?_
        refine callD_ (by kernel_rfl) (fun l m' s => ofS s.okm 2) ?_
        rintro Ma va lea two
        refine callD_ (by kernel_rfl) (fun l m' s => mulS s.okm (w.mono (lea.trans s.le)) (two.mono s.le)) ?_
        rintro Mb vb leb w2
        obtain ⟨b9, p9, k9, c9, rfl, w2⟩ := w2.shape
        refine ⟨(i + 1, b9, p9, k9, c9), _, Ref.sub (by exact ⟨rfl, rfl, rfl, rfl, rfl, rfl, rfl, rfl, rfl, rfl, some_nrm (wrap_in _ (by omega) (by omega)), trivial⟩), ⟨l1.trans (lea.trans leb), by simp only; omega, ?_⟩, by simp only; omega⟩
        simp only
        rw [Int.pow_succ]; exact w2.r
      · skip
        have h1 : i = blen n := by
          have := of_decide_eq_false h1; simp only at this; omega
        subst h1
        replace x := x.mono l1
        replace plus := plus.mono l1
        replace sr := sr.mono l1
        refine callS_ (by kernel_rfl) (fun l m' s => cmpS s.okm (plus.mono s.le) (w.mono s.le)) ?_
        rintro Mq35 vq35 leq35 e1
        replace x := x.mono leq35
        replace plus := plus.mono leq35
        replace sr := sr.mono leq35
        replace w := w.mono leq35
        rw [cmpI_lt hlt] at e1; subst e1
        refine draw_ [] [0, 3, 1, 2, 4, 5] [] [] [] (by kernel_rfl) rfl rfl ?_
        refine callD_ (by kernel_rfl) (fun l m' s => (fun h => ofS h 2) s.okm ) ?_
        rintro Mq36 vq36 leq36 two
        replace x := x.mono leq36
        replace plus := plus.mono leq36
        replace sr := sr.mono leq36
        replace w := w.mono leq36
        refine callD_ (by kernel_rfl) (fun l m' s => mulS s.okm (plus.mono s.le) (two.mono s.le)) ?_
        rintro Mq37 vq37 leq37 tw
        replace x := x.mono leq37
        replace plus := plus.mono leq37
        replace sr := sr.mono leq37
        replace w := w.mono leq37
        replace two := two.mono leq37
        refine callD_ (by kernel_rfl) (fun l m' s => cmpS s.okm (tw.mono s.le) (w.mono s.le)) ?_
        rintro Mq38 vq38 leq38 rfl
        replace x := x.mono leq38
        replace plus := plus.mono leq38
        replace sr := sr.mono leq38
        replace w := w.mono leq38
        replace two := two.mono leq38
        replace tw := tw.mono leq38
        have hge : ¬ (cmpI ((n.natAbs : Int) * 2) (2 ^ blen n) < 0) := by
          rw [cmpI_neg]
          have h1 := blen_low (show n ≠ 0 by omega)
          have h2 : ((2 ^ (blen n - 1) : Nat) : Int) ≤ (n.natAbs : Int) := by exact_mod_cast h1
          have h3 : (2 : Int) ^ blen n = 2 ^ (blen n - 1) * 2 := by
            rw [← Int.pow_succ]; congr 1
            have : blen n ≠ 0 := by unfold blen; rw [if_neg (by omega)]; omega
            omega
          rw [Int.natCast_pow] at h2
          rw [h3]
          have h2 : (2 : Int) ^ (blen n - 1) ≤ (n.natAbs : Int) := h2
          omega
        refine Br.no rfl ?_
        refine draw_ [(0, [])] [0, 1, 2] [3] [4] [] (by kernel_rfl) rfl rfl ?_
        refine callD_ (by kernel_rfl) (fun l m' s => (fun h => ofS h 1) s.okm ) ?_
        rintro Mq39 vq39 leq39 one1
        replace x := x.mono leq39
        replace sr := sr.mono leq39
        refine callD_ (by kernel_rfl) (fun l m' s => addS s.okm (sr.mono s.le) (one1.mono s.le)) ?_
        rintro Mq40 vq40 leq40 nx
        replace x := x.mono leq40
        replace sr := sr.mono leq40
        replace one1 := one1.mono leq40
        obtain ⟨bn, pn, kn, cn, rfl, nx⟩ := nx.shape
        refine draw_ [] [0, 1, 3, 2, 4, 5] [] [] [] (by kernel_rfl) rfl rfl ?_
        refine callD_ (by kernel_rfl) (fun l m' s => mulS s.okm (sr.mono s.le) (sr.mono s.le)) ?_
        rintro Mq41 vq41 leq41 ss
        replace x := x.mono leq41
        replace sr := sr.mono leq41
        replace nx := nx.mono leq41
        refine callD_ (by kernel_rfl) (fun l m' s => cmpS s.okm (ss.mono s.le) (x.mono s.le)) ?_
        rintro Mq42 vq42 leq42 rfl
        replace x := x.mono leq42
        replace sr := sr.mono leq42
        replace nx := nx.mono leq42
        replace ss := ss.mono leq42
        refine draw_ [] [0, 1, 3, 2, 4, 5] [] [] [] (by kernel_rfl) rfl rfl ?_
        refine callD_ (by kernel_rfl) (fun l m' s => mulS s.okm (nx.mono s.le) (nx.mono s.le)) ?_
        rintro Mq43 vq43 leq43 nn
        replace x := x.mono leq43
        replace sr := sr.mono leq43
        replace nx := nx.mono leq43
        replace ss := ss.mono leq43
        refine callD_ (by kernel_rfl) (fun l m' s => cmpS s.okm (nn.mono s.le) (x.mono s.le)) ?_
        rintro Mq44 vq44 leq44 rfl
        replace x := x.mono leq44
        replace sr := sr.mono leq44
        replace nx := nx.mono leq44
        replace ss := ss.mono leq44
        replace nn := nn.mono leq44
        have hlow : decide (cmpI (q * q) n ≤ 0) = true := by
          rcases cmpI_cases (q * q) n with ⟨_, e⟩ | ⟨_, e⟩ | ⟨h, e⟩
          · rw [e]; rfl
          · rw [e]; rfl
          · omega
        have hhigh : decide (cmpI ((q + 1) * (q + 1)) n > 0) = true := by rw [cmpI_gt q3]; rfl
        refine Br.yes rfl (Br.yes rfl (Br.yes rfl (Br.yes rfl (Br.yes hlow (Br.yes hhigh (Br.yes rfl (Br.yes (decide_eq_true (by omega)) ?_)))))))
        exact fin_at (v := .bool true) (fun _ _ => rfl)
end Go.Proofs.Ytdkamjbcpmlheaa
