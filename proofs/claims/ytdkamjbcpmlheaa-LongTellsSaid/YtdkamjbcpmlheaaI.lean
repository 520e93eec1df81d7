/- The document's products, quotients, roots; the laws that hold both against one another. -/
import Derived.Test.YtdkamjbcpmlheaaF
import Derived.Test.YtdkamjbcpmlheaaH
set_option linter.unusedVariables false
set_option linter.unusedSimpArgs false
/- The document's whole numbers: products. -/
namespace Go.Proofs.Ytdkamjbcpmlheaa
open Go Go.Gw Go.Lg
set_option pp.deepTerms false
set_option pp.deepTerms.threshold 6
set_option pp.maxSteps 3000

theorem rdigit_step {V V' o x y r s T Bi Bk : Int} (hs : s = r + o + x * y) (hV : V' = V + Bi * Bk * (s % 10 - r)) (h : V + Bi * Bk * o = T) : V' + Bi * (Bk * 10) * (s / 10) = T + x * (Bk * y) * Bi := by
  have e := Int.mul_ediv_add_emod s 10
  rw [hV, ← h]
  have h1 : Bi * (Bk * 10) * (s / 10) = Bi * Bk * (10 * (s / 10)) := by simp only [Int.mul_assoc]
  have h2 : x * (Bk * y) * Bi = Bi * Bk * (x * y) := by
    rw [Int.mul_comm (x * (Bk * y)), Int.mul_assoc Bi, ← Int.mul_assoc x, Int.mul_comm x Bk, Int.mul_assoc Bk]
  have h3 : s % 10 = r + o + x * y - 10 * (s / 10) := by omega
  rw [h1, h2, h3]
  generalize Bi * Bk = P
  simp only [Int.mul_sub, Int.mul_add]
  omega
theorem rsmall_mul {a b : Int} (ha : 0 ≤ a ∧ a < 10) (hb : 0 ≤ b ∧ b < 10) : 0 ≤ a * b ∧ a * b ≤ 81 := by
  have h1 : a * b ≤ 9 * 9 := Int.mul_le_mul (by omega) (by omega) hb.1 (by decide)
  exact ⟨Int.mul_nonneg ha.1 hb.1, by omega⟩


set_option maxRecDepth 20000 in
set_option maxHeartbeats 1000000 in
theorem rmul_calls (n k : Int) (va vb : Value) (m : Mo) (hm : m.okm) (ha : RefR m va n) (hb : RefR m vb k) (hs : sz n ≤ 10000000) (ht : sz k ≤ 10000000) :
    Calls Try.prog 26 #[va, vb] m.w (Post m fun m v => RefR m v (n * k)) := by
  obtain ⟨vr, rfl, a, ca, rfl, hca, hsa, hra⟩ := ha
  obtain ⟨vs, rfl, a', cb, rfl, hcb, hsb, hrb⟩ := hb
  have hx := digs_sz n
  have hy := digs_sz k
  have ox := digs_ok n.natAbs
  have oy := digs_ok k.natAbs
  have ex := val_digs n.natAbs
  have ey := val_digs k.natAbs
  generalize hxs : digs n.natAbs = xs at *
  generalize hys : digs k.natAbs = ys at *
  refine enter2_ Try.f26 _ 79 [a, a'] [⟨none, .ints .i64 xs⟩, ⟨none, .ints .i64 ys⟩] [.agg [.v (.bool (decide (n < 0))), .ls 0 0 xs.length ca], .agg [.v (.bool (decide (k < 0))), .ls 1 0 ys.length cb]] (by kernel_rfl) rfl (by kernel_rfl) hm rfl (by simp [okL, AV.ok]) ⟨⟨rfl, hsa, trivial, hra⟩, ⟨rfl, hsb, trivial, hrb⟩, trivial⟩ ?_
  have w1 : IntKind.i64.wrap (IntKind.i64.wrap ((xs.length : Int) + ys.length) + 1) = ((xs.length + ys.length + 1 : Nat) : Int) := by rw [wrap_in ((xs.length : Int) + ys.length) (by omega) (by omega), wrap_in _ (by omega) (by omega)]; omega
  refine mk_ (e := 3) .i64 (xs.length + ys.length + 1) (by kernel_rfl) (by kernel_rfl) w1 (by omega) ?_
  refine loop_ (ι := Nat × List Int) (fun i => [(6, .v (.int .i64 i.1)), (5, .ls 5 0 (xs.length + ys.length + 1) (xs.length + ys.length + 1)), (2, .lp 2 0), (3, .lp 3 0), (4, .lp 4 0)])
    (fun i => [⟨none, .ints .i64 xs⟩, ⟨none, .ints .i64 ys⟩, ⟨some (31, 2), .lit [.v (.bool (decide (n < 0))), .ls 0 0 xs.length ca]⟩, ⟨some (31, 2), .lit [.v (.bool (decide (k < 0))), .ls 1 0 ys.length cb]⟩, ⟨some (31, 2), .lit [.v (.bool false), .v (.slice none 0 0)]⟩, ⟨some (3, xs.length + ys.length + 1), .ints .i64 i.2⟩])
    (fun i _ => i.2.length = xs.length + ys.length + 1 ∧ i.1 ≤ xs.length ∧ okd 10 i.2 ∧ (∀ j, i.1 + ys.length ≤ j → i.2.getD j 0 = 0) ∧ val 10 i.2 = val 10 (xs.take i.1) * val 10 ys) (fun i => xs.length - i.1) (0, List.replicate (xs.length + ys.length + 1) 0) (M0 := m) ?_ ?_ ?_
  · exact Ref.sub (by exact ⟨rfl, rfl, rfl, rfl, rfl, trivial⟩)
  · have hz : ∀ j, (List.replicate (xs.length + ys.length + 1) (0 : Int)).getD j 0 = 0 := fun j => by
      simp only [List.getD, List.getElem?_replicate]; split <;> rfl
    exact ⟨by simp, Nat.zero_le _, okd.zeros B10_pos _, fun j _ => hz j, by simp [val, val_zeros]⟩
  rintro ⟨i, out⟩ M1 ⟨h1, h2, h3, h4, h5⟩
  simp only at h1 h2 h3 h4 h5
  refine Br.mk (fun hb => ?_) (fun hb => ?_)
  · have hi : i < xs.length := by have := of_decide_eq_true hb; simp only at this; omega
    have rx := ox.getD B10_pos i
    refine loop_ (ι := Nat × List Int × Int) (fun q => [(8, .v (.int .i64 q.1)), (7, .v (.int .i64 q.2.2)), (6, .v (.int .i64 i)), (5, .ls 5 0 (xs.length + ys.length + 1) (xs.length + ys.length + 1)), (2, .lp 2 0), (3, .lp 3 0), (4, .lp 4 0)])
      (fun q => [⟨none, .ints .i64 xs⟩, ⟨none, .ints .i64 ys⟩, ⟨some (31, 2), .lit [.v (.bool (decide (n < 0))), .ls 0 0 xs.length ca]⟩, ⟨some (31, 2), .lit [.v (.bool (decide (k < 0))), .ls 1 0 ys.length cb]⟩, ⟨some (31, 2), .lit [.v (.bool false), .v (.slice none 0 0)]⟩, ⟨some (3, xs.length + ys.length + 1), .ints .i64 q.2.1⟩])
      (fun q _ => q.2.1.length = xs.length + ys.length + 1 ∧ (q.1 ≤ ys.length ∨ (q.1 = ys.length + 1 ∧ q.2.2 = 0)) ∧ okd 10 q.2.1 ∧ (∀ j, i + max ys.length q.1 ≤ j → q.2.1.getD j 0 = 0) ∧ (0 ≤ q.2.2 ∧ q.2.2 < 10) ∧ val 10 q.2.1 + 10 ^ i * 10 ^ q.1 * q.2.2 = val 10 out + xs.getD i 0 * val 10 (ys.take q.1) * 10 ^ i) (fun q => ys.length + 1 - q.1) (0, out, 0) (M0 := M1) ?_ ?_ ?_
    · exact Ref.sub (by exact ⟨rfl, rfl, rfl, rfl, rfl, rfl, rfl, trivial⟩)
    · exact ⟨h1, by simp, h3, fun j hj => h4 j (by simp only at hj; omega), by simp, by simp [val]⟩
    rintro ⟨k, o, u⟩ M2 ⟨g1, g2, g3, g4, g5, g6⟩
    simp only at g1 g2 g3 g4 g5 g6
    have ry := oy.getD B10_pos k
    have rr := g3.getD B10_pos (i + k)
    have rm := rsmall_mul rx ry
    obtain ⟨s, hs⟩ : ∃ s, s = o.getD (i + k) 0 + u + xs.getD i 0 * ys.getD k 0 := ⟨_, rfl⟩
    by_cases hk : k < ys.length
    · have w2 : IntKind.i64.wrap ((i : Int) + k) = ((i + k : Nat) : Int) := by rw [wrap_in _ (by omega) (by omega)]; omega
      have t2 : (IntKind.i64.wrap ((i : Int) + k)).toNat = i + k := by rw [w2]; rfl
      refine Br.yes (decide_eq_true (by simp only; omega)) ?_
      refine ix_ (by rw [w2]; omega) (by rw [t2]; show i + k < o.length; omega) ?_
      refine Br.yes (decide_eq_true (by simp only; omega)) ?_
      refine draw_ [] [0, 1, 2, 3, 4, 5, 6, 7, 8, 9, 10, 11, 12, 13] [] [] [] (by kernel_rfl) rfl rfl ?_
      refine ix_ ⟨by omega, by omega⟩ (by show (i : Int).toNat < xs.length; omega) ?_
      refine ix_ ⟨by omega, by omega⟩ (by show (k : Int).toNat < ys.length; omega) ?_
      have hS : IntKind.i64.wrap (IntKind.i64.wrap (o.getD (IntKind.i64.wrap ((i : Int) + k)).toNat 0 + u) + IntKind.i64.wrap (xs.getD (Int.toNat i) 0 * ys.getD (Int.toNat k) 0)) = s := by rw [t2, Int.toNat_natCast, Int.toNat_natCast, wrap_in (o.getD _ _ + u) (by omega) (by omega), wrap_in (xs.getD i 0 * _) (by omega) (by omega), wrap_in _ (by omega) (by omega), hs]
      have ow : IntKind.i64.wrap (s.tdiv 10) = s / 10 := by rw [Int.tdiv_eq_ediv_of_nonneg (by omega), wrap_in _ (by omega) (by omega)]
      refine And.intro (by decide) ?_
      refine And.intro (by rw [w2]; omega) (And.intro (by rw [t2]; show i + k < o.length; omega) (And.intro (by rw [t2]; show i + k < o.length; omega) ?_))
      refine And.intro (by decide) ?_
      refine ⟨(k + 1, o.set (i + k) (s % 10), s / 10), M2, Ref.subS (by exact ⟨some_nrm (wrap_in _ (by omega) (by omega)), some_nrm (by rw [hS]; exact ow), rfl, rfl, rfl, rfl, rfl, trivial⟩) ?_, ⟨by simpa using g1, by simp only; omega, okd_set g3 _ ⟨by omega, by omega⟩, ?_, ⟨by simp only; omega, by simp only; omega⟩, ?_⟩, by simp only; omega⟩
      · have hS' := hS
        simp only [t2, Int.toNat_natCast] at hS'
        simp only [t2, Int.toNat_natCast, hS']
        rw [Int.tmod_eq_emod_of_nonneg (a := s) (by omega)]
      · intro j hj
        simp only at hj ⊢
        rw [getD_set_ne _ _ _ _ (by omega)]; exact g4 j (by omega)
      · simp only
        have e1 := val_set 10 o (i + k) (s % 10) (by omega)
        rw [Int.pow_add] at e1
        have e2 := rdigit_step (x := xs.getD i 0) (y := ys.getD k 0) (r := o.getD (i + k) 0) (o := u) hs e1 g6
        rw [Int.pow_succ, e2, val_take, Int.mul_add, Int.add_mul]
        omega
    · have e0 := getD_beyond (show ys.length ≤ k by omega)
      refine Br.no (decide_eq_false (by simp only; omega)) ?_
      by_cases hu : 0 < u
      · have w2 : IntKind.i64.wrap ((i : Int) + k) = ((i + k : Nat) : Int) := by rw [wrap_in _ (by omega) (by omega)]; omega
        have t2 : (IntKind.i64.wrap ((i : Int) + k)).toNat = i + k := by rw [w2]; rfl
        have ez := g4 (i + k) (by omega)
        refine Br.yes (decide_eq_true (by simp only; omega)) ?_
        refine ix_ (by rw [w2]; omega) (by rw [t2]; show i + k < o.length; omega) ?_
        refine Br.no (decide_eq_false (by simp only; omega)) ?_
        rw [e0, Int.mul_zero, ez] at hs
        have hs0 : s = o.getD (i + k) 0 + u + xs.getD i 0 * ys.getD k 0 := by rw [e0, Int.mul_zero, ez]; exact hs
        clear rm
        revert hs
        intro hs'
        have hs := hs0
        have hS : IntKind.i64.wrap (o.getD (IntKind.i64.wrap ((i : Int) + k)).toNat 0 + u) = s := by rw [t2, wrap_in _ (by omega) (by omega), ez]; omega
        have ow : IntKind.i64.wrap (s.tdiv 10) = s / 10 := by rw [Int.tdiv_eq_ediv_of_nonneg (by omega), wrap_in _ (by omega) (by omega)]
        refine And.intro (by decide) ?_
        refine And.intro (by rw [w2]; omega) (And.intro (by rw [t2]; show i + k < o.length; omega) (And.intro (by rw [t2]; show i + k < o.length; omega) ?_))
        refine And.intro (by decide) ?_
        refine ⟨(k + 1, o.set (i + k) (s % 10), s / 10), M2, Ref.subS (by exact ⟨some_nrm (wrap_in _ (by omega) (by omega)), some_nrm (by rw [hS]; exact ow), rfl, rfl, rfl, rfl, rfl, trivial⟩) ?_, ⟨by simpa using g1, by simp only; omega, okd_set g3 _ ⟨by omega, by omega⟩, ?_, ⟨by simp only; omega, by simp only; omega⟩, ?_⟩, by simp only; omega⟩
        · have hS' := hS
          simp only [t2, Int.toNat_natCast] at hS'
          simp only [t2, Int.toNat_natCast, hS']
          rw [Int.tmod_eq_emod_of_nonneg (a := s) (by omega)]
        · intro j hj
          simp only at hj ⊢
          rw [getD_set_ne _ _ _ _ (by omega)]; exact g4 j (by omega)
        · simp only
          have e1 := val_set 10 o (i + k) (s % 10) (by omega)
          rw [Int.pow_add] at e1
          have e2 := rdigit_step (x := xs.getD i 0) (y := ys.getD k 0) (r := o.getD (i + k) 0) (o := u) hs e1 g6
          rw [Int.pow_succ, e2, val_take, Int.mul_add, Int.add_mul]
          omega
      · refine Br.no (decide_eq_false (by simp only; omega)) ?_
        have hu0 : u = 0 := by omega
        subst hu0
        rw [List.take_of_length_le (by omega), Int.mul_zero, Int.add_zero] at g6
        refine ⟨(i + 1, o), M2, Ref.sub (by exact ⟨some_nrm (wrap_in _ (by omega) (by omega)), rfl, rfl, rfl, rfl, trivial⟩), ⟨g1, by simp only; omega, g3, fun j hj => g4 j (by simp only at hj; omega), ?_⟩, by simp only; omega⟩
        simp only
        rw [g6, h5, val_take, Int.add_mul, Int.mul_assoc, Int.mul_comm (val 10 ys), ← Int.mul_assoc, Int.mul_comm (xs.getD i 0)]
  · have hi : i = xs.length := by have := of_decide_eq_false hb; simp only at this; omega
    subst hi
    rw [List.take_of_length_le (Nat.le_refl _)] at h5
    refine CallK.pub 5 fun M3 le3 => ?_
    refine callS_ (by kernel_rfl) (fun l m' s => rmade_ref (decide (n < 0) != decide (k < 0)) out _ m' s.okm (h1 ▸ s.ints0 (id := 5) (xs := out) rfl (by omega)) h3 (by omega)) ?_
    rintro M1 v le1 r1
    obtain ⟨p', c', rfl, r1⟩ := r1.shape
    refine fin_ref r1 ?_
    rw [h5, ex, ey]
    have hn : n = sg (decide (n < 0)) n.natAbs := by unfold sg; split <;> rename_i h <;> simp at h <;> omega
    have hk : k = sg (decide (k < 0)) k.natAbs := by unfold sg; split <;> rename_i h <;> simp at h <;> omega
    conv => rhs; rw [hn, hk]
    by_cases c1 : n < 0 <;> by_cases c2 : k < 0 <;> simp [sg, c1, c2, Int.neg_mul, Int.mul_neg]
end Go.Proofs.Ytdkamjbcpmlheaa

/- The document's whole numbers: small ones; quotients. -/
namespace Go.Proofs.Ytdkamjbcpmlheaa
open Go Go.Gw Go.Lg
set_option pp.deepTerms false
set_option pp.deepTerms.threshold 6
set_option pp.maxSteps 3000

theorem tmod_abs (n c : Int) (hc : 0 < c) : (n.tmod c).natAbs = n.natAbs % c.natAbs := by rw [Int.natAbs_tmod]
theorem tdiv_abs (n c : Int) (hc : 0 < c) : (n.tdiv c).natAbs = n.natAbs / c.natAbs := by rw [Int.natAbs_tdiv]; rfl


set_option maxRecDepth 10000 in
theorem rof_calls (n : Int) (m : Mo) (hm : m.okm) (h : -9223372036854775808 ≤ n) (h' : n ≤ 9223372036854775807) :
    Calls Try.prog 51 #[.int .i64 n] m.w (Post m fun m v => RefR m v n) := by
  refine enter_ Try.f51 _ 25 (args := [.int .i64 n]) (by kernel_rfl) rfl (by kernel_rfl) hm ?_
  have hlN : (digs n.natAbs).length ≤ 100 := by
    have h1 := digs_sz n
    have h2 := sz_i64 h h'
    omega
  refine LoopK.nil 3 3 .i64 rfl ?_
  refine loop_ (ι := Int × List Int × Nat) (fun i => [(0, .v (.int .i64 i.1)), (2, .lp 0 0), (3, .ls 1 0 i.2.1.length i.2.2), (4, .v (.bool (decide (n < 0))))])
    (fun i => [⟨some (31, 2), .lit [.v (.bool false), .v (.slice none 0 0)]⟩, ⟨some (3, i.2.2), .ints .i64 i.2.1⟩])
    (fun i _ => (-9223372036854775808 ≤ i.1 ∧ i.1 ≤ 9223372036854775807) ∧ i.2.1 ++ digs i.1.natAbs = digs n.natAbs ∧ i.2.1.length ≤ i.2.2) (fun i => i.1.natAbs) (n, [], 0) (M0 := m) ?_ ?_ ?_
  · exact Ref.sub (by exact ⟨rfl, rfl, rfl, rfl, trivial⟩)
  · exact ⟨⟨h, h'⟩, rfl, Nat.le_refl _⟩
  rintro ⟨k, out, cp⟩ M1 ⟨h1, h2, h3⟩
  simp only at h1 h2 h3
  have lo : out.length ≤ 100 := by
    have := congrArg List.length h2
    simp at this; omega
  have am := tmod_abs k 10 (by decide)
  have ad := tdiv_abs k 10 (by decide)
  rw [show (10 : Int).natAbs = 10 from rfl] at am ad
  refine Br.mk (fun hb => ?_) (fun hb => ?_)
  · have hk0 : k.natAbs ≠ 0 := by
      have : k ≠ 0 := by simpa using hb
      omega
    have wd : IntKind.i64.wrap (k.tdiv 10) = k.tdiv 10 := wrap_in _ (by omega) (by omega)
    refine And.intro (by decide) ?_
    refine Br.mk (fun hc => ?_) (fun hc => ?_)
    · have hc0 : k.tmod 10 < 0 := of_decide_eq_true hc
      have hc : IntKind.i64.wrap (0 - k.tmod 10) = ((k.natAbs % 10 : Nat) : Int) := by rw [wrap_in _ (by omega) (by omega)]; omega
      refine app_ .i64 (xs := out) (news := [IntKind.i64.wrap (0 - k.tmod 10)]) rfl (fun _ => rfl) rfl (by kernel_rfl) (by kernel_rfl) (rd_lit (e' := 3) (by kernel_rfl) rfl (fun _ => rfl) rfl) (by simp; omega) fun cap' hcap => ?_
      refine And.intro (by decide) ?_
      refine ⟨(k.tdiv 10, out ++ [((k.natAbs % 10 : Nat) : Int)], cap'), M1, Ref.ren [some 0, some 3] (by rfl) (by exact ⟨⟨some_nrm wd, trivial⟩, ⟨rfl, by simp [AV.ok]⟩, ⟨by simp only [List.length_append]; rfl, by simp [AV.ok]⟩, ⟨rfl, trivial⟩, trivial⟩) (by exact ⟨⟨rfl, by simp [Cells.ok, okL, AV.ok]⟩, ⟨by rw [hc]; rfl, trivial⟩, trivial⟩), ⟨by simp only; omega, by simp only [ad]; rw [← h2, digs_pos hk0, List.append_assoc]; rfl, by simpa using hcap⟩, by simp only [ad]; omega⟩
    · have hc0 : ¬ k.tmod 10 < 0 := of_decide_eq_false hc
      have hc : k.tmod 10 = ((k.natAbs % 10 : Nat) : Int) := by omega
      refine app_ .i64 (xs := out) (news := [k.tmod 10]) rfl (fun _ => rfl) rfl (by kernel_rfl) (by kernel_rfl) (rd_lit (e' := 3) (by kernel_rfl) rfl (fun _ => rfl) rfl) (by simp; omega) fun cap' hcap => ?_
      refine And.intro (by decide) ?_
      refine ⟨(k.tdiv 10, out ++ [((k.natAbs % 10 : Nat) : Int)], cap'), M1, Ref.ren [some 0, some 3] (by rfl) (by exact ⟨⟨some_nrm wd, trivial⟩, ⟨rfl, by simp [AV.ok]⟩, ⟨by simp only [List.length_append]; rfl, by simp [AV.ok]⟩, ⟨rfl, trivial⟩, trivial⟩) (by exact ⟨⟨rfl, by simp [Cells.ok, okL, AV.ok]⟩, ⟨by rw [hc]; rfl, trivial⟩, trivial⟩), ⟨by simp only; omega, by simp only [ad]; rw [← h2, digs_pos hk0, List.append_assoc]; rfl, by simpa using hcap⟩, by simp only [ad]; omega⟩
  · have hk0 : k = 0 := by simpa using hb
    subst hk0
    have e : out = digs n.natAbs := by simpa [digs_zero] using h2
    refine CallK.pub 1 fun M2 le2 => ?_
    refine callS_ (by kernel_rfl) (fun l m' s => rmade_ref (decide (n < 0)) out _ m' s.okm (s.ints0 (id := 1) (xs := out) rfl h3) (e ▸ digs_ok _) (by omega)) ?_
    rintro M3 v3 le3 r3
    obtain ⟨p', c', rfl, r3⟩ := r3.shape
    refine fin_ref r3 ?_
    rw [e, val_digs]
    by_cases c : n < 0 <;> simp [sg, c] <;> omega

theorem ints_shape {m : Mo} {v : Value} {kd : IntKind} {xs : List Int} (h : m.ints v kd xs) : ∃ p c, v = .slice p xs.length c ∧ m.ints (.slice p xs.length c) kd xs :=
  let ⟨a, c, h1, h2⟩ := h; ⟨Base.up a 0, c, h1, a, c, rfl, h2⟩
theorem set_same {xs : List Int} {i : Nat} {v : Int} (h : xs.getD i 0 = v) (hi : i < xs.length) : xs.set i v = xs := by
  subst h
  apply List.ext_getElem (by simp)
  intro k h1 h2
  rw [List.getElem_set]
  split
  · rename_i e; subst e; simp [List.getD, h2]
  · rfl

/-- What a division of digits gives. -/
def RPartR (xs bs : List Int) (m : Mo) (v : Value) : Prop :=
  ∃ vq vr qs R, v = .tuple #[vq, vr] ∧ m.ints vq .i64 qs ∧ okd 10 qs ∧ qs.length = xs.length ∧ m.ints vr .i64 (digs R) ∧ val 10 xs = val 10 qs * val 10 bs + R ∧ (R : Int) < val 10 bs

set_option maxRecDepth 10000 in
theorem rparted_calls (xs bs : List Int) (va vb : Value) (m : Mo) (hm : m.okm) (ha : m.ints va .i64 xs) (hb : m.ints vb .i64 bs) (ox : okd 10 xs) (ob : okd 10 bs) (nb : nrmd bs) (hbs : 0 < val 10 bs) (hx : xs.length ≤ 100000000) (hy : bs.length ≤ 100000000) :
    Calls Try.prog 50 #[va, vb] m.w (Post m (RPartR xs bs)) := by
  have hb0 := hb
  obtain ⟨a, ca, rfl, hca, hsa, hra⟩ := ha
  obtain ⟨b, cb, rfl, hcb, hsb, hrb⟩ := hb
  refine enter2_ Try.f50 _ 45 [a] [⟨none, .ints .i64 xs⟩] [.ls 0 0 xs.length ca, .v (.slice (Base.up b 0) bs.length cb)] (by kernel_rfl) rfl (by kernel_rfl) hm rfl (by simp [okL, AV.ok]) ⟨⟨rfl, hsa, trivial, hra⟩, trivial⟩ ?_
  refine mk_ (e := 3) .i64 xs.length (by kernel_rfl) (by kernel_rfl) rfl (by omega) ?_
  refine loop_ (ι := Nat × List Int × Nat × (Option Addr × Nat × Nat)) (fun i => [(0, .ls 0 0 xs.length ca), (1, .v (.slice (Base.up b 0) bs.length cb)), (6, .ls 1 0 xs.length xs.length), (7, .v (.slice i.2.2.2.1 i.2.2.2.2.1 i.2.2.2.2.2)), (8, .v (.int .i64 ((i.1 : Int) - 1)))])
    (fun i => [⟨none, .ints .i64 xs⟩, ⟨some (3, xs.length), .ints .i64 i.2.1⟩])
    (fun i M => m.Le M ∧ i.1 ≤ xs.length ∧ i.2.1.length = xs.length ∧ okd 10 i.2.1 ∧ (∀ j, j < i.1 → i.2.1.getD j 0 = 0) ∧ M.ints (.slice i.2.2.2.1 i.2.2.2.2.1 i.2.2.2.2.2) .i64 (digs i.2.2.1) ∧ (i.2.2.1 : Int) < val 10 bs ∧ val 10 (xs.drop i.1) = val 10 (i.2.1.drop i.1) * val 10 bs + i.2.2.1) (fun i => i.1) (xs.length, List.replicate xs.length 0, 0, (none, 0, 0)) (M0 := m) ?_ ?_ ?_
  · exact Ref.sub (by exact ⟨rfl, rfl, rfl, rfl, some_nrm (by rw [wrap_in _ (by omega) (by omega)]), trivial⟩)
  · have hz : ∀ j, (List.replicate xs.length (0 : Int)).getD j 0 = 0 := fun j => by
      simp only [List.getD, List.getElem?_replicate]; split <;> rfl
    exact ⟨.refl m, Nat.le_refl _, by simp, okd.zeros B10_pos _, fun j _ => hz j, Mo.ints_nil _ _, hbs, by simp only; rw [List.drop_of_length_le (Nat.le_refl _), List.drop_of_length_le (by simp)]; simp [val]⟩
  rintro ⟨k, q, R, p, kl, c⟩ M1 ⟨h0, h1, h2, h3, h4, h5, h6, h7⟩
  simp only at h0 h1 h2 h3 h4 h5 h6 h7
  refine Br.mk (fun hb => ?_) (fun hb => ?_)
  · have hk : 1 ≤ k := by have := of_decide_eq_true hb; simp only at this; omega
    obtain ⟨i, rfl⟩ : ∃ i, k = i + 1 := ⟨k - 1, by omega⟩
    have ei : (((i + 1 : Nat) : Int) - 1) = (i : Int) := by omega
    have ti : (((i + 1 : Nat) : Int) - 1).toNat = i := by omega
    have rx := ox.getD B10_pos i
    have hlR : (digs R).length ≤ 100000000 := by
      have e1 := val_digs R
      have := nrmd_len (by decide) (digs_ok R) (digs_nrmd R) (n := bs.length) (by rw [e1]; have := val_lt B10_pos ob; omega)
      omega
    refine ix_ (by rw [ei]; omega) (by rw [ti]; show i < xs.length; omega) ?_
    refine app_ .i64 (xs := [xs.getD (((i + 1 : Nat) : Int) - 1).toNat 0]) (news := digs R) rfl (fun _ => rfl) rfl (by kernel_rfl) (by kernel_rfl) (rd_op (e' := 3) (by kernel_rfl) h5) (by simp; omega) fun cap' hcap => ?_
    refine CallK.pub 3 fun M2 le2 => ?_
    have okc : okd 10 ([xs.getD (((i + 1 : Nat) : Int) - 1).toNat 0] ++ digs R) := by
      rw [ti]; exact ((okd.nil _).cons rx).append (digs_ok R)
    refine callS_ (by kernel_rfl) (fun l m' s => rmade_ref false ([xs.getD (((i + 1 : Nat) : Int) - 1).toNat 0] ++ digs R) _ m' s.okm ?_ okc (by simp; omega)) ?_
    · have g := s.ints0 (id := 3) (kd := .i64) (xs := [xs.getD (((i + 1 : Nat) : Int) - 1).toNat 0] ++ digs R) rfl (c := cap') (by rw [List.length_append]; exact hcap)
      rw [List.length_append] at g
      exact g
    rintro M3 v3 le3 r3
    obtain ⟨v7, rfl, r3⟩ := r3
    have er : val 10 ([xs.getD (((i + 1 : Nat) : Int) - 1).toNat 0] ++ digs R) = xs.getD i 0 + 10 * R := by
      rw [ti]; show xs.getD i 0 + 10 * val 10 (digs R) = _; rw [val_digs]
    rw [er] at r3
    have ea : (sg false (xs.getD i 0 + 10 * R)).natAbs = (xs.getD i 0 + 10 * R).toNat := by show (xs.getD i 0 + 10 * (R : Int)).natAbs = _; omega
    rw [ea] at r3
    obtain ⟨a7, c7, rfl, r3⟩ := ints_shape r3
    have hq0 := h4 i (by omega)
    have hxd := val_drop 10 xs i (by omega)
    refine loop_ (ι := Nat × Nat × (Option Addr × Nat × Nat)) (fun j => [(0, .ls 0 0 xs.length ca), (1, .v (.slice (Base.up b 0) bs.length cb)), (6, .ls 1 0 xs.length xs.length), (7, .v (.slice j.2.2.1 j.2.2.2.1 j.2.2.2.2)), (8, .v (.int .i64 i))])
      (fun j => [⟨none, .ints .i64 xs⟩, ⟨some (3, xs.length), .ints .i64 (q.set i j.1)⟩])
      (fun j M => m.Le M ∧ M.ints (.slice j.2.2.1 j.2.2.2.1 j.2.2.2.2) .i64 (digs j.2.1) ∧ xs.getD i 0 + 10 * R = j.1 * val 10 bs + j.2.1) (fun j => j.2.1) (0, (xs.getD i 0 + 10 * R).toNat, (a7, (digs (xs.getD i 0 + 10 * R).toNat).length, c7)) (M0 := M3) ?_ ?_ ?_
    · refine Ref.ren [some 0, some 1] (by rfl) (by exact ⟨⟨rfl, by simp [AV.ok]⟩, ⟨rfl, trivial⟩, ⟨rfl, by simp [AV.ok]⟩, ⟨rfl, trivial⟩, ⟨some_nrm ei, trivial⟩, trivial⟩) (by exact ⟨⟨rfl, trivial⟩, ⟨congrArg (fun z => some (Ob.mk _ (.ints .i64 z))) (set_same hq0 (by omega)).symm, trivial⟩, trivial⟩)
    · exact ⟨h0.trans (le2.trans le3), r3, by simp only; omega⟩
    rintro ⟨cc, r, pp, kk, c8⟩ M4 ⟨f1, f2, f3⟩
    simp only at f1 f2 f3
    have hcc : cc < 10 := by
      by_cases h : cc < 10
      · exact h
      · exfalso
        have h1 : 10 * val 10 bs ≤ cc * val 10 bs := Int.mul_le_mul_of_nonneg_right (by omega) (by omega)
        omega
    have hlr : (digs r).length ≤ 200000000 := by
      have e1 := val_digs r
      have h8 : (cc : Int) * val 10 bs ≥ 0 := Int.mul_nonneg (by omega) (by omega)
      have := nrmd_len (by decide) (digs_ok r) (digs_nrmd r) (n := bs.length + 1) (by rw [e1, Int.pow_succ]; have := val_lt B10_pos ob; omega)
      omega
    refine callS_ (by kernel_rfl) (fun l m' s => rsize_calls (digs r) bs _ _ m' s.okm (f2.mono s.le) (hb0.mono (f1.trans s.le)) (digs_ok r) ob (digs_nrmd r) nb (by omega)) ?_
    rintro M5 v5 le5 rfl
    rw [val_digs]
    refine Br.mk (fun hb => ?_) (fun hb => ?_)
    · have hb : val 10 bs ≤ r := by
        have := cmpI_neg r (val 10 bs)
        have := of_decide_eq_true hb
        omega
      refine callS_ (by kernel_rfl) (fun l m' s => (rless_calls (digs r) bs _ _ m' s.okm (f2.mono (le5.trans s.le)) (hb0.mono (f1.trans (le5.trans s.le))) (digs_ok r) ob ?_ (by rw [val_digs]; exact hb) (by omega)).mono fun _ _ h => h.post s.okm) ?_
      · by_cases h : bs.length ≤ (digs r).length
        · exact h
        · have := val_lt_len B10_pos (digs_ok r) ob nb (by omega); rw [val_digs] at this; omega
      rintro M6 v6 le6 ⟨zs, ⟨z1, z2, z3⟩, hz⟩
      refine callS_ (by kernel_rfl) (fun l m' s => rmade_ref false zs _ m' s.okm (hz.mono s.le) z2 (by omega)) ?_
      rintro M7 v7 le7 ⟨v8, rfl, r8⟩
      rw [z3, val_digs, show (sg false ((r : Int) - val 10 bs)).natAbs = ((r : Int) - val 10 bs).toNat by show ((r : Int) - val 10 bs).natAbs = _; omega] at r8
      obtain ⟨a9, c9, rfl, r8⟩ := ints_shape r8
      have hg : (q.set i cc).getD i 0 = cc := by rw [set_getD _ _ _ _ (by omega), if_pos rfl]
      refine ix_ ⟨by omega, by omega⟩ (by show (i : Int).toNat < (q.set i _).length; simp; omega) ?_
      refine And.intro ⟨by omega, by omega⟩ (And.intro (by show (i : Int).toNat < (q.set i _).length; simp; omega) (And.intro (by show (i : Int).toNat < (q.set i _).length; simp; omega) ?_))
      refine ⟨(cc + 1, ((r : Int) - val 10 bs).toNat, (a9, (digs ((r : Int) - val 10 bs).toNat).length, c9)), M7, Ref.subS (by exact ⟨rfl, rfl, rfl, rfl, rfl, trivial⟩) ?_, ⟨f1.trans (le5.trans (le6.trans le7)), r8, ?_⟩, by simp only; omega⟩
      · simp only [Int.toNat_natCast, hg, List.set_set]
        rw [wrap_in _ (by omega) (by omega)]
        rfl
      · simp only
        rw [Int.natCast_succ, Int.add_mul]
        omega
    · have hb : r < val 10 bs := by
        have := cmpI_neg r (val 10 bs)
        have := of_decide_eq_false hb
        omega
      refine ⟨(i, q.set i cc, r, (pp, kk, c8)), M5, Ref.sub (by exact ⟨rfl, rfl, rfl, rfl, some_nrm (wrap_in _ (by omega) (by omega)), trivial⟩), ⟨f1.trans le5, by simp only; omega, by simpa using h2, okd_set h3 _ ⟨by omega, by omega⟩, fun j hj => ?_, f2.mono le5, hb, ?_⟩, by simp only; omega⟩
      · simp only at hj ⊢
        rw [getD_set_ne _ _ _ _ (by omega)]; exact h4 j (by omega)
      · simp only
        rw [hxd, h7, set_drop _ _ _ (by omega), val, Int.add_mul]
        have e9 : 10 * (val 10 (q.drop (i + 1)) * val 10 bs + R) = 10 * val 10 (q.drop (i + 1)) * val 10 bs + 10 * R := by rw [Int.mul_add, Int.mul_assoc]
        omega
  · have hk : k = 0 := by have := of_decide_eq_false hb; simp only at this; omega
    subst hk
    refine FinK.pub 1 fun M10 le10 => ?_
    refine fin_see rfl fun l m' s hL => ?_
    rw [List.drop_zero, List.drop_zero] at h7
    have e2 := s.ints0 (id := 1) (kd := .i64) (xs := q) rfl (Nat.le_refl _)
    rw [h2] at e2
    exact ⟨_, _, q, R, rfl, Mo.ints.less e2 hL, h3, h2, Mo.ints.less (h5.mono (le10.trans s.le)) hL, h7, h6⟩
end Go.Proofs.Ytdkamjbcpmlheaa

/- The document's whole numbers: quotients, small forms, binary digits. -/
namespace Go.Proofs.Ytdkamjbcpmlheaa
open Go Go.Gw Go.Lg
set_option pp.deepTerms false
set_option pp.deepTerms.threshold 6
set_option pp.maxSteps 3000

/-- A quotient and a rest, as the document has them. -/
def RQuoR (m : Mo) (v : Value) (n k : Int) : Prop := ∃ vq vr e, v = .tuple #[vq, vr, .int .i64 e] ∧ (k ≠ 0 → e = 0 ∧ RefR m vq (n.fdiv k) ∧ RefR m vr (n.fmod k)) ∧ (k = 0 → e = 11 ∧ RefR m vq 0 ∧ RefR m vr 0)
theorem sg_abs (n : Int) : n = sg (decide (n < 0)) n.natAbs := by unfold sg; split <;> rename_i h <;> simp at h <;> omega

set_option maxRecDepth 10000 in
theorem rquo_calls (n k : Int) (va vb : Value) (m : Mo) (hm : m.okm) (ha : RefR m va n) (hb : RefR m vb k) (hs : sz n ≤ 3000000) (ht : sz k ≤ 3000000) :
    Calls Try.prog 31 #[va, vb] m.w (Post m fun m v => RQuoR m v n k) := by
  have hB := hb
  obtain ⟨p, ca, rfl, ha⟩ := ha.shape
  obtain ⟨q, cb, rfl, hb⟩ := hb.shape
  have hx := digs_sz n
  have hy := digs_sz k
  have hr : m.ints (.slice p (digs n.natAbs).length ca) .i64 (digs n.natAbs) := by
    obtain ⟨v, e, h⟩ := ha; injection e with e; injection e with e; injection e with _ e; injection e with e _; rw [e]; exact h
  have hq0 : m.ints (.slice q (digs k.natAbs).length cb) .i64 (digs k.natAbs) := by
    obtain ⟨v, e, h⟩ := hb; injection e with e; injection e with e; injection e with _ e; injection e with e _; rw [e]; exact h
  refine enter_ Try.f31 _ 55 (args := [.agg #[.bool (decide (n < 0)), .slice p (digs n.natAbs).length ca], .agg #[.bool (decide (k < 0)), .slice q (digs k.natAbs).length cb]]) (by kernel_rfl) rfl (by kernel_rfl) hm ?_
  by_cases hk0 : k = 0
  · refine Br.yes (by rw [hk0]; rfl) ?_
    refine fin_at (v := .tuple #[.agg #[.bool false, .slice none 0 0], .agg #[.bool false, .slice none 0 0], .int .i64 11]) (fun m' _ => ?_)
    exact ⟨_, _, _, rfl, fun h => absurd hk0 h, fun _ => ⟨rfl, RefR_zero _, RefR_zero _⟩⟩
  have hkd : digs k.natAbs ≠ [] := by rw [digs_pos (by omega)]; simp
  refine Br.no (beq_eq_false_iff_ne.2 (by have := List.length_pos_iff.2 hkd; omega)) ?_
  refine callS_ (by kernel_rfl) (fun l m' s => rparted_calls _ _ _ _ m' s.okm (hr.mono s.le) (hq0.mono s.le) (digs_ok _) (digs_ok _) (digs_nrmd _) (by rw [val_digs]; omega) (by omega) (by omega)) ?_
  rintro M1 v le1 ⟨vq, vr, qs, R, rfl, i1, o1, l1, i2, e1, e2⟩
  rw [val_digs, val_digs] at e1
  rw [val_digs] at e2
  have hq0 := val_nonneg B10_pos o1
  obtain ⟨mm1, mm2⟩ := quo_math (decide (n < 0)) (decide (k < 0)) (show (0 : Int) ≤ R by omega) e2 e1
  rw [← sg_abs n, ← sg_abs k] at mm1 mm2
  have szr : sz R ≤ 3000000 := Nat.le_trans (sz_mono (by omega)) ht
  have szq : sz (val 10 qs) ≤ 3000000 := by
    refine Nat.le_trans (sz_mono ?_) hs
    have := val_div_le (show (0 : Int) ≤ R by omega) e2 e1 hq0
    omega
  refine callS_ (by kernel_rfl) (fun l m' s => rmade_ref (decide (n < 0) != decide (k < 0)) qs _ m' s.okm (i1.mono s.le) o1 (by omega)) ?_
  rintro M2 v2 le2 j1
  obtain ⟨p1, c1, rfl, j1⟩ := j1.shape
  have hlR : (digs R).length ≤ 1000000000 := by have := digs_sz R; rw [Int.natAbs_natCast] at this; omega
  refine callS_ (by kernel_rfl) (fun l m' s => rmade_ref (decide (n < 0)) (digs R) _ m' s.okm (i2.mono (le2.trans s.le)) (digs_ok R) hlR) ?_
  rintro M3 v3 le3 j2
  rw [val_digs] at j2
  obtain ⟨p2, c2, rfl, j2⟩ := j2.shape
  replace j1 := j1.mono le3
  have fin : ∀ {M : Mo} {q r : Value}, RefR M q (n.fdiv k) → RefR M r (n.fmod k) → ∀ m', M.Le m' → RQuoR m' (.tuple #[q, r, .int .i64 0]) n k := fun g1 g2 m' le =>
    ⟨_, _, _, rfl, fun _ => ⟨rfl, g1.mono le, g2.mono le⟩, fun h => absurd h hk0⟩
  have hRl : (digs (sg (decide (n < 0)) (R : Int)).natAbs).length = (digs R).length := by
    congr 2; unfold sg; split <;> omega
  by_cases hR : R = 0
  · refine Br.no (by rw [hRl, hR]; rfl) ?_
    obtain ⟨f1, f2⟩ := mm1 (.inl (by omega))
    refine draw_ [(0, []), (1, [2])] [0, 1] [] [2, 3, 4] [(2, 2), (3, 3)] (by kernel_rfl) rfl rfl ?_
    exact fin_at (fin (j1.cast f1) (j2.cast f2))
  have hRp : 0 < (digs R).length := List.length_pos_iff.2 (by rw [digs_pos hR]; simp)
  refine Br.yes (decide_eq_true (by rw [hRl]; omega)) ?_
  have hsame : decide (sg (decide (n < 0)) (R : Int) < 0) = decide (n < 0) := by
    by_cases h : n < 0 <;> simp [sg, h] <;> omega
  refine Br.mk (fun h2 => ?_) (fun h2 => ?_)
  · have hbc : decide (n < 0) ≠ decide (k < 0) := by rw [hsame] at h2; exact bne_iff_ne.1 h2
    obtain ⟨f1, f2⟩ := mm2 (by omega) hbc
    refine draw_ [(0, [])] [0, 1, 2] [] [3] [(3, 4)] (by kernel_rfl) rfl rfl ?_
    refine callD_ (by kernel_rfl) (fun l m' s => rof_calls 1 m' s.okm (by omega) (by omega)) ?_
    rintro M5 v5 le5 g1
    refine callD_ (by kernel_rfl) (fun l m' s => rsub_calls _ _ _ _ m' s.okm (j1.mono (le5.trans s.le)) (g1.mono s.le) (Nat.le_trans (sz_mono (b := val 10 qs) (by unfold sg; split <;> omega)) (by omega)) (sz_small (by omega) (by omega))) ?_
    rintro M6 v6 le6 g2
    obtain ⟨p3, c3, rfl, g2⟩ := g2.shape
    refine callS_ (by kernel_rfl) (fun l m' s => radd_calls _ _ _ _ m' s.okm (j2.mono (le5.trans (le6.trans s.le))) (hB.mono (le1.trans (le2.trans (le3.trans (le5.trans (le6.trans s.le)))))) (Nat.le_trans (sz_mono (b := (R : Int)) (by unfold sg; split <;> omega)) (by omega)) (by omega)) ?_
    rintro M7 v7 le7 g3
    replace g2 := g2.mono le7
    obtain ⟨p4, c4, rfl, g3⟩ := g3.shape
    refine draw_ [(0, []), (1, [2])] [0, 1] [] [2, 3, 4] [(2, 2), (3, 3)] (by kernel_rfl) rfl rfl ?_
    exact fin_at (fin (g2.cast f1) (g3.cast f2))
  · have hbc : decide (n < 0) = decide (k < 0) := by rw [hsame] at h2; simpa using h2
    obtain ⟨f1, f2⟩ := mm1 (.inr hbc)
    refine draw_ [(0, []), (1, [2])] [0, 1] [] [2, 3, 4] [(2, 2), (3, 3)] (by kernel_rfl) rfl rfl ?_
    exact fin_at (fin (j1.cast f1) (j2.cast f2))

theorem blen_half {n : Nat} (h : n ≠ 0) : blen (n : Int) = blen ((n / 2 : Nat) : Int) + 1 := by
  have h0 : (n : Int) ≠ 0 := by omega
  have h1 := blen_lt (n : Int)
  have h2 := blen_low h0
  rw [Int.natAbs_natCast] at h1 h2
  by_cases hc : n / 2 = 0
  · have : n = 1 := by omega
    subst this; rfl
  · have hb : blen (n : Int) ≠ 0 := by unfold blen; rw [if_neg h0]; omega
    have hb1 : blen (n : Int) ≠ 1 := fun e => by rw [e] at h1; omega
    have h3 : blen ((n / 2 : Nat) : Int) = blen (n : Int) - 1 := by
      refine blen_unique ?_ ?_ (by omega)
      · rw [Int.natAbs_natCast]
        have : 2 ^ blen (n : Int) = 2 ^ (blen (n : Int) - 1) * 2 := by rw [← Nat.pow_succ]; congr 1; omega
        omega
      · rw [Int.natAbs_natCast]
        have : 2 ^ (blen (n : Int) - 1) = 2 ^ (blen (n : Int) - 1 - 1) * 2 := by rw [← Nat.pow_succ]; congr 1; omega
        omega
    omega

set_option maxRecDepth 10000 in
theorem rbits_calls (n : Int) (va : Value) (m : Mo) (hm : m.okm) (ha : RefR m va n) (hs : sz n ≤ 1000000) :
    Calls Try.prog 38 #[va] m.w (Post m fun _ v => v = .int .i64 (blen n)) := by
  have hx := digs_sz n
  have hbs := blen_sz n
  obtain ⟨vr, rfl, ha⟩ := ha
  refine enter_ Try.f38 _ 28 (args := [.agg #[.bool (decide (n < 0)), vr]]) (by kernel_rfl) rfl (by kernel_rfl) hm ?_
  refine callS_ (by kernel_rfl) (fun l m' s => rmade_ref false _ vr m' s.okm (ha.mono s.le) (digs_ok _) (by omega)) ?_
  rintro M1 v1 le1 r1
  rw [val_digs] at r1
  replace r1 : RefR M1 v1 (n.natAbs : Int) := r1
  obtain ⟨p1, c1, rfl, r1⟩ := r1.shape
  refine callS_ (by kernel_rfl) (fun l m' s => rof_calls 2 m' s.okm (by omega) (by omega)) ?_
  rintro M2 v2 le2 r2
  obtain ⟨p2, c2, rfl, r2⟩ := r2.shape
  have hab : blen n = blen (n.natAbs : Int) := by unfold blen; rw [Int.natAbs_natCast]; split <;> split <;> omega
  refine loop_ (ι := Nat × Nat × Option Addr × Nat) (fun i => [(2, .v (.int .i64 0)), (3, .v (.int .i64 i.1)), (4, .lp 0 0), (5, .lp 1 0)])
    (fun i => [⟨some (31, 2), .lit [.v (.bool (decide ((i.2.1 : Int) < 0))), .v (.slice i.2.2.1 (digs (i.2.1 : Int).natAbs).length i.2.2.2)]⟩, ⟨some (31, 2), .lit [.v (.bool (decide ((2 : Int) < 0))), .v (.slice p2 (digs (2 : Int).natAbs).length c2)]⟩])
    (fun i M => M2.Le M ∧ RefR M (.agg #[.bool (decide ((i.2.1 : Int) < 0)), .slice i.2.2.1 (digs (i.2.1 : Int).natAbs).length i.2.2.2]) i.2.1 ∧ blen n = i.1 + blen (i.2.1 : Int) ∧ i.2.1 ≤ n.natAbs) (fun i => i.2.1) (0, n.natAbs, p1, c1) (M0 := M2) ?_ ?_ ?_
  · exact Ref.ren [some 1, some 2] (by rfl) (by exact ⟨⟨rfl, trivial⟩, ⟨rfl, trivial⟩, ⟨rfl, by simp [AV.ok]⟩, ⟨rfl, by simp [AV.ok]⟩, trivial⟩) (by exact ⟨⟨rfl, by simp [Cells.ok, okL, AV.ok]⟩, ⟨rfl, by simp [Cells.ok, okL, AV.ok]⟩, trivial⟩)
  · exact ⟨.refl _, r1.mono le2, by simp only; omega, Nat.le_refl _⟩
  rintro ⟨i, h, p, c⟩ M3 ⟨f1, f2, f3, f4⟩
  simp only at f1 f2 f3 f4
  by_cases h0 : h = 0
  · subst h0
    refine Br.no rfl ?_
    refine fin_at (fun _ _ => ?_)
    rw [f3]; rfl
  · have hp : 0 < (digs (h : Int).natAbs).length := List.length_pos_iff.2 (by rw [digs_pos (by omega)]; simp)
    refine Br.yes (decide_eq_true (by simp only; omega)) ?_
    refine callS_ (by kernel_rfl) (fun l m' s => rquo_calls h 2 _ _ m' s.okm (f2.mono s.le) (r2.mono (f1.trans s.le)) (Nat.le_trans (sz_mono (b := n) (by omega)) (by omega)) (Nat.le_trans (sz_i64 (by omega) (by omega)) (by omega))) ?_
    rintro M4 v4 le4 ⟨vq, vr, e, rfl, hqr, _⟩
    obtain ⟨rfl, g1, g2⟩ := hqr (by decide)
    have g1 := g1.cast (show (h : Int).fdiv 2 = ((h / 2 : Nat) : Int) by rw [Int.fdiv_eq_ediv_of_nonneg _ (by decide)]; rfl)
    obtain ⟨p5, c5, rfl, g1⟩ := g1.shape
    obtain ⟨p6, c6, rfl, g2⟩ := g2.shape
    have hb := blen_half h0
    refine ⟨(i + 1, h / 2, p5, c5), M4, Ref.ren [some 0, some 1] (by rfl) (by exact ⟨⟨rfl, trivial⟩, ⟨some_nrm (wrap_in _ (by omega) (by omega)), trivial⟩, ⟨rfl, by simp [AV.ok]⟩, ⟨rfl, by simp [AV.ok]⟩, trivial⟩) (by exact ⟨⟨rfl, by simp [Cells.ok, okL, AV.ok]⟩, ⟨rfl, by simp [Cells.ok, okL, AV.ok]⟩, trivial⟩), ⟨f1.trans le4, g1, by simp only; omega, by simp only; omega⟩, by simp only; omega⟩
end Go.Proofs.Ytdkamjbcpmlheaa

/- The document's whole numbers: small forms, square roots. -/
namespace Go.Proofs.Ytdkamjbcpmlheaa
open Go Go.Gw Go.Lg
set_option pp.deepTerms false
set_option pp.deepTerms.threshold 6
set_option pp.maxSteps 3000

theorem val_drop_le {xs : List Int} (ox : okd 10 xs) (i : Nat) : 0 ≤ val 10 (xs.drop i) ∧ val 10 (xs.drop i) ≤ val 10 xs := by
  refine ⟨val_nonneg B10_pos (ox.drop i), ?_⟩
  by_cases h : i ≤ xs.length
  · have e := val_split 10 xs i h
    have h1 := val_nonneg B10_pos (ox.take i)
    have h2 := val_nonneg B10_pos (ox.drop i)
    have h3 : 1 * val 10 (xs.drop i) ≤ 10 ^ i * val 10 (xs.drop i) := Int.mul_le_mul_of_nonneg_right (show (1 : Int) ≤ 10 ^ i from Int.pow_pos (by decide)) h2
    omega
  · rw [List.drop_of_length_le (by omega)]
    exact val_nonneg B10_pos ox

set_option maxRecDepth 10000 in
theorem rsmall_calls (n : Int) (va : Value) (m : Mo) (hm : m.okm) (ha : RefR m va n) (hs : sz n ≤ 3000000) :
    Calls Try.prog 37 #[va] m.w (Post m fun _ v => v = .tuple #[.int .i64 (if -9223372036854775808 ≤ n ∧ n ≤ 9223372036854775807 then n else 0), .bool (decide (-9223372036854775808 ≤ n ∧ n ≤ 9223372036854775807))]) := by
  have hx := digs_sz n
  have hA := ha
  obtain ⟨vr, rfl, a, ca, rfl, hca, hsa, hra⟩ := ha
  have od := digs_ok n.natAbs
  have ev := val_digs n.natAbs
  generalize hds : digs n.natAbs = ds at *
  refine enter2_ Try.f37 _ 47 [a] [⟨none, .ints .i64 ds⟩] [.agg [.v (.bool (decide (n < 0))), .ls 0 0 ds.length ca]] (by kernel_rfl) rfl (by kernel_rfl) hm rfl (by simp [okL, AV.ok]) ⟨⟨rfl, hsa, trivial, hra⟩, trivial⟩ ?_
  have hself : ∀ {C : Cx} {l : List Base} {σ : Store} {M m' : Mo}, Sees C l σ M m' → σ[0]? = some ⟨none, .ints .i64 ds⟩ → RefR m' (.agg #[.bool (decide (n < 0)), conc l (.ls 0 0 ds.length ca)]) n := fun s h0 => ⟨_, rfl, by rw [hds]; exact s.ints0 (id := 0) h0 hca⟩
  refine callS_ (by kernel_rfl) (fun l m' s => rof_calls (-9223372036854775808) m' s.okm (by omega) (by omega)) ?_
  rintro M1 v1 le1 g1
  obtain ⟨p1, c1, rfl, g1⟩ := g1.shape
  refine callS_ (by kernel_rfl) (fun l m' s => rof_calls 9223372036854775807 m' s.okm (by omega) (by omega)) ?_
  rintro M2 v2 le2 g2
  obtain ⟨p2, c2, rfl, g2⟩ := g2.shape
  refine callS_ (by kernel_rfl) (fun l m' s => rcmp_calls n (-9223372036854775808) _ _ m' s.okm (hself s rfl) (g1.mono (le2.trans s.le)) (by omega) (sz_small (by omega) (by omega))) ?_
  rintro M3 v3 le3 rfl
  refine Br.mk (fun h1 => ?_) (fun h1 => ?_)
  · have h1 := (cmpI_neg _ _).1 (of_decide_eq_true h1)
    refine fin_at (v := .tuple #[.int .i64 0, .bool false]) (fun _ _ => ?_)
    rw [if_neg (by omega), decide_eq_false (by omega)]
  have h1 : -9223372036854775808 ≤ n := by
    have := of_decide_eq_false h1
    rw [cmpI_neg] at this; omega
  refine callS_ (by kernel_rfl) (fun l m' s => rcmp_calls n 9223372036854775807 _ _ m' s.okm (hself s rfl) (g2.mono (le3.trans s.le)) (by omega) (sz_small (by omega) (by omega))) ?_
  rintro M4 v4 le4 rfl
  refine Br.mk (fun h2 => ?_) (fun h2 => ?_)
  · have h2 := (cmpI_pos _ _).1 (of_decide_eq_true h2)
    refine fin_at (v := .tuple #[.int .i64 0, .bool false]) (fun _ _ => ?_)
    rw [if_neg (by omega), decide_eq_false (by omega)]
  have h2 : n ≤ 9223372036854775807 := by
    have := of_decide_eq_false h2
    have := cmpI_pos n 9223372036854775807
    omega
  refine loop_ (ι := Nat) (fun i => [(1, .lp 1 0), (6, .v (.int .i64 (sg (decide (n < 0)) (val 10 (ds.drop i))))), (7, .v (.int .i64 ((i : Int) - 1)))])
    (fun _ => [⟨none, .ints .i64 ds⟩, ⟨some (31, 2), .lit [.v (.bool (decide (n < 0))), .ls 0 0 ds.length ca]⟩])
    (fun i _ => i ≤ ds.length) (fun i => i) ds.length (M0 := M4) ?_ ?_ ?_
  · exact Ref.ren [some 0, some 1] (by rfl) (by exact ⟨⟨rfl, by simp [AV.ok]⟩, ⟨some_nrm (by rw [List.drop_of_length_le (Nat.le_refl _)]; cases (decide (n < 0)) <;> rfl), trivial⟩, ⟨some_nrm (wrap_in _ (by omega) (by omega)), trivial⟩, trivial⟩) (by exact ⟨⟨rfl, trivial⟩, ⟨rfl, by simp [Cells.ok, okL, AV.ok]⟩, trivial⟩)
  · exact Nat.le_refl _
  rintro k M5 h3
  refine Br.mk (fun hb => ?_) (fun hb => ?_)
  · have hk : 1 ≤ k := by have := of_decide_eq_true hb; omega
    obtain ⟨i, rfl⟩ : ∃ i, k = i + 1 := ⟨k - 1, by omega⟩
    have ei : (((i + 1 : Nat) : Int) - 1) = (i : Int) := by omega
    have ti : (((i + 1 : Nat) : Int) - 1).toNat = i := by omega
    have rd := od.getD B10_pos i
    have b1 := val_drop_le od (i + 1)
    have b0 := val_drop_le od i
    have ed := val_drop 10 ds i (by omega)
    refine Br.mk (fun hc => ?_) (fun hc => ?_)
    · have hn : n < 0 := of_decide_eq_true hc
      refine ix_ (by rw [ei]; omega) (by rw [ti]; show i < ds.length; omega) ?_
      refine ⟨i, M5, Ref.sub (by exact ⟨rfl, some_nrm (by
        rw [ti, ed, show decide (n < 0) = true from hc]
        show IntKind.i64.wrap (IntKind.i64.wrap (10 * -(val 10 (ds.drop (i + 1)))) - ds.getD i 0) = -(ds.getD i 0 + 10 * val 10 (ds.drop (i + 1)))
        rw [wrap_in (10 * _) (by omega) (by omega), wrap_in _ (by omega) (by omega)]; omega), some_nrm (by rw [wrap_in _ (by omega) (by omega)]; omega), trivial⟩), by omega, by omega⟩
    · have hn : ¬ n < 0 := of_decide_eq_false hc
      refine ix_ (by rw [ei]; omega) (by rw [ti]; show i < ds.length; omega) ?_
      refine ⟨i, M5, Ref.sub (by exact ⟨rfl, some_nrm (by
        rw [ti, ed, show decide (n < 0) = false from hc]
        show IntKind.i64.wrap (IntKind.i64.wrap (10 * (val 10 (ds.drop (i + 1)))) + ds.getD i 0) = (ds.getD i 0 + 10 * val 10 (ds.drop (i + 1)))
        rw [wrap_in (10 * _) (by omega) (by omega), wrap_in _ (by omega) (by omega)]; omega), some_nrm (by rw [wrap_in _ (by omega) (by omega)]; omega), trivial⟩), by omega, by omega⟩
  · have hk : k = 0 := by have := of_decide_eq_false hb; omega
    subst hk
    refine fin_at (v := .tuple #[.int .i64 n, .bool true]) (fun _ _ => ?_) (hv := fun l => ?_)
    · rw [if_pos ⟨h1, h2⟩, decide_eq_true ⟨h1, h2⟩]
    · simp only [conc, concL]
      rw [List.drop_zero, ev, ← sg_abs]

theorem ten_B32 (n : Nat) : (10 : Int) ^ n ≤ B32 ^ n := by
  induction n with
  | zero => decide
  | succ n ih =>
    rw [Int.pow_succ, Int.pow_succ]
    exact Int.mul_le_mul ih (by decide) (by decide) (Int.le_of_lt (Int.pow_pos B32_pos))
def RRootR (m : Mo) (v : Value) (n : Int) : Prop := ∃ vr e, v = .tuple #[vr, .int .i64 e] ∧ (n < 0 → e = 12 ∧ RefR m vr 0) ∧ (0 ≤ n → e = 0 ∧ ∃ r, 0 ≤ r ∧ r * r ≤ n ∧ n < (r + 1) * (r + 1) ∧ RefR m vr r)

set_option maxRecDepth 10000 in
set_option maxHeartbeats 1000000 in
theorem rroot_calls (n : Int) (va : Value) (m : Mo) (hm : m.okm) (ha : RefR m va n) (hs : sz n ≤ 100000) :
    Calls Try.prog 35 #[va] m.w (Post m fun m v => RRootR m v n) := by
  have hx := digs_sz n
  have hA := ha
  obtain ⟨p, ca, rfl, ha⟩ := ha.shape
  have vl := val_lt B10_pos (digs_ok n.natAbs)
  rw [val_digs] at vl
  generalize hN : (digs n.natAbs).length = N at *
  refine enter_ Try.f35 _ 58 (args := [.agg #[.bool (decide (n < 0)), .slice p N ca]]) (by kernel_rfl) rfl (by kernel_rfl) hm ?_
  refine Br.mk (fun h0 => ?_) (fun h0 => ?_)
  · have h0 := of_decide_eq_true h0
    refine fin_at (v := .tuple #[.agg #[.bool false, .slice none 0 0], .int .i64 12]) (fun m' _ => ⟨_, _, rfl, fun _ => ⟨rfl, RefR_zero _⟩, fun h => by omega⟩)
  have h0 : 0 ≤ n := by have := of_decide_eq_false h0; omega
  have q1 : IntKind.i64.wrap (IntKind.i64.wrap ((N : Int).tdiv 2) + 1) = ((N / 2 + 1 : Nat) : Int) := by
    rw [Int.tdiv_eq_ediv_of_nonneg (by omega), wrap_in ((N : Int) / 2) (by omega) (by omega), wrap_in _ (by omega) (by omega)]; omega
  refine And.intro (by decide) ?_
  refine mk_ (e := 3) .i64 (N / 2 + 1) (by kernel_rfl) (by kernel_rfl) q1 (by omega) ?_
  obtain ⟨L, hL⟩ : ∃ L, L = N / 2 + 1 := ⟨_, rfl⟩
  rw [← hL]
  have hbig : n < 10 ^ L * 10 ^ L := by
    have h1 : (10 : Int) ^ N ≤ 10 ^ (L + L) := pow_mono (by decide) (by omega)
    rw [Int.pow_add] at h1
    omega
  refine loop_ (ι := Nat × List Int) (fun i => [(1, .lp 0 0), (2, .lp 1 0), (4, .ls 2 0 L L), (5, .v (.int .i64 ((i.1 : Int) - 1)))])
    (fun i => [⟨some (31, 2), .lit [.v (.bool (decide (n < 0))), .v (.slice p N ca)]⟩, ⟨some (31, 2), .lit [.v (.bool false), .v (.slice none 0 0)]⟩, ⟨some (3, L), .ints .i64 i.2⟩])
    (fun i M => m.Le M ∧ i.1 ≤ L ∧ i.2.length = L ∧ okd 10 i.2 ∧ (∀ j, j < i.1 → i.2.getD j 0 = 0) ∧ val 10 i.2 * val 10 i.2 ≤ n ∧ n < (val 10 i.2 + 10 ^ i.1) * (val 10 i.2 + 10 ^ i.1)) (fun i => i.1) (L, List.replicate L 0) (M0 := m) ?_ ?_ ?_
  · exact Ref.sub (by exact ⟨rfl, rfl, rfl, some_nrm (by rw [wrap_in _ (by omega) (by omega)]), trivial⟩)
  · have hz : ∀ j, (List.replicate L (0 : Int)).getD j 0 = 0 := fun j => by
      simp only [List.getD, List.getElem?_replicate]; split <;> rfl
    exact ⟨.refl m, Nat.le_refl _, by simp, okd.zeros B10_pos _, fun j _ => hz j, by simp only [val_zeros]; omega, by simp only [val_zeros, Int.zero_add]; exact hbig⟩
  rintro ⟨k, d0⟩ M1 ⟨g0, g1, g2, g3, g4, g5, g6⟩
  simp only at g0 g1 g2 g3 g4 g5 g6
  refine Br.mk (fun hb => ?_) (fun hb => ?_)
  · have hk : 1 ≤ k := by have := of_decide_eq_true hb; simp only at this; omega
    obtain ⟨i, rfl⟩ : ∃ i, k = i + 1 := ⟨k - 1, by omega⟩
    have ei : (((i + 1 : Nat) : Int) - 1) = (i : Int) := by omega
    have hz0 := g4 i (by omega)
    have hP : (0 : Int) < 10 ^ i := Int.pow_pos (by decide)
    have hPL : (10 : Int) ^ (i + 1) ≤ 10 ^ L := pow_mono (by decide) (by omega)
    refine loop_ (ι := Nat × Bool) (fun q => [(1, .lp 0 0), (2, .lp 1 0), (4, .ls 2 0 L L), (5, .v (.int .i64 i)), (6, .v (.bool q.2))])
      (fun q => [⟨some (31, 2), .lit [.v (.bool (decide (n < 0))), .v (.slice p N ca)]⟩, ⟨some (31, 2), .lit [.v (.bool false), .v (.slice none 0 0)]⟩, ⟨some (3, L), .ints .i64 (d0.set i q.1)⟩])
      (fun q M => m.Le M ∧ q.1 ≤ 9 ∧ (val 10 d0 + q.1 * 10 ^ i) * (val 10 d0 + q.1 * 10 ^ i) ≤ n ∧ (q.2 = false → n < (val 10 d0 + q.1 * 10 ^ i + 10 ^ i) * (val 10 d0 + q.1 * 10 ^ i + 10 ^ i))) (fun q => 2 * (10 - q.1) + q.2.toNat) (0, true) (M0 := M1) ?_ ?_ ?_
    · refine Ref.subS (by exact ⟨rfl, rfl, rfl, some_nrm ei, rfl, trivial⟩) ?_
      simp only [set_same hz0 (by omega), Int.natCast_zero]
    · exact ⟨g0, by simp, by simp only [Int.natCast_zero, Int.zero_mul, Int.add_zero]; exact g5, fun h => by cases h⟩
    rintro ⟨c, ft⟩ M2 ⟨f0, f1, f2, f3⟩
    simp only at f0 f1 f2 f3
    have hg : (d0.set i (c : Int)).getD i 0 = c := by rw [set_getD _ _ _ _ (by omega), if_pos rfl]
    have vs : ∀ c : Int, val 10 (d0.set i c) = val 10 d0 + c * 10 ^ i := fun c => by rw [val_set _ _ _ _ (by omega), hz0, Int.sub_zero, Int.mul_comm]
    have okc : ∀ c : Int, 0 ≤ c ∧ c < 10 → okd 10 (d0.set i c) := fun c h => okd_set g3 _ h
    have leave : ∀ M3, M2.Le M3 → (c = 9 ∨ ft = false) → m.Le M3 ∧ i ≤ L ∧ (d0.set i (c : Int)).length = L ∧ okd 10 (d0.set i (c : Int)) ∧ (∀ j, j < i → (d0.set i (c : Int)).getD j 0 = 0) ∧ val 10 (d0.set i (c : Int)) * val 10 (d0.set i (c : Int)) ≤ n ∧ n < (val 10 (d0.set i (c : Int)) + 10 ^ i) * (val 10 (d0.set i (c : Int)) + 10 ^ i) := by
      intro M3 le h
      refine ⟨f0.trans le, by omega, by simpa using g2, okc c ⟨by omega, by omega⟩, fun j hj => ?_, ?_, ?_⟩
      · rw [getD_set_ne _ _ _ _ (by omega)]; exact g4 j (by omega)
      · rw [vs]; exact f2
      · rw [vs]
        rcases h with h | h
        · subst h
          have : val 10 d0 + ((9 : Nat) : Int) * 10 ^ i + 10 ^ i = val 10 d0 + 10 ^ (i + 1) := by rw [Int.pow_succ]; omega
          rw [this]; exact g6
        · exact f3 h
    refine ix_ ⟨by omega, by omega⟩ (by show (i : Int).toNat < (d0.set i _).length; simp; omega) ?_
    have hgi : (d0.set i (c : Int)).getD (Int.toNat i) 0 = c := hg
    by_cases hc : c < 9
    · refine Br.yes (decide_eq_true (by simp only; rw [hgi]; omega)) ?_
      cases ft with
      | false =>
        refine Br.no rfl ?_
        exact ⟨(i, d0.set i c), M2, Ref.sub (by exact ⟨rfl, rfl, rfl, some_nrm (by rw [wrap_in _ (by omega) (by omega)]), trivial⟩), leave _ (.refl _) (.inr rfl), by simp only; omega⟩
      | true =>
        refine Br.yes rfl ?_
        refine ix_ ⟨by omega, by omega⟩ (by show (i : Int).toNat < (d0.set i _).length; simp; omega) ?_
        refine And.intro ⟨by omega, by omega⟩ (And.intro (by show (i : Int).toNat < (d0.set i _).length; simp; omega) (And.intro (by show (i : Int).toNat < (d0.set i _).length; simp; omega) ?_))
        have eL : (d0.set i (c : Int)).set (Int.toNat i) (IntKind.i64.wrap ((d0.set i (c : Int)).getD (Int.toNat i) 0 + 1)) = d0.set i ((c : Int) + 1) := by
          rw [hgi, wrap_in _ (by omega) (by omega), Int.toNat_natCast, List.set_set]
        have ok1 := okc ((c : Int) + 1) ⟨by omega, by omega⟩
        have v1 := vs ((c : Int) + 1)
        obtain ⟨V, hV⟩ : ∃ V, V = val 10 d0 + ((c : Int) + 1) * 10 ^ i := ⟨_, rfl⟩
        rw [← hV] at v1
        have hVL : 0 ≤ V ∧ V < 10 ^ L := by
          have h1 := val_nonneg B10_pos ok1
          have h2 := val_lt B10_pos ok1
          rw [List.length_set, g2] at h2
          rw [v1] at h1 h2
          exact ⟨h1, h2⟩
        have szV : sz V ≤ L := sz_le (by have := ten_B32 L; omega)
        refine app_ .i64 (xs := []) (news := (d0.set i (c : Int)).set (Int.toNat i) (IntKind.i64.wrap ((d0.set i (c : Int)).getD (Int.toNat i) 0 + 1))) rfl (fun _ => rfl) rfl (by kernel_rfl) (by kernel_rfl) (by
          have := rd_row (C := ⟨Try.prog, 58, [], m.w, m.L⟩) (M := M2) (id := 2) (kd := .i64) (own := some (3, L)) (e' := 3) (tx := 29) (sliceOf_iff (by kernel_rfl)) (σ := [⟨some (31, 2), .lit [.v (.bool (decide (n < 0))), .v (.slice p N ca)]⟩, ⟨some (31, 2), .lit [.v (.bool false), .v (.slice none 0 0)]⟩, ⟨some (3, L), .ints .i64 ((d0.set i (c : Int)).set (Int.toNat i) (IntKind.i64.wrap ((d0.set i (c : Int)).getD (Int.toNat i) 0 + 1)))⟩, ⟨some (3, 0 * 1), .lit []⟩]) rfl L
          rw [List.length_set, List.length_set, g2] at this
          exact this) (by simp; omega) fun cap' hcap => ?_
        refine CallK.pub 4 fun M3 le3 => ?_
        refine callS_ (by kernel_rfl) (fun l m' s => rmade_ref false (d0.set i ((c : Int) + 1)) _ m' s.okm ?_ ok1 (by simp; omega)) ?_
        · have g := s.ints0 (id := 4) (kd := .i64) (xs := [] ++ (d0.set i (c : Int)).set (Int.toNat i) (IntKind.i64.wrap ((d0.set i (c : Int)).getD (Int.toNat i) 0 + 1))) rfl (c := cap') (by simpa using hcap)
          rw [List.nil_append] at g
          rw [← eL]
          simpa using g
        rintro M4 v4 le4 r4
        rw [v1] at r4
        replace r4 : RefR M4 v4 V := r4
        obtain ⟨p4, c4, rfl, r4⟩ := r4.shape
        refine draw_ [] [0, 1, 3, 2, 4, 5, 6] [] [] [] (by kernel_rfl) rfl rfl ?_
        refine callD_ (by kernel_rfl) (fun l m' s => rmul_calls V V _ _ m' s.okm (r4.mono s.le) (r4.mono s.le) (by omega) (by omega)) ?_
        rintro M5 v5 le5 r5
        refine callD_ (by kernel_rfl) (fun l m' s => rcmp_calls (V * V) n _ _ m' s.okm (r5.mono s.le) (ha.mono (f0.trans (le3.trans (le4.trans (le5.trans s.le))))) (Nat.le_trans (sz_mul V V) (by omega)) (by omega)) ?_
        rintro M6 v6 le6 rfl
        have leA := le3.trans (le4.trans (le5.trans le6))
        refine Br.mk (fun h8 => ?_) (fun h8 => ?_)
        · have h8 : decide (cmpI (V * V) n ≤ 0) = false := by simpa using h8
          have h9 : n < V * V := by
            have := of_decide_eq_false h8
            exact (cmpI_pos _ _).1 (by omega)
          have hg1 : ((d0.set i (c : Int)).set (Int.toNat i) (IntKind.i64.wrap ((d0.set i (c : Int)).getD (Int.toNat i) 0 + 1))).getD (Int.toNat i) 0 = (c : Int) + 1 := by
            rw [eL, Int.toNat_natCast, set_getD _ _ _ _ (by omega), if_pos rfl]
          have e3 : ((d0.set i (c : Int)).set (Int.toNat i) (IntKind.i64.wrap ((d0.set i (c : Int)).getD (Int.toNat i) 0 + 1))).set (Int.toNat i) (IntKind.i64.wrap (((d0.set i (c : Int)).set (Int.toNat i) (IntKind.i64.wrap ((d0.set i (c : Int)).getD (Int.toNat i) 0 + 1))).getD (Int.toNat i) 0 - 1)) = d0.set i (c : Int) := by
            rw [hg1, eL, wrap_in _ (by omega) (by omega), Int.toNat_natCast, List.set_set, Int.add_sub_cancel]
          refine ix_ ⟨by omega, by omega⟩ (by show (i : Int).toNat < ((d0.set i _).set _ _).length; simp; omega) ?_
          refine And.intro ⟨by omega, by omega⟩ (And.intro (by show (i : Int).toNat < ((d0.set i _).set _ _).length; simp; omega) (And.intro (by show (i : Int).toNat < ((d0.set i _).set _ _).length; simp; omega) ?_))
          refine ⟨(c, false), M6, Ref.ren [some 0, some 1, some 2] (by rfl) (by exact ⟨⟨rfl, by simp [AV.ok]⟩, ⟨rfl, by simp [AV.ok]⟩, ⟨rfl, by simp [AV.ok]⟩, ⟨rfl, trivial⟩, ⟨congrArg (fun b => some (AV.v (.bool b))) h8, trivial⟩, trivial⟩) (by exact ⟨⟨rfl, by simp [Cells.ok, okL, AV.ok]⟩, ⟨rfl, by simp [Cells.ok, okL, AV.ok]⟩, ⟨congrArg (fun z => some (Ob.mk _ (.ints .i64 z))) e3, trivial⟩, trivial⟩), ⟨f0.trans leA, by simp only; omega, f2, fun _ => ?_⟩, by show 2 * (10 - c) + 0 < 2 * (10 - c) + 1; omega⟩
          · simp only
            have : val 10 d0 + (c : Int) * 10 ^ i + 10 ^ i = V := by rw [hV, Int.add_mul, Int.one_mul]; omega
            rw [this]; exact h9
        · have h8 : decide (cmpI (V * V) n ≤ 0) = true := by simpa using h8
          have h9 : V * V ≤ n := by
            have := of_decide_eq_true h8
            have := cmpI_pos (V * V) n
            omega
          refine ⟨(c + 1, true), M6, Ref.ren [some 0, some 1, some 2] (by rfl) (by exact ⟨⟨rfl, by simp [AV.ok]⟩, ⟨rfl, by simp [AV.ok]⟩, ⟨rfl, by simp [AV.ok]⟩, ⟨rfl, trivial⟩, ⟨congrArg (fun b => some (AV.v (.bool b))) h8, trivial⟩, trivial⟩) (by exact ⟨⟨rfl, by simp [Cells.ok, okL, AV.ok]⟩, ⟨rfl, by simp [Cells.ok, okL, AV.ok]⟩, ⟨congrArg (fun z => some (Ob.mk _ (.ints .i64 z))) eL, trivial⟩, trivial⟩), ⟨f0.trans leA, by simp only; omega, ?_, fun h => by cases h⟩, by simp only; omega⟩
          simp only
          rw [Int.natCast_succ, ← hV]; exact h9
    · refine Br.no (decide_eq_false (by simp only; rw [hgi]; omega)) ?_
      exact ⟨(i, d0.set i c), M2, Ref.sub (by exact ⟨rfl, rfl, rfl, some_nrm (by rw [wrap_in _ (by omega) (by omega)]), trivial⟩), leave _ (.refl _) (.inl (by omega)), by simp only; omega⟩
  · have hk : k = 0 := by have := of_decide_eq_false hb; simp only at this; omega
    subst hk
    refine CallK.pub 2 fun M2 le2 => ?_
    refine callS_ (by kernel_rfl) (fun l m' s => rmade_ref false d0 _ m' s.okm (g2 ▸ s.ints0 (id := 2) (xs := d0) rfl (Nat.le_refl _)) g3 (by omega)) ?_
    rintro M3 v3 le3 r3
    obtain ⟨p', c', rfl, r3⟩ := r3.shape
    refine fin_at (R := fun m v => RRootR m v n) (fun m' le => ⟨_, _, rfl, fun h => by omega, fun _ => ⟨rfl, _, val_nonneg B10_pos g3, g5, ?_, r3.mono le⟩⟩)
    simpa using g6
end Go.Proofs.Ytdkamjbcpmlheaa

/- The laws of layer 1 that hold the program's numbers against the document's. -/
namespace Go.Proofs.Ytdkamjbcpmlheaa
open Go Go.Gw Go.Lg
set_option pp.deepTerms false
set_option pp.deepTerms.threshold 6
set_option pp.maxSteps 3000

/-- A number's value, as the document has it, of which something is told of the size. -/
structure RefS (m : Mo) (v : Value) (n : Int) (k : Nat) : Prop where
  r : RefR m v n
  z : sz n ≤ k
theorem RefS.mono {m m' : Mo} {v : Value} {n : Int} {k : Nat} (h : RefS m v n k) (l : m.Le m') : RefS m' v n k := ⟨h.r.mono l, h.z⟩
theorem RefS.cast {m : Mo} {v : Value} {n n' : Int} {k : Nat} (h : RefS m v n k) (e : n = n') : RefS m v n' k := e ▸ h
theorem RefS.shape {m : Mo} {v : Value} {n : Int} {i : Nat} (h : RefS m v n i) : ∃ b p k c, v = .agg #[.bool b, .slice p k c] ∧ RefS m (.agg #[.bool b, .slice p k c]) n i :=
  let ⟨p, c, e, g⟩ := h.r.shape; ⟨_, p, _, c, e, g, h.z⟩
section
variable {m : Mo} {va vb : Value} {n k : Int} {i j : Nat} (hm : m.okm)
include hm
theorem raddS (ha : RefS m va n i) (hb : RefS m vb k j) (h : i ≤ 10000000 := by omega) (h' : j ≤ 10000000 := by omega) : Calls Try.prog 23 #[va, vb] m.w (Post m fun m v => RefS m v (n + k) (max i j + 1)) :=
  (radd_calls n k va vb m hm ha.r hb.r (Nat.le_trans ha.z h) (Nat.le_trans hb.z h')).mono fun _ _ ⟨v, h1, h2, h3⟩ => ⟨v, h1, h2, h3, by have := sz_add n k; have := ha.z; have := hb.z; omega⟩
theorem rsubS (ha : RefS m va n i) (hb : RefS m vb k j) (h : i ≤ 10000000 := by omega) (h' : j ≤ 10000000 := by omega) : Calls Try.prog 25 #[va, vb] m.w (Post m fun m v => RefS m v (n - k) (max i j + 1)) :=
  (rsub_calls n k va vb m hm ha.r hb.r (Nat.le_trans ha.z h) (Nat.le_trans hb.z h')).mono fun _ _ ⟨v, h1, h2, h3⟩ => ⟨v, h1, h2, h3, by have := sz_sub n k; have := ha.z; have := hb.z; omega⟩
theorem rmulS (ha : RefS m va n i) (hb : RefS m vb k j) (h : i ≤ 10000000 := by omega) (h' : j ≤ 10000000 := by omega) : Calls Try.prog 26 #[va, vb] m.w (Post m fun m v => RefS m v (n * k) (i + j)) :=
  (rmul_calls n k va vb m hm ha.r hb.r (Nat.le_trans ha.z h) (Nat.le_trans hb.z h')).mono fun _ _ ⟨v, h1, h2, h3⟩ => ⟨v, h1, h2, h3, by have := sz_mul n k; have := ha.z; have := hb.z; omega⟩
theorem rminusS (ha : RefS m va n i) (h : i ≤ 10000000 := by omega) : Calls Try.prog 27 #[va] m.w (Post m fun m v => RefS m v (-n) i) :=
  (rminus_calls n va m hm ha.r (Nat.le_trans ha.z h)).mono fun _ _ ⟨v, h1, h2, h3⟩ => ⟨v, h1, h2, h3, by rw [sz_neg]; exact ha.z⟩
theorem rcmpS (ha : RefS m va n i) (hb : RefS m vb k j) (h : i ≤ 10000000 := by omega) (h' : j ≤ 10000000 := by omega) : Calls Try.prog 29 #[va, vb] m.w (Post m fun _ v => v = .int .i64 (cmpI n k)) :=
  rcmp_calls n k va vb m hm ha.r hb.r (Nat.le_trans ha.z h) (Nat.le_trans hb.z h')
theorem rsignS (ha : RefS m va n i) (h : i ≤ 10000000 := by omega) : Calls Try.prog 28 #[va] m.w (Post m fun _ v => v = .int .i64 (cmpI n 0)) := rsign_calls n va m hm ha.r (Nat.le_trans ha.z h)
theorem rstringS (ha : RefS m va n i) (h : i ≤ 10000000 := by omega) : Calls Try.prog 24 #[va] m.w (Post m fun _ v => v = .string (decB n)) := rstring_calls n va m hm ha.r (Nat.le_trans ha.z h)
theorem rbitsS (ha : RefS m va n i) (h : i ≤ 1000000 := by omega) : Calls Try.prog 38 #[va] m.w (Post m fun _ v => v = .int .i64 (blen n)) := rbits_calls n va m hm ha.r (Nat.le_trans ha.z h)
theorem rsmallS (ha : RefS m va n i) (h : i ≤ 3000000 := by omega) : Calls Try.prog 37 #[va] m.w (Post m fun _ v => v = .tuple #[.int .i64 (if -9223372036854775808 ≤ n ∧ n ≤ 9223372036854775807 then n else 0), .bool (decide (-9223372036854775808 ≤ n ∧ n ≤ 9223372036854775807))]) := rsmall_calls n va m hm ha.r (Nat.le_trans ha.z h)
theorem rofS (n : Int) (h : -9223372036854775808 ≤ n := by omega) (h' : n ≤ 9223372036854775807 := by omega) : Calls Try.prog 51 #[.int .i64 n] m.w (Post m fun m v => RefS m v n 2) :=
  (rof_calls n m hm h h').mono fun _ _ ⟨v, h1, h2, h3⟩ => ⟨v, h1, h2, h3, sz_i64 h h'⟩
theorem rquoS (ha : RefS m va n i) (hb : RefS m vb k j) (hk : k ≠ 0) (h : i ≤ 3000000 := by omega) (h' : j ≤ 3000000 := by omega) :
    Calls Try.prog 31 #[va, vb] m.w (Post m fun m v => ∃ b p l c b' p' l' c', v = .tuple #[.agg #[.bool b, .slice p l c], .agg #[.bool b', .slice p' l' c'], .int .i64 0] ∧ RefS m (.agg #[.bool b, .slice p l c]) (n.fdiv k) i ∧ RefS m (.agg #[.bool b', .slice p' l' c']) (n.fmod k) j) :=
  (rquo_calls n k va vb m hm ha.r hb.r (Nat.le_trans ha.z h) (Nat.le_trans hb.z h')).mono fun _ _ ⟨v, h1, h2, vq, vr, e, e1, h3, _⟩ => by
    obtain ⟨rfl, g1, g2⟩ := h3 hk
    obtain ⟨p, c, rfl, g1⟩ := g1.shape
    obtain ⟨p', c', rfl, g2⟩ := g2.shape
    exact ⟨v, h1, h2, _, p, _, c, _, p', _, c', e1, ⟨g1, Nat.le_trans (sz_mono (fdiv_le n hk)) ha.z⟩, ⟨g2, Nat.le_trans (sz_mono (fmod_le n hk)) hb.z⟩⟩
theorem rquo0S (ha : RefS m va n i) (hb : RefS m vb 0 j) (h : i ≤ 3000000 := by omega) (h' : j ≤ 3000000 := by omega) :
    Calls Try.prog 31 #[va, vb] m.w (Post m fun m v => ∃ b p l c b' p' l' c', v = .tuple #[.agg #[.bool b, .slice p l c], .agg #[.bool b', .slice p' l' c'], .int .i64 11] ∧ RefS m (.agg #[.bool b, .slice p l c]) 0 0 ∧ RefS m (.agg #[.bool b', .slice p' l' c']) 0 0) :=
  (rquo_calls n 0 va vb m hm ha.r hb.r (Nat.le_trans ha.z h) (Nat.le_trans hb.z h')).mono fun _ _ ⟨v, h1, h2, vq, vr, e, e1, _, h3⟩ => by
    obtain ⟨rfl, g1, g2⟩ := h3 rfl
    obtain ⟨p, c, rfl, g1⟩ := g1.shape
    obtain ⟨p', c', rfl, g2⟩ := g2.shape
    exact ⟨v, h1, h2, _, p, _, c, _, p', _, c', e1, ⟨g1, Nat.le_refl _⟩, ⟨g2, Nat.le_refl _⟩⟩
end

theorem beq_refl' (s : ByteArray) : (s.toList == s.toList) = true := by simp

set_option maxRecDepth 20000 in
set_option maxHeartbeats 2000000 in
theorem reckons_calls (sa sb : ByteArray) (m : Mo) (hm : m.okm) : Calls Try.prog 4 #[.string sa, .string sb] m.w (Post m fun _ v => v = .bool true) := by
  obtain ⟨ba, ha⟩ : ∃ bs, bytesI sa = bs := ⟨_, rfl⟩
  obtain ⟨bb, hb⟩ : ∃ bs, bytesI sb = bs := ⟨_, rfl⟩
  refine enter_ Try.f4 _ 95 (args := [.string sa, .string sb]) (by kernel_rfl) rfl (by kernel_rfl) hm ?_
  refine callS_ (by kernel_rfl) (fun l m' s => (fun h => awake_calls _ h) s.okm ) ?_
  rintro Mq1 vq1 leq1 rfl
  refine callS_ (by kernel_rfl) (fun l m' s => (fun h => twoS sa sb ha hb h) s.okm ) ?_
  rintro Mq2 vq2 leq2 ⟨b1, p1, k1, c1, b2, p2, k2, c2, n, k, p3, c3, n', p4, c4, k', is, rfl, x, y, v, w, hi⟩
  refine Br.mk (fun h0 => ?_) (fun h0 => ?_)
  · exact fin_at (fun _ _ => rfl)
  obtain ⟨-, -, rfl, rfl, sx, sy, -, -⟩ := hi (by simpa using h0)
  have x : IntS _ _ n' 2000 := ⟨x, sx⟩
  have y : IntS _ _ k' 2000 := ⟨y, sy⟩
  have v : RefS _ _ n' 2000 := ⟨v, sx⟩
  have w : RefS _ _ k' 2000 := ⟨w, sy⟩
  refine callS_ (by kernel_rfl) (fun l m' s => addS s.okm (x.mono s.le) (y.mono s.le)) ?_
  rintro Mq3 vq3 leq3 a
  replace x := x.mono leq3
  replace y := y.mono leq3
  replace v := v.mono leq3
  replace w := w.mono leq3
  refine callS_ (by kernel_rfl) (fun l m' s => stringS s.okm (a.mono s.le)) ?_
  rintro Mq4 vq4 leq4 rfl
  replace x := x.mono leq4
  replace y := y.mono leq4
  replace v := v.mono leq4
  replace w := w.mono leq4
  replace a := a.mono leq4
  refine callS_ (by kernel_rfl) (fun l m' s => subS s.okm (x.mono s.le) (y.mono s.le)) ?_
  rintro Mq5 vq5 leq5 a
  replace x := x.mono leq5
  replace y := y.mono leq5
  replace v := v.mono leq5
  replace w := w.mono leq5
  refine callS_ (by kernel_rfl) (fun l m' s => stringS s.okm (a.mono s.le)) ?_
  rintro Mq6 vq6 leq6 rfl
  replace x := x.mono leq6
  replace y := y.mono leq6
  replace v := v.mono leq6
  replace w := w.mono leq6
  replace a := a.mono leq6
  refine callS_ (by kernel_rfl) (fun l m' s => mulS s.okm (x.mono s.le) (y.mono s.le)) ?_
  rintro Mq7 vq7 leq7 a
  replace x := x.mono leq7
  replace y := y.mono leq7
  replace v := v.mono leq7
  replace w := w.mono leq7
  refine callS_ (by kernel_rfl) (fun l m' s => stringS s.okm (a.mono s.le)) ?_
  rintro Mq8 vq8 leq8 rfl
  replace x := x.mono leq8
  replace y := y.mono leq8
  replace v := v.mono leq8
  replace w := w.mono leq8
  replace a := a.mono leq8
  refine callS_ (by kernel_rfl) (fun l m' s => negS s.okm (x.mono s.le)) ?_
  rintro Mq9 vq9 leq9 a
  replace x := x.mono leq9
  replace y := y.mono leq9
  replace v := v.mono leq9
  replace w := w.mono leq9
  refine callS_ (by kernel_rfl) (fun l m' s => stringS s.okm (a.mono s.le)) ?_
  rintro Mq10 vq10 leq10 rfl
  replace x := x.mono leq10
  replace y := y.mono leq10
  replace v := v.mono leq10
  replace w := w.mono leq10
  replace a := a.mono leq10
  refine callS_ (by kernel_rfl) (fun l m' s => signS s.okm (x.mono s.le)) ?_
  rintro Mq11 vq11 leq11 rfl
  replace x := x.mono leq11
  replace y := y.mono leq11
  replace v := v.mono leq11
  replace w := w.mono leq11
  refine callS_ (by kernel_rfl) (fun l m' s => cmpS s.okm (x.mono s.le) (y.mono s.le)) ?_
  rintro Mq12 vq12 leq12 rfl
  replace x := x.mono leq12
  replace y := y.mono leq12
  replace v := v.mono leq12
  replace w := w.mono leq12
  refine Br.yes rfl ?_
  refine callS_ (by kernel_rfl) (fun l m' s => raddS s.okm (v.mono s.le) (w.mono s.le)) ?_
  rintro Mq13 vq13 leq13 a
  replace v := v.mono leq13
  replace w := w.mono leq13
  refine callS_ (by kernel_rfl) (fun l m' s => rstringS s.okm (a.mono s.le)) ?_
  rintro Mq14 vq14 leq14 rfl
  replace v := v.mono leq14
  replace w := w.mono leq14
  replace a := a.mono leq14
  refine Br.yes (beq_refl' _) ?_
  refine callS_ (by kernel_rfl) (fun l m' s => rsubS s.okm (v.mono s.le) (w.mono s.le)) ?_
  rintro Mq15 vq15 leq15 a
  replace v := v.mono leq15
  replace w := w.mono leq15
  refine callS_ (by kernel_rfl) (fun l m' s => rstringS s.okm (a.mono s.le)) ?_
  rintro Mq16 vq16 leq16 rfl
  replace v := v.mono leq16
  replace w := w.mono leq16
  replace a := a.mono leq16
  refine Br.yes (beq_refl' _) ?_
  refine callS_ (by kernel_rfl) (fun l m' s => rmulS s.okm (v.mono s.le) (w.mono s.le)) ?_
  rintro Mq17 vq17 leq17 a
  replace v := v.mono leq17
  replace w := w.mono leq17
  refine callS_ (by kernel_rfl) (fun l m' s => rstringS s.okm (a.mono s.le)) ?_
  rintro Mq18 vq18 leq18 rfl
  replace v := v.mono leq18
  replace w := w.mono leq18
  replace a := a.mono leq18
  refine Br.yes (beq_refl' _) ?_
  refine callS_ (by kernel_rfl) (fun l m' s => rminusS s.okm (v.mono s.le)) ?_
  rintro Mq19 vq19 leq19 a
  replace v := v.mono leq19
  replace w := w.mono leq19
  refine callS_ (by kernel_rfl) (fun l m' s => rstringS s.okm (a.mono s.le)) ?_
  rintro Mq20 vq20 leq20 rfl
  replace v := v.mono leq20
  replace w := w.mono leq20
  replace a := a.mono leq20
  refine Br.yes (beq_refl' _) ?_
  refine callS_ (by kernel_rfl) (fun l m' s => rsignS s.okm (v.mono s.le)) ?_
  rintro Mq21 vq21 leq21 rfl
  replace v := v.mono leq21
  replace w := w.mono leq21
  refine Br.yes (by simp) ?_
  refine callS_ (by kernel_rfl) (fun l m' s => rcmpS s.okm (v.mono s.le) (w.mono s.le)) ?_
  rintro Mq22 vq22 leq22 rfl
  replace v := v.mono leq22
  replace w := w.mono leq22
  exact fin_at (v := .bool true) (fun _ _ => rfl) (hv := fun _ => congrArg Value.bool (by simp))

set_option maxRecDepth 20000 in
set_option maxHeartbeats 2000000 in
theorem parts_calls (sa sb : ByteArray) (m : Mo) (hm : m.okm) : Calls Try.prog 5 #[.string sa, .string sb] m.w (Post m fun _ v => v = .bool true) := by
  obtain ⟨ba, ha⟩ : ∃ bs, bytesI sa = bs := ⟨_, rfl⟩
  obtain ⟨bb, hb⟩ : ∃ bs, bytesI sb = bs := ⟨_, rfl⟩
  refine enter_ Try.f5 _ 68 (args := [.string sa, .string sb]) (by kernel_rfl) rfl (by kernel_rfl) hm ?_
  refine callS_ (by kernel_rfl) (fun l m' s => (fun h => awake_calls _ h) s.okm ) ?_
  rintro Mq23 vq23 leq23 rfl
  refine callS_ (by kernel_rfl) (fun l m' s => (fun h => twoS sa sb ha hb h) s.okm ) ?_
  rintro Mq24 vq24 leq24 ⟨b1, p1, k1, c1, b2, p2, k2, c2, n, k, p3, c3, n', p4, c4, k', is, rfl, x, y, v, w, hi⟩
  refine Br.mk (fun h0 => ?_) (fun h0 => ?_)
  · exact fin_at (fun _ _ => rfl)
  obtain ⟨-, -, rfl, rfl, sx, sy, -, -⟩ := hi (by simpa using h0)
  have x : IntS _ _ n' 2000 := ⟨x, sx⟩
  have y : IntS _ _ k' 2000 := ⟨y, sy⟩
  have v : RefS _ _ n' 2000 := ⟨v, sx⟩
  have w : RefS _ _ k' 2000 := ⟨w, sy⟩
  by_cases hk : k' = 0
  · subst hk
    refine callS_ (by kernel_rfl) (fun l m' s => quo0S s.okm (x.mono s.le) (y.mono s.le)) ?_
    rintro Mq25 vq25 leq25 ⟨b5, p5, k5, c5, b6, p6, k6, c6, rfl, q, r⟩
    replace x := x.mono leq25
    replace y := y.mono leq25
    replace v := v.mono leq25
    replace w := w.mono leq25
    refine callS_ (by kernel_rfl) (fun l m' s => rquo0S s.okm (v.mono s.le) (w.mono s.le)) ?_
    rintro Mq26 vq26 leq26 ⟨b7, p7, k7, c7, b8, p8, k8, c8, rfl, q2, r2⟩
    replace x := x.mono leq26
    replace y := y.mono leq26
    replace v := v.mono leq26
    replace w := w.mono leq26
    replace q := q.mono leq26
    replace r := r.mono leq26
    refine callS_ (by kernel_rfl) (fun l m' s => stringS s.okm (q.mono s.le)) ?_
    rintro Mq27 vq27 leq27 rfl
    replace q := q.mono leq27
    replace r := r.mono leq27
    replace q2 := q2.mono leq27
    replace r2 := r2.mono leq27
    refine callS_ (by kernel_rfl) (fun l m' s => stringS s.okm (r.mono s.le)) ?_
    rintro Mq28 vq28 leq28 rfl
    replace q := q.mono leq28
    replace r := r.mono leq28
    replace q2 := q2.mono leq28
    replace r2 := r2.mono leq28
    refine Br.yes rfl (Br.yes rfl ?_)
    refine callS_ (by kernel_rfl) (fun l m' s => rstringS s.okm (q2.mono s.le)) ?_
    rintro Mq29 vq29 leq29 rfl
    replace q := q.mono leq29
    replace r := r.mono leq29
    replace q2 := q2.mono leq29
    replace r2 := r2.mono leq29
    refine Br.yes (beq_refl' _) ?_
    refine callS_ (by kernel_rfl) (fun l m' s => rstringS s.okm (r2.mono s.le)) ?_
    rintro Mq30 vq30 leq30 rfl
    replace q := q.mono leq30
    replace r := r.mono leq30
    replace q2 := q2.mono leq30
    replace r2 := r2.mono leq30
    exact fin_at (v := .bool true) (fun _ _ => rfl) (hv := fun _ => congrArg Value.bool (beq_refl' _))
  · skip
    refine callS_ (by kernel_rfl) (fun l m' s => quoS s.okm (x.mono s.le) (y.mono s.le) hk) ?_
    rintro Mq31 vq31 leq31 ⟨b5, p5, k5, c5, b6, p6, k6, c6, rfl, q, r⟩
    replace x := x.mono leq31
    replace y := y.mono leq31
    replace v := v.mono leq31
    replace w := w.mono leq31
    refine callS_ (by kernel_rfl) (fun l m' s => rquoS s.okm (v.mono s.le) (w.mono s.le) hk) ?_
    rintro Mq32 vq32 leq32 ⟨b7, p7, k7, c7, b8, p8, k8, c8, rfl, q2, r2⟩
    replace x := x.mono leq32
    replace y := y.mono leq32
    replace v := v.mono leq32
    replace w := w.mono leq32
    replace q := q.mono leq32
    replace r := r.mono leq32
    refine callS_ (by kernel_rfl) (fun l m' s => stringS s.okm (q.mono s.le)) ?_
    rintro Mq33 vq33 leq33 rfl
    replace q := q.mono leq33
    replace r := r.mono leq33
    replace q2 := q2.mono leq33
    replace r2 := r2.mono leq33
    refine callS_ (by kernel_rfl) (fun l m' s => stringS s.okm (r.mono s.le)) ?_
    rintro Mq34 vq34 leq34 rfl
    replace q := q.mono leq34
    replace r := r.mono leq34
    replace q2 := q2.mono leq34
    replace r2 := r2.mono leq34
    refine Br.yes rfl (Br.yes rfl ?_)
    refine callS_ (by kernel_rfl) (fun l m' s => rstringS s.okm (q2.mono s.le)) ?_
    rintro Mq35 vq35 leq35 rfl
    replace q := q.mono leq35
    replace r := r.mono leq35
    replace q2 := q2.mono leq35
    replace r2 := r2.mono leq35
    refine Br.yes (beq_refl' _) ?_
    refine callS_ (by kernel_rfl) (fun l m' s => rstringS s.okm (r2.mono s.le)) ?_
    rintro Mq36 vq36 leq36 rfl
    replace q := q.mono leq36
    replace r := r.mono leq36
    replace q2 := q2.mono leq36
    replace r2 := r2.mono leq36
    exact fin_at (v := .bool true) (fun _ _ => rfl) (hv := fun _ => congrArg Value.bool (beq_refl' _))

set_option maxRecDepth 20000 in
set_option maxHeartbeats 2000000 in
theorem tells_calls (sa : ByteArray) (m : Mo) (hm : m.okm) : Calls Try.prog 10 #[.string sa] m.w (Post m fun _ v => v = .bool true) := by
  obtain ⟨ba, ha⟩ : ∃ bs, bytesI sa = bs := ⟨_, rfl⟩
  have hza := bytes_size ha
  refine enter_ Try.f10 _ 88 (args := [.string sa]) (by kernel_rfl) rfl (by kernel_rfl) hm ?_
  refine callS_ (by kernel_rfl) (fun l m' s => (fun h => awake_calls _ h) s.okm ) ?_
  rintro Mq37 vq37 leq37 rfl
  refine callS_ (by kernel_rfl) (fun l m' s => (fun h => twoS sa ⟨#[48]⟩ ha bytes0' h) s.okm ) ?_
  rintro Mq38 vq38 leq38 ⟨b1, p1, k1, c1, b2, p2, k2, c2, n, k, p3, c3, n', p4, c4, k', is, rfl, x, -, v, -, hi⟩
  refine Br.mk (fun h0 => ?_) (fun h0 => ?_)
  · exact fin_at (fun _ _ => rfl)
  refine Br.mk (fun h1 => ?_) (fun h1 => ?_)
  · exact fin_at (fun _ _ => rfl)
  obtain ⟨-, -, rfl, rfl, sx, -, -, -⟩ := hi (by simpa using h0)
  have x : IntS _ _ n' 2000 := ⟨x, sx⟩
  have v : RefS _ _ n' 2000 := ⟨v, sx⟩
  have hl2 : ∀ {i : Nat} {v : Value} {m : Mo} {r : Int}, RefR m v r → sz r ≤ i → RefS m v r i := fun h h' => ⟨h, h'⟩
  by_cases hn : n' < 0
  · skip
    refine callS_ (by kernel_rfl) (fun l m' s => rootNegS s.okm (x.mono s.le) hn) ?_
    rintro Mq39 vq39 leq39 ⟨b5, p5, k5, c5, rfl, q⟩
    replace x := x.mono leq39
    replace v := v.mono leq39
    refine callS_ (by kernel_rfl) (fun l m' s => rroot_calls n' _ m' s.okm (v.r.mono s.le) (by omega)) ?_
    rintro Mr vr ler ⟨vq, e, rfl, hr, -⟩
    obtain ⟨rfl, q2⟩ := hr hn
    obtain ⟨p6, c6, rfl, q2⟩ := q2.shape
    have q2 : RefS _ _ 0 0 := ⟨q2, Nat.le_refl _⟩
    replace x := x.mono ler
    replace v := v.mono ler
    replace q := q.mono ler
    refine callS_ (by kernel_rfl) (fun l m' s => stringS s.okm (q.mono s.le)) ?_
    rintro Mq40 vq40 leq40 rfl
    replace x := x.mono leq40
    replace v := v.mono leq40
    replace q := q.mono leq40
    replace q2 := q2.mono leq40
    refine callS_ (by kernel_rfl) (fun l m' s => bitsS s.okm (x.mono s.le)) ?_
    rintro Mq41 vq41 leq41 rfl
    replace x := x.mono leq41
    replace v := v.mono leq41
    replace q := q.mono leq41
    replace q2 := q2.mono leq41
    refine callS_ (by kernel_rfl) (fun l m' s => smallS s.okm (x.mono s.le)) ?_
    rintro Mq42 vq42 leq42 rfl
    replace x := x.mono leq42
    replace v := v.mono leq42
    replace q := q.mono leq42
    replace q2 := q2.mono leq42
    refine callS_ (by kernel_rfl) (fun l m' s => rsmallS s.okm (v.mono s.le)) ?_
    rintro Mq43 vq43 leq43 rfl
    replace x := x.mono leq43
    replace v := v.mono leq43
    replace q := q.mono leq43
    replace q2 := q2.mono leq43
    refine Br.yes rfl (Br.yes (by simp) ?_)
    refine callS_ (by kernel_rfl) (fun l m' s => rstringS s.okm (q2.mono s.le)) ?_
    rintro Mq44 vq44 leq44 rfl
    replace v := v.mono leq44
    replace q2 := q2.mono leq44
    refine Br.yes (beq_refl' _) ?_
    refine callS_ (by kernel_rfl) (fun l m' s => rbitsS s.okm (v.mono s.le)) ?_
    rintro Mq45 vq45 leq45 rfl
    replace v := v.mono leq45
    replace q2 := q2.mono leq45
    refine Br.yes (by simp) (Br.yes (by simp) ?_)
    exact fin_at (v := .bool true) (fun _ _ => rfl) (hv := fun _ => congrArg Value.bool (by simp))
  · skip
    refine callS_ (by kernel_rfl) (fun l m' s => rootS s.okm (x.mono s.le) (show 0 ≤ n' by omega)) ?_
    rintro Mq46 vq46 leq46 ⟨b5, p5, k5, c5, r1, rfl, e1, e2, e3, q⟩
    replace x := x.mono leq46
    replace v := v.mono leq46
    refine callS_ (by kernel_rfl) (fun l m' s => rroot_calls n' _ m' s.okm (v.r.mono s.le) (by omega)) ?_
    rintro Mr vr ler ⟨vq, e, rfl, -, hr⟩
    obtain ⟨rfl, r2, f1, f2, f3, q2⟩ := hr (by omega)
    have er := root_unique f1 e1 f2 f3 e2 e3
    subst er
    obtain ⟨p6, c6, rfl, q2⟩ := q2.shape
    have q2 : RefS _ _ r2 2000 := ⟨q2, q.z⟩
    replace x := x.mono ler
    replace v := v.mono ler
    replace q := q.mono ler
    refine callS_ (by kernel_rfl) (fun l m' s => stringS s.okm (q.mono s.le)) ?_
    rintro Mq47 vq47 leq47 rfl
    replace x := x.mono leq47
    replace v := v.mono leq47
    replace q := q.mono leq47
    replace q2 := q2.mono leq47
    refine callS_ (by kernel_rfl) (fun l m' s => bitsS s.okm (x.mono s.le)) ?_
    rintro Mq48 vq48 leq48 rfl
    replace x := x.mono leq48
    replace v := v.mono leq48
    replace q := q.mono leq48
    replace q2 := q2.mono leq48
    refine callS_ (by kernel_rfl) (fun l m' s => smallS s.okm (x.mono s.le)) ?_
    rintro Mq49 vq49 leq49 rfl
    replace x := x.mono leq49
    replace v := v.mono leq49
    replace q := q.mono leq49
    replace q2 := q2.mono leq49
    refine callS_ (by kernel_rfl) (fun l m' s => rsmallS s.okm (v.mono s.le)) ?_
    rintro Mq50 vq50 leq50 rfl
    replace x := x.mono leq50
    replace v := v.mono leq50
    replace q := q.mono leq50
    replace q2 := q2.mono leq50
    refine Br.yes rfl (Br.yes (by simp) ?_)
    refine callS_ (by kernel_rfl) (fun l m' s => rstringS s.okm (q2.mono s.le)) ?_
    rintro Mq51 vq51 leq51 rfl
    replace v := v.mono leq51
    replace q2 := q2.mono leq51
    refine Br.yes (beq_refl' _) ?_
    refine callS_ (by kernel_rfl) (fun l m' s => rbitsS s.okm (v.mono s.le)) ?_
    rintro Mq52 vq52 leq52 rfl
    replace v := v.mono leq52
    replace q2 := q2.mono leq52
    refine Br.yes (by simp) (Br.yes (by simp) ?_)
    exact fin_at (v := .bool true) (fun _ _ => rfl) (hv := fun _ => congrArg Value.bool (by simp))
end Go.Proofs.Ytdkamjbcpmlheaa
