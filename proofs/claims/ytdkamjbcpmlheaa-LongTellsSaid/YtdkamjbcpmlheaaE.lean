/- Whole numbers: how they are written and read; the document's sums. -/
import Derived.Test.YtdkamjbcpmlheaaD
import Derived.Test.YtdkamjbcpmlheaaB
set_option linter.unusedVariables false
set_option linter.unusedSimpArgs false
/- Whole numbers of any size, as the program has them: how they are written. -/
namespace Go.Proofs.Ytdkamjbcpmlheaa
open Go Go.Gw Go.Lg
set_option pp.deepTerms false
set_option pp.deepTerms.threshold 6
set_option pp.maxSteps 3000

/-- The decimal digits, the lowest first. -/
def digsF : Nat → Nat → List Int
  | 0, _ => []
  | f + 1, n => if n = 0 then [] else ((n % 10 : Nat) : Int) :: digsF f (n / 10)
def digs (n : Nat) : List Int := digsF n n
theorem digsF_eq : ∀ (f g n : Nat), n ≤ f → n ≤ g → digsF f n = digsF g n
  | 0, 0, _, _, _ => rfl
  | 0, g + 1, n, h, _ => by
    have : n = 0 := by omega
    subst this; simp [digsF]
  | f + 1, 0, n, _, h => by
    have : n = 0 := by omega
    subst this; simp [digsF]
  | f + 1, g + 1, n, h1, h2 => by
    unfold digsF
    split
    · rfl
    · rw [digsF_eq f g (n / 10) (by omega) (by omega)]
theorem digs_zero : digs 0 = [] := rfl
theorem digs_pos {n : Nat} (h : n ≠ 0) : digs n = ((n % 10 : Nat) : Int) :: digs (n / 10) := by
  unfold digs
  obtain ⟨k, rfl⟩ : ∃ k, n = k + 1 := ⟨n - 1, by omega⟩
  conv => lhs; unfold digsF
  rw [if_neg h, digsF_eq k ((k + 1) / 10) _ (by omega) (by omega)]
theorem digs_range (n : Nat) : ∀ x ∈ digs n, 0 ≤ x ∧ x < 10 := by
  induction n using Nat.strongRecOn with
  | _ n ih =>
    by_cases h : n = 0
    · subst h; intro x hx; cases hx
    · rw [digs_pos h]
      intro x hx
      rcases List.mem_cons.1 hx with rfl | hx
      · omega
      · exact ih (n / 10) (by omega) x hx
theorem digs_len : ∀ (k n : Nat), n < 2 ^ k → (digs n).length ≤ k
  | 0, n, h => by
    have : n = 0 := by simpa using h
    subst this; simp [digs_zero]
  | k + 1, n, h => by
    by_cases h0 : n = 0
    · subst h0; simp [digs_zero]
    · rw [digs_pos h0, List.length_cons]
      have := digs_len k (n / 10) (by rw [Nat.pow_succ] at h; omega)
      omega
def asc (ds : List Int) : List Int := ds.map (· + 48)
/-- How a number is written. -/
def decS (n : Int) : List Int := if n = 0 then [48] else (if n < 0 then [45] else []) ++ (asc (digs n.natAbs)).reverse
def decB (n : Int) : ByteArray := strB (decS n)
theorem asc_range (n : Nat) : ∀ x ∈ asc (digs n), 0 ≤ x ∧ x < 256 := by
  intro x hx
  unfold asc at hx
  obtain ⟨d, hd, rfl⟩ := List.mem_map.1 hx
  have := digs_range n d hd
  omega
theorem decS_range (n : Int) : ∀ x ∈ decS n, 0 ≤ x ∧ x < 256 := by
  intro x hx
  unfold decS at hx
  split at hx
  · simp at hx; omega
  · rcases List.mem_append.1 hx with hx | hx
    · split at hx
      · simp at hx; omega
      · cases hx
    · exact asc_range _ x (List.mem_reverse.1 hx)
theorem bytes_decB (n : Int) : bytesI (decB n) = decS n := bytes_strB (decS_range n)

theorem ext_getD {xs ys : List Int} (hl : xs.length = ys.length) (h : ∀ k, k < xs.length → xs.getD k 0 = ys.getD k 0) : xs = ys := by
  apply List.ext_getElem hl
  intro k h1 h2
  have := h k h1
  simpa [List.getD, h1, h2] using this
theorem getD_rev (ys : List Int) (k : Nat) (h : k < ys.length) : ys.reverse.getD k 0 = ys.getD (ys.length - 1 - k) 0 := by
  simp [List.getD, List.getElem?_reverse h]

set_option maxRecDepth 10000 in
theorem reverse_calls (ys : List Int) (ca : Nat) (m : Mo) (hm : m.okm) (b : Nat) (arr : Array Value) (tot : Nat) (hbm : b ∈ m.L) (hg : m.w.heap[b]? = some (.cells arr 5 (0, 0))) (hs : arr.size = tot) (hc : arr.toList.take ys.length = ys.map (.int .u8)) (hx : ys.length ≤ 1000000000) :
    Calls Try.prog 42 #[.slice (some ⟨b, 0, none⟩) ys.length ca] m.w (PostM b 5 tot .u8 m.w fun _ ys' _ => ys' = ys.reverse) := by
  refine enterM_ Try.f42 _ 28 b 5 tot .u8 ys [] [] [.ls 0 0 ys.length ca] (by kernel_rfl) rfl (by kernel_rfl) hm hbm hg hs hc (by simp [concL, conc, Base.up]) (by simp [okL, AV.ok]) trivial ?_
  refine loop_ (ι := Nat × List Int) (fun i => [(0, .ls 0 0 ys.length ca), (2, .v (.int .i64 i.1)), (3, .v (.int .i64 ((ys.length : Int) - 1 - i.1)))])
    (fun i => [⟨some (5, tot), .ints .u8 i.2⟩])
    (fun i _ => i.2.length = ys.length ∧ i.1 ≤ ys.length ∧ (∀ k, k < ys.length → i.2.getD k 0 = if k < i.1 ∨ ys.length - i.1 ≤ k then ys.getD (ys.length - 1 - k) 0 else ys.getD k 0)) (fun i => ys.length - i.1) (0, ys) (M0 := m) ?_ ?_ ?_
  · exact Ref.sub (by exact ⟨rfl, rfl, some_nrm (by rw [wrap_in _ (by omega) (by omega)]; omega), trivial⟩)
  · exact ⟨rfl, Nat.zero_le _, fun k hk => by rw [if_neg (by omega)]⟩
  rintro ⟨i, cur⟩ M1 ⟨h1, h2, h3⟩
  simp only at h1 h2 h3
  refine Br.mk (fun hb => ?_) (fun hb => ?_)
  · have hb : (i : Int) < (ys.length : Int) - 1 - i := by simpa using hb
    have ej : ((ys.length : Int) - 1 - i) = ((ys.length - 1 - i : Nat) : Int) := by omega
    have tj : ((ys.length : Int) - 1 - i).toNat = ys.length - 1 - i := by omega
    refine draw_ [(6, []), (7, []), (10, []), (11, []), (12, [])] [0, 1, 2, 3, 4, 5, 6, 7, 8, 9, 10, 11, 12] [] [13, 14, 15] [(13, 0), (15, 0)] (by kernel_rfl) rfl rfl ?_
    refine ix_ ⟨by omega, by omega⟩ (by rw [tj]; show ys.length - 1 - i < cur.length; omega) ?_
    refine ix_ ⟨by omega, by omega⟩ (by show (i : Int).toNat < cur.length; omega) ?_
    refine ix_ ⟨by omega, by omega⟩ (by show (i : Int).toNat < cur.length; omega) ?_
    refine ix_ ⟨by omega, by omega⟩ (by rw [tj]; show ys.length - 1 - i < (cur.set _ _).length; simp; omega) ?_
    refine ⟨(i + 1, (cur.set i (cur.getD (ys.length - 1 - i) 0)).set (ys.length - 1 - i) (cur.getD i 0)), M1, Ref.subS (by exact ⟨rfl, some_nrm (wrap_in _ (by omega) (by omega)), some_nrm (by rw [wrap_in _ (by omega) (by omega)]; simp only; omega), trivial⟩) ?_, ⟨by simpa using h1, by simp only; omega, fun k hk => ?_⟩, by simp only; omega⟩
    · simp only [tj, Int.toNat_natCast]
    · simp only
      have e1 := h3 i (by omega)
      rw [if_neg (by omega)] at e1
      have e2 := h3 (ys.length - 1 - i) (by omega)
      rw [if_neg (by omega)] at e2
      rw [set_getD _ _ _ _ (by simp; omega), set_getD _ _ _ _ (by omega)]
      by_cases c1 : ys.length - 1 - i = k
      · rw [if_pos c1, if_pos (by omega), e1]; congr 1; omega
      · rw [if_neg c1]
        by_cases c2 : i = k
        · rw [if_pos c2, if_pos (by omega), e2]; congr 1; omega
        · rw [if_neg c2, h3 k hk]
          by_cases c3 : k < i ∨ ys.length - i ≤ k
          · rw [if_pos c3, if_pos (by omega)]
          · rw [if_neg c3, if_neg (by omega)]
  · have hb : (ys.length : Int) - 1 - i ≤ i := by simpa using hb
    refine fin_mutV (v := .tuple #[]) (fun _ => ?_)
    refine ext_getD (by simpa using h1) fun k hk => ?_
    replace hk : k < cur.length := hk
    rw [h3 k (by omega), getD_rev _ _ (by omega)]
    split
    · rfl
    · congr 1; omega
/-- What is still to be written. -/
theorem dig_step {T : Int} (h : 0 < T) : asc (digs T.toNat) = (T % 10 + 48) :: asc (digs (T / 10).toNat) := by
  rw [digs_pos (n := T.toNat) (by omega)]
  unfold asc
  rw [List.map_cons]
  congr 1
  · omega
  · congr 2; omega

set_option maxRecDepth 10000 in
theorem string_calls (n : Int) (va : Value) (m : Mo) (hm : m.okm) (ha : IntR m va n) (hs : sz n ≤ 10000000) :
    Calls Try.prog 15 #[va] m.w (Post m fun _ v => v = .string (decB n)) := by
  obtain ⟨b, vr, xs, rfl, hr, ox, nx, hb0, hn⟩ := ha
  have hr0 := hr
  obtain ⟨a, ca, rfl, hca, hsa, hra⟩ := hr0
  have hx := len_sz (b := b) ox nx
  rw [← hn] at hx
  refine enter_ Try.f15 _ 52 (args := [.agg #[.bool b, .slice (Base.up a 0) xs.length ca]]) (by kernel_rfl) rfl (by kernel_rfl) hm ?_
  refine Br.mk (fun h0 => ?_) (fun h0 => ?_)
  · have h0 : xs = [] := by apply List.eq_nil_of_length_eq_zero; simpa using h0
    subst h0
    have hz : n = 0 := by rw [hn]; cases b <;> rfl
    subst hz
    exact fin_at (fun _ _ => rfl)
  have h0 : xs ≠ [] := fun e => by subst e; simp at h0
  have hp := nrmd_pos B32_pos ox nx h0
  have hN : (n.natAbs : Int) = val B32 xs := by rw [hn]; unfold sg; split <;> omega
  have hlN : (digs n.natAbs).length ≤ 900000000 := by
    have h1 := blen_lt n
    have h2 := blen_sz n
    have := digs_len (blen n) n.natAbs h1
    omega
  refine LoopK.nil 3 5 .u8 rfl ?_
  refine loop_ (ι := (Option Addr × Nat × Nat) × List Int × List Int × Nat) (fun i => [(4, .v (.slice i.1.1 i.1.2.1 i.1.2.2)), (3, .ls 1 0 i.2.2.1.length i.2.2.2), (1, .lp 0 0)])
    (fun i => [⟨some (25, 2), .lit [.v (.bool b), .v (.slice (Base.up a 0) xs.length ca)]⟩, ⟨some (5, i.2.2.2), .ints .u8 i.2.2.1⟩])
    (fun i M => m.Le M ∧ M.ints (.slice i.1.1 i.1.2.1 i.1.2.2) .u32 i.2.1 ∧ okd B32 i.2.1 ∧ nrmd i.2.1 ∧ i.2.1.length ≤ xs.length ∧ i.2.2.1 ++ asc (digs (val B32 i.2.1).toNat) = asc (digs n.natAbs)) (fun i => (val B32 i.2.1).toNat) ((Base.up a 0, xs.length, ca), xs, [], 0) (M0 := m) ?_ ?_ ?_
  · exact Ref.sub (by exact ⟨rfl, rfl, rfl, trivial⟩)
  · exact ⟨.refl m, hr, ox, nx, Nat.le_refl _, by simp only [List.nil_append]; congr 2; omega⟩
  rintro ⟨⟨p, kl, c⟩, ls, out, cap⟩ M1 ⟨g1, g2, g3, g4, g5, g6⟩
  simp only at g1 g2 g3 g4 g5 g6
  have ekl : kl = ls.length := by obtain ⟨_, _, e, _⟩ := g2; injection e
  subst ekl
  have lout : out.length ≤ 900000000 := by
    have := congrArg List.length g6
    simp [asc] at this
    omega
  refine Br.mk (fun hb => ?_) (fun hb => ?_)
  · have hl : 0 < ls.length := by simpa using hb
    have hls : ls ≠ [] := fun e => by subst e; simp at hl
    have hv := nrmd_pos B32_pos g3 g4 hls
    refine callS_ (by kernel_rfl) (fun l m' s => by_calls ls _ 1000000000 m' s.okm (g2.mono s.le) g3 (by unfold B32; omega) (by omega)) ?_
    rintro M2 v2 le2 ⟨vq, qs, r, rfl, q1, q2, q3, q4, q5⟩
    refine callS_ (by kernel_rfl) (fun l m' s => made_int false qs _ m' s.okm (q1.mono s.le) q3 (by omega)) ?_
    rintro M3 v3 le3 q6
    have sq := q6.shape
    obtain ⟨b', p', kl', c', rfl, q6⟩ := sq
    have sb := q6.sign
    obtain ⟨b'', vr', ls', e1, i1, o1, n1, _, e2⟩ := q6
    injection e1 with e1
    injection e1 with e1
    injection e1 with e1 e3
    injection e1 with e1
    injection e3 with e3
    subst e1; subst e3
    have ekl : kl' = ls'.length := by obtain ⟨_, _, e, _⟩ := i1; injection e
    subst ekl
    have hq0 := val_nonneg B32_pos q3
    have hbf : b' = false := by rw [sb]; simp [sg]; omega
    subst hbf
    have e2 : val B32 qs = val B32 ls' := e2
    have hl' : ls'.length ≤ ls.length := by
      rw [← q2]; exact nrmd_len (by decide) o1 n1 (by rw [← e2]; exact val_lt B32_pos q3)
    refine loop_ (ι := Nat × Int × List Int × Nat) (fun i => [(24, .v (.int .i64 i.1)), (6, .v (.int .u32 i.2.1)), (4, .v (.slice p' ls'.length c')), (3, .ls 1 0 i.2.2.1.length i.2.2.2), (1, .lp 0 0)])
      (fun i => [⟨some (25, 2), .lit [.v (.bool b), .v (.slice (Base.up a 0) xs.length ca)]⟩, ⟨some (5, i.2.2.2), .ints .u8 i.2.2.1⟩])
      (fun i M => i.1 ≤ 9 ∧ 0 ≤ i.2.1 ∧ i.2.1 < 10 ^ (9 - i.1) ∧ i.2.2.1 ++ asc (digs (i.2.1 + val B32 ls' * 10 ^ (9 - i.1)).toNat) = asc (digs n.natAbs) ∧ M3.Le M) (fun i => 9 - i.1) (0, r, out, cap) (M0 := M3) ?_ ?_ ?_
    · exact Ref.sub (by exact ⟨rfl, rfl, rfl, rfl, rfl, trivial⟩)
    · refine ⟨by simp, q4.1, by simpa using q4.2, ?_, .refl _⟩
      simp only
      rw [← g6]
      congr 3
      rw [q5, e2]
      congr 1
      show r + _ * 1000000000 = _
      omega
    rintro ⟨k, rr, ot, cp⟩ M4 ⟨f1, f2, f3, f4, f5⟩
    simp only at f1 f2 f3 f4 f5
    have lot : ot.length ≤ 1000000000 := by
      have := congrArg List.length f4
      simp [asc] at this
      omega
    refine Br.mk (fun hb => ?_) (fun hb => ?_)
    · have hk : k < 9 := by simp at hb; omega
      have hP : (0 : Int) < 10 ^ (9 - (k + 1)) := Int.pow_pos (by decide)
      have hP9 : (10 : Int) ^ (9 - k) ≤ 1000000000 := by
        have := pow_mono (B := 10) (by decide) (show 9 - k ≤ 9 by omega)
        simpa using this
      have e10 : (10 : Int) ^ (9 - k) = 10 * 10 ^ (9 - (k + 1)) := by
        rw [show 9 - k = (9 - (k + 1)) + 1 by omega, Int.pow_succ]; omega
      have hv' := val_nonneg B32_pos o1
      have eT : rr + val B32 ls' * 10 ^ (9 - k) = rr + 10 * (val B32 ls' * 10 ^ (9 - (k + 1))) := by
        rw [e10, Int.mul_left_comm]
      have hnn : 0 ≤ val B32 ls' * 10 ^ (9 - (k + 1)) := Int.mul_nonneg hv' (Int.le_of_lt hP)
      have r1 : IntKind.u32.wrap (rr.tdiv 10) = rr / 10 := by rw [Int.tdiv_eq_ediv_of_nonneg f2, wrap_u32]; omega
      have r2 : IntKind.u8.wrap (IntKind.u32.wrap (48 + rr.tmod 10)) = rr % 10 + 48 := by rw [Int.tmod_eq_emod_of_nonneg f2, wrap_u32, wrap_u8]; omega
      have r3 : rr / 10 < 10 ^ (9 - (k + 1)) := by rw [e10] at f3; omega
      rw [eT] at f4
      have more : 0 < rr ∨ 0 < ls'.length → (ot ++ [rr % 10 + 48]) ++ asc (digs (rr / 10 + val B32 ls' * 10 ^ (9 - (k + 1))).toNat) = asc (digs n.natAbs) := by
        intro h
        rw [← f4]
        have : 0 < rr + 10 * (val B32 ls' * 10 ^ (9 - (k + 1))) := by
          rcases h with h | h
          · omega
          · have h1 : ls' ≠ [] := fun e => by subst e; simp at h
            have h2 := Int.mul_pos (nrmd_pos B32_pos o1 n1 h1) hP
            omega
        rw [dig_step this, List.append_assoc, List.singleton_append]
        congr 2
        · omega
        · congr 3; omega
      have less : ¬ 0 < rr → ¬ 0 < ls'.length → ot ++ asc (digs (rr / 10 + val B32 ls' * 10 ^ (9 - (k + 1))).toNat) = asc (digs n.natAbs) := by
        intro h h'
        rw [← f4]
        have : ls' = [] := List.eq_nil_of_length_eq_zero (by omega)
        subst this
        simp only [val, Int.zero_mul, Int.mul_zero, Int.add_zero]
        congr 3
        omega
      refine Br.mk (fun hc => ?_) (fun hc => ?_)
      · have hc : 0 < rr := by simpa using hc
        refine And.intro (by decide) ?_
        refine app_ .u8 (xs := ot) (news := [IntKind.u8.wrap (IntKind.u32.wrap (48 + rr.tmod 10))]) rfl (fun _ => rfl) rfl (by kernel_rfl) (by kernel_rfl) (rd_lit (e' := 5) (by kernel_rfl) rfl (fun _ => rfl) rfl) (by simp; omega) fun cap' hcap => ?_
        refine And.intro (by decide) ?_
        refine ⟨(k + 1, rr / 10, ot ++ [rr % 10 + 48], cap'), M4, Ref.ren [some 0, some 3] (by rfl) (by exact ⟨⟨some_nrm (wrap_in _ (by omega) (by omega)), trivial⟩, ⟨some_nrm r1, trivial⟩, ⟨rfl, trivial⟩, ⟨by simp only [List.length_append]; rfl, by simp [AV.ok]⟩, ⟨rfl, by simp [AV.ok]⟩, trivial⟩) (by exact ⟨⟨rfl, by simp [Cells.ok, okL, AV.ok]⟩, ⟨by rw [r2]; rfl, trivial⟩, trivial⟩), ⟨by simp only; omega, by simp only; omega, r3, more (.inl hc), f5⟩, by simp only; omega⟩
      · have hc : ¬ 0 < rr := by simpa using hc
        refine Br.mk (fun hd => ?_) (fun hd => ?_)
        · have hd : 0 < ls'.length := by simpa using hd
          refine And.intro (by decide) ?_
          refine app_ .u8 (xs := ot) (news := [IntKind.u8.wrap (IntKind.u32.wrap (48 + rr.tmod 10))]) rfl (fun _ => rfl) rfl (by kernel_rfl) (by kernel_rfl) (rd_lit (e' := 5) (by kernel_rfl) rfl (fun _ => rfl) rfl) (by simp; omega) fun cap' hcap => ?_
          refine And.intro (by decide) ?_
          refine ⟨(k + 1, rr / 10, ot ++ [rr % 10 + 48], cap'), M4, Ref.ren [some 0, some 3] (by rfl) (by exact ⟨⟨some_nrm (wrap_in _ (by omega) (by omega)), trivial⟩, ⟨some_nrm r1, trivial⟩, ⟨rfl, trivial⟩, ⟨by simp only [List.length_append]; rfl, by simp [AV.ok]⟩, ⟨rfl, by simp [AV.ok]⟩, trivial⟩) (by exact ⟨⟨rfl, by simp [Cells.ok, okL, AV.ok]⟩, ⟨by rw [r2]; rfl, trivial⟩, trivial⟩), ⟨by simp only; omega, by simp only; omega, r3, more (.inr hd), f5⟩, by simp only; omega⟩
        · have hd : ¬ 0 < ls'.length := by have := of_decide_eq_false hd; omega
          refine And.intro (by decide) ?_
          refine ⟨(k + 1, rr / 10, ot, cp), M4, Ref.sub (by exact ⟨some_nrm (wrap_in _ (by omega) (by omega)), some_nrm r1, rfl, rfl, rfl, trivial⟩), ⟨by simp only; omega, by simp only; omega, r3, less hc hd, f5⟩, by simp only; omega⟩
    · have hk : k = 9 := by simp at hb; omega
      subst hk
      have hr0 : rr = 0 := by simp at f3; omega
      subst hr0
      refine ⟨((p', ls'.length, c'), ls', ot, cp), M4, Ref.sub (by exact ⟨rfl, rfl, rfl, trivial⟩), ⟨g1.trans (le2.trans (le3.trans f5)), i1.mono f5, o1, n1, by simp only; omega, by simpa using f4⟩, ?_⟩
      simp only
      omega
  · have hl : ls = [] := by simpa using hb
    subst hl
    have eo : out = asc (digs n.natAbs) := by simpa [val, digs_zero, asc] using g6
    have hab : out ≠ [] := by
      rw [eo, digs_pos (by omega)]; simp [asc]
    refine Br.mk (fun hc => ?_) (fun hc => ?_)
    · subst hc
      refine app_ .u8 (xs := out) (news := [45]) rfl (fun _ => rfl) rfl (by kernel_rfl) (by kernel_rfl) (rd_lit (e' := 5) (by kernel_rfl) rfl (fun _ => rfl) rfl) (by simp; omega) fun cap' hcap => ?_
      refine callm_ (id := 3) (ys := (out ++ [45])) (R := fun ys' _ => ys' = ((out ++ [45])).reverse) (by kernel_rfl) rfl (by first | exact hab | simp) (fun l m' b' arr' hw => ?_) ?_
      · have rv := reverse_calls ((out ++ [45])) cap' m' hw.sees.okm b' arr' _ hw.mem hw.heap hw.size hw.cells (by first | omega | (simp; omega))
        have el : ((out ++ [45])).length = out.length + [45].length := by first | rfl | simp
        rw [el] at rv
        refine Eq.mpr (congrArg (fun z => Calls _ _ (List.toArray z) _ _) ?_) rv
        show [conc l (.ls 3 0 (out.length + [45].length) cap')] = _
        rw [hw.arg]
        try rfl
      rintro M5 ys' v5 le5 rfl
      refine conv_str_ 5 (by kernel_rfl) (by kernel_rfl) (by kernel_rfl) rfl (by rw [List.length_reverse, Nat.zero_add]; first | exact Nat.le_refl _ | simp) ?_
      refine fin_at (fun _ _ => ?_)
      have ht : ∀ k, ((out ++ [45])).length ≤ k → List.take k ((out ++ [45])).reverse = ((out ++ [45])).reverse := fun k hk => List.take_of_length_le (by rw [List.length_reverse]; exact hk)
      rw [List.drop_zero, ht]
      rotate_left
      · first | exact Nat.le_refl _ | simp
      rw [List.reverse_append, eo]
      simp only [sg] at hn
      unfold decB decS
      rw [if_neg (by omega), if_pos (by simp at hn; omega)]
      rfl
    · subst hc
      refine callm_ (id := 1) (ys := out) (R := fun ys' _ => ys' = (out).reverse) (by kernel_rfl) rfl (by first | exact hab | simp) (fun l m' b' arr' hw => ?_) ?_
      · have rv := reverse_calls (out) cap m' hw.sees.okm b' arr' _ hw.mem hw.heap hw.size hw.cells (by first | omega | (simp; omega))
        have el : (out).length = out.length := by first | rfl | simp
        rw [el] at rv
        refine Eq.mpr (congrArg (fun z => Calls _ _ (List.toArray z) _ _) ?_) rv
        show [conc l (.ls 1 0 (out.length) cap)] = _
        rw [hw.arg]
        try rfl
      rintro M5 ys' v5 le5 rfl
      refine conv_str_ 5 (by kernel_rfl) (by kernel_rfl) (by kernel_rfl) rfl (by rw [List.length_reverse, Nat.zero_add]; first | exact Nat.le_refl _ | simp) ?_
      refine fin_at (fun _ _ => ?_)
      have ht : ∀ k, (out).length ≤ k → List.take k (out).reverse = (out).reverse := fun k hk => List.take_of_length_le (by rw [List.length_reverse]; exact hk)
      rw [List.drop_zero, ht]
      rotate_left
      · first | exact Nat.le_refl _ | simp
      rw [eo]
      simp only [sg] at hn
      unfold decB decS
      rw [if_neg (by simp at hn; omega), if_neg (by simp at hn; omega)]
      rfl
end Go.Proofs.Ytdkamjbcpmlheaa

/- Whole numbers of any size, as the program has them: how they are read. -/
namespace Go.Proofs.Ytdkamjbcpmlheaa
open Go Go.Gw Go.Lg
set_option pp.deepTerms false
set_option pp.deepTerms.threshold 6
set_option pp.maxSteps 3000

/-- What so many digits say. -/
def dval (ds : List Int) : Int := ds.foldl (fun a c => 10 * a + (c - 48)) 0
def isDig (c : Int) : Bool := decide (48 ≤ c) && decide (c ≤ 57)
theorem isDig_lt {c : Int} (h : c < 48) : isDig c = false := by unfold isDig; rw [decide_eq_false (by omega)]; rfl
theorem isDig_gt {c : Int} (h : 57 < c) : isDig c = false := by unfold isDig; rw [decide_eq_false (show ¬ c ≤ 57 by omega), Bool.and_false]
theorem isDig_in {c : Int} (h : 48 ≤ c) (h' : c ≤ 57) : isDig c = true := by unfold isDig; rw [decide_eq_true h, decide_eq_true h']; rfl
/-- Which number a text is, if it is one. -/
def parsed (bs : List Int) : Option Int :=
  if (if bs.head? = some 45 then bs.tail else bs) = [] ∨ ((if bs.head? = some 45 then bs.tail else bs).head? = some 48 ∧ bs ≠ [48]) then none
  else if (if bs.head? = some 45 then bs.tail else bs).all isDig then some (sg (decide (bs.head? = some 45)) (dval (if bs.head? = some 45 then bs.tail else bs))) else none

theorem dval_snoc (ds : List Int) (c : Int) : dval (ds ++ [c]) = 10 * dval ds + (c - 48) := by unfold dval; rw [List.foldl_append]; rfl
theorem dval_range : ∀ (ds : List Int), ds.all isDig = true → 0 ≤ dval ds ∧ dval ds < 10 ^ ds.length := by
  intro ds h
  have key : ∀ n, n ≤ ds.length → 0 ≤ dval (ds.take n) ∧ dval (ds.take n) < 10 ^ n := by
    intro n
    induction n with
    | zero => intro _; simp [dval]
    | succ n ih =>
      intro hn
      obtain ⟨h1, h2⟩ := ih (by omega)
      have hd : isDig ds[n] = true := List.all_eq_true.1 h _ (List.getElem_mem (by omega))
      simp only [isDig, Bool.and_eq_true, decide_eq_true_eq] at hd
      rw [List.take_add_one, List.getElem?_eq_getElem (by omega)]
      simp only [Option.toList]
      rw [dval_snoc, Int.pow_succ]
      omega
  simpa using key ds.length (Nat.le_refl _)

theorem getD_mem {xs : List Int} {i : Nat} (h : i < xs.length) : xs.getD i 0 ∈ xs := by simp [List.getD, List.getElem?_eq_getElem h]
theorem head_getD {bs : List Int} (h : bs ≠ []) : bs.head? = some (bs.getD 0 0) := by
  match bs, h with
  | x :: r, _ => rfl
theorem parsed_neg {bs : List Int} (h : bs ≠ []) (h2 : bs.getD 0 0 = 45) : parsed bs = if bs.tail = [] ∨ bs.tail.head? = some 48 then none else if bs.tail.all isDig then some (sg true (dval bs.tail)) else none := by
  have hh := head_getD h
  rw [h2] at hh
  unfold parsed
  simp only [hh, if_true, decide_true]
  have : bs ≠ [48] := fun e => by rw [e] at hh; cases hh
  simp only [this, ne_eq, not_false_iff, and_true]
theorem parsed_pos {bs : List Int} (h : bs ≠ []) (h2 : bs.getD 0 0 ≠ 45) : parsed bs = if bs.getD 0 0 = 48 ∧ bs ≠ [48] then none else if bs.all isDig then some (sg false (dval bs)) else none := by
  have hh := head_getD h
  have h3 : bs.head? ≠ some 45 := fun e => by rw [hh] at e; exact h2 (by simpa using e)
  unfold parsed
  simp only [h3, if_false, decide_false, h, false_or]
  have : (bs.head? = some 48) ↔ bs.getD 0 0 = 48 := by rw [hh]; simp
  simp only [this]
theorem dval_sz {ds : List Int} (h : ds.all isDig = true) (hl : ds.length ≤ 2000) : sz (dval ds) ≤ 2000 := by
  obtain ⟨h1, h2⟩ := dval_range ds h
  refine Nat.le_trans (sz_le (k := ds.length) ?_) hl
  have : (10 : Int) ^ ds.length ≤ B32 ^ ds.length := by
    have : ∀ n : Nat, (10 : Int) ^ n ≤ B32 ^ n := fun n => by
      induction n with
      | zero => decide
      | succ n ih =>
        rw [Int.pow_succ, Int.pow_succ]
        exact Int.mul_le_mul ih (by decide) (by decide) (Int.le_of_lt (Int.pow_pos B32_pos))
    exact this _
  omega
theorem take_all {ds : List Int} {i : Nat} (hi : i < ds.length) : (ds.take (i + 1)).all isDig = ((ds.take i).all isDig && isDig (ds.getD i 0)) := by
  rw [take_getD, if_pos hi, List.all_append]
  simp
theorem dval_take {ds : List Int} {i : Nat} (hi : i < ds.length) : dval (ds.take (i + 1)) = dval (ds.take i) * 10 + (ds.getD i 0 - 48) := by
  rw [take_getD, if_pos hi, dval_snoc]; omega
theorem not_all {ds : List Int} {i : Nat} (hi : i < ds.length) (h : isDig (ds.getD i 0) = false) : ds.all isDig = false := by
  rw [List.all_eq_false]
  refine ⟨ds.getD i 0, ?_, by rw [h]; decide⟩
  simp [List.getD, List.getElem?_eq_getElem hi]

def ParseR (m : Mo) (v : Value) (bs : List Int) : Prop := ∃ vi e, v = .tuple #[vi, .int .i64 e] ∧ (2000 < bs.length → e = 2 ∧ IntR m vi 0) ∧ (bs.length ≤ 2000 → (∀ n, parsed bs = some n → e = 0 ∧ IntR m vi n) ∧ (parsed bs = none → e = 10 ∧ IntR m vi 0))

set_option maxRecDepth 10000 in
set_option maxHeartbeats 1000000 in
theorem parse_calls (s : ByteArray) (bs : List Int) (hs : bytesI s = bs) (m : Mo) (hm : m.okm) :
    Calls Try.prog 13 #[.string s] m.w (Post m fun m v => ParseR m v bs) := by
  have hsz := bytes_size hs
  refine enter_ Try.f13 _ 66 (args := [.string s]) (by kernel_rfl) rfl (by kernel_rfl) hm ?_
  refine Br.mk (fun h0 => ?_) (fun h0 => ?_)
  · have h0 : 2000 < bs.length := by simp at h0; omega
    exact fin_at (v := .tuple #[.agg #[.bool false, .slice none 0 0], .int .i64 2]) (fun m' _ => ⟨_, _, rfl, fun _ => ⟨rfl, IntR_zero _⟩, fun h => by omega⟩)
  have h0 : bs.length ≤ 2000 := by simp at h0; omega
  have fin : ∀ {e : Int} {m' : Mo} {vi : Value} {r : Option Int} (n : Int), IntR m' vi n → parsed bs = r → (r = none → e = 10 ∧ n = 0) → (∀ k, r = some k → e = 0 ∧ n = k) → ParseR m' (.tuple #[vi, .int .i64 e]) bs := by
    intro e m' vi r n h1 h2 h3 h4
    refine ⟨_, _, rfl, fun h => by omega, fun _ => ⟨fun k hk => ?_, fun hk => ?_⟩⟩
    · obtain ⟨g1, g2⟩ := h4 k (h2 ▸ hk); exact ⟨g1, g2 ▸ h1⟩
    · obtain ⟨g1, g2⟩ := h3 (h2 ▸ hk); exact ⟨g1, g2 ▸ h1⟩
  have bad : ∀ m' : Mo, parsed bs = none → ParseR m' (.tuple #[.agg #[.bool false, .slice none 0 0], .int .i64 10]) bs := fun m' h => fin 0 (IntR_zero _) h (fun _ => ⟨rfl, rfl⟩) (fun k hk => by cases hk)
  refine Br.mk (fun h1 => ?_) (fun h1 => ?_)
  · rw [str_eq, hs, show bytesI ⟨#[]⟩ = [] from rfl] at h1
    have hne : bs ≠ [] := by simpa using h1
    have hpos : 0 < bs.length := List.length_pos_iff.2 hne
    refine And.intro ⟨by omega, by omega⟩ ?_
    rw [hs]
    refine Br.mk (fun h2r => ?_) (fun h2r => ?_)
    · have h2 : bs.getD 0 0 = 45 := by simpa using h2r
      have hpn := parsed_neg hne h2
      refine And.intro ⟨by omega, by omega⟩ ?_
      have hs5 : bytesI (s.extract (Int.toNat 1) s.size) = bs.tail := by
        rw [bytes_extract, hs, hsz, List.take_of_length_le (Nat.le_refl _)]
        show bs.drop 1 = _
        rw [List.drop_one]
      have hs5z := bytes_size hs5
      refine Br.mk (fun h3 => ?_) (fun h3 => ?_)
      · rw [str_eq, hs5, show bytesI ⟨#[]⟩ = [] from rfl] at h3
        have h3 : bs.tail = [] := by simpa using h3
        refine fin_at (R := fun m v => ParseR m v bs) (fun m' _ => bad m' ?_)
        rw [hpn, if_pos (.inl h3)]
      rw [str_eq, hs5, show bytesI ⟨#[]⟩ = [] from rfl] at h3
      have h3 : bs.tail ≠ [] := by simpa using h3
      have hpos2 : 0 < bs.tail.length := List.length_pos_iff.2 h3
      have hh : bs.tail.head? = some (bs.tail.getD 0 0) := by
        match bs.tail, h3 with
        | x :: r, _ => rfl
      refine And.intro ⟨by omega, by omega⟩ ?_
      rw [hs5]
      refine Br.mk (fun h4 => ?_) (fun h4 => ?_)
      · have h4 : bs.tail.getD 0 0 = 48 := by simpa using h4
        rw [h4] at hh
        refine Br.mk (fun h5 => ?_) (fun h5 => ?_)
        · refine fin_at (R := fun m v => ParseR m v bs) (fun m' _ => bad m' ?_)
          rw [hpn, if_pos (.inr hh)]
        · rw [str_eq, hs, show bytesI ⟨#[48]⟩ = [48] from rfl] at h5
          have h5 : bs = [48] := by simpa using h5
          rw [h5] at h2; simp at h2
      · have h4 : bs.tail.getD 0 0 ≠ 48 := by simpa using h4
        have hpd : parsed bs = if bs.tail.all isDig then some (sg true (dval bs.tail)) else none := by
          rw [hpn, if_neg]
          rintro (h | h)
          · exact h3 h
          · rw [hh] at h; simp at h; exact h4 (by simpa using h)
        have hlen : bs.tail.length ≤ 2000 := by simp; omega
        refine Br.mk (fun h => by cases h) (fun _ => ?_)
        refine callS_ (by kernel_rfl) (fun l m' s => of_calls 10 m' s.okm (by omega) (by omega)) ?_
        rintro M1 v1 le1 g1
        obtain ⟨bt, pt, kt, ct, rfl, g1⟩ := g1.shape
        refine conv_bytes_ 5 (by kernel_rfl) (by kernel_rfl) (by kernel_rfl) fun cb hcb => ?_
        rw [hs5] at hcb ⊢
        have hrg0 : ∀ x ∈ bs.tail, 0 ≤ x ∧ x < 256 := by rw [← hs5]; exact bytesI_range _
        have hrg : ∀ i, i < (bs.tail).length → 0 ≤ (bs.tail).getD i 0 ∧ (bs.tail).getD i 0 < 256 := fun i hi => hrg0 _ (getD_mem hi)
        refine loop_ (ι := Nat × Bool × Option Addr × Nat × Nat) (fun i => [(42, .v (.int .i64 i.1)), (41, .v (.int .i64 (bs.tail).length)), (40, .ls 3 0 (bs.tail).length cb), (6, .lp 1 0), (7, .lp 2 0), (2, .lp 0 0), (4, .v (.bool true))])
          (fun i => [⟨some (25, 2), .lit [.v (.bool false), .v (.slice none 0 0)]⟩, ⟨some (25, 2), .lit [.v (.bool i.2.1), .v (.slice i.2.2.1 i.2.2.2.1 i.2.2.2.2)]⟩, ⟨some (25, 2), .lit [.v (.bool bt), .v (.slice pt kt ct)]⟩, ⟨none, .ints .u8 bs.tail⟩])
          (fun i M => M1.Le M ∧ i.1 ≤ (bs.tail).length ∧ ((bs.tail).take i.1).all isDig = true ∧ IntR M (.agg #[.bool i.2.1, .slice i.2.2.1 i.2.2.2.1 i.2.2.2.2]) (dval ((bs.tail).take i.1))) (fun i => (bs.tail).length - i.1) (0, false, none, 0, 0) (M0 := M1) ?_ ?_ ?_
        · exact Ref.sub (by exact ⟨rfl, rfl, rfl, rfl, rfl, rfl, congrArg (fun b => some (AV.v (.bool b))) h2r, trivial⟩)
        · exact ⟨.refl _, Nat.zero_le _, rfl, IntR_zero _⟩
        rintro ⟨i, bx, px, kx, cx⟩ M2 ⟨f1, f2, f3, f4⟩
        simp only at f1 f2 f3 f4
        refine Br.mk (fun hb => ?_) (fun hb => ?_)
        · have hi : i < (bs.tail).length := by simpa using hb
          have rc := hrg i hi
          refine ix_ ⟨by omega, by omega⟩ (by show (i : Int).toNat < (bs.tail).length; omega) ?_
          refine Br.mk (fun h6 => ?_) (fun h6 => ?_)
          · have h6 : (bs.tail).getD i 0 < 48 := by simpa using h6
            refine fin_at (R := fun m v => ParseR m v bs) (fun m' _ => bad m' ?_)
            rw [hpd, not_all hi (isDig_lt h6)]; rfl
          have h6 : 48 ≤ (bs.tail).getD i 0 := by simpa using h6
          refine Br.mk (fun h7 => ?_) (fun h7 => ?_)
          · have h7 : 57 < (bs.tail).getD i 0 := by simpa using h7
            refine fin_at (R := fun m v => ParseR m v bs) (fun m' _ => bad m' ?_)
            rw [hpd, not_all hi (isDig_gt h7)]; rfl
          have h7 : (bs.tail).getD i 0 ≤ 57 := by simpa using h7
          have hw : IntKind.i64.wrap (IntKind.u8.wrap ((bs.tail).getD (Int.toNat i) 0 - 48)) = (bs.tail).getD i 0 - 48 := by rw [Int.toNat_natCast, wrap_u8, wrap_i64]; omega
          have hz := dval_sz f3 (by rw [List.length_take]; omega)
          refine callS_ (by kernel_rfl) (fun l m' s => mul_calls _ 10 _ _ m' s.okm (f4.mono s.le) (g1.mono (f1.trans s.le)) (by omega) (Nat.le_trans (sz_i64 (by omega) (by omega)) (by omega))) ?_
          rintro M3 v3 le3 g3
          refine callS_ (by kernel_rfl) (fun l m' s => of_calls (IntKind.i64.wrap (IntKind.u8.wrap ((bs.tail).getD (Int.toNat i) 0 - 48))) m' s.okm (by rw [hw]; omega) (by rw [hw]; omega)) ?_
          rintro M4 v4 le4 g4
          rw [hw] at g4
          refine callS_ (by kernel_rfl) (fun l m' s => add_calls _ _ _ _ m' s.okm (g3.mono (le4.trans s.le)) (g4.mono s.le) ?_ (Nat.le_trans (sz_i64 (by omega) (by omega)) (by omega))) ?_
          · have h8 := sz_mul (dval ((bs.tail).take i)) 10
            have h9 : sz 10 ≤ 2 := sz_i64 (by omega) (by omega)
            omega
          rintro M5 v5 le5 g5
          obtain ⟨b6, p6, k6, c6, rfl, g5⟩ := g5.shape
          refine ⟨(i + 1, b6, p6, k6, c6), M5, Ref.sub (by exact ⟨some_nrm (wrap_in _ (by omega) (by omega)), rfl, rfl, rfl, rfl, rfl, rfl, trivial⟩), ⟨f1.trans (le3.trans (le4.trans le5)), by simp only; omega, ?_, ?_⟩, by simp only; omega⟩
          · simp only
            rw [take_all hi, f3]; rw [isDig_in h6 h7]; rfl
          · simp only
            rw [dval_take hi]; exact g5
        · have h9 : ¬ ((i : Int) < ((bs.tail).length : Int)) := of_decide_eq_false hb
          have hi : i = (bs.tail).length := by omega
          subst hi
          rw [List.take_of_length_le (Nat.le_refl _)] at f3 f4
          have hz := dval_sz f3 hlen
          have hd0 := (dval_range _ f3).1
          have sb := f4.sign
          obtain ⟨b7, v7, xs7, e7, i7, o7, n7, _, e8⟩ := f4
          injection e7 with e7
          injection e7 with e7
          injection e7 with e7 e9
          injection e7 with e7
          injection e9 with e9
          subst e7; subst e9
          have hbf : bx = false := by rw [sb]; simp; omega
          subst hbf
          have e8 : dval bs.tail = val B32 xs7 := e8
          refine callS_ (by kernel_rfl) (fun l m' s => made_int true xs7 _ m' s.okm (i7.mono s.le) o7 ?_) ?_
          · have := len_sz (b := false) o7 n7
            rw [show sg false (val B32 xs7) = dval bs.tail from e8.symm] at this
            omega
          rintro M3 v3 le3 g3
          rw [← e8] at g3
          obtain ⟨b6, p6, k6, c6, rfl, g3⟩ := g3.shape
          refine fin_at (R := fun m v => ParseR m v bs) (fun m' le => fin _ (g3.mono le) hpd ?_ ?_)
          · rw [f3]; intro h; cases h
          · rw [f3]; intro k hk; simp at hk; exact ⟨rfl, hk⟩
    · have h2 : bs.getD 0 0 ≠ 45 := by simpa using h2r
      have hpn := parsed_pos hne h2
      refine Br.mk (fun h3 => ?_) (fun h3 => ?_)
      · rw [str_eq, hs, show bytesI ⟨#[]⟩ = [] from rfl] at h3
        simp at h3; exact absurd h3 hne
      refine And.intro ⟨by omega, by omega⟩ ?_
      rw [hs]
      refine Br.mk (fun h4 => ?_) (fun h4 => ?_)
      · have h4 : bs.getD 0 0 = 48 := by simpa using h4
        refine Br.mk (fun h5 => ?_) (fun h5 => ?_)
        · rw [str_eq, hs, show bytesI ⟨#[48]⟩ = [48] from rfl] at h5
          have h5 : bs ≠ [48] := by simpa using h5
          refine fin_at (R := fun m v => ParseR m v bs) (fun m' _ => bad m' ?_)
          rw [hpn, if_pos ⟨h4, h5⟩]
        · rw [str_eq, hs, show bytesI ⟨#[48]⟩ = [48] from rfl] at h5
          have h5 : bs = [48] := by simpa using h5
          have hpd : parsed bs = if bs.all isDig then some (sg false (dval bs)) else none := by rw [hpn, if_neg (fun h => h.2 h5)]
          have hlen := h0
          refine callS_ (by kernel_rfl) (fun l m' s => of_calls 10 m' s.okm (by omega) (by omega)) ?_
          rintro M1 v1 le1 g1
          obtain ⟨bt, pt, kt, ct, rfl, g1⟩ := g1.shape
          refine conv_bytes_ 5 (by kernel_rfl) (by kernel_rfl) (by kernel_rfl) fun cb hcb => ?_
          rw [hs] at hcb ⊢
          have hrg0 : ∀ x ∈ bs, 0 ≤ x ∧ x < 256 := by rw [← hs]; exact bytesI_range _
          have hrg : ∀ i, i < (bs).length → 0 ≤ (bs).getD i 0 ∧ (bs).getD i 0 < 256 := fun i hi => hrg0 _ (getD_mem hi)
          refine loop_ (ι := Nat × Bool × Option Addr × Nat × Nat) (fun i => [(42, .v (.int .i64 i.1)), (41, .v (.int .i64 (bs).length)), (40, .ls 3 0 (bs).length cb), (6, .lp 1 0), (7, .lp 2 0), (2, .lp 0 0), (4, .v (.bool false))])
            (fun i => [⟨some (25, 2), .lit [.v (.bool false), .v (.slice none 0 0)]⟩, ⟨some (25, 2), .lit [.v (.bool i.2.1), .v (.slice i.2.2.1 i.2.2.2.1 i.2.2.2.2)]⟩, ⟨some (25, 2), .lit [.v (.bool bt), .v (.slice pt kt ct)]⟩, ⟨none, .ints .u8 bs⟩])
            (fun i M => M1.Le M ∧ i.1 ≤ (bs).length ∧ ((bs).take i.1).all isDig = true ∧ IntR M (.agg #[.bool i.2.1, .slice i.2.2.1 i.2.2.2.1 i.2.2.2.2]) (dval ((bs).take i.1))) (fun i => (bs).length - i.1) (0, false, none, 0, 0) (M0 := M1) ?_ ?_ ?_
          · exact Ref.sub (by exact ⟨rfl, rfl, rfl, rfl, rfl, rfl, congrArg (fun b => some (AV.v (.bool b))) h2r, trivial⟩)
          · exact ⟨.refl _, Nat.zero_le _, rfl, IntR_zero _⟩
          rintro ⟨i, bx, px, kx, cx⟩ M2 ⟨f1, f2, f3, f4⟩
          simp only at f1 f2 f3 f4
          refine Br.mk (fun hb => ?_) (fun hb => ?_)
          · have hi : i < (bs).length := by simpa using hb
            have rc := hrg i hi
            refine ix_ ⟨by omega, by omega⟩ (by show (i : Int).toNat < (bs).length; omega) ?_
            refine Br.mk (fun h6 => ?_) (fun h6 => ?_)
            · have h6 : (bs).getD i 0 < 48 := by simpa using h6
              refine fin_at (R := fun m v => ParseR m v bs) (fun m' _ => bad m' ?_)
              rw [hpd, not_all hi (isDig_lt h6)]; rfl
            have h6 : 48 ≤ (bs).getD i 0 := by simpa using h6
            refine Br.mk (fun h7 => ?_) (fun h7 => ?_)
            · have h7 : 57 < (bs).getD i 0 := by simpa using h7
              refine fin_at (R := fun m v => ParseR m v bs) (fun m' _ => bad m' ?_)
              rw [hpd, not_all hi (isDig_gt h7)]; rfl
            have h7 : (bs).getD i 0 ≤ 57 := by simpa using h7
            have hw : IntKind.i64.wrap (IntKind.u8.wrap ((bs).getD (Int.toNat i) 0 - 48)) = (bs).getD i 0 - 48 := by rw [Int.toNat_natCast, wrap_u8, wrap_i64]; omega
            have hz := dval_sz f3 (by rw [List.length_take]; omega)
            refine callS_ (by kernel_rfl) (fun l m' s => mul_calls _ 10 _ _ m' s.okm (f4.mono s.le) (g1.mono (f1.trans s.le)) (by omega) (Nat.le_trans (sz_i64 (by omega) (by omega)) (by omega))) ?_
            rintro M3 v3 le3 g3
            refine callS_ (by kernel_rfl) (fun l m' s => of_calls (IntKind.i64.wrap (IntKind.u8.wrap ((bs).getD (Int.toNat i) 0 - 48))) m' s.okm (by rw [hw]; omega) (by rw [hw]; omega)) ?_
            rintro M4 v4 le4 g4
            rw [hw] at g4
            refine callS_ (by kernel_rfl) (fun l m' s => add_calls _ _ _ _ m' s.okm (g3.mono (le4.trans s.le)) (g4.mono s.le) ?_ (Nat.le_trans (sz_i64 (by omega) (by omega)) (by omega))) ?_
            · have h8 := sz_mul (dval ((bs).take i)) 10
              have h9 : sz 10 ≤ 2 := sz_i64 (by omega) (by omega)
              omega
            rintro M5 v5 le5 g5
            obtain ⟨b6, p6, k6, c6, rfl, g5⟩ := g5.shape
            refine ⟨(i + 1, b6, p6, k6, c6), M5, Ref.sub (by exact ⟨some_nrm (wrap_in _ (by omega) (by omega)), rfl, rfl, rfl, rfl, rfl, rfl, trivial⟩), ⟨f1.trans (le3.trans (le4.trans le5)), by simp only; omega, ?_, ?_⟩, by simp only; omega⟩
            · simp only
              rw [take_all hi, f3]; rw [isDig_in h6 h7]; rfl
            · simp only
              rw [dval_take hi]; exact g5
          · have h9 : ¬ ((i : Int) < ((bs).length : Int)) := of_decide_eq_false hb
            have hi : i = (bs).length := by omega
            subst hi
            rw [List.take_of_length_le (Nat.le_refl _)] at f3 f4
            have hz := dval_sz f3 hlen
            have hd0 := (dval_range _ f3).1
            have sb := f4.sign
            obtain ⟨b7, v7, xs7, e7, i7, o7, n7, _, e8⟩ := f4
            injection e7 with e7
            injection e7 with e7
            injection e7 with e7 e9
            injection e7 with e7
            injection e9 with e9
            subst e7; subst e9
            have hbf : bx = false := by rw [sb]; simp; omega
            subst hbf
            have e8 : dval bs = val B32 xs7 := e8
            refine callS_ (by kernel_rfl) (fun l m' s => made_int false xs7 _ m' s.okm (i7.mono s.le) o7 ?_) ?_
            · have := len_sz (b := false) o7 n7
              rw [show sg false (val B32 xs7) = dval bs from e8.symm] at this
              omega
            rintro M3 v3 le3 g3
            rw [← e8] at g3
            obtain ⟨b6, p6, k6, c6, rfl, g3⟩ := g3.shape
            refine fin_at (R := fun m v => ParseR m v bs) (fun m' le => fin _ (g3.mono le) hpd ?_ ?_)
            · rw [f3]; intro h; cases h
            · rw [f3]; intro k hk; simp at hk; exact ⟨rfl, hk⟩
      · have h4 : bs.getD 0 0 ≠ 48 := by simpa using h4
        have hpd : parsed bs = if bs.all isDig then some (sg false (dval bs)) else none := by rw [hpn, if_neg (fun h => h4 h.1)]
        have hlen := h0
        refine Br.mk (fun h => by cases h) (fun _ => ?_)
        refine callS_ (by kernel_rfl) (fun l m' s => of_calls 10 m' s.okm (by omega) (by omega)) ?_
        rintro M1 v1 le1 g1
        obtain ⟨bt, pt, kt, ct, rfl, g1⟩ := g1.shape
        refine conv_bytes_ 5 (by kernel_rfl) (by kernel_rfl) (by kernel_rfl) fun cb hcb => ?_
        rw [hs] at hcb ⊢
        have hrg0 : ∀ x ∈ bs, 0 ≤ x ∧ x < 256 := by rw [← hs]; exact bytesI_range _
        have hrg : ∀ i, i < (bs).length → 0 ≤ (bs).getD i 0 ∧ (bs).getD i 0 < 256 := fun i hi => hrg0 _ (getD_mem hi)
        refine loop_ (ι := Nat × Bool × Option Addr × Nat × Nat) (fun i => [(42, .v (.int .i64 i.1)), (41, .v (.int .i64 (bs).length)), (40, .ls 3 0 (bs).length cb), (6, .lp 1 0), (7, .lp 2 0), (2, .lp 0 0), (4, .v (.bool false))])
          (fun i => [⟨some (25, 2), .lit [.v (.bool false), .v (.slice none 0 0)]⟩, ⟨some (25, 2), .lit [.v (.bool i.2.1), .v (.slice i.2.2.1 i.2.2.2.1 i.2.2.2.2)]⟩, ⟨some (25, 2), .lit [.v (.bool bt), .v (.slice pt kt ct)]⟩, ⟨none, .ints .u8 bs⟩])
          (fun i M => M1.Le M ∧ i.1 ≤ (bs).length ∧ ((bs).take i.1).all isDig = true ∧ IntR M (.agg #[.bool i.2.1, .slice i.2.2.1 i.2.2.2.1 i.2.2.2.2]) (dval ((bs).take i.1))) (fun i => (bs).length - i.1) (0, false, none, 0, 0) (M0 := M1) ?_ ?_ ?_
        · exact Ref.sub (by exact ⟨rfl, rfl, rfl, rfl, rfl, rfl, congrArg (fun b => some (AV.v (.bool b))) h2r, trivial⟩)
        · exact ⟨.refl _, Nat.zero_le _, rfl, IntR_zero _⟩
        rintro ⟨i, bx, px, kx, cx⟩ M2 ⟨f1, f2, f3, f4⟩
        simp only at f1 f2 f3 f4
        refine Br.mk (fun hb => ?_) (fun hb => ?_)
        · have hi : i < (bs).length := by simpa using hb
          have rc := hrg i hi
          refine ix_ ⟨by omega, by omega⟩ (by show (i : Int).toNat < (bs).length; omega) ?_
          refine Br.mk (fun h6 => ?_) (fun h6 => ?_)
          · have h6 : (bs).getD i 0 < 48 := by simpa using h6
            refine fin_at (R := fun m v => ParseR m v bs) (fun m' _ => bad m' ?_)
            rw [hpd, not_all hi (isDig_lt h6)]; rfl
          have h6 : 48 ≤ (bs).getD i 0 := by simpa using h6
          refine Br.mk (fun h7 => ?_) (fun h7 => ?_)
          · have h7 : 57 < (bs).getD i 0 := by simpa using h7
            refine fin_at (R := fun m v => ParseR m v bs) (fun m' _ => bad m' ?_)
            rw [hpd, not_all hi (isDig_gt h7)]; rfl
          have h7 : (bs).getD i 0 ≤ 57 := by simpa using h7
          have hw : IntKind.i64.wrap (IntKind.u8.wrap ((bs).getD (Int.toNat i) 0 - 48)) = (bs).getD i 0 - 48 := by rw [Int.toNat_natCast, wrap_u8, wrap_i64]; omega
          have hz := dval_sz f3 (by rw [List.length_take]; omega)
          refine callS_ (by kernel_rfl) (fun l m' s => mul_calls _ 10 _ _ m' s.okm (f4.mono s.le) (g1.mono (f1.trans s.le)) (by omega) (Nat.le_trans (sz_i64 (by omega) (by omega)) (by omega))) ?_
          rintro M3 v3 le3 g3
          refine callS_ (by kernel_rfl) (fun l m' s => of_calls (IntKind.i64.wrap (IntKind.u8.wrap ((bs).getD (Int.toNat i) 0 - 48))) m' s.okm (by rw [hw]; omega) (by rw [hw]; omega)) ?_
          rintro M4 v4 le4 g4
          rw [hw] at g4
          refine callS_ (by kernel_rfl) (fun l m' s => add_calls _ _ _ _ m' s.okm (g3.mono (le4.trans s.le)) (g4.mono s.le) ?_ (Nat.le_trans (sz_i64 (by omega) (by omega)) (by omega))) ?_
          · have h8 := sz_mul (dval ((bs).take i)) 10
            have h9 : sz 10 ≤ 2 := sz_i64 (by omega) (by omega)
            omega
          rintro M5 v5 le5 g5
          obtain ⟨b6, p6, k6, c6, rfl, g5⟩ := g5.shape
          refine ⟨(i + 1, b6, p6, k6, c6), M5, Ref.sub (by exact ⟨some_nrm (wrap_in _ (by omega) (by omega)), rfl, rfl, rfl, rfl, rfl, rfl, trivial⟩), ⟨f1.trans (le3.trans (le4.trans le5)), by simp only; omega, ?_, ?_⟩, by simp only; omega⟩
          · simp only
            rw [take_all hi, f3]; rw [isDig_in h6 h7]; rfl
          · simp only
            rw [dval_take hi]; exact g5
        · have h9 : ¬ ((i : Int) < ((bs).length : Int)) := of_decide_eq_false hb
          have hi : i = (bs).length := by omega
          subst hi
          rw [List.take_of_length_le (Nat.le_refl _)] at f3 f4
          have hz := dval_sz f3 hlen
          have hd0 := (dval_range _ f3).1
          have sb := f4.sign
          obtain ⟨b7, v7, xs7, e7, i7, o7, n7, _, e8⟩ := f4
          injection e7 with e7
          injection e7 with e7
          injection e7 with e7 e9
          injection e7 with e7
          injection e9 with e9
          subst e7; subst e9
          have hbf : bx = false := by rw [sb]; simp; omega
          subst hbf
          have e8 : dval bs = val B32 xs7 := e8
          refine callS_ (by kernel_rfl) (fun l m' s => made_int false xs7 _ m' s.okm (i7.mono s.le) o7 ?_) ?_
          · have := len_sz (b := false) o7 n7
            rw [show sg false (val B32 xs7) = dval bs from e8.symm] at this
            omega
          rintro M3 v3 le3 g3
          rw [← e8] at g3
          obtain ⟨b6, p6, k6, c6, rfl, g3⟩ := g3.shape
          refine fin_at (R := fun m v => ParseR m v bs) (fun m' le => fin _ (g3.mono le) hpd ?_ ?_)
          · rw [f3]; intro h; cases h
          · rw [f3]; intro k hk; simp at hk; exact ⟨rfl, hk⟩
  · rw [str_eq, hs, show bytesI ⟨#[]⟩ = [] from rfl] at h1
    have hne : bs = [] := by simpa using h1
    refine Br.mk (fun h2 => ?_) (fun h2 => ?_)
    · cases h2
    refine Br.mk (fun h2 => ?_) (fun h2 => ?_)
    · refine fin_at (R := fun m v => ParseR m v bs) (fun m' _ => bad m' ?_)
      rw [hne]; rfl
    · rw [str_eq, hs, show bytesI ⟨#[]⟩ = [] from rfl] at h2
      simp [hne] at h2
end Go.Proofs.Ytdkamjbcpmlheaa

/- The document's whole numbers: rows of decimal digits. -/
namespace Go.Proofs.Ytdkamjbcpmlheaa
open Go Go.Gw Go.Lg
set_option pp.deepTerms false
set_option pp.deepTerms.threshold 6
set_option pp.maxSteps 3000

theorem B10_pos : (0 : Int) < 10 := by decide
theorem digs_ok (n : Nat) : okd 10 (digs n) := digs_range n
theorem val_digs (n : Nat) : val 10 (digs n) = n := by
  induction n using Nat.strongRecOn with
  | _ n ih =>
    by_cases h : n = 0
    · subst h; rfl
    · rw [digs_pos h, val, ih (n / 10) (by omega)]; omega
theorem nrmd_cons {d : Int} {r : List Int} (h : nrmd (d :: r)) (hr : r ≠ []) : nrmd r := by
  unfold nrmd at *
  rwa [List.getLast?_cons, List.getLast?_eq_some_getLast hr] at *
theorem digs_val : ∀ {ds : List Int}, okd 10 ds → nrmd ds → ds = digs (val 10 ds).toNat
  | [], _, _ => rfl
  | d :: r, ho, hn => by
    have hd := ho d (List.mem_cons_self ..)
    have hr : okd 10 r := fun x hx => ho x (List.mem_cons_of_mem _ hx)
    have hp := nrmd_pos B10_pos ho hn (by simp)
    have hv := val_nonneg B10_pos hr
    have ih : r = digs (val 10 r).toNat := by
      by_cases h : r = []
      · subst h; rfl
      · exact digs_val hr (nrmd_cons hn h)
    rw [digs_pos (by omega)]
    simp only [val] at hp ⊢
    congr 1
    · omega
    · rw [show (d + 10 * val 10 r).toNat / 10 = (val 10 r).toNat by omega]; exact ih
theorem digs_nrmd (n : Nat) : nrmd (digs n) := by
  induction n using Nat.strongRecOn with
  | _ n ih =>
    by_cases h : n = 0
    · subst h; simp [digs_zero, nrmd]
    · rw [digs_pos h]
      by_cases h0 : n / 10 = 0
      · rw [h0, digs_zero]
        unfold nrmd
        simp
        omega
      · have hne : digs (n / 10) ≠ [] := by rw [digs_pos h0]; simp
        have := ih (n / 10) (by omega)
        unfold nrmd at *
        rwa [List.getLast?_cons, List.getLast?_eq_some_getLast hne] at *
theorem digs_sz (n : Int) : (digs n.natAbs).length ≤ 32 * sz n := Nat.le_trans (digs_len (blen n) n.natAbs (blen_lt n)) (blen_sz n)

/-- What is told of a number's value, as the document has it. -/
def RefR (m : Mo) (v : Value) (n : Int) : Prop := ∃ vr, v = .agg #[.bool (decide (n < 0)), vr] ∧ m.ints vr .i64 (digs n.natAbs)
theorem RefR.mono {m m' : Mo} {v : Value} {n : Int} (h : RefR m v n) (l : m.Le m') : RefR m' v n := let ⟨vr, h1, h2⟩ := h; ⟨vr, h1, h2.mono l⟩
theorem RefR.cast {m : Mo} {v : Value} {n k : Int} (h : RefR m v n) (e : n = k) : RefR m v k := e ▸ h
theorem RefR.shape {m : Mo} {v : Value} {n : Int} (h : RefR m v n) : ∃ p c, v = .agg #[.bool (decide (n < 0)), .slice p (digs n.natAbs).length c] ∧ RefR m (.agg #[.bool (decide (n < 0)), .slice p (digs n.natAbs).length c]) n :=
  let ⟨vr, h1, a, c, h2, h3⟩ := h; ⟨Base.up a 0, c, by rw [h1, h2], vr, by rw [h2], a, c, h2, h3⟩
theorem RefR_zero (m : Mo) : RefR m (.agg #[.bool false, .slice none 0 0]) 0 := ⟨_, rfl, Mo.ints_nil _ _⟩
theorem fin_ref {C : Cx} {σ : Store} {M : Mo} {av : AV} {n k : Int} {v : Value} (h : RefR M v n) (e : n = k) (hmu : C.mu = [] := by rfl) (hv : ∀ l, conc l av = v := by exact fun _ => rfl) : FinK C (Post ⟨C.L0, C.w0⟩ fun m v => RefR m v k) av σ M :=
  fin_at (fun _ le => e ▸ h.mono le) hmu hv

set_option maxRecDepth 10000 in
theorem rmade_calls (b : Bool) (xs : List Int) (va : Value) (m : Mo) (hm : m.okm) (ha : m.ints va .i64 xs) (hx : xs.length ≤ 1000000000) :
    Calls Try.prog 40 #[.bool b, va] m.w (Post m fun m v => ∃ n vr, v = .agg #[.bool (b && decide (0 < n)), vr] ∧ m.ints vr .i64 (xs.take n) ∧ n ≤ xs.length ∧ (∀ j, n ≤ j → xs.getD j 0 = 0) ∧ (n = 0 ∨ xs.getD (n - 1) 0 ≠ 0)) := by
  obtain ⟨a, ca, rfl, hca, hsa, hra⟩ := ha
  refine enter2_ Try.f40 _ 29 [a] [⟨none, .ints .i64 xs⟩] [.v (.bool b), .ls 0 0 xs.length ca] (by kernel_rfl) rfl (by kernel_rfl) hm rfl (by simp [okL, AV.ok]) ⟨⟨rfl, hsa, trivial, hra⟩, trivial⟩ ?_
  refine loop_ (ι := Nat) (fun i => [(0, .v (.bool b)), (1, .ls 0 0 xs.length ca), (4, .lp 1 0), (5, .v (.int .i64 i))])
    (fun _ => [⟨none, .ints .i64 xs⟩, ⟨some (31, 2), .lit [.v (.bool false), .v (.slice none 0 0)]⟩])
    (fun i M => m.Le M ∧ i ≤ xs.length ∧ ∀ j, i ≤ j → xs.getD j 0 = 0) (fun i => i) xs.length (M0 := m) ?_ ?_ ?_
  · exact Ref.sub (by exact ⟨rfl, rfl, rfl, rfl, trivial⟩)
  · exact ⟨.refl m, Nat.le_refl _, fun j hj => by simp [List.getD, List.getElem?_eq_none hj]⟩
  · rintro i M1 ⟨h1, h2, h3⟩
    have key : ∀ {σ : Store} {M2 : Mo} {l : List Base} {m' : Mo} (off n c : Nat) (bb : Bool), σ[0]? = some ⟨none, .ints .i64 xs⟩ → Sees ⟨Try.prog, 29, [], m.w, m.L⟩ l σ M2 m' → (∀ b ∈ m.L, b ∈ m'.L) → off = 0 → n = i → i ≤ c → bb = (b && decide (0 < i)) → (i = 0 ∨ xs.getD (i - 1) 0 ≠ 0) →
        ∃ n' vr, conc l (.agg [.v (.bool bb), .ls 0 off n c]) = .agg #[.bool (b && decide (0 < n')), vr] ∧ Mo.ints ⟨m.L, m'.w⟩ vr .i64 (xs.take n') ∧ n' ≤ xs.length ∧ (∀ j, n' ≤ j → xs.getD j 0 = 0) ∧ (n' = 0 ∨ xs.getD (n' - 1) 0 ≠ 0) := by
      intro σ M2 l m' off n c bb hσ s hL e1 e2 e3 e4 e5
      subst e1; subst e2; subst e4
      refine ⟨n, conc l (.ls 0 0 n c), rfl, Mo.ints.less ?_ hL, h2, h3, e5⟩
      simpa using s.ints hσ 0 n c (by omega) e3
    refine Br.mk (fun hb => ?_) (fun hb => ?_)
    · have hb : 0 < i := by simpa using hb
      have hw : IntKind.i64.wrap ((i : Int) - 1) = ((i - 1 : Nat) : Int) := by rw [wrap_in _ (by omega) (by omega)]; omega
      have ht : (IntKind.i64.wrap ((i : Int) - 1)).toNat = i - 1 := by rw [hw]; rfl
      refine ix_ (by rw [hw]; omega) (by rw [ht]; show i - 1 < xs.length; omega) ?_
      refine Br.mk (fun hb2 => ?_) (fun hb2 => ?_)
      · rw [ht] at hb2
        refine ⟨i - 1, M1, Ref.sub (by exact ⟨rfl, rfl, rfl, some_nrm hw, trivial⟩), ⟨h1, by omega, fun j hj => ?_⟩, by omega⟩
        by_cases e : j = i - 1
        · subst e; simpa using hb2
        · exact h3 j (by omega)
      · have hz : xs.getD (i - 1) 0 ≠ 0 := by rw [ht] at hb2; simpa using hb2
        refine Br.mk (fun hc => ?_) (fun hc => ?_)
        · refine And.intro ⟨by omega, by omega⟩ ?_
          exact fin_see rfl fun l m' s hL => key _ _ _ _ rfl s hL (by simp) (by simp) (by simp; omega) (by simp [hc]) (.inr hz)
        · refine And.intro ⟨by omega, by omega⟩ ?_
          exact fin_see rfl fun l m' s hL => key _ _ _ _ rfl s hL (by simp) (by simp) (by simp; omega) (by simp [hc]) (.inr hz)
    · have hb : i = 0 := by simpa using hb
      refine Br.mk (fun hc => ?_) (fun hc => ?_)
      · refine And.intro ⟨by omega, by omega⟩ ?_
        exact fin_see rfl fun l m' s hL => key _ _ _ _ rfl s hL (by simp) (by simp) (by simp; omega) (by simp [hc]) (.inl hb)
      · refine And.intro ⟨by omega, by omega⟩ ?_
        exact fin_see rfl fun l m' s hL => key _ _ _ _ rfl s hL (by simp) (by simp) (by simp; omega) (by simp [hc]) (.inl hb)


theorem rmade_ref (b : Bool) (xs : List Int) (va : Value) (m : Mo) (hm : m.okm) (ha : m.ints va .i64 xs) (ox : okd 10 xs) (hx : xs.length ≤ 1000000000) :
    Calls Try.prog 40 #[.bool b, va] m.w (Post m fun m v => RefR m v (sg b (val 10 xs))) := by
  refine (rmade_calls b xs va m hm ha hx).mono ?_
  rintro e w' ⟨v, e1, e2, n, vr, e3, e4, e5, e6, e7⟩
  have hv := val_take_zeros (B := 10) e5 e6
  have hn := nrmd_take e5 e7
  have h0 := val_nonneg B10_pos ox
  have hd := digs_val (ox.take n) hn
  rw [hv] at hd
  have hab : (sg b (val 10 xs)).natAbs = (val 10 xs).toNat := by unfold sg; split <;> omega
  refine ⟨v, e1, e2, vr, ?_, ?_⟩
  · rw [e3]
    congr 3
    by_cases h : 0 < n
    · have hne : xs.take n ≠ [] := fun e => by
        have := congrArg List.length e
        simp at this
        rcases this with h | h
        · omega
        · subst h; simp at e5; omega
      have := nrmd_pos B10_pos (ox.take n) hn hne
      rw [hv] at this
      cases b <;> simp [sg, h] <;> omega
    · have : n = 0 := by omega
      subst this
      simp [val] at hv
      rw [← hv]
      cases b <;> simp [sg]
  · rw [hab, ← hd]; exact e4

set_option maxRecDepth 10000 in
theorem rsize_calls (xs ys : List Int) (va vb : Value) (m : Mo) (hm : m.okm) (ha : m.ints va .i64 xs) (hb : m.ints vb .i64 ys) (ox : okd 10 xs) (oy : okd 10 ys) (nx : nrmd xs) (ny : nrmd ys) (hx : xs.length ≤ 1000000000) :
    Calls Try.prog 47 #[va, vb] m.w (Post m fun _ v => v = .int .i64 (cmpI (val 10 xs) (val 10 ys))) := by
  obtain ⟨a, ca, rfl, hca, hsa, hra⟩ := ha
  obtain ⟨b, cb, rfl, hcb, hsb, hrb⟩ := hb
  refine enter2_ Try.f47 _ 41 [a, b] [⟨none, .ints .i64 xs⟩, ⟨none, .ints .i64 ys⟩] [.ls 0 0 xs.length ca, .ls 1 0 ys.length cb] (by kernel_rfl) rfl (by kernel_rfl) hm rfl (by simp [okL, AV.ok]) ⟨⟨rfl, hsa, trivial, hra⟩, ⟨rfl, hsb, trivial, hrb⟩, trivial⟩ ?_
  refine Br.mk (fun h0 => ?_) (fun h0 => ?_)
  · refine Br.mk (fun h1 => ?_) (fun h1 => ?_)
    · have h1 : xs.length < ys.length := by simpa using h1
      exact fin_val rfl fun _ _ => by rw [cmpI_lt (val_lt_len B10_pos ox oy ny h1)]
    · have h1 : ys.length < xs.length := by simp at h0 h1; omega
      exact fin_val rfl fun _ _ => by rw [cmpI_gt (val_lt_len B10_pos oy ox nx h1)]
  have h0 : xs.length = ys.length := by simp at h0; omega
  have hw : IntKind.i64.wrap ((xs.length : Int) - 1) = (xs.length : Int) - 1 := wrap_in _ (by omega) (by omega)
  refine loop_ (ι := Nat) (fun i => [(0, .ls 0 0 xs.length ca), (1, .ls 1 0 ys.length cb), (5, .v (.int .i64 ((i : Int) - 1)))]) (fun _ => [⟨none, .ints .i64 xs⟩, ⟨none, .ints .i64 ys⟩])
    (fun i _ => i ≤ xs.length ∧ xs.drop i = ys.drop i) (fun i => i) xs.length (M0 := m) ?_ ?_ ?_
  · exact Ref.sub (by exact ⟨rfl, rfl, some_nrm hw, trivial⟩)
  · exact ⟨Nat.le_refl _, by rw [List.drop_eq_nil_of_le (by omega), List.drop_eq_nil_of_le (by omega)]⟩
  rintro i M1 ⟨h2, h3⟩
  refine Br.mk (fun hb => ?_) (fun hb => ?_)
  · have hb : 1 ≤ i := by simp at hb; omega
    refine draw_ [] [0, 1, 2, 3, 4, 5, 6, 7, 8] [] [] [] (by kernel_rfl) rfl rfl ?_
    have ht : ((i : Int) - 1).toNat = i - 1 := by omega
    have d1 : xs.drop (i - 1 + 1) = ys.drop (i - 1 + 1) := by rw [Nat.sub_add_cancel hb]; exact h3
    refine ix_ ⟨by omega, by omega⟩ (by rw [ht]; show i - 1 < xs.length; omega) ?_
    refine ix_ ⟨by omega, by omega⟩ (by rw [ht]; show i - 1 < ys.length; omega) ?_
    refine Br.mk (fun hc => ?_) (fun hc => ?_)
    · refine fin_val rfl fun _ _ => ?_
      have hc : xs.getD (i - 1) 0 < ys.getD (i - 1) 0 := by simpa [ht] using hc
      rw [cmpI_lt (val_cmp B10_pos ox oy h0 (i - 1) (by omega) d1 hc)]
    · refine draw_ [] [0, 1, 2, 3, 4, 5, 6, 7, 8] [] [] [] (by kernel_rfl) rfl rfl ?_
      refine ix_ ⟨by omega, by omega⟩ (by rw [ht]; show i - 1 < xs.length; omega) ?_
      refine ix_ ⟨by omega, by omega⟩ (by rw [ht]; show i - 1 < ys.length; omega) ?_
      refine Br.mk (fun hd => ?_) (fun hd => ?_)
      · refine fin_val rfl fun _ _ => ?_
        have hd : ys.getD (i - 1) 0 < xs.getD (i - 1) 0 := by simpa [ht] using hd
        rw [cmpI_gt (val_cmp B10_pos oy ox h0.symm (i - 1) (by omega) d1.symm hd)]
      · have hc : ys.getD (i - 1) 0 ≤ xs.getD (i - 1) 0 := by simpa [ht] using hc
        have hd : xs.getD (i - 1) 0 ≤ ys.getD (i - 1) 0 := by simpa [ht] using hd
        refine ⟨i - 1, M1, Ref.sub (by exact ⟨rfl, rfl, some_nrm (by rw [wrap_in _ (by omega) (by omega)]; omega), trivial⟩), ⟨by omega, ?_⟩, by omega⟩
        rw [drop_getD xs (i - 1) (by omega), drop_getD ys (i - 1) (by omega), d1]
        congr 1
        omega
  · refine fin_val rfl fun _ _ => ?_
    have hb : i = 0 := by simp at hb; omega
    subst hb
    rw [cmpI_eq (by simpa using congrArg (val 10) h3)]


set_option maxRecDepth 10000 in
theorem rminus_calls (n : Int) (va : Value) (m : Mo) (hm : m.okm) (ha : RefR m va n) (hs : sz n ≤ 10000000) :
    Calls Try.prog 27 #[va] m.w (Post m fun m v => RefR m v (-n)) := by
  obtain ⟨vr, rfl, hr⟩ := ha
  have hx := digs_sz n
  refine enter_ Try.f27 _ 9 (args := [.agg #[.bool (decide (n < 0)), vr]]) (by kernel_rfl) rfl (by kernel_rfl) hm ?_
  refine callS_ (by kernel_rfl) (fun l m' s => rmade_ref (!decide (n < 0)) _ vr m' s.okm (hr.mono s.le) (digs_ok _) (by omega)) ?_
  rintro M1 v le1 h1
  obtain ⟨p', c', rfl, h1⟩ := h1.shape
  refine fin_ref h1 ?_
  rw [val_digs]
  by_cases h : n < 0
  · simp [sg, h]; omega
  · simp [sg, h]; omega

set_option maxRecDepth 10000 in
theorem rsign_calls (n : Int) (va : Value) (m : Mo) (hm : m.okm) (ha : RefR m va n) (hs : sz n ≤ 10000000) :
    Calls Try.prog 28 #[va] m.w (Post m fun _ v => v = .int .i64 (cmpI n 0)) := by
  obtain ⟨p, c, rfl, ha⟩ := ha.shape
  refine enter_ Try.f28 _ 9 (args := [.agg #[.bool (decide (n < 0)), .slice p (digs n.natAbs).length c]]) (by kernel_rfl) rfl (by kernel_rfl) hm ?_
  refine Br.mk (fun h0 => ?_) (fun h0 => ?_)
  · refine fin_at (v := .int .i64 0) (fun _ _ => ?_)
    rw [cmpI_eq]
    by_cases h : n.natAbs = 0
    · omega
    · rw [digs_pos h] at h0; simp at h0; omega
  have hn : n ≠ 0 := fun e => by subst e; exact absurd h0 (by decide)
  refine Br.mk (fun h1 => ?_) (fun h1 => ?_)
  · refine fin_at (v := .int .i64 (-1)) (fun _ _ => ?_)
    rw [cmpI_lt (of_decide_eq_true h1)]
  · refine fin_at (v := .int .i64 1) (fun _ _ => ?_)
    have := of_decide_eq_false h1
    rw [cmpI_gt (by omega)]
end Go.Proofs.Ytdkamjbcpmlheaa

/- The document's whole numbers: sums and differences. -/
namespace Go.Proofs.Ytdkamjbcpmlheaa
open Go Go.Gw Go.Lg
set_option pp.deepTerms false
set_option pp.deepTerms.threshold 6
set_option pp.maxSteps 3000

theorem getD_beyond {xs : List Int} {i : Nat} (h : xs.length ≤ i) : xs.getD i 0 = 0 := by simp [List.getD, List.getElem?_eq_none h]

theorem rplus_step {xs ys out : List Int} {i : Nat} {o s : Int} (hl : out.length = i) (ox : okd 10 xs) (oy : okd 10 ys) (oo : okd 10 out) (h : o = 0 ∨ o = 1) (hv : val 10 out + 10 ^ i * o = val 10 (xs.take i) + val 10 (ys.take i)) (hs : s = o + xs.getD i 0 + ys.getD i 0) :
    0 ≤ s ∧ s < 20 ∧ okd 10 (out ++ [s % 10]) ∧ (s / 10 = 0 ∨ s / 10 = 1) ∧ val 10 (out ++ [s % 10]) + 10 ^ (i + 1) * (s / 10) = val 10 (xs.take (i + 1)) + val 10 (ys.take (i + 1)) := by
  have h1 := ox.getD B10_pos i
  have h2 := oy.getD B10_pos i
  refine ⟨by omega, by omega, oo.snoc ⟨by omega, by omega⟩, by omega, ?_⟩
  have e := Int.mul_ediv_add_emod s 10
  rw [val_snoc, hl, val_take, val_take, Int.pow_succ, Int.mul_assoc]
  have : (10 : Int) ^ i * (s % 10) + 10 ^ i * (10 * (s / 10)) = 10 ^ i * o + 10 ^ i * xs.getD i 0 + 10 ^ i * ys.getD i 0 := by
    rw [← Int.mul_add, ← Int.mul_add, ← Int.mul_add]
    congr 1
    omega
  omega


set_option maxRecDepth 10000 in
set_option maxHeartbeats 1000000 in
theorem rplus_calls (xs ys : List Int) (va vb : Value) (m : Mo) (hm : m.okm) (ha : m.ints va .i64 xs) (hb : m.ints vb .i64 ys) (ox : okd 10 xs) (oy : okd 10 ys) (hx : xs.length ≤ 400000000) (hy : ys.length ≤ 400000000) :
    Calls Try.prog 46 #[va, vb] m.w (PostF m fun m v => ∃ zs, (zs.length ≤ max xs.length ys.length + 1 ∧ okd 10 zs ∧ val 10 zs = val 10 xs + val 10 ys) ∧ m.ints v .i64 zs) := by
  obtain ⟨a, ca, rfl, hca, hsa, hra⟩ := ha
  obtain ⟨b, cb, rfl, hcb, hsb, hrb⟩ := hb
  refine enter2_ Try.f46 _ 54 [a, b] [⟨none, .ints .i64 xs⟩, ⟨none, .ints .i64 ys⟩] [.ls 0 0 xs.length ca, .ls 1 0 ys.length cb] (by kernel_rfl) rfl (by kernel_rfl) hm rfl (by simp [okL, AV.ok]) ⟨⟨rfl, hsa, trivial, hra⟩, ⟨rfl, hsb, trivial, hrb⟩, trivial⟩ ?_
  refine LoopK.nil 5 3 .i64 rfl ?_
  refine loop_ (ι := Nat × List Int × Nat × Int) (fun i => [(0, .ls 0 0 xs.length ca), (1, .ls 1 0 ys.length cb), (5, .ls 2 0 i.2.1.length i.2.2.1), (6, .v (.int .i64 i.2.2.2)), (7, .v (.int .i64 i.1))])
    (fun i => [⟨none, .ints .i64 xs⟩, ⟨none, .ints .i64 ys⟩, ⟨some (3, i.2.2.1), .ints .i64 i.2.1⟩])
    (fun i _ => i.2.1.length = i.1 ∧ (i.1 ≤ max xs.length ys.length ∨ (i.1 = max xs.length ys.length + 1 ∧ i.2.2.2 = 0)) ∧ i.2.1.length ≤ i.2.2.1 ∧ okd 10 i.2.1 ∧ (i.2.2.2 = 0 ∨ i.2.2.2 = 1) ∧ val 10 i.2.1 + 10 ^ i.1 * i.2.2.2 = val 10 (xs.take i.1) + val 10 (ys.take i.1)) (fun i => 2 * (max xs.length ys.length + 1 - i.1) + i.2.2.2.toNat) (0, [], 0, 0) (M0 := m) ?_ ?_ ?_
  · exact Ref.sub (by exact ⟨rfl, rfl, rfl, rfl, rfl, trivial⟩)
  · exact ⟨rfl, by simp, Nat.le_refl _, okd.nil _, .inl rfl, rfl⟩
  rintro ⟨i, out, cp, o⟩ M1 ⟨h1, h2, h6, h3, h4, h5⟩
  simp only at h1 h2 h3 h4 h5 h6
  obtain ⟨s, hs⟩ : ∃ s, s = o + xs.getD i 0 + ys.getD i 0 := ⟨_, rfl⟩
  obtain ⟨p1, p2, p3, p4, p5⟩ := rplus_step h1 ox oy h3 h4 h5 hs
  have rx := ox.getD B10_pos i
  have ry := oy.getD B10_pos i
  by_cases ha : i < xs.length
  · refine Br.yes (by simp only [decide_eq_true_eq]; omega) (Br.yes rfl ?_)
    refine Br.yes (by simp only [decide_eq_true_eq]; omega) ?_
    refine ix_ ⟨by omega, by omega⟩ (by show (i : Int).toNat < xs.length; omega) ?_
    by_cases hb : i < ys.length
    · refine Br.yes (by simp only [decide_eq_true_eq]; omega) ?_
      refine ix_ ⟨by omega, by omega⟩ (by show (i : Int).toNat < ys.length; omega) ?_
      have hS : IntKind.i64.wrap (IntKind.i64.wrap (o + xs.getD (Int.toNat i) 0) + ys.getD (Int.toNat i) 0) = s := by rw [Int.toNat_natCast, wrap_in (o + _) (by omega) (by omega), wrap_in _ (by omega) (by omega), hs]
      refine And.intro (by decide) ?_
      refine app_ .i64 (xs := out) (news := [(IntKind.i64.wrap (IntKind.i64.wrap (o + xs.getD (Int.toNat i) 0) + ys.getD (Int.toNat i) 0)).tmod 10]) rfl (fun _ => rfl) rfl (by kernel_rfl) (by kernel_rfl) (rd_lit (e' := 3) (by kernel_rfl) rfl (fun _ => rfl) rfl) (by simp; omega) fun cap' hcap => ?_
      refine And.intro (by decide) ?_
      refine ⟨(i + 1, out ++ [s % 10], cap', s / 10), M1, Ref.ren [some 0, some 1, some 4] (by rfl) (by exact ⟨⟨rfl, by simp [AV.ok]⟩, ⟨rfl, by simp [AV.ok]⟩, ⟨by simp only [List.length_append]; rfl, by simp [AV.ok]⟩, ⟨some_nrm (by rw [hS, Int.tdiv_eq_ediv_of_nonneg p1, wrap_in _ (by omega) (by omega)]), trivial⟩, ⟨some_nrm (by rw [wrap_in _ (by omega) (by omega)]; rfl), trivial⟩, trivial⟩) (by exact ⟨⟨rfl, trivial⟩, ⟨rfl, trivial⟩, ⟨by rw [hS, Int.tmod_eq_emod_of_nonneg p1]; rfl, trivial⟩, trivial⟩), ⟨by simp only [List.length_append, h1]; rfl, by simp only; omega, by simpa using hcap, p3, p4, p5⟩, by simp only; omega⟩
    · have e0 := getD_beyond (show ys.length ≤ i by omega)
      refine Br.no (by simp only [decide_eq_false_iff_not]; omega) ?_
      have hS : IntKind.i64.wrap (o + xs.getD (Int.toNat i) 0) = s := by rw [Int.toNat_natCast, wrap_in (o + _) (by omega) (by omega), hs, e0]; omega
      refine And.intro (by decide) ?_
      refine app_ .i64 (xs := out) (news := [(IntKind.i64.wrap (o + xs.getD (Int.toNat i) 0)).tmod 10]) rfl (fun _ => rfl) rfl (by kernel_rfl) (by kernel_rfl) (rd_lit (e' := 3) (by kernel_rfl) rfl (fun _ => rfl) rfl) (by simp; omega) fun cap' hcap => ?_
      refine And.intro (by decide) ?_
      refine ⟨(i + 1, out ++ [s % 10], cap', s / 10), M1, Ref.ren [some 0, some 1, some 4] (by rfl) (by exact ⟨⟨rfl, by simp [AV.ok]⟩, ⟨rfl, by simp [AV.ok]⟩, ⟨by simp only [List.length_append]; rfl, by simp [AV.ok]⟩, ⟨some_nrm (by rw [hS, Int.tdiv_eq_ediv_of_nonneg p1, wrap_in _ (by omega) (by omega)]), trivial⟩, ⟨some_nrm (by rw [wrap_in _ (by omega) (by omega)]; rfl), trivial⟩, trivial⟩) (by exact ⟨⟨rfl, trivial⟩, ⟨rfl, trivial⟩, ⟨by rw [hS, Int.tmod_eq_emod_of_nonneg p1]; rfl, trivial⟩, trivial⟩), ⟨by simp only [List.length_append, h1]; rfl, by simp only; omega, by simpa using hcap, p3, p4, p5⟩, by simp only; omega⟩
  · have e0 := getD_beyond (show xs.length ≤ i by omega)
    refine Br.no (by simp only [decide_eq_false_iff_not]; omega) ?_
    by_cases hb : i < ys.length
    · refine Br.yes (by simp only [decide_eq_true_eq]; omega) ?_
      refine Br.no (by simp only [decide_eq_false_iff_not]; omega) ?_
      refine Br.yes (by simp only [decide_eq_true_eq]; omega) ?_
      refine ix_ ⟨by omega, by omega⟩ (by show (i : Int).toNat < ys.length; omega) ?_
      have hS : IntKind.i64.wrap (o + ys.getD (Int.toNat i) 0) = s := by rw [Int.toNat_natCast, wrap_in (o + _) (by omega) (by omega), hs, e0]; omega
      refine And.intro (by decide) ?_
      refine app_ .i64 (xs := out) (news := [(IntKind.i64.wrap (o + ys.getD (Int.toNat i) 0)).tmod 10]) rfl (fun _ => rfl) rfl (by kernel_rfl) (by kernel_rfl) (rd_lit (e' := 3) (by kernel_rfl) rfl (fun _ => rfl) rfl) (by simp; omega) fun cap' hcap => ?_
      refine And.intro (by decide) ?_
      refine ⟨(i + 1, out ++ [s % 10], cap', s / 10), M1, Ref.ren [some 0, some 1, some 4] (by rfl) (by exact ⟨⟨rfl, by simp [AV.ok]⟩, ⟨rfl, by simp [AV.ok]⟩, ⟨by simp only [List.length_append]; rfl, by simp [AV.ok]⟩, ⟨some_nrm (by rw [hS, Int.tdiv_eq_ediv_of_nonneg p1, wrap_in _ (by omega) (by omega)]), trivial⟩, ⟨some_nrm (by rw [wrap_in _ (by omega) (by omega)]; rfl), trivial⟩, trivial⟩) (by exact ⟨⟨rfl, trivial⟩, ⟨rfl, trivial⟩, ⟨by rw [hS, Int.tmod_eq_emod_of_nonneg p1]; rfl, trivial⟩, trivial⟩), ⟨by simp only [List.length_append, h1]; rfl, by simp only; omega, by simpa using hcap, p3, p4, p5⟩, by simp only; omega⟩
    · have e1 := getD_beyond (show ys.length ≤ i by omega)
      refine Br.no (by simp only [decide_eq_false_iff_not]; omega) ?_
      by_cases hc : 0 < o
      · refine Br.yes (by simp only [decide_eq_true_eq]; omega) ?_
        refine Br.no (by simp only [decide_eq_false_iff_not]; omega) ?_
        refine Br.no (by simp only [decide_eq_false_iff_not]; omega) ?_
        have hS : o = s := by rw [hs, e0, e1]; omega
        refine And.intro (by decide) ?_
        refine app_ .i64 (xs := out) (news := [(o).tmod 10]) rfl (fun _ => rfl) rfl (by kernel_rfl) (by kernel_rfl) (rd_lit (e' := 3) (by kernel_rfl) rfl (fun _ => rfl) rfl) (by simp; omega) fun cap' hcap => ?_
        refine And.intro (by decide) ?_
        refine ⟨(i + 1, out ++ [s % 10], cap', s / 10), M1, Ref.ren [some 0, some 1, some 4] (by rfl) (by exact ⟨⟨rfl, by simp [AV.ok]⟩, ⟨rfl, by simp [AV.ok]⟩, ⟨by simp only [List.length_append]; rfl, by simp [AV.ok]⟩, ⟨some_nrm (by rw [hS, Int.tdiv_eq_ediv_of_nonneg p1, wrap_in _ (by omega) (by omega)]), trivial⟩, ⟨some_nrm (by rw [wrap_in _ (by omega) (by omega)]; rfl), trivial⟩, trivial⟩) (by exact ⟨⟨rfl, trivial⟩, ⟨rfl, trivial⟩, ⟨by rw [hS, Int.tmod_eq_emod_of_nonneg p1]; rfl, trivial⟩, trivial⟩), ⟨by simp only [List.length_append, h1]; rfl, by simp only; omega, by simpa using hcap, p3, p4, p5⟩, by simp only; omega⟩
      · refine Br.no (by simp only [decide_eq_false_iff_not]; omega) ?_
        have ho : o = 0 := by omega
        subst ho
        rw [List.take_of_length_le (by omega), List.take_of_length_le (by omega), Int.mul_zero, Int.add_zero] at h5
        exact fin_own rfl rfl rfl h6 ⟨by simp only; omega, h3, h5⟩
theorem rless_step {xs ys out : List Int} {i : Nat} {u d e u' : Int} (hl : out.length = i) (ox : okd 10 xs) (oy : okd 10 ys) (oo : okd 10 out) (h : u = 0 ∨ u = 1) (hv : val 10 out = val 10 (xs.take i) - val 10 (ys.take i) + 10 ^ i * u) (hd : d = xs.getD i 0 - u - ys.getD i 0)
    (he : (d < 0 ∧ e = d + 10 ∧ u' = 1) ∨ (0 ≤ d ∧ e = d ∧ u' = 0)) :
    okd 10 (out ++ [e]) ∧ (u' = 0 ∨ u' = 1) ∧ val 10 (out ++ [e]) = val 10 (xs.take (i + 1)) - val 10 (ys.take (i + 1)) + 10 ^ (i + 1) * u' := by
  have h1 := ox.getD B10_pos i
  have h2 := oy.getD B10_pos i
  refine ⟨oo.snoc ⟨by omega, by omega⟩, by omega, ?_⟩
  rw [val_snoc, hl, val_take, val_take, Int.pow_succ, Int.mul_assoc]
  have : (10 : Int) ^ i * u + 10 ^ i * e = 10 ^ i * xs.getD i 0 - 10 ^ i * ys.getD i 0 + 10 ^ i * (10 * u') := by
    rw [← Int.mul_add, ← Int.mul_sub, ← Int.mul_add]
    congr 1
    omega
  omega


set_option maxRecDepth 10000 in
set_option maxHeartbeats 1000000 in
theorem rless_calls (xs ys : List Int) (va vb : Value) (m : Mo) (hm : m.okm) (ha : m.ints va .i64 xs) (hb : m.ints vb .i64 ys) (ox : okd 10 xs) (oy : okd 10 ys) (hle : ys.length ≤ xs.length) (hvv : val 10 ys ≤ val 10 xs) (hx : xs.length ≤ 400000000) :
    Calls Try.prog 48 #[va, vb] m.w (PostF m fun m v => ∃ zs, (zs.length = xs.length ∧ okd 10 zs ∧ val 10 zs = val 10 xs - val 10 ys) ∧ m.ints v .i64 zs) := by
  obtain ⟨a, ca, rfl, hca, hsa, hra⟩ := ha
  obtain ⟨b, cb, rfl, hcb, hsb, hrb⟩ := hb
  refine enter2_ Try.f48 _ 40 [a, b] [⟨none, .ints .i64 xs⟩, ⟨none, .ints .i64 ys⟩] [.ls 0 0 xs.length ca, .ls 1 0 ys.length cb] (by kernel_rfl) rfl (by kernel_rfl) hm rfl (by simp [okL, AV.ok]) ⟨⟨rfl, hsa, trivial, hra⟩, ⟨rfl, hsb, trivial, hrb⟩, trivial⟩ ?_
  refine LoopK.nil 5 3 .i64 rfl ?_
  refine loop_ (ι := Nat × List Int × Nat × Int) (fun i => [(0, .ls 0 0 xs.length ca), (1, .ls 1 0 ys.length cb), (5, .ls 2 0 i.2.1.length i.2.2.1), (6, .v (.int .i64 i.2.2.2)), (7, .v (.int .i64 i.1))])
    (fun i => [⟨none, .ints .i64 xs⟩, ⟨none, .ints .i64 ys⟩, ⟨some (3, i.2.2.1), .ints .i64 i.2.1⟩])
    (fun i _ => i.2.1.length = i.1 ∧ i.1 ≤ xs.length ∧ i.2.1.length ≤ i.2.2.1 ∧ okd 10 i.2.1 ∧ (i.2.2.2 = 0 ∨ i.2.2.2 = 1) ∧ val 10 i.2.1 = val 10 (xs.take i.1) - val 10 (ys.take i.1) + 10 ^ i.1 * i.2.2.2) (fun i => xs.length - i.1) (0, [], 0, 0) (M0 := m) ?_ ?_ ?_
  · exact Ref.sub (by exact ⟨rfl, rfl, rfl, rfl, rfl, trivial⟩)
  · exact ⟨rfl, by simp, Nat.le_refl _, okd.nil _, .inl rfl, rfl⟩
  rintro ⟨i, out, cp, u⟩ M1 ⟨h1, h2, h6, h3, h4, h5⟩
  simp only at h1 h2 h3 h4 h5 h6
  have rx := ox.getD B10_pos i
  have ry := oy.getD B10_pos i
  by_cases ha : i < xs.length
  · refine Br.yes (by simp only [decide_eq_true_eq]; omega) ?_
    refine ix_ ⟨by omega, by omega⟩ (by show (i : Int).toNat < xs.length; omega) ?_
    by_cases hb : i < ys.length
    · refine Br.yes (by simp only [decide_eq_true_eq]; omega) ?_
      refine ix_ ⟨by omega, by omega⟩ (by show (i : Int).toNat < ys.length; omega) ?_
      have hD : IntKind.i64.wrap (IntKind.i64.wrap (xs.getD (Int.toNat i) 0 - u) - ys.getD (Int.toNat i) 0) = xs.getD i 0 - u - ys.getD i 0 := by rw [Int.toNat_natCast, wrap_in (xs.getD i 0 - u) (by omega) (by omega), wrap_in _ (by omega) (by omega)]
      obtain ⟨d, hd⟩ : ∃ d, d = xs.getD i 0 - u - ys.getD i 0 := ⟨_, rfl⟩
      by_cases hn : d < 0
      · obtain ⟨p1, p2, p3⟩ := rless_step (e := d + 10) (u' := 1) h1 ox oy h3 h4 h5 hd (.inl ⟨hn, rfl, rfl⟩)
        refine Br.yes (by rw [hD]; simp only [decide_eq_true_eq]; omega) ?_
        refine app_ .i64 (xs := out) (news := [IntKind.i64.wrap (IntKind.i64.wrap (IntKind.i64.wrap (xs.getD (Int.toNat i) 0 - u) - ys.getD (Int.toNat i) 0) + 10)]) rfl (fun _ => rfl) rfl (by kernel_rfl) (by kernel_rfl) (rd_lit (e' := 3) (by kernel_rfl) rfl (fun _ => rfl) rfl) (by simp; omega) fun cap' hcap => ?_
        refine ⟨(i + 1, out ++ [d + 10], cap', 1), M1, Ref.ren [some 0, some 1, some 4] (by rfl) (by exact ⟨⟨rfl, by simp [AV.ok]⟩, ⟨rfl, by simp [AV.ok]⟩, ⟨by simp only [List.length_append]; rfl, by simp [AV.ok]⟩, ⟨rfl, trivial⟩, ⟨some_nrm (by rw [wrap_in _ (by omega) (by omega)]; rfl), trivial⟩, trivial⟩) (by exact ⟨⟨rfl, trivial⟩, ⟨rfl, trivial⟩, ⟨by rw [hD, ← hd, wrap_in (d + 10) (by omega) (by omega)]; rfl, trivial⟩, trivial⟩), ⟨by simp only [List.length_append, h1]; rfl, by simp only; omega, by simpa using hcap, p1, p2, p3⟩, by simp only; omega⟩
      · obtain ⟨p1, p2, p3⟩ := rless_step (e := d) (u' := 0) h1 ox oy h3 h4 h5 hd (.inr ⟨by omega, rfl, rfl⟩)
        refine Br.no (by rw [hD]; simp only [decide_eq_false_iff_not]; omega) ?_
        refine app_ .i64 (xs := out) (news := [IntKind.i64.wrap (IntKind.i64.wrap (xs.getD (Int.toNat i) 0 - u) - ys.getD (Int.toNat i) 0)]) rfl (fun _ => rfl) rfl (by kernel_rfl) (by kernel_rfl) (rd_lit (e' := 3) (by kernel_rfl) rfl (fun _ => rfl) rfl) (by simp; omega) fun cap' hcap => ?_
        refine ⟨(i + 1, out ++ [d], cap', 0), M1, Ref.ren [some 0, some 1, some 4] (by rfl) (by exact ⟨⟨rfl, by simp [AV.ok]⟩, ⟨rfl, by simp [AV.ok]⟩, ⟨by simp only [List.length_append]; rfl, by simp [AV.ok]⟩, ⟨rfl, trivial⟩, ⟨some_nrm (by rw [wrap_in _ (by omega) (by omega)]; rfl), trivial⟩, trivial⟩) (by exact ⟨⟨rfl, trivial⟩, ⟨rfl, trivial⟩, ⟨by rw [hD, ← hd]; rfl, trivial⟩, trivial⟩), ⟨by simp only [List.length_append, h1]; rfl, by simp only; omega, by simpa using hcap, p1, p2, p3⟩, by simp only; omega⟩
    · have e0 := getD_beyond (show ys.length ≤ i by omega)
      refine Br.no (by simp only [decide_eq_false_iff_not]; omega) ?_
      have hD : IntKind.i64.wrap (xs.getD (Int.toNat i) 0 - u) = xs.getD i 0 - u - ys.getD i 0 := by rw [Int.toNat_natCast, wrap_in (xs.getD i 0 - u) (by omega) (by omega), e0]; omega
      obtain ⟨d, hd⟩ : ∃ d, d = xs.getD i 0 - u - ys.getD i 0 := ⟨_, rfl⟩
      by_cases hn : d < 0
      · obtain ⟨p1, p2, p3⟩ := rless_step (e := d + 10) (u' := 1) h1 ox oy h3 h4 h5 hd (.inl ⟨hn, rfl, rfl⟩)
        refine Br.yes (by rw [hD]; simp only [decide_eq_true_eq]; omega) ?_
        refine app_ .i64 (xs := out) (news := [IntKind.i64.wrap (IntKind.i64.wrap (xs.getD (Int.toNat i) 0 - u) + 10)]) rfl (fun _ => rfl) rfl (by kernel_rfl) (by kernel_rfl) (rd_lit (e' := 3) (by kernel_rfl) rfl (fun _ => rfl) rfl) (by simp; omega) fun cap' hcap => ?_
        refine ⟨(i + 1, out ++ [d + 10], cap', 1), M1, Ref.ren [some 0, some 1, some 4] (by rfl) (by exact ⟨⟨rfl, by simp [AV.ok]⟩, ⟨rfl, by simp [AV.ok]⟩, ⟨by simp only [List.length_append]; rfl, by simp [AV.ok]⟩, ⟨rfl, trivial⟩, ⟨some_nrm (by rw [wrap_in _ (by omega) (by omega)]; rfl), trivial⟩, trivial⟩) (by exact ⟨⟨rfl, trivial⟩, ⟨rfl, trivial⟩, ⟨by rw [hD, ← hd, wrap_in (d + 10) (by omega) (by omega)]; rfl, trivial⟩, trivial⟩), ⟨by simp only [List.length_append, h1]; rfl, by simp only; omega, by simpa using hcap, p1, p2, p3⟩, by simp only; omega⟩
      · obtain ⟨p1, p2, p3⟩ := rless_step (e := d) (u' := 0) h1 ox oy h3 h4 h5 hd (.inr ⟨by omega, rfl, rfl⟩)
        refine Br.no (by rw [hD]; simp only [decide_eq_false_iff_not]; omega) ?_
        refine app_ .i64 (xs := out) (news := [IntKind.i64.wrap (xs.getD (Int.toNat i) 0 - u)]) rfl (fun _ => rfl) rfl (by kernel_rfl) (by kernel_rfl) (rd_lit (e' := 3) (by kernel_rfl) rfl (fun _ => rfl) rfl) (by simp; omega) fun cap' hcap => ?_
        refine ⟨(i + 1, out ++ [d], cap', 0), M1, Ref.ren [some 0, some 1, some 4] (by rfl) (by exact ⟨⟨rfl, by simp [AV.ok]⟩, ⟨rfl, by simp [AV.ok]⟩, ⟨by simp only [List.length_append]; rfl, by simp [AV.ok]⟩, ⟨rfl, trivial⟩, ⟨some_nrm (by rw [wrap_in _ (by omega) (by omega)]; rfl), trivial⟩, trivial⟩) (by exact ⟨⟨rfl, trivial⟩, ⟨rfl, trivial⟩, ⟨by rw [hD, ← hd]; rfl, trivial⟩, trivial⟩), ⟨by simp only [List.length_append, h1]; rfl, by simp only; omega, by simpa using hcap, p1, p2, p3⟩, by simp only; omega⟩
  · refine Br.no (by simp only [decide_eq_false_iff_not]; omega) ?_
    have hi : i = xs.length := by omega
    subst hi
    rw [List.take_of_length_le (by omega), List.take_of_length_le (by omega)] at h5
    refine fin_own rfl rfl rfl h6 ⟨h1, h3, ?_⟩
    have h7 := val_lt B10_pos h3
    rw [h1] at h7
    rcases h4 with h4 | h4
    · rw [h5, h4]; omega
    · rw [h4] at h5; omega

set_option maxRecDepth 10000 in
theorem radd_calls (n k : Int) (va vb : Value) (m : Mo) (hm : m.okm) (ha : RefR m va n) (hb : RefR m vb k) (hs : sz n ≤ 10000000) (ht : sz k ≤ 10000000) :
    Calls Try.prog 23 #[va, vb] m.w (Post m fun m v => RefR m v (n + k)) := by
  obtain ⟨vr, rfl, hr⟩ := ha
  obtain ⟨vs, rfl, hq⟩ := hb
  have hx := digs_sz n
  have hy := digs_sz k
  have ox := digs_ok n.natAbs
  have oy := digs_ok k.natAbs
  have ex := val_digs n.natAbs
  have ey := val_digs k.natAbs
  have nx := digs_nrmd n.natAbs
  have ny := digs_nrmd k.natAbs
  generalize hxs : digs n.natAbs = xs at *
  generalize hys : digs k.natAbs = ys at *
  refine enter_ Try.f23 _ 42 (args := [.agg #[.bool (decide (n < 0)), vr], .agg #[.bool (decide (k < 0)), vs]]) (by kernel_rfl) rfl (by kernel_rfl) hm ?_
  refine Br.mk (fun h0 => ?_) (fun h0 => ?_)
  · have h0 : n < 0 ↔ k < 0 := by simpa using h0
    refine draw_ [(1, []), (3, []), (5, [])] [0, 1, 2, 3, 4, 5, 6, 7] [] [8] [(8, 2)] (by kernel_rfl) rfl rfl ?_
    refine callD_ (by kernel_rfl) (fun l m' s => (rplus_calls xs ys vr vs m' s.okm (hr.mono s.le) (hq.mono s.le) ox oy (by omega) (by omega)).mono fun _ _ h => h.post s.okm) ?_
    rintro M1 v le1 ⟨zs, ⟨z1, z2, z3⟩, hz⟩
    refine callD_ (by kernel_rfl) (fun l m' s => rmade_ref (decide (n < 0)) zs v m' s.okm (hz.mono s.le) z2 (by omega)) ?_
    rintro M2 v2 le2 h1
    obtain ⟨p', c', rfl, h1⟩ := h1.shape
    refine fin_ref h1 ?_
    rw [z3, ex, ey]
    by_cases h : n < 0 <;> simp [sg, h] <;> omega
  have h0 : ¬ (n < 0 ↔ k < 0) := by simpa using h0
  refine callS_ (by kernel_rfl) (fun l m' s => rsize_calls xs ys vr vs m' s.okm (hr.mono s.le) (hq.mono s.le) ox oy nx ny (by omega)) ?_
  rintro M0 v0 le0 rfl
  refine Br.mk (fun h1 => ?_) (fun h1 => ?_)
  · have h1 : val 10 ys ≤ val 10 xs := by
      have := cmpI_neg (val 10 xs) (val 10 ys)
      simp at h1; omega
    refine draw_ [(1, []), (3, []), (5, [])] [0, 1, 2, 3, 4, 5, 6, 7] [] [8] [(8, 2)] (by kernel_rfl) rfl rfl ?_
    refine callD_ (by kernel_rfl) (fun l m' s => (rless_calls xs ys vr vs m' s.okm (hr.mono (le0.trans s.le)) (hq.mono (le0.trans s.le)) ox oy ?_ h1 (by omega)).mono fun _ _ h => h.post s.okm) ?_
    · by_cases h : ys.length ≤ xs.length
      · exact h
      · have := val_lt_len B10_pos ox oy ny (by omega); omega
    rintro M1 v le1 ⟨zs, ⟨z1, z2, z3⟩, hz⟩
    refine callD_ (by kernel_rfl) (fun l m' s => rmade_ref (decide (n < 0)) zs v m' s.okm (hz.mono s.le) z2 (by omega)) ?_
    rintro M2 v2 le2 h1
    obtain ⟨p', c', rfl, h1⟩ := h1.shape
    refine fin_ref h1 ?_
    rw [z3, ex, ey]
    by_cases h : n < 0 <;> simp [sg, h] <;> omega
  · have h1 : val 10 xs < val 10 ys := by
      have := cmpI_neg (val 10 xs) (val 10 ys)
      simp at h1; omega
    refine draw_ [(1, []), (3, []), (5, [])] [0, 1, 2, 3, 4, 5, 6, 7] [] [8] [(8, 2)] (by kernel_rfl) rfl rfl ?_
    refine callD_ (by kernel_rfl) (fun l m' s => (rless_calls ys xs vs vr m' s.okm (hq.mono (le0.trans s.le)) (hr.mono (le0.trans s.le)) oy ox ?_ (by omega) (by omega)).mono fun _ _ h => h.post s.okm) ?_
    · by_cases h : xs.length ≤ ys.length
      · exact h
      · have := val_lt_len B10_pos oy ox nx (by omega); omega
    rintro M1 v le1 ⟨zs, ⟨z1, z2, z3⟩, hz⟩
    refine callD_ (by kernel_rfl) (fun l m' s => rmade_ref (decide (k < 0)) zs v m' s.okm (hz.mono s.le) z2 (by omega)) ?_
    rintro M2 v2 le2 h1
    obtain ⟨p', c', rfl, h1⟩ := h1.shape
    refine fin_ref h1 ?_
    rw [z3, ex, ey]
    by_cases h : k < 0 <;> simp [sg, h] <;> omega

set_option maxRecDepth 10000 in
theorem rsub_calls (n k : Int) (va vb : Value) (m : Mo) (hm : m.okm) (ha : RefR m va n) (hb : RefR m vb k) (hs : sz n ≤ 10000000) (ht : sz k ≤ 10000000) :
    Calls Try.prog 25 #[va, vb] m.w (Post m fun m v => RefR m v (n - k)) := by
  obtain ⟨p, c, rfl, ha⟩ := ha.shape
  obtain ⟨q, d, rfl, hb⟩ := hb.shape
  refine enter_ Try.f25 _ 9 (args := [.agg #[.bool (decide (n < 0)), .slice p (digs n.natAbs).length c], .agg #[.bool (decide (k < 0)), .slice q (digs k.natAbs).length d]]) (by kernel_rfl) rfl (by kernel_rfl) hm ?_
  refine draw_ [(0, []), (1, [])] [0, 1, 2, 3] [] [4] [(4, 2)] (by kernel_rfl) rfl rfl ?_
  refine callD_ (by kernel_rfl) (fun l m' s => rminus_calls k _ m' s.okm (hb.mono s.le) ht) ?_
  rintro M1 v le1 h1
  refine callD_ (by kernel_rfl) (fun l m' s => radd_calls n (-k) _ v m' s.okm (ha.mono (le1.trans s.le)) (h1.mono s.le) hs (by rw [sz_neg]; exact ht)) ?_
  rintro M2 v2 le2 h2
  obtain ⟨p', c', rfl, h2⟩ := h2.shape
  exact fin_ref h2 rfl

set_option maxRecDepth 10000 in
theorem rcmp_calls (n k : Int) (va vb : Value) (m : Mo) (hm : m.okm) (ha : RefR m va n) (hb : RefR m vb k) (hs : sz n ≤ 10000000) (ht : sz k ≤ 10000000) :
    Calls Try.prog 29 #[va, vb] m.w (Post m fun _ v => v = .int .i64 (cmpI n k)) := by
  obtain ⟨vr, rfl, hr⟩ := ha
  obtain ⟨vs, rfl, hq⟩ := hb
  have hx := digs_sz n
  refine enter_ Try.f29 _ 23 (args := [.agg #[.bool (decide (n < 0)), vr], .agg #[.bool (decide (k < 0)), vs]]) (by kernel_rfl) rfl (by kernel_rfl) hm ?_
  refine Br.mk (fun h0 => ?_) (fun h0 => ?_)
  · have h0 : ¬ (n < 0 ↔ k < 0) := by simpa using h0
    refine Br.mk (fun h1 => ?_) (fun h1 => ?_)
    · have h1 := of_decide_eq_true h1
      refine fin_at (v := .int .i64 (-1)) (fun _ _ => ?_)
      rw [cmpI_lt (by omega)]
    · have h1 := of_decide_eq_false h1
      refine fin_at (v := .int .i64 1) (fun _ _ => ?_)
      rw [cmpI_gt (by omega)]
  have h0 : n < 0 ↔ k < 0 := by simpa using h0
  refine callS_ (by kernel_rfl) (fun l m' s => rsize_calls _ _ vr vs m' s.okm (hr.mono s.le) (hq.mono s.le) (digs_ok _) (digs_ok _) (digs_nrmd _) (digs_nrmd _) (by omega)) ?_
  rintro M0 v0 le0 rfl
  rw [val_digs, val_digs]
  refine Br.mk (fun h1 => ?_) (fun h1 => ?_)
  · have h1 := of_decide_eq_true h1
    refine fin_at (fun _ _ => ?_)
    congr 1
    unfold cmpI
    split <;> split <;> (try split) <;> (try split) <;> first | omega | (rw [wrap_in _ (by omega) (by omega)]; omega)
  · have h1 := of_decide_eq_false h1
    refine fin_at (fun _ _ => ?_)
    congr 1
    unfold cmpI
    split <;> split <;> (try split) <;> (try split) <;> omega
end Go.Proofs.Ytdkamjbcpmlheaa
