/- The document's texts; which numbers the laws play with. -/
import Derived.Test.YtdkamjbcpmlheaaE
set_option linter.unusedVariables false
set_option linter.unusedSimpArgs false
/- The document's whole numbers: how they are written and read. -/
namespace Go.Proofs.Ytdkamjbcpmlheaa
open Go Go.Gw Go.Lg
set_option pp.deepTerms false
set_option pp.deepTerms.threshold 6
set_option pp.maxSteps 3000

theorem asc_drop {ds : List Int} {j : Nat} (hj : j < ds.length) : (asc (ds.drop j)).reverse = (asc (ds.drop (j + 1))).reverse ++ [ds.getD j 0 + 48] := by
  rw [drop_getD ds j hj]
  unfold asc
  rw [List.map_cons, List.reverse_cons]


set_option maxRecDepth 10000 in
theorem rstring_calls (n : Int) (va : Value) (m : Mo) (hm : m.okm) (ha : RefR m va n) (hs : sz n ≤ 10000000) :
    Calls Try.prog 24 #[va] m.w (Post m fun _ v => v = .string (decB n)) := by
  obtain ⟨vr, rfl, hr⟩ := ha
  obtain ⟨a, ca, rfl, hca, hsa, hra⟩ := hr
  have hx := digs_sz n
  have od := digs_ok n.natAbs
  generalize hds : digs n.natAbs = ds at *
  refine enter2_ Try.f24 _ 34 [a] [⟨none, .ints .i64 ds⟩] [.agg [.v (.bool (decide (n < 0))), .ls 0 0 ds.length ca]] (by kernel_rfl) rfl (by kernel_rfl) hm rfl (by simp [okL, AV.ok]) ⟨⟨rfl, hsa, trivial, hra⟩, trivial⟩ ?_
  refine Br.mk (fun h0 => ?_) (fun h0 => ?_)
  · have h0 : ds = [] := by simpa using h0
    refine fin_at (fun _ _ => ?_)
    by_cases h : n.natAbs = 0
    · have : n = 0 := by omega
      subst this; rfl
    · rw [digs_pos h] at hds; rw [← hds] at h0; cases h0
  have hn : n ≠ 0 := fun e => by subst e; rw [← hds] at h0; exact absurd h0 (by decide)
  refine Br.mk (fun h1 => ?_) (fun h1 => ?_)
  · have h1 := of_decide_eq_true h1
    refine app_nil_ (e := 5) .u8 (news := [45]) (by kernel_rfl) (by kernel_rfl) (rd_lit (e' := 5) (by kernel_rfl) rfl (fun _ => rfl) rfl) (by simp) fun cap0 hcap0 => ?_
    refine loop_ (ι := Nat × List Int × Nat) (fun i => [(1, .lp 1 0), (3, .ls 2 0 i.2.1.length i.2.2), (4, .v (.int .i64 ((i.1 : Int) - 1)))])
      (fun i => [⟨none, .ints .i64 ds⟩, ⟨some (31, 2), .lit [.v (.bool (decide (n < 0))), .ls 0 0 ds.length ca]⟩, ⟨some (5, i.2.2), .ints .u8 i.2.1⟩])
      (fun i _ => i.1 ≤ ds.length ∧ i.2.1 = [45] ++ (asc (ds.drop i.1)).reverse) (fun i => i.1) (ds.length, [45], cap0) (M0 := m) ?_ ?_ ?_
    · exact Ref.ren [some 0, some 1, some 3] (by rfl) (by exact ⟨⟨rfl, by simp [AV.ok]⟩, ⟨rfl, by simp [AV.ok]⟩, ⟨some_nrm (wrap_in _ (by omega) (by omega)), trivial⟩, trivial⟩) (by exact ⟨⟨rfl, trivial⟩, ⟨rfl, by simp [Cells.ok, okL, AV.ok]⟩, ⟨rfl, trivial⟩, trivial⟩)
    · exact ⟨Nat.le_refl _, by simp only [List.drop_of_length_le (Nat.le_refl _)]; simp [asc]⟩
    rintro ⟨j, out, cp⟩ M1 ⟨f1, f2⟩
    simp only at f1 f2
    have lo : out.length ≤ 900000000 := by rw [f2]; simp [asc]; omega
    refine Br.mk (fun hb => ?_) (fun hb => ?_)
    · have hj : 1 ≤ j := by have := of_decide_eq_true hb; simp only at this; omega
      have tj : ((j : Int) - 1).toNat = j - 1 := by omega
      have rd := od.getD B10_pos (j - 1)
      refine ix_ ⟨by omega, by omega⟩ (by rw [tj]; show j - 1 < ds.length; omega) ?_
      refine app_ .u8 (xs := out) (news := [IntKind.u8.wrap (IntKind.i64.wrap (48 + ds.getD ((j : Int) - 1).toNat 0))]) rfl (fun _ => rfl) rfl (by kernel_rfl) (by kernel_rfl) (rd_lit (e' := 5) (by kernel_rfl) rfl (fun _ => rfl) rfl) (by simp; omega) fun cap' hcap => ?_
      have ew : IntKind.u8.wrap (IntKind.i64.wrap (48 + ds.getD ((j : Int) - 1).toNat 0)) = ds.getD (j - 1) 0 + 48 := by rw [tj, wrap_i64, wrap_u8]; omega
      refine ⟨(j - 1, out ++ [ds.getD (j - 1) 0 + 48], cap'), M1, Ref.ren [some 0, some 1, some 4] (by rfl) (by exact ⟨⟨rfl, by simp [AV.ok]⟩, ⟨by simp only [List.length_append]; rfl, by simp [AV.ok]⟩, ⟨some_nrm (by rw [wrap_in _ (by omega) (by omega)]; simp only; omega), trivial⟩, trivial⟩) (by exact ⟨⟨rfl, trivial⟩, ⟨rfl, by simp [Cells.ok, okL, AV.ok]⟩, ⟨by rw [ew]; rfl, trivial⟩, trivial⟩), ⟨by simp only; omega, ?_⟩, by simp only; omega⟩
      simp only
      rw [asc_drop (show j - 1 < ds.length by omega), f2, Nat.sub_add_cancel hj, List.append_assoc]
    · have hj : j = 0 := by have := of_decide_eq_false hb; simp only at this; omega
      subst hj
      refine conv_str_ 5 (by kernel_rfl) (by kernel_rfl) (by kernel_rfl) rfl (by rw [Nat.zero_add]; exact Nat.le_refl _) ?_
      refine fin_at (fun _ _ => ?_)
      rw [List.drop_zero, List.take_of_length_le (Nat.le_refl _)]
      simp only
      rw [f2, List.drop_zero]
      unfold decB decS
      rw [if_neg hn, if_pos h1, hds]
  · have h1 := of_decide_eq_false h1
    refine LoopK.nil 3 5 .u8 rfl ?_
    refine loop_ (ι := Nat × List Int × Nat) (fun i => [(1, .lp 1 0), (3, .ls 2 0 i.2.1.length i.2.2), (4, .v (.int .i64 ((i.1 : Int) - 1)))])
      (fun i => [⟨none, .ints .i64 ds⟩, ⟨some (31, 2), .lit [.v (.bool (decide (n < 0))), .ls 0 0 ds.length ca]⟩, ⟨some (5, i.2.2), .ints .u8 i.2.1⟩])
      (fun i _ => i.1 ≤ ds.length ∧ i.2.1 = ([] : List Int) ++ (asc (ds.drop i.1)).reverse) (fun i => i.1) (ds.length, ([] : List Int), 0) (M0 := m) ?_ ?_ ?_
    · exact Ref.ren [some 0, some 1, some 2] (by rfl) (by exact ⟨⟨rfl, by simp [AV.ok]⟩, ⟨rfl, by simp [AV.ok]⟩, ⟨some_nrm (wrap_in _ (by omega) (by omega)), trivial⟩, trivial⟩) (by exact ⟨⟨rfl, trivial⟩, ⟨rfl, by simp [Cells.ok, okL, AV.ok]⟩, ⟨rfl, trivial⟩, trivial⟩)
    · exact ⟨Nat.le_refl _, by simp only [List.drop_of_length_le (Nat.le_refl _)]; simp [asc]⟩
    rintro ⟨j, out, cp⟩ M1 ⟨f1, f2⟩
    simp only at f1 f2
    have lo : out.length ≤ 900000000 := by rw [f2]; simp [asc]; omega
    refine Br.mk (fun hb => ?_) (fun hb => ?_)
    · have hj : 1 ≤ j := by have := of_decide_eq_true hb; simp only at this; omega
      have tj : ((j : Int) - 1).toNat = j - 1 := by omega
      have rd := od.getD B10_pos (j - 1)
      refine ix_ ⟨by omega, by omega⟩ (by rw [tj]; show j - 1 < ds.length; omega) ?_
      refine app_ .u8 (xs := out) (news := [IntKind.u8.wrap (IntKind.i64.wrap (48 + ds.getD ((j : Int) - 1).toNat 0))]) rfl (fun _ => rfl) rfl (by kernel_rfl) (by kernel_rfl) (rd_lit (e' := 5) (by kernel_rfl) rfl (fun _ => rfl) rfl) (by simp; omega) fun cap' hcap => ?_
      have ew : IntKind.u8.wrap (IntKind.i64.wrap (48 + ds.getD ((j : Int) - 1).toNat 0)) = ds.getD (j - 1) 0 + 48 := by rw [tj, wrap_i64, wrap_u8]; omega
      refine ⟨(j - 1, out ++ [ds.getD (j - 1) 0 + 48], cap'), M1, Ref.ren [some 0, some 1, some 4] (by rfl) (by exact ⟨⟨rfl, by simp [AV.ok]⟩, ⟨by simp only [List.length_append]; rfl, by simp [AV.ok]⟩, ⟨some_nrm (by rw [wrap_in _ (by omega) (by omega)]; simp only; omega), trivial⟩, trivial⟩) (by exact ⟨⟨rfl, trivial⟩, ⟨rfl, by simp [Cells.ok, okL, AV.ok]⟩, ⟨by rw [ew]; rfl, trivial⟩, trivial⟩), ⟨by simp only; omega, ?_⟩, by simp only; omega⟩
      simp only
      rw [asc_drop (show j - 1 < ds.length by omega), f2, Nat.sub_add_cancel hj, List.append_assoc]
    · have hj : j = 0 := by have := of_decide_eq_false hb; simp only at this; omega
      subst hj
      refine conv_str_ 5 (by kernel_rfl) (by kernel_rfl) (by kernel_rfl) rfl (by rw [Nat.zero_add]; exact Nat.le_refl _) ?_
      refine fin_at (fun _ _ => ?_)
      rw [List.drop_zero, List.take_of_length_le (Nat.le_refl _)]
      simp only
      rw [f2, List.drop_zero]
      unfold decB decS
      rw [if_neg hn, if_neg h1, hds]

theorem val_rev : ∀ l : List Int, val 10 (l.map (· - 48)) = dval l.reverse
  | [] => rfl
  | c :: r => by
    rw [List.map_cons, val, val_rev r, List.reverse_cons, dval_snoc]; omega

def RParseR (m : Mo) (v : Value) (bs : List Int) : Prop := ∃ vi e, v = .tuple #[vi, .int .i64 e] ∧ (2000 < bs.length → e = 2 ∧ RefR m vi 0) ∧ (bs.length ≤ 2000 → (∀ n, parsed bs = some n → e = 0 ∧ RefR m vi n) ∧ (parsed bs = none → e = 10 ∧ RefR m vi 0))


set_option maxRecDepth 10000 in
set_option maxHeartbeats 1000000 in
theorem rparse_calls (s : ByteArray) (bs : List Int) (hs : bytesI s = bs) (m : Mo) (hm : m.okm) :
    Calls Try.prog 14 #[.string s] m.w (Post m fun m v => RParseR m v bs) := by
  have hsz := bytes_size hs
  have hrg1 : ∀ x ∈ bs, 0 ≤ x ∧ x < 256 := by rw [← hs]; exact bytesI_range _
  refine enter_ Try.f14 _ 64 (args := [.string s]) (by kernel_rfl) rfl (by kernel_rfl) hm ?_
  refine Br.mk (fun h0 => ?_) (fun h0 => ?_)
  · have h0 : 2000 < bs.length := by have := of_decide_eq_true h0; omega
    exact fin_at (v := .tuple #[.agg #[.bool false, .slice none 0 0], .int .i64 2]) (fun m' _ => ⟨_, _, rfl, fun _ => ⟨rfl, RefR_zero _⟩, fun h => by omega⟩)
  have h0 : bs.length ≤ 2000 := by have := of_decide_eq_false h0; omega
  have fin : ∀ {e : Int} {m' : Mo} {vi : Value} {r : Option Int} (n : Int), RefR m' vi n → parsed bs = r → (r = none → e = 10 ∧ n = 0) → (∀ k, r = some k → e = 0 ∧ n = k) → RParseR m' (.tuple #[vi, .int .i64 e]) bs := by
    intro e m' vi r n h1 h2 h3 h4
    refine ⟨_, _, rfl, fun h => by omega, fun _ => ⟨fun k hk => ?_, fun hk => ?_⟩⟩
    · obtain ⟨g1, g2⟩ := h4 k (h2 ▸ hk); exact ⟨g1, g2 ▸ h1⟩
    · obtain ⟨g1, g2⟩ := h3 (h2 ▸ hk); exact ⟨g1, g2 ▸ h1⟩
  have bad : ∀ m' : Mo, parsed bs = none → RParseR m' (.tuple #[.agg #[.bool false, .slice none 0 0], .int .i64 10]) bs := fun m' h => fin 0 (RefR_zero _) h (fun _ => ⟨rfl, rfl⟩) (fun k hk => by cases hk)
  refine Br.mk (fun h1 => ?_) (fun h1 => ?_)
  · rw [str_eq, hs, show bytesI ⟨#[48]⟩ = [48] from rfl] at h1
    have h1 := of_decide_eq_true h1
    refine fin_at (R := fun m v => RParseR m v bs) (v := .tuple #[.agg #[.bool false, .slice none 0 0], .int .i64 0]) (fun m' _ => fin 0 (RefR_zero _) rfl (fun h => ?_) (fun k hk => ?_))
    · rw [h1] at h; cases h
    · rw [h1] at hk; exact ⟨rfl, by cases hk; rfl⟩
  rw [str_eq, hs, show bytesI ⟨#[48]⟩ = [48] from rfl] at h1
  have h1 := of_decide_eq_false h1
  by_cases hne : bs = []
  · refine Br.no (by rw [hsz, hne]; rfl) ?_
    refine Br.yes (by rw [hsz, hne]; rfl) ?_
    refine fin_at (R := fun m v => RParseR m v bs) (fun m' _ => bad m' ?_)
    rw [hne]; rfl
  have hpos : 0 < bs.length := List.length_pos_iff.2 hne
  refine Br.yes (by simp only [decide_eq_true_eq]; omega) ?_
  refine And.intro ⟨by omega, by omega⟩ ?_
  rw [hs]
  refine Br.mk (fun h2 => ?_) (fun h2 => ?_)
  · have h2 : bs.getD 0 0 = 45 := by simpa using h2
    have hpn := parsed_neg hne h2
    have lt : bs.tail.length = bs.length - 1 := by simp
    have hgd : ∀ j, bs.getD (1 + j) 0 = bs.tail.getD j 0 := fun j => by
      rw [Nat.add_comm]; match bs, hne with
      | x :: r, _ => simp [List.getD]
    have hrg0 : ∀ x ∈ bs.tail, 0 ≤ x ∧ x < 256 := fun x hx => hrg1 x (List.mem_of_mem_tail hx)
    by_cases h3 : bs.tail = []
    · refine Br.yes (beq_iff_eq.2 (by rw [h3] at lt; simp at lt; omega)) ?_
      refine fin_at (R := fun m v => RParseR m v bs) (fun m' _ => bad m' ?_)
      rw [hpn, if_pos (.inl h3)]
    have hpos2 : 0 < bs.tail.length := List.length_pos_iff.2 h3
    refine Br.no (beq_eq_false_iff_ne.2 (by omega)) ?_
    refine And.intro ⟨by omega, by omega⟩ ?_
    rw [hs]
    refine Br.mk (fun h4 => ?_) (fun h4 => ?_)
    · have h4 : bs.tail.getD 0 0 = 48 := by rw [← hgd 0]; simpa using h4
      refine fin_at (R := fun m v => RParseR m v bs) (fun m' _ => bad m' ?_)
      rw [hpn, if_pos (.inr (by rw [head_getD h3, h4]))]
    · have h4 : bs.tail.getD 0 0 ≠ 48 := by rw [← hgd 0]; simpa using h4
      have hpd : parsed bs = if bs.tail.all isDig then some (sg true (dval bs.tail)) else none := by
        rw [hpn, if_neg]
        rintro (h | h)
        · exact h3 h
        · rw [head_getD h3] at h; exact h4 (by simpa using h)
      refine LoopK.nil 6 3 .i64 rfl ?_
      refine loop_ (ι := Nat × List Int × Nat) (fun i => [(0, .v (.string s)), (2, .lp 0 0), (4, .v (.int .i64 1)), (5, .v (.bool true)), (6, .ls 1 0 i.2.1.length i.2.2), (7, .v (.int .i64 (((1 + i.1 : Nat) : Int) - 1)))])
        (fun i => [⟨some (31, 2), .lit [.v (.bool false), .v (.slice none 0 0)]⟩, ⟨some (3, i.2.2), .ints .i64 i.2.1⟩])
        (fun i _ => i.1 ≤ (bs.tail).length ∧ i.2.1 = ((bs.tail).drop i.1).reverse.map (· - 48) ∧ ((bs.tail).drop i.1).all isDig = true ∧ i.2.1.length ≤ i.2.2) (fun i => i.1) ((bs.tail).length, [], 0) (M0 := m) ?_ ?_ ?_
      · exact Ref.sub (by exact ⟨rfl, rfl, rfl, rfl, rfl, some_nrm (by rw [wrap_in _ (by omega) (by omega)]; simp only; omega), trivial⟩)
      · exact ⟨Nat.le_refl _, by simp only [List.drop_of_length_le (Nat.le_refl _)]; rfl, by simp only [List.drop_of_length_le (Nat.le_refl _)]; rfl, Nat.le_refl _⟩
      rintro ⟨j, out, cp⟩ M1 ⟨f1, f2, f3, f4⟩
      simp only at f1 f2 f3 f4
      have lo : out.length ≤ 2000 := by rw [f2]; simp; omega
      refine Br.mk (fun hb => ?_) (fun hb => ?_)
      · have hj : 1 ≤ j := by have := of_decide_eq_true hb; simp only at this; omega
        have tj : ((((1 + j : Nat) : Int) - 1)).toNat = 1 + (j - 1) := by omega
        have eb : bs.getD (((1 + j : Nat) : Int) - 1).toNat 0 = (bs.tail).getD (j - 1) 0 := by rw [tj]; exact hgd (j - 1)
        have rc := hrg0 ((bs.tail).getD (j - 1) 0) (getD_mem (by omega))
        have hall : ((bs.tail).drop (j - 1)).all isDig = (isDig ((bs.tail).getD (j - 1) 0) && ((bs.tail).drop j).all isDig) := by
          rw [drop_getD _ (j - 1) (by omega), Nat.sub_add_cancel hj, List.all_cons]
        have nall : isDig ((bs.tail).getD (j - 1) 0) = false → (bs.tail).all isDig = false := fun h => not_all (by omega) h
        refine And.intro ⟨by omega, by omega⟩ ?_
        rw [hs]
        refine Br.mk (fun h6 => ?_) (fun h6 => ?_)
        · have h6 : (bs.tail).getD (j - 1) 0 < 48 := by rw [← eb]; exact of_decide_eq_true h6
          refine fin_at (R := fun m v => RParseR m v bs) (fun m' _ => bad m' ?_)
          rw [hpd, nall (isDig_lt h6)]; rfl
        have h6 : 48 ≤ (bs.tail).getD (j - 1) 0 := by
          have q : ¬ ((bs.getD (((1 + j : Nat) : Int) - 1).toNat 0) < 48) := of_decide_eq_false h6
          rw [eb] at q; omega
        refine And.intro ⟨by omega, by omega⟩ ?_
        rw [hs]
        refine Br.mk (fun h7 => ?_) (fun h7 => ?_)
        · have h7 : 57 < (bs.tail).getD (j - 1) 0 := by rw [← eb]; exact of_decide_eq_true h7
          refine fin_at (R := fun m v => RParseR m v bs) (fun m' _ => bad m' ?_)
          rw [hpd, nall (isDig_gt h7)]; rfl
        have h7 : (bs.tail).getD (j - 1) 0 ≤ 57 := by
          have q : ¬ (57 < (bs.getD (((1 + j : Nat) : Int) - 1).toNat 0)) := of_decide_eq_false h7
          rw [eb] at q; omega
        refine And.intro ⟨by omega, by omega⟩ ?_
        rw [hs]
        refine app_ .i64 (xs := out) (news := [IntKind.i64.wrap (IntKind.u8.wrap (bs.getD (((1 + j : Nat) : Int) - 1).toNat 0 - 48))]) rfl (fun _ => rfl) rfl (by kernel_rfl) (by kernel_rfl) (rd_lit (e' := 3) (by kernel_rfl) rfl (fun _ => rfl) rfl) (by simp; omega) fun cap' hcap => ?_
        have ew : IntKind.i64.wrap (IntKind.u8.wrap (bs.getD (((1 + j : Nat) : Int) - 1).toNat 0 - 48)) = (bs.tail).getD (j - 1) 0 - 48 := by rw [eb, wrap_u8, wrap_i64]; omega
        refine ⟨(j - 1, out ++ [(bs.tail).getD (j - 1) 0 - 48], cap'), M1, Ref.ren [some 0, some 3] (by rfl) (by exact ⟨⟨rfl, trivial⟩, ⟨rfl, by simp [AV.ok]⟩, ⟨rfl, trivial⟩, ⟨rfl, trivial⟩, ⟨by simp only [List.length_append]; rfl, by simp [AV.ok]⟩, ⟨some_nrm (by rw [wrap_in _ (by omega) (by omega)]; simp only; omega), trivial⟩, trivial⟩) (by exact ⟨⟨rfl, by simp [Cells.ok, okL, AV.ok]⟩, ⟨by rw [ew]; rfl, trivial⟩, trivial⟩), ⟨by simp only; omega, ?_, ?_, by simpa using hcap⟩, by simp only; omega⟩
        · simp only
          rw [f2, drop_getD _ (j - 1) (by omega), Nat.sub_add_cancel hj, List.reverse_cons, List.map_append]; rfl
        · simp only
          rw [hall, isDig_in h6 h7, f3]; rfl
      · have hj : j = 0 := by have := of_decide_eq_false hb; simp only at this; omega
        subst hj
        rw [List.drop_zero] at f2 f3
        have hok : okd 10 out := by
          intro x hx
          rw [f2] at hx
          obtain ⟨c, hc, rfl⟩ := List.mem_map.1 hx
          have := List.all_eq_true.1 f3 c (List.mem_reverse.1 hc)
          simp only [isDig, Bool.and_eq_true, decide_eq_true_eq] at this
          omega
        refine CallK.pub 1 fun M2 le2 => ?_
        refine callS_ (by kernel_rfl) (fun l m' s => rmade_ref true out _ m' s.okm (s.ints0 (id := 1) (xs := out) rfl f4) hok (by omega)) ?_
        rintro M3 v3 le3 g3
        have ev : val 10 out = dval bs.tail := by rw [f2, val_rev, List.reverse_reverse]
        rw [ev] at g3
        obtain ⟨p6, c6, rfl, g3⟩ := g3.shape
        refine fin_at (R := fun m v => RParseR m v bs) (fun m' le => fin _ (g3.mono le) hpd ?_ ?_)
        · rw [f3]; intro h; cases h
        · rw [f3]; intro k hk; simp at hk; exact ⟨rfl, hk⟩
  · have h2 : bs.getD 0 0 ≠ 45 := by simpa using h2
    have hpn := parsed_pos hne h2
    have hgd : ∀ j, bs.getD (0 + j) 0 = bs.getD j 0 := fun j => by rw [Nat.zero_add]
    have hrg0 := hrg1
    have lt : bs.length = bs.length - 0 := rfl
    refine Br.no (beq_eq_false_iff_ne.2 (by omega)) ?_
    refine And.intro ⟨by omega, by omega⟩ ?_
    rw [hs]
    refine Br.mk (fun h4 => ?_) (fun h4 => ?_)
    · have h4 : bs.getD 0 0 = 48 := by simpa using h4
      refine fin_at (R := fun m v => RParseR m v bs) (fun m' _ => bad m' ?_)
      rw [hpn, if_pos ⟨h4, h1⟩]
    · have h4 : bs.getD 0 0 ≠ 48 := by simpa using h4
      have hpd : parsed bs = if bs.all isDig then some (sg false (dval bs)) else none := by rw [hpn, if_neg (fun h => h4 h.1)]
      refine LoopK.nil 6 3 .i64 rfl ?_
      refine loop_ (ι := Nat × List Int × Nat) (fun i => [(0, .v (.string s)), (2, .lp 0 0), (4, .v (.int .i64 0)), (5, .v (.bool false)), (6, .ls 1 0 i.2.1.length i.2.2), (7, .v (.int .i64 (((0 + i.1 : Nat) : Int) - 1)))])
        (fun i => [⟨some (31, 2), .lit [.v (.bool false), .v (.slice none 0 0)]⟩, ⟨some (3, i.2.2), .ints .i64 i.2.1⟩])
        (fun i _ => i.1 ≤ (bs).length ∧ i.2.1 = ((bs).drop i.1).reverse.map (· - 48) ∧ ((bs).drop i.1).all isDig = true ∧ i.2.1.length ≤ i.2.2) (fun i => i.1) ((bs).length, [], 0) (M0 := m) ?_ ?_ ?_
      · exact Ref.sub (by exact ⟨rfl, rfl, rfl, rfl, rfl, some_nrm (by rw [wrap_in _ (by omega) (by omega)]; simp only; omega), trivial⟩)
      · exact ⟨Nat.le_refl _, by simp only [List.drop_of_length_le (Nat.le_refl _)]; rfl, by simp only [List.drop_of_length_le (Nat.le_refl _)]; rfl, Nat.le_refl _⟩
      rintro ⟨j, out, cp⟩ M1 ⟨f1, f2, f3, f4⟩
      simp only at f1 f2 f3 f4
      have lo : out.length ≤ 2000 := by rw [f2]; simp; omega
      refine Br.mk (fun hb => ?_) (fun hb => ?_)
      · have hj : 1 ≤ j := by have := of_decide_eq_true hb; simp only at this; omega
        have tj : ((((0 + j : Nat) : Int) - 1)).toNat = 0 + (j - 1) := by omega
        have eb : bs.getD (((0 + j : Nat) : Int) - 1).toNat 0 = (bs).getD (j - 1) 0 := by rw [tj]; exact hgd (j - 1)
        have rc := hrg0 ((bs).getD (j - 1) 0) (getD_mem (by omega))
        have hall : ((bs).drop (j - 1)).all isDig = (isDig ((bs).getD (j - 1) 0) && ((bs).drop j).all isDig) := by
          rw [drop_getD _ (j - 1) (by omega), Nat.sub_add_cancel hj, List.all_cons]
        have nall : isDig ((bs).getD (j - 1) 0) = false → (bs).all isDig = false := fun h => not_all (by omega) h
        refine And.intro ⟨by omega, by omega⟩ ?_
        rw [hs]
        refine Br.mk (fun h6 => ?_) (fun h6 => ?_)
        · have h6 : (bs).getD (j - 1) 0 < 48 := by rw [← eb]; exact of_decide_eq_true h6
          refine fin_at (R := fun m v => RParseR m v bs) (fun m' _ => bad m' ?_)
          rw [hpd, nall (isDig_lt h6)]; rfl
        have h6 : 48 ≤ (bs).getD (j - 1) 0 := by
          have q : ¬ ((bs.getD (((0 + j : Nat) : Int) - 1).toNat 0) < 48) := of_decide_eq_false h6
          rw [eb] at q; omega
        refine And.intro ⟨by omega, by omega⟩ ?_
        rw [hs]
        refine Br.mk (fun h7 => ?_) (fun h7 => ?_)
        · have h7 : 57 < (bs).getD (j - 1) 0 := by rw [← eb]; exact of_decide_eq_true h7
          refine fin_at (R := fun m v => RParseR m v bs) (fun m' _ => bad m' ?_)
          rw [hpd, nall (isDig_gt h7)]; rfl
        have h7 : (bs).getD (j - 1) 0 ≤ 57 := by
          have q : ¬ (57 < (bs.getD (((0 + j : Nat) : Int) - 1).toNat 0)) := of_decide_eq_false h7
          rw [eb] at q; omega
        refine And.intro ⟨by omega, by omega⟩ ?_
        rw [hs]
        refine app_ .i64 (xs := out) (news := [IntKind.i64.wrap (IntKind.u8.wrap (bs.getD (((0 + j : Nat) : Int) - 1).toNat 0 - 48))]) rfl (fun _ => rfl) rfl (by kernel_rfl) (by kernel_rfl) (rd_lit (e' := 3) (by kernel_rfl) rfl (fun _ => rfl) rfl) (by simp; omega) fun cap' hcap => ?_
        have ew : IntKind.i64.wrap (IntKind.u8.wrap (bs.getD (((0 + j : Nat) : Int) - 1).toNat 0 - 48)) = (bs).getD (j - 1) 0 - 48 := by rw [eb, wrap_u8, wrap_i64]; omega
        refine ⟨(j - 1, out ++ [(bs).getD (j - 1) 0 - 48], cap'), M1, Ref.ren [some 0, some 3] (by rfl) (by exact ⟨⟨rfl, trivial⟩, ⟨rfl, by simp [AV.ok]⟩, ⟨rfl, trivial⟩, ⟨rfl, trivial⟩, ⟨by simp only [List.length_append]; rfl, by simp [AV.ok]⟩, ⟨some_nrm (by rw [wrap_in _ (by omega) (by omega)]; simp only; omega), trivial⟩, trivial⟩) (by exact ⟨⟨rfl, by simp [Cells.ok, okL, AV.ok]⟩, ⟨by rw [ew]; rfl, trivial⟩, trivial⟩), ⟨by simp only; omega, ?_, ?_, by simpa using hcap⟩, by simp only; omega⟩
        · simp only
          rw [f2, drop_getD _ (j - 1) (by omega), Nat.sub_add_cancel hj, List.reverse_cons, List.map_append]; rfl
        · simp only
          rw [hall, isDig_in h6 h7, f3]; rfl
      · have hj : j = 0 := by have := of_decide_eq_false hb; simp only at this; omega
        subst hj
        rw [List.drop_zero] at f2 f3
        have hok : okd 10 out := by
          intro x hx
          rw [f2] at hx
          obtain ⟨c, hc, rfl⟩ := List.mem_map.1 hx
          have := List.all_eq_true.1 f3 c (List.mem_reverse.1 hc)
          simp only [isDig, Bool.and_eq_true, decide_eq_true_eq] at this
          omega
        refine CallK.pub 1 fun M2 le2 => ?_
        refine callS_ (by kernel_rfl) (fun l m' s => rmade_ref false out _ m' s.okm (s.ints0 (id := 1) (xs := out) rfl f4) hok (by omega)) ?_
        rintro M3 v3 le3 g3
        have ev : val 10 out = dval bs := by rw [f2, val_rev, List.reverse_reverse]
        rw [ev] at g3
        obtain ⟨p6, c6, rfl, g3⟩ := g3.shape
        refine fin_at (R := fun m v => RParseR m v bs) (fun m' le => fin _ (g3.mono le) hpd ?_ ?_)
        · rw [f3]; intro h; cases h
        · rw [f3]; intro k hk; simp at hk; exact ⟨rfl, hk⟩
end Go.Proofs.Ytdkamjbcpmlheaa

/- Texts and numbers: what is written is read, and the other way round. -/
namespace Go.Proofs.Ytdkamjbcpmlheaa
open Go Go.Gw Go.Lg
set_option pp.deepTerms false
set_option pp.deepTerms.threshold 6
set_option pp.maxSteps 3000

theorem asc_back (ds : List Int) : (asc ds).map (· - 48) = ds := by
  unfold asc
  rw [List.map_map]
  conv => rhs; rw [← List.map_id ds]
  apply List.map_congr_left
  intro x _
  simp
theorem back_asc (ds : List Int) : asc (ds.map (· - 48)) = ds := by
  unfold asc
  rw [List.map_map]
  conv => rhs; rw [← List.map_id ds]
  apply List.map_congr_left
  intro x _
  simp
theorem dval_digs (n : Nat) : dval (asc (digs n)).reverse = n := by rw [← val_rev, asc_back, val_digs]
theorem asc_all (n : Nat) : (asc (digs n)).reverse.all isDig = true := by
  rw [List.all_eq_true]
  intro x hx
  rw [List.mem_reverse] at hx
  unfold asc at hx
  obtain ⟨d, hd, rfl⟩ := List.mem_map.1 hx
  have := digs_range n d hd
  exact isDig_in (by omega) (by omega)
theorem asc_head {n : Nat} (h : n ≠ 0) : ∃ c r, (asc (digs n)).reverse = c :: r ∧ c ≠ 48 ∧ c ≠ 45 := by
  have hne : digs n ≠ [] := by rw [digs_pos h]; simp
  have hn := digs_nrmd n
  obtain ⟨ys, a, e⟩ : ∃ ys a, digs n = ys ++ [a] := ⟨(digs n).dropLast, (digs n).getLast hne, (List.dropLast_concat_getLast hne).symm⟩
  have ha := digs_range n a (by rw [e]; simp)
  have h0 : a ≠ 0 := fun h => hn (by rw [e, h]; simp)
  refine ⟨a + 48, (asc ys).reverse, by rw [e]; simp [asc], by omega, by omega⟩
theorem parsed_decS (n : Int) : parsed (decS n) = some n := by
  by_cases h0 : n = 0
  · subst h0; rfl
  have hN : n.natAbs ≠ 0 := by omega
  obtain ⟨c, r, e, h1, h2⟩ := asc_head hN
  have hv := dval_digs n.natAbs
  have ha := asc_all n.natAbs
  unfold decS
  rw [if_neg h0]
  rw [e] at hv ha ⊢
  by_cases hn : n < 0
  · rw [if_pos hn]
    have := parsed_neg (bs := [45] ++ c :: r) (by simp) rfl
    rw [this]
    show (if c :: r = [] ∨ (c :: r).head? = some 48 then none else if (c :: r).all isDig then some (sg true (dval (c :: r))) else none) = some n
    rw [if_neg (by simp [h1]), if_pos ha, hv]
    congr 1
    show -((n.natAbs : Nat) : Int) = n
    omega
  · rw [if_neg hn, List.nil_append]
    have := parsed_pos (bs := c :: r) (by simp) (by simpa using h2)
    rw [this, if_neg (by simp [h1]), if_pos ha, hv]
    congr 1
    show ((n.natAbs : Nat) : Int) = n
    omega
theorem decS_inj {n k : Int} (h : decS n = decS k) : n = k := by
  have h1 := parsed_decS n
  rw [h, parsed_decS] at h1
  simpa using h1.symm
theorem digs_dval {ds : List Int} (hall : ds.all isDig = true) (hne : ds ≠ []) (hh : ds.getD 0 0 ≠ 48) : (asc (digs (dval ds).toNat)).reverse = ds ∧ 0 < dval ds := by
  have e : val 10 (ds.reverse.map (· - 48)) = dval ds := by rw [val_rev, List.reverse_reverse]
  have ok : okd 10 (ds.reverse.map (· - 48)) := by
    intro x hx
    obtain ⟨c, hc, rfl⟩ := List.mem_map.1 hx
    have := List.all_eq_true.1 hall c (List.mem_reverse.1 hc)
    simp only [isDig, Bool.and_eq_true, decide_eq_true_eq] at this
    omega
  have nr : nrmd (ds.reverse.map (· - 48)) := by
    unfold nrmd
    rw [List.getLast?_map, List.getLast?_reverse, head_getD hne]
    simp only [Option.map_some, ne_eq, Option.some.injEq]
    omega
  have h1 := digs_val ok nr
  have h2 := nrmd_pos B10_pos ok nr (by simpa using hne)
  rw [e] at h1 h2
  refine ⟨?_, h2⟩
  rw [← h1, back_asc, List.reverse_reverse]
theorem decS_parsed {bs : List Int} {n : Int} (h : parsed bs = some n) : decS n = bs := by
  by_cases hne : bs = []
  · subst hne; cases h
  by_cases h2 : bs.getD 0 0 = 45
  · rw [parsed_neg hne h2] at h
    split at h
    · cases h
    · rename_i hc
      split at h
      · rename_i hall
        have h3 : bs.tail ≠ [] := fun e => hc (.inl e)
        have h4 : bs.tail.getD 0 0 ≠ 48 := fun e => hc (.inr (by rw [head_getD h3, e]))
        obtain ⟨g1, g2⟩ := digs_dval hall h3 h4
        have hn : n = -(dval bs.tail) := by simpa [sg] using h.symm
        subst hn
        unfold decS
        rw [if_neg (by omega), if_pos (by omega), Int.natAbs_neg, show (dval bs.tail).natAbs = (dval bs.tail).toNat by omega, g1]
        match bs, hne, h2 with
        | x :: r, _, h2 => simp at h2; simp [h2]
      · cases h
  · rw [parsed_pos hne h2] at h
    split at h
    · cases h
    · rename_i hc
      split at h
      · rename_i hall
        have hn : n = dval bs := by simpa [sg] using h.symm
        subst hn
        by_cases h4 : bs.getD 0 0 = 48
        · have : bs = [48] := Classical.byContradiction fun e => hc ⟨h4, e⟩
          subst this; rfl
        · obtain ⟨g1, g2⟩ := digs_dval hall hne h4
          unfold decS
          rw [if_neg (by omega), if_neg (by omega), show (dval bs).natAbs = (dval bs).toNat by omega, g1]
          rfl
      · cases h
theorem parsed_sz {bs : List Int} {n : Int} (h : parsed bs = some n) (hl : bs.length ≤ 2000) : sz n ≤ 2000 := by
  have key : ∀ (ds : List Int) (b : Bool), ds.length ≤ 2000 → (if ds.all isDig then some (sg b (dval ds)) else none) = some n → sz n ≤ 2000 := by
    intro ds b h1 h2
    split at h2
    · rename_i hall
      have := dval_sz hall h1
      cases b
      · have e : n = dval ds := by simpa [sg] using h2.symm
        rw [e]; exact this
      · have e : n = -dval ds := by simpa [sg] using h2.symm
        rw [e, sz_neg]; exact this
    · cases h2
  by_cases hne : bs = []
  · subst hne; cases h
  by_cases h2 : bs.getD 0 0 = 45
  · rw [parsed_neg hne h2] at h
    split at h
    · cases h
    · exact key _ _ (by rw [List.length_tail]; omega) h
  · rw [parsed_pos hne h2] at h
    split at h
    · cases h
    · exact key _ _ hl h

theorem ParseR.any {m : Mo} {v : Value} {bs : List Int} (h : ParseR m v bs) : ∃ vi e n, v = .tuple #[vi, .int .i64 e] ∧ IntR m vi n ∧ ((e = 0 ∧ parsed bs = some n ∧ bs.length ≤ 2000) ∨ (e = 10 ∧ parsed bs = none ∧ bs.length ≤ 2000) ∨ (e = 2 ∧ 2000 < bs.length)) := by
  obtain ⟨vi, e, h1, h2, h3⟩ := h
  by_cases hl : 2000 < bs.length
  · obtain ⟨g1, g2⟩ := h2 hl
    exact ⟨vi, e, 0, h1, g2, .inr (.inr ⟨g1, hl⟩)⟩
  · obtain ⟨g1, g2⟩ := h3 (by omega)
    cases hp : parsed bs with
    | none => obtain ⟨k1, k2⟩ := g2 hp; exact ⟨vi, e, 0, h1, k2, .inr (.inl ⟨k1, rfl, by omega⟩)⟩
    | some n => obtain ⟨k1, k2⟩ := g1 n hp; exact ⟨vi, e, n, h1, k2, .inl ⟨k1, rfl, by omega⟩⟩
theorem RParseR.any {m : Mo} {v : Value} {bs : List Int} (h : RParseR m v bs) : ∃ vi e n, v = .tuple #[vi, .int .i64 e] ∧ RefR m vi n ∧ ((e = 0 ∧ parsed bs = some n ∧ bs.length ≤ 2000) ∨ (e = 10 ∧ parsed bs = none ∧ bs.length ≤ 2000) ∨ (e = 2 ∧ 2000 < bs.length)) := by
  obtain ⟨vi, e, h1, h2, h3⟩ := h
  by_cases hl : 2000 < bs.length
  · obtain ⟨g1, g2⟩ := h2 hl
    exact ⟨vi, e, 0, h1, g2, .inr (.inr ⟨g1, hl⟩)⟩
  · obtain ⟨g1, g2⟩ := h3 (by omega)
    cases hp : parsed bs with
    | none => obtain ⟨k1, k2⟩ := g2 hp; exact ⟨vi, e, 0, h1, k2, .inr (.inl ⟨k1, rfl, by omega⟩)⟩
    | some n => obtain ⟨k1, k2⟩ := g1 n hp; exact ⟨vi, e, n, h1, k2, .inl ⟨k1, rfl, by omega⟩⟩
theorem decB_eq (n : Int) (t : ByteArray) : ((decB n).toList == t.toList) = decide (decS n = bytesI t) := by rw [str_eq, bytes_decB]

theorem ParseR.ok {m : Mo} {v : Value} {bs : List Int} {n : Int} (h : ParseR m v bs) (hp : parsed bs = some n) (hl : bs.length ≤ 2000) : ∃ b p k c, v = .tuple #[.agg #[.bool b, .slice p k c], .int .i64 0] ∧ IntR m (.agg #[.bool b, .slice p k c]) n := by
  obtain ⟨vi, e, h1, h2, h3⟩ := h
  obtain ⟨rfl, g2⟩ := (h3 hl).1 n hp
  obtain ⟨b, p, k, c, rfl, g⟩ := g2.shape
  exact ⟨b, p, k, c, h1, g⟩
theorem ParseR.no {m : Mo} {v : Value} {bs : List Int} (h : ParseR m v bs) (hp : parsed bs = none) (hl : bs.length ≤ 2000) : ∃ b p k c, v = .tuple #[.agg #[.bool b, .slice p k c], .int .i64 10] := by
  obtain ⟨vi, e, h1, h2, h3⟩ := h
  obtain ⟨rfl, g2⟩ := (h3 hl).2 hp
  obtain ⟨b, p, k, c, rfl, g⟩ := g2.shape
  exact ⟨b, p, k, c, h1⟩
theorem QuoR.ok {m : Mo} {v : Value} {n k : Int} (h : QuoR m v n k) (hk : k ≠ 0) : ∃ b p l c b' p' l' c', v = .tuple #[.agg #[.bool b, .slice p l c], .agg #[.bool b', .slice p' l' c'], .int .i64 0] ∧ IntR m (.agg #[.bool b, .slice p l c]) (n.fdiv k) ∧ IntR m (.agg #[.bool b', .slice p' l' c']) (n.fmod k) := by
  obtain ⟨vq, vr, e, h1, h2, _⟩ := h
  obtain ⟨rfl, g1, g2⟩ := h2 hk
  obtain ⟨b, p, l, c, rfl, g1⟩ := g1.shape
  obtain ⟨b', p', l', c', rfl, g2⟩ := g2.shape
  exact ⟨b, p, l, c, b', p', l', c', h1, g1, g2⟩
theorem RootR.ok {m : Mo} {v : Value} {n : Int} (h : RootR m v n) (hn : 0 ≤ n) : ∃ b p l c r, v = .tuple #[.agg #[.bool b, .slice p l c], .int .i64 0] ∧ 0 ≤ r ∧ r * r ≤ n ∧ n < (r + 1) * (r + 1) ∧ IntR m (.agg #[.bool b, .slice p l c]) r := by
  obtain ⟨vr, e, h1, _, h2⟩ := h
  obtain ⟨rfl, r, g1, g2, g3, g4⟩ := h2 hn
  obtain ⟨b, p, l, c, rfl, g4⟩ := g4.shape
  exact ⟨b, p, l, c, r, h1, g1, g2, g3, g4⟩
theorem sq_lt {r n : Int} (hr : 0 ≤ r) (k : Int) (hk : 0 ≤ k) (h1 : r * r ≤ n) (h2 : n < (k + 1) * (k + 1)) : r ≤ k := by
  apply Classical.byContradiction
  intro h
  have := Int.mul_le_mul (show k + 1 ≤ r by omega) (show k + 1 ≤ r by omega) (by omega) (by omega)
  omega
theorem root_unique {r k n : Int} (hr : 0 ≤ r) (hk : 0 ≤ k) (h1 : r * r ≤ n) (h2 : n < (r + 1) * (r + 1)) (h3 : k * k ≤ n) (h4 : n < (k + 1) * (k + 1)) : r = k := by
  have := sq_lt hr k hk h1 h4
  have := sq_lt hk r hr h3 h2
  omega
theorem sz_small {n : Int} (h : -9223372036854775808 ≤ n) (h' : n ≤ 9223372036854775807) : sz n ≤ 10000000 := Nat.le_trans (sz_i64 h h') (by omega)

set_option maxRecDepth 20000 in
set_option maxHeartbeats 1000000 in
theorem awake_calls (m : Mo) (hm : m.okm) : Calls Try.prog 12 #[] m.w (Post m fun _ v => v = .bool true) := by
  refine enter_ Try.f12 _ 122 (args := []) (by kernel_rfl) rfl (by kernel_rfl) hm ?_
  refine callS_ (by kernel_rfl) (fun l m' s => parse_calls _ _ rfl m' s.okm) ?_
  rintro M1 v1 le1 z1
  obtain ⟨b1, p1, k1, c1, rfl, h1⟩ := z1.ok (n := 10000000000) (by kernel_rfl) (by decide)
  refine callS_ (by kernel_rfl) (fun l m' s => mul_calls 10000000000 10000000000 _ _ m' s.okm (h1.mono s.le) (h1.mono s.le) (Nat.le_trans (sz_small (by omega) (by omega)) (by omega)) (Nat.le_trans (sz_small (by omega) (by omega)) (by omega))) ?_
  rintro M2 v2 le2 h2
  have hz2 : sz (10000000000 * 10000000000) ≤ 10000000 := Nat.le_trans (sz_mul _ _) (by have := @sz_i64 10000000000 (by omega) (by omega); omega)
  refine callS_ (by kernel_rfl) (fun l m' s => string_calls _ _ m' s.okm (h2.mono s.le) hz2) ?_
  rintro M3 v3 le3 rfl
  refine callS_ (by kernel_rfl) (fun l m' s => of_calls (-7) m' s.okm (by omega) (by omega)) ?_
  rintro M4 v4 le4 h4
  refine callS_ (by kernel_rfl) (fun l m' s => of_calls 2 m' s.okm (by omega) (by omega)) ?_
  rintro M5 v5 le5 h5
  refine callS_ (by kernel_rfl) (fun l m' s => quo_calls (-7) 2 _ _ m' s.okm (h4.mono (le5.trans s.le)) (h5.mono s.le) (Nat.le_trans (sz_small (by omega) (by omega)) (by omega)) (Nat.le_trans (sz_small (by omega) (by omega)) (by omega))) ?_
  rintro M6 v6 le6 z6
  obtain ⟨b6, p6, k6, c6, d6, q6, l6, e6, rfl, h6, g6⟩ := z6.ok (by decide)
  refine callS_ (by kernel_rfl) (fun l m' s => of_calls 7 m' s.okm (by omega) (by omega)) ?_
  rintro M7 v7 le7 h7
  refine callS_ (by kernel_rfl) (fun l m' s => of_calls (-2) m' s.okm (by omega) (by omega)) ?_
  rintro M8 v8 le8 h8
  refine callS_ (by kernel_rfl) (fun l m' s => quo_calls 7 (-2) _ _ m' s.okm (h7.mono (le8.trans s.le)) (h8.mono s.le) (Nat.le_trans (sz_small (by omega) (by omega)) (by omega)) (Nat.le_trans (sz_small (by omega) (by omega)) (by omega))) ?_
  rintro M9 v9 le9 z9
  obtain ⟨b9, p9, k9, c9, d9, q9, l9, e9, rfl, h9, g9⟩ := z9.ok (by decide)
  replace h6 := h6.mono (le7.trans (le8.trans le9))
  replace g6 := g6.mono (le7.trans (le8.trans le9))
  refine callS_ (by kernel_rfl) (fun l m' s => of_calls 99 m' s.okm (by omega) (by omega)) ?_
  rintro M10 v10 le10 h10
  refine callS_ (by kernel_rfl) (fun l m' s => root_calls 99 _ m' s.okm (h10.mono s.le) (sz_small (by omega) (by omega))) ?_
  rintro M11 v11 le11 z11
  obtain ⟨b11, p11, k11, c11, r11, rfl, f1, f2, f3, h11⟩ := z11.ok (by decide)
  have hr9 : r11 = 9 := root_unique f1 (by decide) f2 f3 (by decide) (by decide)
  subst hr9
  replace h6 := h6.mono (le10.trans le11)
  replace g6 := g6.mono (le10.trans le11)
  replace h9 := h9.mono (le10.trans le11)
  replace g9 := g9.mono (le10.trans le11)
  refine callS_ (by kernel_rfl) (fun l m' s => parse_calls _ _ rfl m' s.okm) ?_
  rintro M12 v12 le12 z12
  obtain ⟨b12, p12, k12, c12, rfl⟩ := z12.no (by kernel_rfl) (by decide)
  refine callS_ (by kernel_rfl) (fun l m' s => parse_calls _ _ rfl m' s.okm) ?_
  rintro M13 v13 le13 z13
  obtain ⟨b13, p13, k13, c13, rfl⟩ := z13.no (by kernel_rfl) (by decide)
  refine callS_ (by kernel_rfl) (fun l m' s => of_calls 255 m' s.okm (by omega) (by omega)) ?_
  rintro M14 v14 le14 h14
  refine callS_ (by kernel_rfl) (fun l m' s => bits_calls 255 _ m' s.okm (h14.mono s.le) (Nat.le_trans (sz_small (by omega) (by omega)) (by omega))) ?_
  rintro M15 v15 le15 rfl
  refine callS_ (by kernel_rfl) (fun l m' s => of_calls (-256) m' s.okm (by omega) (by omega)) ?_
  rintro M16 v16 le16 h16
  refine callS_ (by kernel_rfl) (fun l m' s => bits_calls (-256) _ m' s.okm (h16.mono s.le) (Nat.le_trans (sz_small (by omega) (by omega)) (by omega))) ?_
  rintro M17 v17 le17 rfl
  have leA := le12.trans (le13.trans (le14.trans (le15.trans (le16.trans le17))))
  replace h6 := (h6.mono leA).cast (show Int.fdiv (-7) 2 = -4 by decide)
  replace g6 := (g6.mono leA).cast (show Int.fmod (-7) 2 = 1 by decide)
  replace h9 := (h9.mono leA).cast (show Int.fdiv 7 (-2) = -4 by decide)
  replace g9 := (g9.mono leA).cast (show Int.fmod 7 (-2) = -1 by decide)
  replace h11 := h11.mono leA
  refine callS_ (by kernel_rfl) (fun l m' s => string_calls (-4) _ m' s.okm (h6.mono s.le) (sz_small (by omega) (by omega))) ?_
  rintro M18 v18 le18 rfl
  refine callS_ (by kernel_rfl) (fun l m' s => string_calls 1 _ m' s.okm (g6.mono (le18.trans s.le)) (sz_small (by omega) (by omega))) ?_
  rintro M19 v19 le19 rfl
  refine callS_ (by kernel_rfl) (fun l m' s => string_calls (-4) _ m' s.okm (h9.mono (le18.trans (le19.trans s.le))) (sz_small (by omega) (by omega))) ?_
  rintro M20 v20 le20 rfl
  refine callS_ (by kernel_rfl) (fun l m' s => string_calls (-1) _ m' s.okm (g9.mono (le18.trans (le19.trans (le20.trans s.le)))) (sz_small (by omega) (by omega))) ?_
  rintro M21 v21 le21 rfl
  refine callS_ (by kernel_rfl) (fun l m' s => string_calls 9 _ m' s.okm (h11.mono (le18.trans (le19.trans (le20.trans (le21.trans s.le))))) (sz_small (by omega) (by omega))) ?_
  rintro M22 v22 le22 rfl
  refine Br.yes rfl ?_
  refine Br.yes (by rw [decB_eq]; kernel_rfl) ?_
  refine Br.yes rfl ?_
  refine Br.yes (by rw [decB_eq]; kernel_rfl) ?_
  refine Br.yes (by rw [decB_eq]; kernel_rfl) ?_
  refine Br.yes (by rw [decB_eq]; kernel_rfl) ?_
  refine Br.yes (by rw [decB_eq]; kernel_rfl) ?_
  refine Br.yes rfl ?_
  refine Br.yes (by rw [decB_eq]; kernel_rfl) ?_
  refine Br.yes rfl ?_
  refine Br.yes rfl ?_
  refine Br.yes (by kernel_rfl) ?_
  refine fin_at (v := .bool true) (fun _ _ => rfl) (hv := fun l => ?_)
  kernel_rfl
end Go.Proofs.Ytdkamjbcpmlheaa

/- The laws of layer 1: which numbers are played with. -/
namespace Go.Proofs.Ytdkamjbcpmlheaa
open Go Go.Gw Go.Lg
set_option pp.deepTerms false
set_option pp.deepTerms.threshold 6
set_option pp.maxSteps 3000

/-- Two texts' numbers. -/
def TwoR (m : Mo) (v : Value) (ba bb : List Int) : Prop := ∃ bx px kx cx bY pY kY cY n k p2 c2 n' p3 c3 k' is,
  v = .tuple #[.agg #[.bool bx, .slice px kx cx], .agg #[.bool bY, .slice pY kY cY], .agg #[.bool (decide (n' < 0)), .slice p2 (digs n'.natAbs).length c2], .agg #[.bool (decide (k' < 0)), .slice p3 (digs k'.natAbs).length c3], .bool is] ∧
  IntR m (.agg #[.bool bx, .slice px kx cx]) n ∧ IntR m (.agg #[.bool bY, .slice pY kY cY]) k ∧ RefR m (.agg #[.bool (decide (n' < 0)), .slice p2 (digs n'.natAbs).length c2]) n' ∧ RefR m (.agg #[.bool (decide (k' < 0)), .slice p3 (digs k'.natAbs).length c3]) k' ∧
  (is = true → parsed ba = some n ∧ parsed bb = some k ∧ n' = n ∧ k' = k ∧ ba.length ≤ 150 ∧ bb.length ≤ 150)

set_option maxRecDepth 20000 in
set_option maxHeartbeats 1000000 in
theorem two_calls (sa sb : ByteArray) (ba bb : List Int) (ha : bytesI sa = ba) (hb : bytesI sb = bb) (m : Mo) (hm : m.okm) : Calls Try.prog 16 #[.string sa, .string sb] m.w (Post m fun m v => TwoR m v ba bb) := by
  have hza := bytes_size ha
  have hzb := bytes_size hb
  refine enter_ Try.f16 _ 57 (args := [.string sa, .string sb]) (by kernel_rfl) rfl (by kernel_rfl) hm ?_
  refine callS_ (by kernel_rfl) (fun l m' s => parse_calls sa ba ha m' s.okm) ?_
  rintro M1 v1 le1 z1
  obtain ⟨x1, e1, n1, rfl, z1, y1⟩ := z1.any
  obtain ⟨b1, p1, k1, c1, rfl, z1⟩ := z1.shape
  refine callS_ (by kernel_rfl) (fun l m' s => parse_calls sb bb hb m' s.okm) ?_
  rintro M2 v2 le2 z2
  obtain ⟨x2, e2, n2, rfl, z2, y2⟩ := z2.any
  obtain ⟨b2, p2, k2, c2, rfl, z2⟩ := z2.shape
  refine callS_ (by kernel_rfl) (fun l m' s => rparse_calls sa ba ha m' s.okm) ?_
  rintro M3 v3 le3 z3
  obtain ⟨x3, e3, n3, rfl, z3, y3⟩ := z3.any
  obtain ⟨p3, c3, rfl, z3⟩ := z3.shape
  refine callS_ (by kernel_rfl) (fun l m' s => rparse_calls sb bb hb m' s.okm) ?_
  rintro M4 v4 le4 z4
  obtain ⟨x4, e4, n4, rfl, z4, y4⟩ := z4.any
  obtain ⟨p4, c4, rfl, z4⟩ := z4.shape
  replace z1 := z1.mono (le2.trans (le3.trans le4))
  replace z2 := z2.mono (le3.trans le4)
  replace z3 := z3.mono le4
  have fin : ∀ (is : Bool) (m' : Mo), M4.Le m' → (is = true → e1 = 0 ∧ e2 = 0 ∧ ba.length ≤ 150 ∧ bb.length ≤ 150) → TwoR m' (.tuple #[.agg #[.bool b1, .slice p1 k1 c1], .agg #[.bool b2, .slice p2 k2 c2], .agg #[.bool (decide (n3 < 0)), .slice p3 (digs n3.natAbs).length c3], .agg #[.bool (decide (n4 < 0)), .slice p4 (digs n4.natAbs).length c4], .bool is]) ba bb := by
    intro is m' le h
    refine ⟨b1, p1, k1, c1, b2, p2, k2, c2, n1, n2, p3, c3, n3, p4, c4, n4, is, rfl, z1.mono le, z2.mono le, z3.mono le, z4.mono le, fun hi => ?_⟩
    obtain ⟨g1, g2, g3, g4⟩ := h hi
    have w1 : parsed ba = some n1 := by rcases y1 with ⟨_, h, _⟩ | ⟨h, _⟩ | ⟨h, _⟩; exact h; omega; omega
    have w2 : parsed bb = some n2 := by rcases y2 with ⟨_, h, _⟩ | ⟨h, _⟩ | ⟨h, _⟩; exact h; omega; omega
    have w3 : parsed ba = some n3 := by
      rcases y3 with ⟨_, h, _⟩ | ⟨_, h, _⟩ | ⟨_, h⟩
      · exact h
      · rw [w1] at h; cases h
      · omega
    have w4 : parsed bb = some n4 := by
      rcases y4 with ⟨_, h, _⟩ | ⟨_, h, _⟩ | ⟨_, h⟩
      · exact h
      · rw [w2] at h; cases h
      · omega
    rw [w1] at w3
    rw [w2] at w4
    exact ⟨w1, w2, (by simpa using w3.symm), (by simpa using w4.symm), g3, g4⟩
  refine draw_ [] [0, 1, 2, 3, 4, 5, 6, 7, 8, 9, 10, 11, 12, 13, 14, 15, 16, 17, 18, 19] [] [20, 21, 22, 23, 24] [(20, 0), (21, 1), (22, 2), (23, 3)] (by kernel_rfl) rfl rfl ?_
  refine Br.mk (fun h1 => ?_) (fun h1 => ?_)
  · have h1 : e1 = 0 := by simpa using h1
    refine Br.mk (fun h2 => ?_) (fun h2 => ?_)
    · have h2 : e2 = 0 := by simpa using h2
      refine Br.mk (fun h3 => ?_) (fun h3 => ?_)
      · have h3 : ba.length ≤ 150 := by have := of_decide_eq_true h3; omega
        refine fin_at (R := fun m v => TwoR m v ba bb) (fun m' le => fin (decide ((sb.size : Int) ≤ 150)) m' le (fun h => ⟨h1, h2, h3, by have := of_decide_eq_true h; omega⟩))
      · refine fin_at (R := fun m v => TwoR m v ba bb) (fun m' le => fin false m' le (fun h => by cases h))
    · refine Br.no rfl ?_
      refine fin_at (R := fun m v => TwoR m v ba bb) (fun m' le => fin false m' le (fun h => by cases h))
  · refine Br.no rfl (Br.no rfl ?_)
    refine fin_at (R := fun m v => TwoR m v ba bb) (fun m' le => fin false m' le (fun h => by cases h))
end Go.Proofs.Ytdkamjbcpmlheaa
