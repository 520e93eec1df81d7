/- LongReads: whatever the text, the law's call returns true. -/
import Derived.Test.YtdkamjbcpmlheaaF
import Derived.Test.YtdkamjbcpmlheaaB
import Derived.Test.YtdkamjbcpmlheaaRows
import Derived.WalkKit
import Derived.ProofKit
import Derived.OpenShut
import Derived.Below
import Derived.ChangeSame
import Derived.ChangeMaps5
import Derived.Test.YtdkamjbcpmlheaaProg
set_option linter.unusedVariables false
set_option linter.unusedSimpArgs false
/- The laws of layer 1: texts are read and written as the document says. -/
namespace Go.Proofs.Ytdkamjbcpmlheaa
open Go Go.Gw Go.Lg
set_option pp.deepTerms false
set_option pp.deepTerms.threshold 6
set_option pp.maxSteps 3000

set_option maxRecDepth 20000 in
theorem reads_calls (s : ByteArray) (m : Mo) (hm : m.okm) : Calls Try.prog 3 #[.string s] m.w (Post m fun _ v => v = .bool true) := by
  obtain ⟨bs, hs⟩ : ∃ bs, bytesI s = bs := ⟨_, rfl⟩
  have hsz := bytes_size hs
  refine enter_ Try.f3 _ 43 (args := [.string s]) (by kernel_rfl) rfl (by kernel_rfl) hm ?_
  refine callS_ (by kernel_rfl) (fun l m' s => awake_calls m' s.okm) ?_
  rintro M0 v0 le0 rfl
  refine Br.mk (fun h0 => ?_) (fun h0 => ?_)
  · refine Br.mk (fun h1 => ?_) (fun h1 => ?_)
    · exact fin_at (fun _ _ => rfl)
    · skip
      refine callS_ (by kernel_rfl) (fun l m' q => parse_calls s bs hs m' q.okm) ?_
      rintro M1 v1 le1 z1
      obtain ⟨x1, e1, n1, rfl, z1, y1⟩ := z1.any
      obtain ⟨b1, p1, k1, c1, rfl, z1⟩ := z1.shape
      refine callS_ (by kernel_rfl) (fun l m' q => rparse_calls s bs hs m' q.okm) ?_
      rintro M2 v2 le2 z2
      obtain ⟨x2, e2, n2, rfl, z2, y2⟩ := z2.any
      obtain ⟨p2, c2, rfl, z2⟩ := z2.shape
      have he : e1 = e2 := by
        rcases y1 with ⟨a1, a2, a3⟩ | ⟨a1, a2, a3⟩ | ⟨a1, a2⟩ <;> rcases y2 with ⟨b1, b2, b3⟩ | ⟨b1, b2, b3⟩ | ⟨b1, b2⟩ <;> first | omega | (rw [a2] at b2; cases b2)
      refine Br.no (by simp [he]) ?_
      refine Br.mk (fun h1 => ?_) (fun h1 => ?_)
      · exact fin_at (fun _ _ => rfl)
      have h1 : e1 = 0 := by simpa using h1
      have hp : parsed bs = some n1 ∧ bs.length ≤ 2000 := by
        rcases y1 with ⟨_, a2, a3⟩ | ⟨a1, _, _⟩ | ⟨a1, _⟩
        · exact ⟨a2, a3⟩
        · omega
        · omega
      refine callS_ (by kernel_rfl) (fun l m' q => string_calls n1 _ m' q.okm (z1.mono (le2.trans q.le)) (Nat.le_trans (parsed_sz hp.1 hp.2) (by omega))) ?_
      rintro M3 v3 le3 rfl
      refine Br.yes rfl ?_
      refine fin_at (v := .bool true) (fun _ _ => rfl) (hv := fun l => ?_)
      show Value.bool ((decB n1).toList == s.toList) = _
      rw [decB_eq, hs, decS_parsed hp.1]
      simp
  · skip
    refine callS_ (by kernel_rfl) (fun l m' q => parse_calls s bs hs m' q.okm) ?_
    rintro M1 v1 le1 z1
    obtain ⟨x1, e1, n1, rfl, z1, y1⟩ := z1.any
    obtain ⟨b1, p1, k1, c1, rfl, z1⟩ := z1.shape
    refine callS_ (by kernel_rfl) (fun l m' q => rparse_calls s bs hs m' q.okm) ?_
    rintro M2 v2 le2 z2
    obtain ⟨x2, e2, n2, rfl, z2, y2⟩ := z2.any
    obtain ⟨p2, c2, rfl, z2⟩ := z2.shape
    have he : e1 = e2 := by
      rcases y1 with ⟨a1, a2, a3⟩ | ⟨a1, a2, a3⟩ | ⟨a1, a2⟩ <;> rcases y2 with ⟨b1, b2, b3⟩ | ⟨b1, b2, b3⟩ | ⟨b1, b2⟩ <;> first | omega | (rw [a2] at b2; cases b2)
    refine Br.no (by simp [he]) ?_
    refine Br.mk (fun h1 => ?_) (fun h1 => ?_)
    · exact fin_at (fun _ _ => rfl)
    have h1 : e1 = 0 := by simpa using h1
    have hp : parsed bs = some n1 ∧ bs.length ≤ 2000 := by
      rcases y1 with ⟨_, a2, a3⟩ | ⟨a1, _, _⟩ | ⟨a1, _⟩
      · exact ⟨a2, a3⟩
      · omega
      · omega
    refine callS_ (by kernel_rfl) (fun l m' q => string_calls n1 _ m' q.okm (z1.mono (le2.trans q.le)) (Nat.le_trans (parsed_sz hp.1 hp.2) (by omega))) ?_
    rintro M3 v3 le3 rfl
    refine Br.yes rfl ?_
    refine fin_at (v := .bool true) (fun _ _ => rfl) (hv := fun l => ?_)
    show Value.bool ((decB n1).toList == s.toList) = _
    rw [decB_eq, hs, decS_parsed hp.1]
    simp
end Go.Proofs.Ytdkamjbcpmlheaa

/- Whatever the input: the call of LongReads returns true, and each argument reads afterwards as it read before. Conditions: none beyond the given statement's own. -/
namespace Go.Proofs.Ytdkamjbcpmlheaa.longReads
open Go Go.Gw Go.ChangeMaps Go.ChangeShapes Go.WideShapes Go.ChangeAt Go.RowKit
set_option linter.unusedVariables false

theorem own : ownKnob Try.prog.godebug = none := by kernel_rfl

/-- The walk: the Go text returns true. -/
theorem walk (a0 : ByteArray) (w : World) : Calls Try.prog 3 #[.string a0] w (fun e w' => e = .returned (.bool true) ∧ Below w.heap.size w w') :=
  (reads_calls a0 ⟨[], w⟩ (okm_nil w)).mono fun _ _ h => post_true h

set_option maxRecDepth 100000 in
theorem lifted (os : Os) (started : os.Started) (H : Type) (enc : TypeId × Value → H) :
    ReturnsInHanded {} Try.checked os 3 .any (Rows.longReadsSpec.pre6 enc Try.prog Try.f3 Rows.longReadsRow.domain false) (Rows.longReadsSpec.post enc Try.prog Try.f3 false true false false) := by
  refine returnsInHanded_of_change (C := Try.checked) own started (by kernel_rfl) Try.func3
    (ChangeSpec.witness6 (enc := enc) (C := Try.checked) false ⟨#[], #[.string ⟨#[]⟩], []⟩ 8 (by kernel_rfl) (by kernel_rfl) (by kernel_rfl) (by kernel_rfl)) ?_
  intro W base args ds gs before hval0 hW hcnd _
  have hval : ∀ (j : Nat) t v, Try.f3.params[j]? = some t → args[j]? = some v → Value.okWide Try.prog W .any base t v := hval0
  have hW' := hW
  obtain ⟨p, q, hA0, hV, rfl, hfz, hnd⟩ := hW
  have hA : DataW.TrodAll enc Try.prog W 0 (fun _ => true) true Try.f3.params.toList args.toList ds p := hA0
  rw [Try.params3] at hA hval
  obtain ⟨v0, vs0, d0, ds0, p0, q0, hargs, rfl, rfl, h0, r0⟩ := trodAll_cons hA
  obtain ⟨rfl, rfl, rfl⟩ := trodAll_nil r0
  obtain rfl : args = #[v0] := by cases args; simp_all
  obtain ⟨rfl, rfl⟩ := trodVars_none hV
  obtain ⟨a0, rfl, rfl, rfl, w0⟩ := open_string Try.underlying9 (hval 0 9 v0 rfl rfl) h0
  clear hA0 hval0
  simp only [List.append_nil] at hW'
  refine (walk a0 W).mono fun e W' ⟨he, hg⟩ => ?_
  subst he
  exact ⟨_, rfl, post_of_below (pa := []) (pv := []) hW' (fun _ _ _ => (trodAll_cons_mk (shut_bool Try.underlying4 _) trodAll_mk0)) (fun sp _ => (trodAll_cons_mk (shut_string Try.underlying9 w0) trodAll_mk0)) (fun _ _ => rfl) rfl
    hg (ok_one (by kernel_rfl) rfl (okWide_bool_mk Try.underlying4 _))⟩

theorem over : Rows.longReadsRow.holds Try.pinned (OpenSpec.ofChange Rows.longReadsSpec) :=
  OpenClaim.holds_of_wide 3 Try.f3 rfl rfl rfl rfl rfl rfl rfl ⟨rfl, rfl, rfl, rfl, rfl⟩ rfl rfl rfl rfl rfl (by kernel_rfl) Try.func3 (by kernel_rfl)
    (of_decide_eq_true (by kernel_rfl)) (by unfold Func.isWrapper; first | (rw [if_pos (by decide +kernel)]; kernel_rfl) | (rw [if_neg (by decide +kernel)]; exact ⟨rfl, rfl⟩))
    (fun os started H enc _ => lifted os started H enc)

/-- The statement. -/
theorem proved : Rows.LongReadsSaid := over
end Go.Proofs.Ytdkamjbcpmlheaa.longReads
