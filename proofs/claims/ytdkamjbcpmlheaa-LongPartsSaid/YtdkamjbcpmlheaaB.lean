/- The walker goes on: regions whose order is drawn, calls, appends, conversions. -/
import Derived.Test.YtdkamjbcpmlheaaA
import Derived.OrdersHeld
import Derived.Deep.AppendSrc
import Derived.Deep.Upon
import Derived.Laws.IdiomStrings
import Derived.Laws.BytesString
import Derived.Lib.ConvBytes
import Derived.Below
import Derived.ChangeSame
set_option linter.unusedVariables false
set_option linter.unusedSimpArgs false
namespace Go.Gw
open Go Go.RowKit

/-! ### A region whose order is drawn: what only reckons and reads may be taken first; calls come in their order; new variables whenever; stores last. -/

def NoPanic' (Q : Exit → Act → World → Prop) : Exit → Act → World → Prop
  | .panic _, _, _ => False
  | e, a, w => Q e a w
theorem NoPanic'.imp {Q : Exit → Act → World → Prop} : ∀ (e : Exit) (a : Act) (w : World), NoPanic' Q e a w → Q e a w := fun e a w h => by
  cases e <;> first | exact h | exact (h : False).elim

def blur (T : List Nat) : Nat → Store → Store
  | _, [] => []
  | i, o :: r => (if T.contains i then ⟨o.own, .lit []⟩ else o) :: blur T (i + 1) r
theorem blur_length (T : List Nat) : ∀ (σ : Store) (i : Nat), (blur T i σ).length = σ.length
  | [], _ => rfl
  | o :: r, i => by simp [blur, blur_length T r]
theorem blur_get (T : List Nat) : ∀ (σ : Store) (n i : Nat), (blur T n σ)[i]? = (σ[i]?).map fun o => if T.contains (n + i) then ⟨o.own, .lit []⟩ else o
  | [], _, _ => by simp [blur]
  | o :: r, n, 0 => by simp [blur]
  | o :: r, n, i + 1 => by
    simp only [blur, List.getElem?_cons_succ]
    rw [blur_get T r (n + 1) i]
    congr 3
    simp [Nat.add_assoc, Nat.add_comm 1 i]

/-- The worlds of a region: all is as at its start, but what is stored into, and that has kept its shape. -/
structure Held (C : Cx) (l : List Base) (σ : Store) (T : List Nat) (ws w : World) : Prop where
  os : w.os = ws.os
  tape : w.tape = ws.tape
  output : w.output = ws.output
  size : ws.heap.size ≤ w.heap.size
  keep : ∀ k, k < ws.heap.size → (∀ id ad, id ∈ T → l[id]? = some (some ad) → ad.block ≠ k) → w.heap[k]? = ws.heap[k]?
  shape : ∀ (id : Nat) (o : Ob) (t : TypeId) (tot : Nat), id ∈ T → σ[id]? = some o → o.own = some (t, tot) → ∀ g, l[id]? = some (some ⟨g, 0, none⟩) → ∃ arr, w.heap[g]? = some (.cells arr t (0, 0)) ∧ arr.size = tot

def ownT (σ : Store) (T : List Nat) : Prop := ∀ id ∈ T, ∃ o, σ[id]? = some o ∧ o.own.isSome = true

theorem Held.refl {C : Cx} {l : List Base} {σ : Store} {M : Mo} {T : List Nat} {ws : World} (hr : Rel C l σ M ws) : Held C l σ T ws ws :=
  ⟨rfl, rfl, rfl, Nat.le_refl _, fun _ _ _ => rfl, fun id o t tot hT ho hown g hg => by
    obtain ⟨r, _⟩ := hr.ob id _ o hg ho
    unfold ObR at r
    rw [hown] at r
    rcases r with ⟨r, _⟩ | ⟨blk, arr, e1, e2, e3, _⟩
    · cases r
    · simp at e1; subst e1; exact ⟨arr, e2, e3⟩⟩

theorem Held.step {C : Cx} {l : List Base} {σ : Store} {T : List Nat} {ws w w' : World} (h : Held C l σ T ws w) (hf : Fr [] w w') : Held C l σ T ws w' :=
  ⟨hf.os.trans h.os, hf.tape.trans h.tape, hf.output.trans h.output, Nat.le_trans h.size hf.size, fun k hk hn => (hf.block k (Nat.lt_of_lt_of_le hk h.size) (by simp)).trans (h.keep k hk hn),
   fun id o t tot hT ho hown g hg => by
    obtain ⟨arr, e1, e2⟩ := h.shape id o t tot hT ho hown g hg
    exact ⟨arr, (hf.block g (Array.getElem?_eq_some_iff.1 e1).1 (by simp)).trans e1, e2⟩⟩

theorem Held.rel {C : Cx} {l : List Base} {σ : Store} {M : Mo} {T : List Nat} {ws w : World} (hr : Rel C l σ M ws) (hT : ownT σ T) (h : Held C l σ T ws w) : Rel C l (blur T 0 σ) M w := by
  have hbl : ∀ (i : Nat) (o : Ob), (blur T 0 σ)[i]? = some o → ∃ o', σ[i]? = some o' ∧ o'.own = o.own ∧ (o.live → o'.live) ∧ (T.contains i = false → o' = o) ∧ (T.contains i = true → o = ⟨o'.own, .lit []⟩) := by
    intro i o hi
    rw [blur_get, Nat.zero_add] at hi
    cases hs : σ[i]? with
    | none => rw [hs] at hi; cases hi
    | some o' =>
      rw [hs] at hi
      simp only [Option.map_some] at hi
      by_cases ht : T.contains i = true
      · rw [if_pos ht] at hi
        simp at hi; subst hi
        exact ⟨o', rfl, rfl, fun hl => hl.elim (fun x => .inl x) (fun x => absurd rfl x), (fun x => by rw [ht] at x; cases x), fun _ => rfl⟩
      · rw [if_neg ht] at hi
        simp at hi; subst hi
        exact ⟨o', rfl, rfl, fun x => x, fun _ => rfl, fun x => absurd x ht⟩
  -- the blocks that may have turned
  have hTb : ∀ id ad, id ∈ T → l[id]? = some (some ad) → (ad.block ∈ M.L ∨ M.w.heap.size ≤ ad.block) ∧ (ad.block ∈ C.mu ∨ C.w0.heap.size ≤ ad.block) := by
    intro id ad hid hl
    obtain ⟨o, ho, hown⟩ := hT id hid
    exact hr.own id ad o hl ho hown
  have hfr : ∀ (L : List Nat) (m : World), Fr L m ws → (∀ id ad, id ∈ T → l[id]? = some (some ad) → ad.block ∈ L ∨ m.heap.size ≤ ad.block) → Fr L m w := by
    intro L m hf hx
    refine ⟨h.os.trans hf.os, h.tape.trans hf.tape, h.output.trans hf.output, Nat.le_trans hf.size h.size, fun k hk hn => ?_⟩
    refine (h.keep k (Nat.lt_of_lt_of_le hk hf.size) fun id ad hid hl he => ?_).trans (hf.block k hk hn)
    rcases hx id ad hid hl with h1 | h1
    · exact hn (he ▸ h1)
    · omega
  refine ⟨by rw [blur_length]; exact hr.len, hr.bd, hfr _ _ hr.ent fun id ad a b => (hTb id ad a b).2, hfr _ _ hr.fr fun id ad a b => (hTb id ad a b).1, hr.sub,
    fun i b o hb ho => ?_, fun i b o hb ho hown => ?_, fun i b o hb ho hl => ?_, fun i j b b' o o' hij hb hb' ho ho' hown hl => ?_, hr.pin⟩
  · obtain ⟨o', h1, h2, h3, h4, h5⟩ := hbl i o ho
    obtain ⟨r, rk⟩ := hr.ob i b o' hb h1
    by_cases ht : T.contains i = true
    · have he := h5 ht
      subst he
      refine ⟨?_, trivial⟩
      have hmem : i ∈ T := by simpa using ht
      obtain ⟨o'', g1, g2⟩ := hT i hmem
      rw [h1] at g1
      simp at g1; subst g1
      cases hown : o'.own with
      | none => rw [hown] at g2; cases g2
      | some tt =>
        obtain ⟨t, tot⟩ := tt
        unfold ObR at r ⊢
        simp only [hown] at r ⊢
        rcases r with ⟨r1, r2, r3⟩ | ⟨blk, arr, e1, e2, e3, e4⟩
        · exact .inl ⟨r1, rfl, r3⟩
        · subst e1
          obtain ⟨arr', g3, g4⟩ := h.shape i o' t tot hmem h1 hown blk hb
          exact .inr ⟨blk, arr', rfl, g3, g4, by simp [Cells.len, Cells.conc, concL]⟩
    · have he := h4 (by simpa using ht)
      subst he
      refine ⟨?_, rk⟩
      have hnot : ∀ ad, b = some ad → o'.live → ∀ id ad', id ∈ T → l[id]? = some (some ad') → ad'.block ≠ ad.block := by
        intro ad e hl id ad' hid hl'
        subst e
        obtain ⟨q, hq, hqo⟩ := hT id hid
        have hne : id ≠ i := fun e => by subst e; simp at ht; exact ht hid
        exact hr.dis id i ad' ad q o' hne hl' hb hq h1 hqo hl
      unfold ObR at r ⊢
      split at r
      · rename_i t tot hown
        rcases r with r | ⟨blk, arr, e1, e2, e3, e4⟩
        · exact .inl r
        · exact .inr ⟨blk, arr, e1, (h.keep blk (Array.getElem?_eq_some_iff.1 e2).1 (hnot _ e1 (.inl (by rw [hown]; rfl)))).trans e2, e3, e4⟩
      · rename_i hown
        rcases r with r | ⟨ad, e1, e2, e3⟩
        · exact .inl r
        · by_cases hz : o'.c.len = 0
          · exact .inl hz
          · refine .inr ⟨ad, e1, e2, fun k c hc => ?_⟩
            have hc' := e3 k c hc
            have hlt := World.block_lt_of_cell? _ _ hc'
            exact (World.cell?_of_block (a := ⟨ad.block, ad.off + k, none⟩) (h.keep ad.block hlt (hnot ad e1 (.inr hz)))).trans hc'
  · obtain ⟨o', h1, h2, _⟩ := hbl i o ho
    exact hr.own i b o' hb h1 (by rw [h2]; exact hown)
  · obtain ⟨o', h1, h2, h3, _⟩ := hbl i o ho
    exact hr.out i b o' hb h1 (h3 hl)
  · obtain ⟨p, g1, g2, _⟩ := hbl i o ho
    obtain ⟨p', g3, g4, g5, _⟩ := hbl j o' ho'
    exact hr.dis i j b b' p p' hij hb hb' g1 g3 (by rw [g2]; exact hown) (g5 hl)

/-- A store into what may be stored into, or into what is new. -/
theorem Held.store {C : Cx} {l : List Base} {σ : Store} {T : List Nat} {ws w w' : World} (h : Held C l σ T ws w) (g : Nat) (hf : Fr [g] w w')
    (hg : (∃ id, id ∈ T ∧ l[id]? = some (some ⟨g, 0, none⟩)) ∨ ws.heap.size ≤ g) (hs : ∀ arr t, w.heap[g]? = some (.cells arr t (0, 0)) → ∃ arr', w'.heap[g]? = some (.cells arr' t (0, 0)) ∧ arr'.size = arr.size) : Held C l σ T ws w' := by
  refine ⟨hf.os.trans h.os, hf.tape.trans h.tape, hf.output.trans h.output, Nat.le_trans h.size hf.size, fun k hk hn => ?_, fun id o t tot hid ho hown g' hg' => ?_⟩
  · refine (hf.block k (Nat.lt_of_lt_of_le hk h.size) fun hm => ?_).trans (h.keep k hk hn)
    simp at hm
    subst hm
    rcases hg with ⟨id, h1, h2⟩ | h1
    · exact hn id _ h1 h2 rfl
    · omega
  · obtain ⟨arr, e1, e2⟩ := h.shape id o t tot hid ho hown g' hg'
    by_cases he : g' = g
    · subst he
      obtain ⟨arr', e3, e4⟩ := hs arr t e1
      exact ⟨arr', e3, e4.trans e2⟩
    · exact ⟨arr, (hf.block g' (Array.getElem?_eq_some_iff.1 e1).1 (by simpa using he)).trans e1, e2⟩

/-! ### The plan of a region -/

def binds1 (e : Edge) : Bool := Region.binds .any e
/-- Does j wait for one that is not done, nor a new variable? -/
def waitsB (ops : Array Oper) (A done : List Nat) (j : Nat) : Bool :=
  match ops[j]? with
  | none => true
  | some o => o.after.any fun e => binds1 e && !done.contains e.on && !A.contains e.on
/-- Nothing but i (and new variables) may come up. -/
def onlyB (ops : Array Oper) (A done : List Nat) (i : Nat) : Bool :=
  (List.range ops.size).all fun j => done.contains j || A.contains j || j == i || waitsB ops A done j
/-- i may come up. -/
def mayB (ops : Array Oper) (done : List Nat) (i : Nat) : Bool :=
  match ops[i]? with
  | none => false
  | some o => !done.contains i && o.after.all fun e => !binds1 e || done.contains e.on
/-- i may be taken first. -/
def freeB (ops : Array Oper) (done : List Nat) (i : Nat) : Bool :=
  match ops[i]? with
  | none => false
  | some oi => (List.range ops.size).all fun j => j == i || done.contains j || match ops[j]? with
      | some oj => oj.after.any (fun e => binds1 e && e.on == i) || oi.apart ops oj
      | none => true
/-- New variables alone may come up, till all have. -/
def newsB (ops : Array Oper) (A done : List Nat) : Bool :=
  (List.range ops.size).all fun j => done.contains j || A.contains j || waitsB ops A done j ||
    match ops[j]? with
    | none => true
    | some o => A.all fun a => o.after.any fun e => binds1 e && e.on == a

/-- How the array of what has come up stands to a list. -/
def Lst (ops : Array Oper) (done : List Nat) (arr : Array Bool) : Prop := arr.size = ops.size ∧ ∀ i, i < ops.size → arr[i]? = some (done.contains i)
theorem Lst.set {ops : Array Oper} {done : List Nat} {arr : Array Bool} (h : Lst ops done arr) (i : Nat) : Lst ops (i :: done) (arr.setIfInBounds i true) := by
  refine ⟨by simp [h.1], fun j hj => ?_⟩
  by_cases he : i = j
  · subst he
    simp [h.1, hj]
  · rw [Array.getElem?_setIfInBounds_ne he, h.2 j hj]
    simp [Ne.symm he]
theorem Lst.start (ops : Array Oper) : Lst ops [] (Array.replicate ops.size false) := ⟨by simp, fun i hi => by simp [hi]⟩
theorem Lst.perm {ops : Array Oper} {d d' : List Nat} {arr : Array Bool} (h : Lst ops d arr) (hd : ∀ i, i ∈ d ↔ i ∈ d') : Lst ops d' arr :=
  ⟨h.1, fun i hi => by rw [h.2 i hi]; congr 1; rw [Bool.eq_iff_iff]; simp [hd i]⟩
theorem Lst.getF {ops : Array Oper} {done : List Nat} {arr : Array Bool} (h : Lst ops done arr) (i : Nat) : arr.getD i false = (decide (i < ops.size) && done.contains i) := by
  by_cases hi : i < ops.size
  · simp [Array.getD_eq_getD_getElem?, h.2 i hi, hi]
  · simp [Array.getD_eq_getD_getElem?, h.1, hi]
theorem Lst.getT {ops : Array Oper} {done : List Nat} {arr : Array Bool} (h : Lst ops done arr) (i : Nat) : arr.getD i true = (decide (ops.size ≤ i) || done.contains i) := by
  by_cases hi : i < ops.size
  · simp [Array.getD_eq_getD_getElem?, h.2 i hi, Nat.not_le.2 hi]
  · simp [Array.getD_eq_getD_getElem?, h.1, hi, Nat.le_of_not_lt hi]

theorem ready_sub {ops : Array Oper} {A done d' : List Nat} {arr : Array Bool} {i : Nat} (ho : onlyB ops A done i = true) (hl : Lst ops d' arr) (h1 : ∀ x ∈ done, x ∈ d') (h2 : ∀ x ∈ d', x ∈ done ∨ x ∈ A) :
    ∀ j ∈ Region.ready .any ops arr, j = i ∨ (j ∈ A ∧ j ∉ d') := by
  intro j hj
  rw [mem_ready] at hj
  obtain ⟨g1, o, g2, g3⟩ := hj
  have hjn : j < ops.size := (Array.getElem?_eq_some_iff.1 g2).1
  rw [hl.getT] at g1
  have hjd : j ∉ d' := by
    intro hx
    simp [hx] at g1
  have := List.all_eq_true.1 ho j (by simpa using hjn)
  simp only [Bool.or_eq_true, List.contains_iff_mem, beq_iff_eq] at this
  rcases this with ((this | this) | this) | this
  · exact absurd (h1 j this) hjd
  · exact .inr ⟨this, hjd⟩
  · exact .inl this
  · exfalso
    unfold waitsB at this
    rw [g2] at this
    obtain ⟨e, he, hb⟩ := Array.any_eq_true'.1 this
    simp only [Bool.and_eq_true, Bool.not_eq_true', binds1] at hb
    have h4 := g3 e he hb.1.1
    rw [hl.getF] at h4
    simp only [Bool.and_eq_true, decide_eq_true_eq, List.contains_iff_mem] at h4
    rcases h2 _ h4.2 with h5 | h5
    · have := hb.1.2; simp [h5] at this
    · have := hb.2; simp [h5] at this

theorem may_ready {ops : Array Oper} {done d' : List Nat} {arr : Array Bool} {i : Nat} (hm : mayB ops done i = true) (hl : Lst ops d' arr) (h1 : ∀ x ∈ done, x ∈ d') (h2 : i ∉ d') (h3 : ∀ x ∈ d', x < ops.size) :
    i ∈ Region.ready .any ops arr := by
  unfold mayB at hm
  split at hm
  · cases hm
  · rename_i o ho
    simp only [Bool.and_eq_true, Array.all_eq_true'] at hm
    rw [mem_ready]
    refine ⟨?_, o, ho, fun e he hb => ?_⟩
    · rw [hl.getT]
      have : i < ops.size := (Array.getElem?_eq_some_iff.1 ho).1
      simp [h2, this]
    · have := hm.2 e he
      simp only [binds1, hb, Bool.not_true, Bool.false_or, List.contains_iff_mem] at this
      have hx := h1 _ this
      rw [hl.getF]
      simp [hx, h3 _ hx]

theorem free_free {ops : Array Oper} {done d' : List Nat} {arr : Array Bool} {i : Nat} (hf : freeB ops done i = true) (hl : Lst ops d' arr) (h1 : ∀ x ∈ done, x ∈ d') : Region.free .any ops arr i = true := by
  unfold freeB at hf
  unfold Region.free
  split at hf
  · cases hf
  · rename_i oi hoi
    rw [hoi]
    simp only [List.all_eq_true, List.mem_range] at hf ⊢
    intro j hj
    have := hf j hj
    simp only [Bool.or_eq_true, beq_iff_eq, List.contains_iff_mem] at this ⊢
    rcases this with (this | this) | this
    · exact .inl (.inl this)
    · refine .inl (.inr ?_)
      rw [hl.getT]
      simp [h1 j this]
    · refine .inr ?_
      cases hoj : ops[j]? with
      | none => rfl
      | some oj =>
        rw [hoj] at this
        exact this


/-- More may have been stored into. -/
theorem Held.mono {C : Cx} {l : List Base} {σ : Store} {M : Mo} {T T' : List Nat} {ws w : World} (hr : Rel C l σ M ws) (hT' : ownT σ T') (h : Held C l σ T ws w) (hs : ∀ x ∈ T, x ∈ T') : Held C l σ T' ws w :=
  ⟨h.os, h.tape, h.output, h.size, fun k hk hn => h.keep k hk fun id ad hid hl => hn id ad (hs id hid) hl, fun id o t tot hid ho hown g hg => by
    by_cases hidT : id ∈ T
    · exact h.shape id o t tot hidT ho hown g hg
    · obtain ⟨r, _⟩ := hr.ob id _ o hg ho
      unfold ObR at r
      rw [hown] at r
      rcases r with ⟨r, _⟩ | ⟨blk, arr, e1, e2, e3, _⟩
      · cases r
      · simp at e1; subst e1
        refine ⟨arr, (h.keep g (Array.getElem?_eq_some_iff.1 e2).1 fun id' ad hid' hl => ?_).trans e2, e3⟩
        obtain ⟨o', ho', hown'⟩ := hT' id' (hs id' hid')
        have hne : id' ≠ id := fun e => hidT (e ▸ hid')
        exact hr.dis id' id ad _ o' o hne hl hg ho' ho hown' (.inl (by simp [hown]))⟩

/-! ### Orders, with a condition on the world that hangs on what has come up -/
section
variable {P : Program} {ops : Array Oper} {Q : Exit → Act → World → Prop} {md : Region.Mode} {S : Array Bool → World → Prop}

/-- What has come up, has come up behind all it waits for. -/
def Rch (md : Region.Mode) (ops : Array Oper) (arr : Array Bool) : Prop := ∀ j o, ops[j]? = some o → arr.getD j false = true → ∀ e ∈ o.after, Region.binds md e = true → arr.getD e.on false = true
theorem Rch.set {arr : Array Bool} (h : Rch md ops arr) {j : Nat} (hj : j ∈ Region.ready md ops arr) : Rch md ops (arr.setIfInBounds j true) := by
  intro k o ho hk e he hb
  obtain ⟨_, o', ho', hall⟩ := mem_ready.1 hj
  by_cases hkj : j = k
  · subst hkj
    rw [ho] at ho'
    simp at ho'; subst ho'
    exact getD_set_true (hall e he hb)
  · rw [getD_set_ne false hkj] at hk
    exact getD_set_true (h k o ho hk e he hb)
theorem Rch.start (ops : Array Oper) : Rch md ops (Array.replicate ops.size false) := by
  intro j o ho hj
  have hlt := (Array.getElem?_eq_some_iff.1 ho).1
  simp [hlt] at hj
/-- j waits for i, or for one that does. -/
def waitsT (ops : Array Oper) (i : Nat) : Nat → Nat → Bool
  | 0, _ => false
  | n + 1, j => match ops[j]? with
    | none => false
    | some o => o.after.any fun e => Region.binds .any e && (e.on == i || waitsT ops i n e.on)
theorem Rch.waits {arr : Array Bool} (h : Rch .any ops arr) {i : Nat} : ∀ (n j : Nat), waitsT ops i n j = true → arr.getD j false = true → arr.getD i false = true
  | 0, _, hw, _ => by cases hw
  | n + 1, j, hw, hj => by
    unfold waitsT at hw
    split at hw
    · cases hw
    · rename_i o ho
      obtain ⟨e, he, hb⟩ := Array.any_eq_true'.1 hw
      simp only [Bool.and_eq_true, Bool.or_eq_true, beq_iff_eq] at hb
      have h1 := h j o ho hj e he hb.1
      rcases hb.2 with h2 | h2
      · rw [h2] at h1; exact h1
      · exact h.waits n e.on h2 h1

def wpAnyG (P : Program) (md : Region.Mode) (ops : Array Oper) (Q : Exit → Act → World → Prop) (S : Array Bool → World → Prop) : Nat → Array Bool → Act → World → Prop
  | 0, listed, a, w => Region.ready md ops listed = [] ∧ Q .normal a w
  | fuel + 1, listed, a, w =>
    (Region.ready md ops listed = [] → Q .normal a w) ∧
    ∀ i ∈ Region.ready md ops listed, wpOp P ops Q i (fun a' w' => S (listed.setIfInBounds i true) w' ∧ wpAnyG P md ops Q S fuel (listed.setIfInBounds i true) a' w') a w
theorem wpAny_of_G : ∀ (fuel : Nat) (listed : Array Bool) (a : Act) (w : World), wpAnyG P md ops Q S fuel listed a w → wpAny P md ops Q fuel listed a w
  | 0, _, _, _, h => h
  | fuel + 1, _, _, _, h => ⟨h.1, fun i hi => wpOp_mono (fun a' w' h' => wpAny_of_G fuel _ a' w' h'.2) (h.2 i hi)⟩

/-- The worlds in which i may come up. -/
def At (md : Region.Mode) (ops : Array Oper) (S : Array Bool → World → Prop) (i : Nat) (w : World) : Prop := ∃ arr, Rch md ops arr ∧ arr.getD i true = false ∧ S arr w
theorem wpAnyG_first {i : Nat} {oi : Oper} {v : Value} (hi : ops[i]? = some oi) (hsel : ∀ (j : Nat) (o : Oper) cs b, ops[j]? = some o → o.op ≠ .select cs b)
    (hQ : ∀ c a w, Q (.panic c) (a.put oi.dst v) w → Q (.panic c) a w) (hSi : ∀ arr w, S (arr.setIfInBounds i true) w ↔ S arr w) :
    ∀ (fuel : Nat) (listed : Array Bool) (a : Act) (w : World),
      (∀ j oj, ops[j]? = some oj → j ≠ i → listed.getD j true = false → (∀ e ∈ oj.after, Region.binds md e = true → e.on ≠ i) → oi.apart ops oj = true) →
      Rch md ops listed → i ∈ Region.ready md ops listed → YieldsIf P ops (At md ops S i) oi v a → S listed w →
      wpAnyG P md ops Q S fuel (listed.setIfInBounds i true) (a.put oi.dst v) w → wpAnyG P md ops Q S (fuel + 1) listed a w := by
  intro fuel
  induction fuel with
  | zero =>
    intro listed a w _ hR hr hy hS H
    refine ⟨fun h => (by rw [h] at hr; cases hr), fun j hj => ?_⟩
    by_cases hji : j = i
    · subst hji; exact hy.wpOp hi ⟨listed, hR, (mem_ready.1 hr).1, hS⟩ ⟨(hSi _ _).2 hS, H⟩
    · have := ready_mono hj hji
      rw [H.1] at this
      cases this
  | succ fuel ih =>
    intro listed a w hfree hR hr hy hS H
    refine ⟨fun h => (by rw [h] at hr; cases hr), fun j hj => ?_⟩
    by_cases hji : j = i
    · subst hji; exact hy.wpOp hi ⟨listed, hR, (mem_ready.1 hr).1, hS⟩ ⟨(hSi _ _).2 hS, H⟩
    · have h1 := H.2 j (ready_mono hj hji)
      obtain ⟨hjun, oj, hoj, hall⟩ := mem_ready.1 hj
      have hnot : ∀ e ∈ oj.after, Region.binds md e = true → e.on ≠ i := fun e he hb heq => by
        have h1 := hall e he hb
        have h0 := (mem_ready.1 hr).1
        rw [heq] at h1
        rcases Nat.lt_or_ge i listed.size with h' | h'
        · simp [h'] at h0 h1; rw [h0] at h1; cases h1
        · simp [Array.getElem?_eq_none h'] at h1
      have h2 := wpOp_putIf hoj (hfree j oj hoj hji hjun hnot) (fun cs b => hsel i oi cs b hi) (fun cs b => hsel j oj cs b hoj) hQ hy h1
      have hfree' : ∀ k ok, ops[k]? = some ok → k ≠ i → (listed.setIfInBounds j true).getD k true = false →
          (∀ e ∈ ok.after, Region.binds md e = true → e.on ≠ i) → oi.apart ops ok = true := fun k ok hk hki hun hno => by
        refine hfree k ok hk hki ?_ hno
        by_cases hjk : j = k
        · subst hjk; exact hjun
        · rw [getD_set_ne true hjk] at hun; exact hun
      refine wpOp_mono (fun a' w' h3 => ?_) h2
      have h4 := h3.2
      rw [Array.setIfInBounds_comm _ _ (Ne.symm hji)] at h4
      have h5 := (hSi _ _).1 h4.1
      exact ⟨h5, ih (listed.setIfInBounds j true) a' w' hfree' (hR.set hj) (ready_mono hr (Ne.symm hji)) h3.1 h5 h4.2⟩
theorem wpAnyG_take {i : Nat} {oi : Oper} {v : Value} {fuel : Nat} {listed : Array Bool} {a : Act} {w : World} (hi : ops[i]? = some oi)
    (hs : Region.noSelect ops = true) (hf : Region.free md ops listed i = true) (hr : (Region.ready md ops listed).contains i = true)
    (hQ : ∀ c a w, Q (.panic c) (a.put oi.dst v) w → Q (.panic c) a w) (hSi : ∀ arr w, S (arr.setIfInBounds i true) w ↔ S arr w) (hR : Rch md ops listed) (hy : YieldsIf P ops (At md ops S i) oi v a) (hS : S listed w)
    (h : wpAnyG P md ops Q S fuel (listed.setIfInBounds i true) (a.put oi.dst v) w) : wpAnyG P md ops Q S (fuel + 1) listed a w :=
  wpAnyG_first hi (Region.noSelect_spec hs) hQ hSi fuel listed a w (Region.free_spec hi hf) hR (by simpa using hr) hy hS h
theorem wpAnyG_done {listed : Array Bool} {a : Act} {w : World} (hr : Region.ready md ops listed = []) (h : Q .normal a w) :
    ∀ fuel, wpAnyG P md ops Q S fuel listed a w
  | 0 => ⟨hr, h⟩
  | _ + 1 => ⟨fun _ => h, by rw [hr]; simp⟩
theorem wp_region_G {id : Nat} {a : Act} {w : World} (hm : P.follows .mixedOrders = true)
    (h : wpAnyG P .any ops Q S ops.size (Array.replicate ops.size false) a { w with drawn := w.drawn + 1 }) : (Code.region id ops true).wp P Q a w :=
  wp_region_any hm (wpAny_of_G _ _ _ _ h)
end

/-- What has been stored into. -/
def TL (TS : List (Nat × Nat)) (arr : Array Bool) : List Nat := (TS.filter fun p => arr.getD p.1 false).map (·.2)
theorem TL_set {TS : List (Nat × Nat)} {i : Nat} (h : i ∉ TS.map (·.1)) (arr : Array Bool) : TL TS (arr.setIfInBounds i true) = TL TS arr := by
  unfold TL
  congr 1
  apply List.filter_congr
  intro p hp
  exact getD_set_ne false (fun e => h (by rw [e]; exact List.mem_map_of_mem hp))
theorem TL_sub {TS : List (Nat × Nat)} {arr : Array Bool} : ∀ x ∈ TL TS arr, x ∈ TS.map (·.2) := fun x hx => by
  unfold TL at hx
  obtain ⟨p, hp, rfl⟩ := List.mem_map.1 hx
  exact List.mem_map_of_mem (List.mem_filter.1 hp).1
theorem TL_mono {TS : List (Nat × Nat)} {arr : Array Bool} (i : Nat) : ∀ x ∈ TL TS arr, x ∈ TL TS (arr.setIfInBounds i true) := fun x hx => by
  unfold TL at *
  obtain ⟨p, hp, rfl⟩ := List.mem_map.1 hx
  rw [List.mem_filter] at hp
  exact List.mem_map_of_mem (List.mem_filter.2 ⟨hp.1, getD_set_true hp.2⟩)
theorem TL_self {TS : List (Nat × Nat)} {arr : Array Bool} {i id : Nat} (h : (i, id) ∈ TS) (hi : i < arr.size) : id ∈ TL TS (arr.setIfInBounds i true) := by
  unfold TL
  refine List.mem_map.2 ⟨(i, id), List.mem_filter.2 ⟨h, ?_⟩, rfl⟩
  simp [hi]
/-- What may have been stored into before i comes up. -/
def befT (ops : Array Oper) (TS : List (Nat × Nat)) (i : Nat) (T : List Nat) : Bool := TS.all fun p => T.contains p.2 || waitsT ops i ops.size p.1
theorem befT_sub {ops : Array Oper} {TS : List (Nat × Nat)} {i : Nat} {T : List Nat} (h : befT ops TS i T = true) {arr : Array Bool} (hR : Rch .any ops arr) (hi : arr.getD i true = false) : ∀ x ∈ TL TS arr, x ∈ T := fun x hx => by
  unfold TL at hx
  obtain ⟨p, hp, rfl⟩ := List.mem_map.1 hx
  rw [List.mem_filter] at hp
  have := List.all_eq_true.1 h p hp.1
  simp only [Bool.or_eq_true, List.contains_iff_mem] at this
  rcases this with h1 | h1
  · exact h1
  · have h2 := hR.waits _ _ h1 hp.2
    rcases Nat.lt_or_ge i arr.size with h' | h'
    · simp [h'] at h2 hi; rw [h2] at hi; cases hi
    · simp [Array.getElem?_eq_none h'] at hi

end Go.Gw

namespace Go.Gw
open Go Go.RowKit

/-! ### How many have not come up -/
def cntL : List Bool → Nat
  | [] => 0
  | true :: r => cntL r
  | false :: r => cntL r + 1
def cntF (a : Array Bool) : Nat := cntL a.toList
theorem cntL_set : ∀ (l : List Bool) (i : Nat), l[i]? = some false → cntL (l.set i true) + 1 = cntL l
  | b :: r, 0, h => by simp at h; subst h; rfl
  | true :: r, i + 1, h => by simp only [List.set_cons_succ, cntL]; exact cntL_set r i (by simpa using h)
  | false :: r, i + 1, h => by simp only [List.set_cons_succ, cntL]; rw [cntL_set r i (by simpa using h)]
theorem cntF_set {a : Array Bool} {i : Nat} (h : a[i]? = some false) : cntF (a.setIfInBounds i true) + 1 = cntF a := by
  unfold cntF
  rw [Array.toList_setIfInBounds]
  exact cntL_set _ _ (by simpa using h)
theorem cntL_rep : ∀ n, cntL (List.replicate n false) = n
  | 0 => rfl
  | n + 1 => by simp [List.replicate_succ, cntL, cntL_rep n]

theorem Lst.false {ops : Array Oper} {done : List Nat} {arr : Array Bool} (h : Lst ops done arr) {i : Nat} (hi : i < ops.size) (hn : i ∉ done) : arr[i]? = some false := by
  rw [h.2 i hi]; simp [hn]

/-! ### New variables that have come up early -/
structure Erl (C : Cx) (ops : Array Oper) (A : List Nat) (l : List Base) (σ : Store) (M : Mo) (ws : World) (ES : List (Nat × Nat)) (a : Act) (w : World) : Prop where
  sub : ∀ p ∈ ES, p.1 ∈ A
  ent : ∀ p ∈ ES, ∃ o t i z d, ops[p.1]? = some o ∧ o.op = .alloc t ∧ C.P.info? t = some i ∧ i.zero = some z ∧ o.dst = some d ∧ a.tmps[d]? = some (.pointer (some ⟨p.2, 0, none⟩)) ∧ w.heap[p.2]? = some (.cells z.cells t (0, 0))
  far : ∀ p ∈ ES, ws.heap.size ≤ p.2
  mo : ∀ p ∈ ES, p.2 ∈ M.L ∨ M.w.heap.size ≤ p.2
  sep : ∀ p ∈ ES, ∀ (i : Nat) (ad : Addr) (o : Ob), l[i]? = some (some ad) → σ[i]? = some o → o.live → ad.block ≠ p.2
  nod : (ES.map (·.2)).Nodup
  nod1 : (ES.map (·.1)).Nodup

def dstOf (ops : Array Oper) (i : Nat) : Option Nat := (ops[i]?).bind (·.dst)
/-- The new variables' slots are nobody else's; they wait for nobody and are not guarded. -/
def allocsB (ops : Array Oper) (A : List Nat) : Bool :=
  A.all fun i => match ops[i]? with
    | some ⟨some d, .alloc _, _, _, after, none⟩ => after.all (fun e => !binds1 e) && (List.range ops.size).all fun j => j == i || dstOf ops j != some d
    | _ => false

theorem allocsB_get {ops : Array Oper} {A : List Nat} (h : allocsB ops A = true) {i : Nat} (hi : i ∈ A) :
    ∃ o d t, ops[i]? = some o ∧ o.dst = some d ∧ o.op = .alloc t ∧ o.guard = none ∧ (∀ e ∈ o.after, Region.binds .any e = false) ∧ ∀ j, j ≠ i → dstOf ops j ≠ some d := by
  have := List.all_eq_true.1 h i hi
  split at this
  · rename_i d t ty pos after ho
    simp only [Bool.and_eq_true, Array.all_eq_true', List.all_eq_true, List.mem_range, Bool.or_eq_true, beq_iff_eq, bne_iff_ne] at this
    refine ⟨_, d, t, ho, rfl, rfl, rfl, fun e he => by simpa [binds1] using this.1 e he, fun j hj => ?_⟩
    by_cases hjn : j < ops.size
    · exact (this.2 j hjn).resolve_left hj
    · unfold dstOf
      rw [Array.getElem?_eq_none (by omega)]
      simp
  · cases this

/-- What another one puts, and what stays as it is, leaves them. -/
theorem Erl.keep {C : Cx} {ops : Array Oper} {A : List Nat} {l : List Base} {σ : Store} {M : Mo} {ws : World} {ES : List (Nat × Nat)} {a : Act} {w w' : World} (h : Erl C ops A l σ M ws ES a w) (hA : allocsB ops A = true)
    {j : Nat} {o : Oper} (hj : ops[j]? = some o) (hjA : j ∉ A) (v : Value) (hf : ∀ p ∈ ES, w'.heap[p.2]? = w.heap[p.2]?) : Erl C ops A l σ M ws ES (a.put o.dst v) w' := by
  refine ⟨h.sub, fun p hp => ?_, h.far, h.mo, h.sep, h.nod, h.nod1⟩
  obtain ⟨o', t, i, z, d, e1, e2, e3, e4, e5, e6, e7⟩ := h.ent p hp
  refine ⟨o', t, i, z, d, e1, e2, e3, e4, e5, ?_, (hf p hp).trans e7⟩
  obtain ⟨q, d', t', g1, g2, _, _, _, g3⟩ := allocsB_get hA (h.sub p hp)
  rw [e1] at g1
  simp at g1; subst g1
  rw [e5] at g2
  simp at g2; subst g2
  have hne : o.dst ≠ some d := by
    have := g3 j (fun e => hjA (e ▸ h.sub p hp))
    unfold dstOf at this
    rw [hj] at this
    simpa using this
  cases hd : o.dst with
  | none => exact e6
  | some x =>
    have hx : x ≠ d := fun e => hne (by rw [hd, e])
    simp only [Act.put]
    rw [Array.getElem?_setIfInBounds_ne hx]
    exact e6

def noneA (ops : Array Oper) (A : List Nat) (e : Env) : Prop := ∀ i ∈ A, ∀ d, dstOf ops i = some d → e.get d = none

theorem EnvR.putX {C : Cx} {l : List Base} {e : Env} {a : Act} (h : EnvR C l e a) (d : Nat) (v : Value) (hd : e.get d = none) : EnvR C l e (a.put (some d) v) := by
  refine ⟨by simp [Act.put, h.size], h.nod, fun t u hu => ?_⟩
  have hne : d ≠ t := fun e' => by subst e'; rw [hd] at hu; cases hu
  obtain ⟨h1, h2⟩ := h.get t u hu
  exact ⟨by simp only [Act.put]; rw [Array.getElem?_setIfInBounds_ne hne]; exact h1, h2⟩

theorem run_alloc {P : Program} {w : World} {t : TypeId} {i : TypeInfo} {z : Value} (hi : P.info? t = some i) (hz : i.zero = some z) : (Instr.alloc t true (.tuple #[])).run P w = .ok (.pointer (some ⟨w.heap.size, 0, none⟩)) (w.alloc (.cells z.cells t)) := by
  unfold Instr.alloc
  rw [Sem.run_bind, run_zeroValue_some hi hz, Result.andThen_ok]
  simp [newVar_run]

/-- One that comes up early. -/
theorem Erl.more {C : Cx} {ops : Array Oper} {A : List Nat} {l : List Base} {σ : Store} {M : Mo} {ws : World} {ES : List (Nat × Nat)} {a : Act} {w : World} (h : Erl C ops A l σ M ws ES a w) (hA : allocsB ops A = true) (hr : Rel C l σ M w) (hsz : ws.heap.size ≤ w.heap.size)
    {j : Nat} (hjA : j ∈ A) (hjE : j ∉ ES.map (·.1)) {o : Oper} {t : TypeId} {i : TypeInfo} {z : Value} {d : Nat} (hj : ops[j]? = some o) (hop : o.op = .alloc t) (hi : C.P.info? t = some i) (hz : i.zero = some z) (hd : o.dst = some d) (hdn : d < a.tmps.size) :
    Erl C ops A l σ M ws ((j, w.heap.size) :: ES) (a.put o.dst (.pointer (some ⟨w.heap.size, 0, none⟩))) (w.alloc (.cells z.cells t)) := by
  refine ⟨fun p hp => ?_, fun p hp => ?_, fun p hp => ?_, fun p hp => ?_, fun p hp i' ad o' h1 h2 h3 => ?_, ?_, ?_⟩
  · rcases List.mem_cons.1 hp with rfl | hp
    · exact hjA
    · exact h.sub p hp
  · rcases List.mem_cons.1 hp with rfl | hp
    · refine ⟨o, t, i, z, d, hj, hop, hi, hz, hd, ?_, heap_alloc_new w _⟩
      rw [hd]
      simp [Act.put, hdn]
    · obtain ⟨o', t', i', z', d', e1, e2, e3, e4, e5, e6, e7⟩ := h.ent p hp
      refine ⟨o', t', i', z', d', e1, e2, e3, e4, e5, ?_, (Below.heap_alloc w _ _ (Array.getElem?_eq_some_iff.1 e7).1).trans e7⟩
      obtain ⟨q, d0, t0, g1, g2, _, _, _, g3⟩ := allocsB_get hA hjA
      rw [hj] at g1; simp at g1; subst g1
      rw [hd] at g2; simp at g2; subst g2
      have hne : d ≠ d' := by
        have hpj : p.1 ≠ j := fun e => hjE (by rw [← e]; exact List.mem_map_of_mem hp)
        have := g3 p.1 hpj
        unfold dstOf at this
        rw [e1] at this
        simp only [Option.bind_some, e5] at this
        exact fun e => this (by rw [e])
      rw [hd]
      simp only [Act.put]
      rw [Array.getElem?_setIfInBounds_ne hne]
      exact e6
  · rcases List.mem_cons.1 hp with rfl | hp
    · exact hsz
    · exact h.far p hp
  · rcases List.mem_cons.1 hp with rfl | hp
    · exact .inr hr.fr.size
    · exact h.mo p hp
  · rcases List.mem_cons.1 hp with rfl | hp
    · have := hr.lt i' ad o' h1 h2 h3
      simp only
      omega
    · exact h.sep p hp i' ad o' h1 h2 h3
  · rw [List.map_cons, List.nodup_cons]
    refine ⟨fun hm => ?_, h.nod⟩
    obtain ⟨p, hp, he⟩ := List.mem_map.1 hm
    obtain ⟨_, _, _, _, _, _, _, _, _, _, _, e7⟩ := h.ent p hp
    have := (Array.getElem?_eq_some_iff.1 e7).1
    simp only at he
    omega
  · rw [List.map_cons, List.nodup_cons]
    exact ⟨hjE, h.nod1⟩

/-- A quiet call in a drawn region: X: blocks that are nobody's yet. -/
structure CallD (C : Cx) (g : FuncId) (args : List AV) (σ : Store) (M : Mo) (k : Value → Mo → Prop) : Prop where
  bod : hasBody C.P g = true
  run : ∀ l w (X : List Nat), Rel C l σ M w → okL l.length args → (∀ b ∈ X, b < w.heap.size ∧ (b ∈ M.L ∨ M.w.heap.size ≤ b) ∧ ∀ (i : Nat) (ad : Addr) (o : Ob), l[i]? = some (some ad) → σ[i]? = some o → o.live → ad.block ≠ b) →
    Calls C.P g (concL l args).toArray w fun
      | .returned v, w' => ∃ M', Fr [] w w' ∧ Rel C l σ M' w' ∧ (∀ b ∈ X, b ∈ M'.L) ∧ k v M'
      | _, _ => False

def isCall (ops : Array Oper) (i : Nat) : Bool :=
  match ops[i]? with
  | some ⟨_, .call ⟨.value _, _, _⟩, _, _, _, _⟩ => true
  | _ => false

/-- What comes first: what only reckons and reads (as the region's start had it), and calls. -/
def evD1 (C : Cx) (σ σb : Store) (M0 : Mo) (o : Oper) (e : Env) (M : Mo) (k : Env → Mo → Prop) : Prop :=
  match o.op with
  | .call ⟨.value f, args, _⟩ => calleeK e f fun g caps => opsK e args.toList fun vs => appK vs caps fun vs => CallD C g vs σ M fun v M' => putK C.N o.dst (.v v) e fun e => k e M'
  | .pick c x y => boolK e c (fun e => opB e x fun v => putK C.N o.dst v e fun e => k e M) (fun e => opB e y fun v => putK C.N o.dst v e fun e => k e M)
  | op => evLoose C.P e σb M0 op fun v => putK C.N o.dst v e fun e => k e M

/-- How an operation sees the store. -/
def seeS (fl : List (Nat × List Nat)) (i : Nat) (σ σb : Store) (K : Store → Prop) : Prop := match fl with
  | [] => K σb
  | p :: r => match Nat.beq p.1 i with
    | true => K (blur p.2 0 σ)
    | false => seeS r i σ σb K
def ev1 (C : Cx) (all : List Oper) (lds : List Nat) (fl : List (Nat × List Nat)) (σ σb : Store) (M0 : Mo) : List Nat → Env → Mo → (Env → Mo → Prop) → Prop
  | [], e, M, k => k e M
  | i :: r, e, M, k => nthK all i fun o => wantK all o e (fun e => match lds.contains i with
      | true => evLoose C.P e σ M o.op fun v => putK C.N o.dst v e fun e => ev1 C all lds fl σ σb M0 r e M k
      | false => seeS fl i σ σb fun σb' => evD1 C σ σb' M0 o e M fun e M => ev1 C all lds fl σ σb M0 r e M k) (fun e => putK C.N o.dst (.v undef) e fun e => ev1 C all lds fl σ σb M0 r e M k)

def plan1B (ops : Array Oper) (lds A : List Nat) (TS : List (Nat × Nat)) : List Nat → List Nat → Bool
  | [], _ => true
  | i :: r, done => mayB ops done i && !A.contains i && !(TS.any fun p => p.1 == i) && (if lds.contains i then onlyB ops A done i else if isCall ops i then onlyB ops A done i else freeB ops done i) && plan1B ops lds A TS r (i :: done)

section
variable {C : Cx} {ops : Array Oper} {Q : Exit → Act → World → Prop} {l : List Base} {σ : Store} {M0 : Mo} {ws : World} {A : List Nat} {T : List (Nat × Nat)}

/-- All that a walk through the region must bear. -/
structure St (C : Cx) (ops : Array Oper) (A : List Nat) (T : List (Nat × Nat)) (l0 : List Base) (σ0 : Store) (ws : World) (l : List Base) (σ : Store) (M : Mo) (e : Env) (done : List Nat) (ES : List (Nat × Nat)) (arr : Array Bool) (fuel : Nat) (a : Act) (w : World) : Prop where
  env : EnvR C l e a
  rel : Rel C l σ M w
  held : Held C l0 σ0 (TL T arr) ws w
  rch : Rch .any ops arr
  erl : Erl C ops A l σ M ws ES a w
  lst : Lst ops (ES.map (·.1) ++ done) arr
  fuel : cntF arr ≤ fuel
  nona : noneA ops A e
  dn : ∀ x ∈ done, x < ops.size

theorem St.fuel1 {l0 : List Base} {σ0 : Store} {M : Mo} {e : Env} {done : List Nat} {ES : List (Nat × Nat)} {arr : Array Bool} {fuel : Nat} {a : Act} {w : World} (h : St C ops A T l0 σ0 ws l σ M e done ES arr fuel a w) {i : Nat} (hi : i < ops.size) (hd : i ∉ done) (hE : i ∉ ES.map (·.1)) :
    ∃ f, fuel = f + 1 ∧ cntF (arr.setIfInBounds i true) ≤ f := by
  have := cntF_set (h.lst.false hi (by simp only [List.mem_append, not_or]; exact ⟨hE, hd⟩))
  have := h.fuel
  exact ⟨fuel - 1, by omega, by omega⟩

/-- Early: the walk goes on as it stood. -/
theorem St.early {l0 : List Base} {σ0 : Store} {M : Mo} {e : Env} {done : List Nat} {ES : List (Nat × Nat)} {arr : Array Bool} {fuel : Nat} {a : Act} {w : World} (h : St C ops A T l0 σ0 ws l σ M e done ES arr fuel a w) (hA : allocsB ops A = true)
    {j : Nat} (hjA : j ∈ A) (hjT : j ∉ T.map (·.1)) (hjr : j ∈ Region.ready .any ops arr) (hd : j ∉ done) (hE : j ∉ ES.map (·.1)) (hzero : ∀ t o, ops[j]? = some o → o.op = .alloc t → ∃ i z, C.P.info? t = some i ∧ i.zero = some z) (hN : ∀ d, dstOf ops j = some d → d < C.N)
    {K : Array Bool → Nat → Act → World → Prop}
    (hK : ∀ ES' arr' f a' w', cntF arr' < cntF arr → cntF arr' ≤ f → St C ops A T l0 σ0 ws l σ M e done ES' arr' f a' w' → K arr' f a' w') :
    ∃ f, fuel = f + 1 ∧ wpOp C.P ops Q j (fun a' w' => Held C l0 σ0 (TL T (arr.setIfInBounds j true)) ws w' ∧ K (arr.setIfInBounds j true) f a' w') a w := by
  obtain ⟨o, d, t, g1, g2, g3, g4, g5, g6⟩ := allocsB_get hA hjA
  have hjn : j < ops.size := (Array.getElem?_eq_some_iff.1 g1).1
  obtain ⟨f, hf, hc⟩ := h.fuel1 hjn hd hE
  obtain ⟨i, z, hi, hz⟩ := hzero t o g1 g3
  refine ⟨f, hf, ?_⟩
  have hdd : dstOf ops j = some d := by simp [dstOf, g1, g2]
  have hdn : d < a.tmps.size := by rw [h.env.size]; exact hN d hdd
  have hw : Region.wanted o (yielded ops a.tmps) = true := by unfold Region.wanted; rw [g4]
  unfold wpOp
  simp only [g1, hw, if_true]
  left
  have hrun : (execOp a.eval o).run C.P w = .ok (.value (.pointer (some ⟨w.heap.size, 0, none⟩))) (w.alloc (.cells z.cells t)) := by
    unfold execOp
    rw [g3]
    exact valOk (run_alloc hi hz)
  unfold Oper.wp
  rw [hrun]
  simp only [Oper.upon]
  have hfr := frAlloc w (.cells z.cells t)
  refine ⟨(TL_set hjT arr).symm ▸ h.held.step hfr, hK ((j, w.heap.size) :: ES) _ f _ _ (by have := cntF_set (h.lst.false hjn (by simp only [List.mem_append, not_or]; exact ⟨hE, hd⟩)); omega) hc
    ⟨?_, h.rel.step hfr, (TL_set hjT arr).symm ▸ h.held.step hfr, h.rch.set hjr, h.erl.more hA h.rel h.held.size hjA hE g1 g3 hi hz g2 hdn, ?_, hc, h.nona, h.dn⟩⟩
  · rw [g2]; exact h.env.putX d _ (h.nona j hjA d hdd)
  · exact (h.lst.set j).perm fun x => by simp

theorem noneA_put {e : Env} (h : noneA ops A e) (hA : allocsB ops A = true) {j : Nat} {o : Oper} (hj : ops[j]? = some o) (hjA : j ∉ A) {d : Nat} (hd : o.dst = some d) (v : AV) : noneA ops A ((d, v) :: e) := by
  intro i hi d' hd'
  obtain ⟨q, d0, t, g1, g2, _, _, _, g3⟩ := allocsB_get hA hi
  have e0 : d0 = d' := by simpa [dstOf, g1, g2] using hd'
  subst e0
  have hne : d ≠ d0 := by
    have := g3 j (fun x => hjA (x ▸ hi))
    simp only [dstOf, hj, Option.bind_some, hd] at this
    exact fun x => this (by rw [x])
  unfold Env.get
  cases hb : Nat.beq d d0 with
  | true => exact absurd (Nat.eq_of_beq_eq_true hb) hne
  | false => exact h i hi d0 hd'

theorem noneA.same {e e' : Env} (h : noneA ops A e) (hs : Same e e') : noneA ops A e' := fun i hi d hd => hs d (h i hi d hd)

end
end Go.Gw

namespace Go.Gw
open Go Go.RowKit

section
variable {C : Cx} {ops : Array Oper} {Q : Exit → Act → World → Prop} {l : List Base} {σ : Store} {M0 : Mo} {ws : World} {A : List Nat} {T : List (Nat × Nat)}

/-- What is asked of the region as it stands. -/
structure Reg (C : Cx) (ops : Array Oper) (A : List Nat) (T : List (Nat × Nat)) (l : List Base) (σ : Store) (M0 : Mo) (ws : World) (Q : Exit → Act → World → Prop) : Prop where
  sel : Region.noSelect ops = true
  al : allocsB ops A = true
  rel : Rel C l σ M0 ws
  ownT : ownT σ (T.map (·.2))
  tsA : ∀ x ∈ A, x ∉ T.map (·.1)
  zero : ∀ j ∈ A, ∀ t o, ops[j]? = some o → o.op = .alloc t → ∃ i z, C.P.info? t = some i ∧ i.zero = some z
  dst : ∀ j ∈ A, ∀ d, dstOf ops j = some d → d < C.N
  pan : ∀ c a w, ¬ Q (.panic c) a w

def Goal (C : Cx) (ops : Array Oper) (Q : Exit → Act → World → Prop) (l0 : List Base) (σ0 : Store) (T : List (Nat × Nat)) (ws : World) (fuel : Nat) (arr : Array Bool) (a : Act) (w : World) : Prop :=
  wpAnyG C.P .any ops Q (fun arr w => Held C l0 σ0 (TL T arr) ws w) fuel arr a w

theorem St.put {l0 : List Base} {σ0 : Store} {l : List Base} {σ : Store} {M M' : Mo} {e e'' : Env} {done : List Nat} {ES : List (Nat × Nat)} {arr : Array Bool} {fuel f : Nat} {a : Act} {w w' : World} (R : Reg C ops A T l0 σ0 M0 ws Q) (h : St C ops A T l0 σ0 ws l σ M e done ES arr fuel a w)
    {i : Nat} {o : Oper} (hi : ops[i]? = some o) (hiA : i ∉ A) (hiT : i ∉ T.map (·.1)) (hir : i ∈ Region.ready .any ops arr) (v : AV) (he'' : EnvR C l e'' (a.put o.dst (conc l v)))
    (hfr : Fr [] w w') (hrel : Rel C l σ M' w') (hmo : ∀ p ∈ ES, p.2 ∈ M'.L ∨ M'.w.heap.size ≤ p.2) (hc : cntF (arr.setIfInBounds i true) ≤ f) (hnone : noneA ops A e'') :
    St C ops A T l0 σ0 ws l σ M' e'' (i :: done) ES (arr.setIfInBounds i true) f (a.put o.dst (conc l v)) w' := by
  have hin : i < ops.size := (Array.getElem?_eq_some_iff.1 hi).1
  have herl := h.erl.keep R.al hi hiA (conc l v) (w' := w') fun p hp => by
    obtain ⟨_, _, _, _, _, _, _, _, _, _, _, e7⟩ := h.erl.ent p hp
    exact hfr.block _ (Array.getElem?_eq_some_iff.1 e7).1 (by simp)
  exact ⟨he'', hrel, (TL_set hiT arr).symm ▸ h.held.step hfr, h.rch.set hir, ⟨herl.sub, herl.ent, herl.far, hmo, herl.sep, herl.nod, herl.nod1⟩, (h.lst.set i).perm fun x => by
      simp only [List.mem_cons, List.mem_append]
      constructor
      · rintro (h | h | h)
        · exact .inr (.inl h)
        · exact .inl h
        · exact .inr (.inr h)
      · rintro (h | h | h)
        · exact .inr (.inl h)
        · exact .inl h
        · exact .inr (.inr h), hc, hnone, fun x hx => by
      rcases List.mem_cons.1 hx with rfl | hx
      · exact hin
      · exact h.dn x hx⟩

theorem putN {e : Env} (hn : noneA ops A e) (hA : allocsB ops A = true) {i : Nat} {o : Oper} (hi : ops[i]? = some o) (hiA : i ∉ A) (v : AV) {l : List Base} {a : Act} (he : EnvR C l e a) {k : Env → Prop} (hk : putK C.N o.dst v e k) :
    ∃ e'', k e'' ∧ noneA ops A e'' ∧ (v.ok l.length → EnvR C l e'' (a.put o.dst (conc l v))) := by
  unfold putK at hk
  cases hd : o.dst with
  | none => rw [hd] at hk; exact ⟨e, hk, hn, fun _ => he⟩
  | some d =>
    rw [hd] at hk
    simp only at hk
    cases hb : Nat.blt d C.N with
    | false => rw [hb] at hk; exact hk.elim
    | true =>
      rw [hb] at hk
      exact ⟨(d, v) :: e, hk, noneA_put hn hA hi hiA hd v, fun hv => he.put d v (by simpa [Nat.blt_eq] using hb) hv⟩

/-- One taken first. -/
theorem take1 (R : Reg C ops A T l σ M0 ws Q) {M : Mo} {e : Env} {done : List Nat} {i : Nat} (hm : mayB ops done i = true) (hiA : i ∉ A) (hiT : i ∉ T.map (·.1)) {Tb : List Nat} (hTb : ownT σ Tb) (hbf : befT ops T i Tb = true) (hf : freeB ops done i = true) {o : Oper} (hi : ops[i]? = some o)
    {ES : List (Nat × Nat)} {arr : Array Bool} {fuel : Nat} {a : Act} {w : World} (h : St C ops A T l σ ws l σ M e done ES arr fuel a w)
    {e' : Env} (he' : EnvR C l e' a) (hs : Same e e') (v : AV) (hv : v.ok l.length)
    (hy : (Region.wanted o (yielded ops a.tmps) = true ∧ ∀ w', Held C l σ Tb ws w' → (execOp a.eval o).run C.P w' = .ok (.value (conc l v)) w') ∨ (Region.wanted o (yielded ops a.tmps) = false ∧ conc l v = undef))
    {k : Env → Prop} (hk : putK C.N o.dst v e' k) (next : ∀ e'' ES arr fuel a w, k e'' → St C ops A T l σ ws l σ M e'' (i :: done) ES arr fuel a w → Goal C ops Q l σ T ws fuel arr a w) : Goal C ops Q l σ T ws fuel arr a w := by
  have hin : i < ops.size := (Array.getElem?_eq_some_iff.1 hi).1
  have hid : i ∉ done := by
    unfold mayB at hm
    rw [hi] at hm
    simp only [Bool.and_eq_true, Bool.not_eq_true', List.contains_eq_mem, decide_eq_false_iff_not] at hm
    exact hm.1
  have hiE : i ∉ ES.map (·.1) := fun hx => by
    obtain ⟨p, hp, he⟩ := List.mem_map.1 hx
    exact hiA (he ▸ h.erl.sub p hp)
  obtain ⟨f, rfl, hc⟩ := h.fuel1 hin hid hiE
  obtain ⟨e'', h1, h2, h3⟩ := putN (h.nona.same hs) R.al hi hiA v he' hk
  have hir : i ∈ Region.ready .any ops arr := by
    refine may_ready hm h.lst (fun x hx => List.mem_append.2 (.inr hx)) (by simp only [List.mem_append, not_or]; exact ⟨hiE, hid⟩) fun x hx => ?_
    rcases List.mem_append.1 hx with hx | hx
    · obtain ⟨p, hp, he⟩ := List.mem_map.1 hx
      obtain ⟨_, _, _, g, _⟩ := allocsB_get R.al (h.erl.sub p hp)
      rw [← he]
      exact (Array.getElem?_eq_some_iff.1 g).1
    · exact h.dn x hx
  refine wpAnyG_take (oi := o) (v := conc l v) hi R.sel (free_free hf h.lst (fun x hx => List.mem_append.2 (.inr hx))) (List.contains_iff_mem.2 hir) (fun c a w q => absurd q (R.pan _ _ _)) (fun arr w => by rw [TL_set hiT]) h.rch ?_ h.held ?_
  · exact hy.imp (fun ⟨g1, g2⟩ => ⟨g1, fun w' ⟨arr', q1, q2, q3⟩ => g2 w' (q3.mono R.rel hTb (befT_sub hbf q1 q2))⟩) id
  · exact next e'' ES _ f _ _ h1 (h.put R hi hiA hiT hir v (h3 hv) (Fr.refl _ _) h.rel h.erl.mo hc h2)

/-- One that alone may come up, beside new variables. -/
theorem strict1 (R : Reg C ops A T l σ M0 ws Q) {M : Mo} {e : Env} {done : List Nat} {i : Nat} (hm : mayB ops done i = true) (hiA : i ∉ A) (ho : onlyB ops A done i = true) {o : Oper} (hi : ops[i]? = some o)
    {l1 : List Base} {σ1 : Store}
    (step : ∀ ES arr f a w, St C ops A T l σ ws l1 σ1 M e done ES arr (f + 1) a w → cntF (arr.setIfInBounds i true) ≤ f → i ∈ Region.ready .any ops arr → wpOp C.P ops Q i (fun a' w' => Held C l σ (TL T (arr.setIfInBounds i true)) ws w' ∧ Goal C ops Q l σ T ws f (arr.setIfInBounds i true) a' w') a w) :
    ∀ (n : Nat) ES arr fuel a w, cntF arr = n → St C ops A T l σ ws l1 σ1 M e done ES arr fuel a w → Goal C ops Q l σ T ws fuel arr a w := by
  have hin : i < ops.size := (Array.getElem?_eq_some_iff.1 hi).1
  have hid : i ∉ done := by
    unfold mayB at hm
    rw [hi] at hm
    simp only [Bool.and_eq_true, Bool.not_eq_true', List.contains_eq_mem, decide_eq_false_iff_not] at hm
    exact hm.1
  intro n
  induction n using Nat.strongRecOn with
  | _ n ih =>
    intro ES arr fuel a w hn h
    have hiE : i ∉ ES.map (·.1) := fun hx => by
      obtain ⟨p, hp, he⟩ := List.mem_map.1 hx
      exact hiA (he ▸ h.erl.sub p hp)
    obtain ⟨f, rfl, hc⟩ := h.fuel1 hin hid hiE
    have hlt : ∀ x ∈ ES.map (·.1) ++ done, x < ops.size := fun x hx => by
      rcases List.mem_append.1 hx with hx | hx
      · obtain ⟨p, hp, he⟩ := List.mem_map.1 hx
        obtain ⟨_, _, _, g, _⟩ := allocsB_get R.al (h.erl.sub p hp)
        rw [← he]
        exact (Array.getElem?_eq_some_iff.1 g).1
      · exact h.dn x hx
    have hrdy := may_ready hm h.lst (fun x hx => List.mem_append.2 (.inr hx)) (by simp only [List.mem_append, not_or]; exact ⟨hiE, hid⟩) hlt
    refine ⟨fun hx => (by rw [hx] at hrdy; cases hrdy), fun j hj => ?_⟩
    rcases ready_sub ho h.lst (fun x hx => List.mem_append.2 (.inr hx)) (fun x hx => by
      rcases List.mem_append.1 hx with hx | hx
      · obtain ⟨p, hp, he⟩ := List.mem_map.1 hx
        exact .inr (he ▸ h.erl.sub p hp)
      · exact .inl hx) j hj with rfl | ⟨hjA, hjn⟩
    · exact step ES arr f a w h hc hj
    · simp only [List.mem_append, not_or] at hjn
      obtain ⟨f', hff, hw⟩ := h.early (Q := Q) R.al hjA (R.tsA j hjA) hj hjn.2 hjn.1 (R.zero j hjA) (R.dst j hjA) (K := fun arr' f' a' w' => Goal C ops Q l σ T ws f' arr' a' w') (fun ES' arr' f' a' w' hlt hle hst => ih (cntF arr') (by omega) ES' arr' f' a' w' rfl hst)
      have : f' = f := by omega
      subst this
      exact hw

theorem befT_all (ops : Array Oper) (T : List (Nat × Nat)) (i : Nat) : befT ops T i (T.map (·.2)) = true := List.all_eq_true.2 fun p hp => by
  simp only [Bool.or_eq_true, List.contains_iff_mem]
  exact .inl (List.mem_map_of_mem hp)
theorem seeS_iff {σ : Store} {i : Nat} {K : Store → Prop} : ∀ {fl : List (Nat × List Nat)}, (∀ p ∈ fl, ownT σ p.2 ∧ befT ops T p.1 p.2 = true) → ownT σ (T.map (·.2)) → seeS fl i σ (blur (T.map (·.2)) 0 σ) K → ∃ Tb, ownT σ Tb ∧ befT ops T i Tb = true ∧ K (blur Tb 0 σ)
  | [], _, h2, h => ⟨_, h2, befT_all ops T i, h⟩
  | p :: r, h1, h2, h => by
    unfold seeS at h
    cases hb : Nat.beq p.1 i with
    | true =>
      rw [hb] at h
      obtain ⟨g1, g2⟩ := h1 p (List.mem_cons_self ..)
      exact ⟨p.2, g1, Nat.eq_of_beq_eq_true hb ▸ g2, h⟩
    | false =>
      rw [hb] at h
      exact seeS_iff (fun q hq => h1 q (List.mem_cons_of_mem _ hq)) h2 h
/-- The first stage. -/
theorem stage1 {lds : List Nat} {fl : List (Nat × List Nat)} (hfl : ∀ p ∈ fl, ownT σ p.2 ∧ befT ops T p.1 p.2 = true) (R : Reg C ops A T l σ M0 ws Q) : ∀ (p1 : List Nat) (e : Env) (M : Mo) (done : List Nat) {k : Env → Mo → Prop}, plan1B ops lds A T p1 done = true → ev1 C ops.toList lds fl σ (blur (T.map (·.2)) 0 σ) M0 p1 e M k →
    (∀ e M ES arr fuel a w, k e M → St C ops A T l σ ws l σ M e (p1.reverse ++ done) ES arr fuel a w → Goal C ops Q l σ T ws fuel arr a w) →
    ∀ ES arr fuel a w, St C ops A T l σ ws l σ M e done ES arr fuel a w → Goal C ops Q l σ T ws fuel arr a w
  | [], e, M, done, k, _, h, next, ES, arr, fuel, a, w, hst => next e M ES arr fuel a w h (by simpa using hst)
  | i :: r, e, M, done, k, hp, h, next, ES, arr, fuel, a, w, hst => by
    unfold plan1B at hp
    simp only [Bool.and_eq_true, Bool.not_eq_true', List.contains_eq_mem, decide_eq_false_iff_not] at hp
    obtain ⟨⟨⟨⟨hm, hiA⟩, hiT⟩, hcls⟩, hp⟩ := hp
    replace hiT : i ∉ T.map (·.1) := fun hx => by
      obtain ⟨p, hp1, hp2⟩ := List.mem_map.1 hx
      rw [List.any_eq_false] at hiT
      exact hiT p hp1 (by simp [hp2])
    unfold ev1 at h
    obtain ⟨o, hol, h⟩ := nthK_iff h
    have hi : ops[i]? = some o := by simpa using hol
    have ih := fun e M (h : ev1 C ops.toList lds fl σ (blur (T.map (·.2)) 0 σ) M0 r e M k) => stage1 hfl R r e M (i :: done) hp h (fun e M ES arr fuel a w hk hs => next e M ES arr fuel a w hk (by
      have : (i :: r).reverse ++ done = r.reverse ++ (i :: done) := by simp
      rw [this]; exact hs))
    by_cases hld : lds.contains i = true
    · rw [if_pos (by simpa using hld)] at hcls
      refine strict1 R hm hiA hcls hi ?_ _ ES arr fuel a w rfl hst
      intro ES arr f a w hst hc hir
      obtain ⟨e', he', hs, h⟩ := wantK_sound h hst.env
      rw [hld] at h
      simp only at h
      unfold wpOp
      simp only [hi]
      by_cases hw : Region.wanted o (yielded ops a.tmps) = true
      · rw [if_pos hw] at h
        rw [if_pos hw]
        left
        obtain ⟨v, h1, h2, h3⟩ := evLoose_sound h l a he' ⟨w, hst.rel⟩
        obtain ⟨e'', q2, q3, q4⟩ := putN (hst.nona.same hs) R.al hi hiA v he' h3
        have hst' := hst.put (M' := M) R hi hiA hiT hir v (q4 h2) (Fr.refl _ _) hst.rel hst.erl.mo hc q3
        unfold Oper.wp
        rw [h1 w hst.rel]
        exact ⟨hst'.held, ih e'' M q2 ES _ f _ _ hst'⟩
      · rw [if_neg hw] at h
        rw [if_neg hw]
        obtain ⟨e'', q2, q3, q4⟩ := putN (hst.nona.same hs) R.al hi hiA (.v undef) he' h
        have hst' := hst.put (M' := M) R hi hiA hiT hir (.v undef) (q4 trivial) (Fr.refl _ _) hst.rel hst.erl.mo hc q3
        exact ⟨hst'.held, ih e'' M q2 ES _ f _ _ hst'⟩
    rw [if_neg (by simpa using hld)] at hcls
    replace hld : lds.contains i = false := by simpa using hld
    rw [hld] at h
    simp only at h
    by_cases hcall : isCall ops i = true
    · rw [if_pos hcall] at hcls
      refine strict1 R hm hiA hcls hi ?_ _ ES arr fuel a w rfl hst
      intro ES arr f a w hst hc hir
      obtain ⟨e', he', hs, h⟩ := wantK_sound h hst.env
      unfold wpOp
      simp only [hi]
      by_cases hw : Region.wanted o (yielded ops a.tmps) = true
      · rw [if_pos hw] at h
        rw [if_pos hw]
        left
        unfold isCall at hcall
        rw [hi] at hcall
        split at hcall
        case h_2 => cases hcall
        rename_i dst f' args tys ty pos after guard heq
        simp at heq
        subst heq
        obtain ⟨Tb, -, -, h⟩ := seeS_iff hfl R.ownT h
        unfold evD1 at h
        simp only at h
        unfold calleeK at h
        obtain ⟨fv, h1, h2, h⟩ := opK_sound h he'
        split at h
        case h_2 => exact h.elim
        rename_i g caps
        obtain ⟨vs, h3, h4, h⟩ := opsK_sound he' h
        replace h := appK_iff h
        have hrun : (execOp a.eval ⟨dst, .call ⟨.value f', args, tys⟩, ty, pos, after, guard⟩).run C.P w = .ok (.enter g (concL l (vs ++ caps)).toArray) w := by
          unfold execOp
          have ha : args.map a.eval = (concL l vs).toArray := Array.ext' (by simpa using h3)
          simp only [resolve, ha, h1, conc, Deferred.ofValue, Sem.run_bind, Sem.run_pure, Result.andThen_ok, invoke]
          rw [run_callFunc h.bod]
          congr 2
          apply Array.ext'
          simp [concL_app]
        unfold Oper.wp
        rw [hrun]
        simp only [Oper.upon]
        refine (h.run l w (ES.map (·.2)) hst.rel (okL_append h4 h2) fun b hb => ?_).mono fun en w' hen => ?_
        · obtain ⟨p, hp', rfl⟩ := List.mem_map.1 hb
          obtain ⟨_, _, _, _, _, _, _, _, _, _, _, e7⟩ := hst.erl.ent p hp'
          exact ⟨(Array.getElem?_eq_some_iff.1 e7).1, hst.erl.mo p hp', hst.erl.sep p hp'⟩
        · cases en with
          | returned v =>
            obtain ⟨M', g1, g2, g3, g4⟩ := hen
            obtain ⟨e'', q2, q3, q4⟩ := putN (hst.nona.same hs) R.al hi hiA (.v v) he' g4
            have hst' := hst.put (M' := M') R hi hiA hiT hir (.v v) (q4 trivial) g1 g2 (fun p hp' => .inl (g3 _ (List.mem_map_of_mem hp'))) hc q3
            exact ⟨hst'.held, ih e'' M' q2 ES _ f _ _ hst'⟩
          | panicked _ => exact hen.elim
          | outgrown => exact hen.elim
      · rw [if_neg hw] at h
        rw [if_neg hw]
        obtain ⟨e'', q2, q3, q4⟩ := putN (hst.nona.same hs) R.al hi hiA (.v undef) he' h
        have hst' := hst.put (M' := M) R hi hiA hiT hir (.v undef) (q4 trivial) (Fr.refl _ _) hst.rel hst.erl.mo hc q3
        exact ⟨hst'.held, ih e'' M q2 ES _ f _ _ hst'⟩
    · rw [if_neg hcall] at hcls
      obtain ⟨e', he', hs, h⟩ := wantK_sound h hst.env
      by_cases hw : Region.wanted o (yielded ops a.tmps) = true
      · rw [if_pos hw] at h
        obtain ⟨Tb, hTb, hbf, h⟩ := seeS_iff hfl R.ownT h
        unfold evD1 at h
        split at h
        · rename_i f args tys hop
          exfalso
          apply hcall
          unfold isCall
          rw [hi]
          obtain ⟨a1, a2, a3, a4, a5, a6⟩ := o
          simp only at hop
          subst hop
          rfl
        · rename_i c x y hop
          obtain ⟨b, e2, h1, h2, hs2, h⟩ := boolK_sound h he'
          have hsame : Same e e2 := fun d hd => hs2 d (hs d hd)
          have hrun : ∀ w', (execOp a.eval o).run C.P w' = .ok (.value (if b then a.eval x else a.eval y)) w' := fun w' => by
            unfold execOp
            rw [hop]
            simp only [h1, asBool, Sem.run_bind, Sem.run_pure, Result.andThen_ok]
          cases b with
          | true =>
            obtain ⟨v, h3, h4, h⟩ := opB_sound h h2
            exact take1 R hm hiA hiT hTb hbf hcls hi hst h2 hsame v h4 (.inl ⟨hw, fun w' _ => by rw [hrun w']; simp [h3]⟩) h fun e'' ES arr fuel a w hk hs' => ih e'' M hk ES arr fuel a w hs'
          | false =>
            obtain ⟨v, h3, h4, h⟩ := opB_sound h h2
            exact take1 R hm hiA hiT hTb hbf hcls hi hst h2 hsame v h4 (.inl ⟨hw, fun w' _ => by rw [hrun w']; simp [h3]⟩) h fun e'' ES arr fuel a w hk hs' => ih e'' M hk ES arr fuel a w hs'
        · obtain ⟨v, h1, h2, h3⟩ := evLoose_sound h l a he' ⟨_, (Held.refl (T := Tb) R.rel).rel R.rel hTb⟩
          exact take1 R hm hiA hiT hTb hbf hcls hi hst he' hs v h2 (.inl ⟨hw, fun w' hw' => h1 w' (hw'.rel R.rel hTb)⟩) h3 fun e'' ES arr fuel a w hk hs' => ih e'' M hk ES arr fuel a w hs'
      · rw [if_neg hw] at h
        exact take1 R hm hiA hiT R.ownT (befT_all ops T i) hcls hi hst he' hs (.v undef) trivial (.inr ⟨by simpa using hw, rfl⟩) h fun e'' ES arr fuel a w hk hs' => ih e'' M hk ES arr fuel a w hs'

end
end Go.Gw

namespace Go.Gw
open Go Go.RowKit

/-! ### The second stage: new variables; the third: stores -/

def evA (C : Cx) (all : List Oper) : List Nat → Env → Store → (Env → Store → Prop) → Prop
  | [], e, σ, k => k e σ
  | i :: r, e, σ, k => nthK all i fun o => match o.op with
    | .alloc t => evAlloc C.P σ t fun v σ' => putK C.N o.dst v e fun e => evA C all r e σ' k
    | _ => False

/-- Objects that came in the region lie in what was not there at its start. -/
structure Pre (l l' : List Base) (ws : World) : Prop where
  pre : ∃ x, l' = l ++ x
  nw : ∀ (i : Nat) (ad : Addr), l.length ≤ i → l'[i]? = some (some ad) → ws.heap.size ≤ ad.block

section
variable {C : Cx} {ops : Array Oper} {Q : Exit → Act → World → Prop} {l : List Base} {σ : Store} {M0 : Mo} {ws : World} {A : List Nat} {T : List (Nat × Nat)}

theorem Reg.sub {A' : List Nat} (R : Reg C ops A T l σ M0 ws Q) (h : ∀ x ∈ A', x ∈ A) : Reg C ops A' T l σ M0 ws Q :=
  ⟨R.sel, List.all_eq_true.2 fun x hx => List.all_eq_true.1 R.al x (h x hx), R.rel, R.ownT, fun j hj => R.tsA j (h j hj), fun j hj => R.zero j (h j hj), fun j hj => R.dst j (h j hj), R.pan⟩

theorem adopt (R : Reg C ops A T l σ M0 ws Q) {a1 : Nat} {r : List Nat} (hA : A = a1 :: r) (hnd : a1 ∉ r) {l' : List Base} {σ' : Store} {M : Mo} {e : Env} {done : List Nat} {ES : List (Nat × Nat)} {arr : Array Bool} {fuel : Nat} {a : Act} {w : World}
    (hp : Pre l l' ws) (h : St C ops A T l σ ws l' σ' M e done ES arr fuel a w) (hE : a1 ∈ ES.map (·.1)) {o : Oper} (ho : ops[a1]? = some o) {t : TypeId} (hop : o.op = .alloc t) {k : Env → Store → Prop}
    (hev : evAlloc C.P σ' t fun v σ'' => putK C.N o.dst v e fun e => k e σ'') :
    ∃ e' l'' σ'' ES', Pre l l'' ws ∧ k e' σ'' ∧ St C ops r T l σ ws l'' σ'' M e' (a1 :: done) ES' arr fuel a w := by
  obtain ⟨p, hpm, hpe⟩ := List.mem_map.1 hE
  obtain ⟨o', t', i', z, d, e1, e2, e3, e4, e5, e6, e7⟩ := h.erl.ent p hpm
  rw [hpe, ho] at e1
  simp at e1; subst e1
  rw [hop] at e2
  simp at e2; subst e2
  unfold evAlloc at hev
  rw [e3] at hev
  simp only at hev
  rw [e4] at hev
  simp only at hev
  replace hev := snocK_iff hev
  rw [e5] at hev
  unfold putK at hev
  simp only at hev
  cases hb : Nat.blt d C.N with
  | false => rw [hb] at hev; exact hev.elim
  | true =>
    rw [hb] at hev
    have hfar := h.erl.far p hpm
    have hws := R.rel.ent.size
    have hcl : (AV.v z).cells.length = z.cells.size := by
      have := congrArg List.length (conc_cells [] (.v z))
      rw [concL_length] at this
      rw [← this]
      simp [conc]
    have hrel : Rel C (l' ++ [some ⟨p.2, 0, none⟩]) (σ' ++ [⟨some (t, (AV.v z).cells.length), .lit (AV.v z).cells⟩]) M w := by
      refine h.rel.snoc _ _ (.inr ⟨p.2, z.cells, rfl, e7, hcl.symm, ?_⟩) (ok_cells (a := .v z) trivial) (fun ad he _ => ?_) (fun ad he _ hx => ?_) (fun ad he _ i ad' o' g1 g2 g3 _ => ?_)
      · have hcc : concL l' (AV.v z).cells = z.cells.toList := (conc_cells l' (.v z)).symm
        show List.take (AV.v z).cells.length z.cells.toList = concL l' (AV.v z).cells
        rw [hcc]
        exact List.take_of_length_le (by simp [hcl])
      · simp at he; subst he
        exact ⟨h.erl.mo p hpm, .inr (Nat.le_trans hws hfar)⟩
      · simp at he; subst he
        have := h.rel.bd _ hx
        simp at this
        omega
      · simp at he; subst he
        exact h.erl.sep p hpm i ad' o' g1 g2 g3
    have hlen := h.rel.len
    refine ⟨_, l' ++ [some ⟨p.2, 0, none⟩], _, ES.filter (fun q => q.1 != a1), ⟨?_, fun i ad hi hx => ?_⟩, hev, ?_⟩
    · obtain ⟨x, hx⟩ := hp.pre
      exact ⟨x ++ [some ⟨p.2, 0, none⟩], by rw [hx, List.append_assoc]⟩
    · rcases snoc_get _ _ _ _ hx with ⟨_, g⟩ | ⟨_, g⟩
      · exact hp.nw i ad hi g
      · simp at g; subst g; exact hfar
    · have hmem : ∀ q ∈ ES.filter (fun q => q.1 != a1), q ∈ ES ∧ q.1 ≠ a1 := fun q hq => by
        have := List.mem_filter.1 hq
        exact ⟨this.1, by simpa using this.2⟩
      refine ⟨⟨h.env.size, h.env.nod, fun s v hv => ?_⟩, hrel, h.held, h.rch, ⟨fun q hq => ?_, fun q hq => h.erl.ent q (hmem q hq).1, fun q hq => h.erl.far q (hmem q hq).1, fun q hq => h.erl.mo q (hmem q hq).1, fun q hq i ad o' g1 g2 g3 => ?_, ?_, ?_⟩, ?_, h.fuel, ?_, ?_⟩
      · unfold Env.get at hv
        cases hbs : Nat.beq d s with
        | true =>
          rw [hbs] at hv
          have : d = s := Nat.eq_of_beq_eq_true hbs
          simp at hv; subst hv; subst this
          refine ⟨?_, by simp [AV.ok, hlen]⟩
          rw [conc_new _ hlen]
          simpa using e6
        | false => rw [hbs] at hv; exact h.env.ext.get s v hv
      · have := h.erl.sub q (hmem q hq).1
        rw [hA] at this
        rcases List.mem_cons.1 this with g | g
        · exact absurd g (hmem q hq).2
        · exact g
      · rcases snoc_get _ _ _ _ g1 with ⟨g4, g5⟩ | ⟨g4, g5⟩
        · rcases snoc_get _ _ _ _ g2 with ⟨_, g6⟩ | ⟨g6, _⟩
          · exact h.erl.sep q (hmem q hq).1 i ad o' g5 g6 g3
          · rw [hlen] at g4; omega
        · simp at g5; subst g5
          simp only
          intro he
          have hqp : q ≠ p := fun x => (hmem q hq).2 (by rw [x]; exact hpe)
          have : ∀ (L : List (Nat × Nat)), (L.map (·.2)).Nodup → p ∈ L → q ∈ L → p.2 = q.2 → p = q := by
            intro L
            induction L with
            | nil => intro _ h; cases h
            | cons x L ih =>
              intro hn h1 h2 h3
              rw [List.map_cons, List.nodup_cons] at hn
              rcases List.mem_cons.1 h1 with e1 | k1 <;> rcases List.mem_cons.1 h2 with e2 | k2
              · rw [e1, e2]
              · exact absurd (List.mem_map.2 ⟨q, k2, by rw [← h3, e1]⟩) hn.1
              · exact absurd (List.mem_map.2 ⟨p, k1, by rw [h3, e2]⟩) hn.1
              · exact ih hn.2 k1 k2 h3
          exact hqp (this ES h.erl.nod hpm (hmem q hq).1 he).symm
      · exact (List.filter_sublist.map _).nodup h.erl.nod
      · exact (List.filter_sublist.map _).nodup h.erl.nod1
      · refine h.lst.perm fun x => ?_
        simp only [List.mem_append, List.mem_cons, List.mem_map, List.mem_filter]
        constructor
        · rintro (⟨q, hq, rfl⟩ | hx)
          · by_cases hqa : q.1 = a1
            · exact .inr (.inl hqa)
            · exact .inl ⟨q, ⟨hq, by simpa using hqa⟩, rfl⟩
          · exact .inr (.inr hx)
        · rintro (⟨q, hq, rfl⟩ | rfl | hx)
          · exact .inl ⟨q, hq.1, rfl⟩
          · exact .inl ⟨p, hpm, hpe⟩
          · exact .inr hx
      · have hsubA : ∀ x ∈ r, x ∈ A := fun x hx => by rw [hA]; exact List.mem_cons_of_mem _ hx
        have hn : noneA ops r e := fun i hi => h.nona i (hsubA i hi)
        exact noneA_put hn (R.sub hsubA).al ho hnd e5 _
      · intro x hx
        rcases List.mem_cons.1 hx with rfl | hx
        · exact (Array.getElem?_eq_some_iff.1 ho).1
        · exact h.dn x hx

theorem stageA (R : Reg C ops A T l σ M0 ws Q) {done0 : List Nat} (hnews : newsB ops A done0 = true) : ∀ (Ar ad : List Nat) (l' : List Base) (σ' : Store) (e : Env) (M : Mo) {k : Env → Store → Prop}, (∀ x, x ∈ A ↔ x ∈ ad ∨ x ∈ Ar) → (∀ x ∈ Ar, x ∉ ad ++ done0) → Ar.Nodup → Pre l l' ws → evA C ops.toList Ar e σ' k →
    (∀ e l' σ' arr fuel a w, Pre l l' ws → k e σ' → St C ops [] T l σ ws l' σ' M e (Ar.reverse ++ (ad ++ done0)) [] arr fuel a w → Goal C ops Q l σ T ws fuel arr a w) →
    ∀ ES arr fuel a w, St C ops Ar T l σ ws l' σ' M e (ad ++ done0) ES arr fuel a w → Goal C ops Q l σ T ws fuel arr a w
  | [], ad, l', σ', e, M, k, _, _, _, hp, h, next, ES, arr, fuel, a, w, hst => by
    have hES : ES = [] := by
      cases ES with
      | nil => rfl
      | cons p r => exact absurd (hst.erl.sub p (List.mem_cons_self ..)) (by simp)
    subst hES
    exact next e l' σ' arr fuel a w hp h hst
  | a1 :: r, ad, l', σ', e, M, k, hsplit, hdis, hnd, hp, h, next, ES, arr, fuel, a, w, hst => by
    have hRs : ∀ x ∈ a1 :: r, x ∈ A := fun x hx => (hsplit x).2 (.inr hx)
    have R' := R.sub hRs
    rw [List.nodup_cons] at hnd
    obtain ⟨o, d, t, g1, g2, g3, g4, g5, g6⟩ := allocsB_get R'.al (List.mem_cons_self ..)
    unfold evA at h
    obtain ⟨o', ho', h⟩ := nthK_iff h
    have : o' = o := by
      have : ops[a1]? = some o' := by simpa using ho'
      rw [g1] at this; simpa using this.symm
    subst this
    rw [g3] at h
    simp only at h
    have key : ∀ (n : Nat) ES arr fuel a w, cntF arr = n → St C ops (a1 :: r) T l σ ws l' σ' M e (ad ++ done0) ES arr fuel a w → Goal C ops Q l σ T ws fuel arr a w := by
      intro n
      induction n using Nat.strongRecOn with
      | _ n ih =>
        intro ES arr fuel a w hn hst
        by_cases hE : a1 ∈ ES.map (·.1)
        · obtain ⟨e', l'', σ'', ES', q1, q2, q3⟩ := adopt R' rfl hnd.1 hp hst hE g1 g3 h
          refine stageA R hnews r (a1 :: ad) l'' σ'' e' M (fun x => ?_) (fun x hx hm => ?_) hnd.2 q1 q2 (fun e l' σ' arr fuel a w hp hk hs => next e l' σ' arr fuel a w hp hk (by
            have e0 : (a1 :: r).reverse ++ (ad ++ done0) = r.reverse ++ ((a1 :: ad) ++ done0) := by simp
            rw [e0]; exact hs)) ES' arr fuel a w q3
          rw [hsplit x]
          simp only [List.mem_cons]
          constructor
          · rintro (h | h | h)
            · exact .inl (.inr h)
            · exact .inl (.inl h)
            · exact .inr h
          · rintro ((h | h) | h)
            · exact .inr (.inl h)
            · exact .inl h
            · exact .inr (.inr h)
          rcases List.mem_cons.1 (by simpa using hm : x ∈ a1 :: (ad ++ done0)) with rfl | hm
          · exact hnd.1 hx
          · exact hdis x (List.mem_cons_of_mem _ hx) hm
        · have hlt : ∀ x ∈ ES.map (·.1) ++ (ad ++ done0), x < ops.size := fun x hx => by
            rcases List.mem_append.1 hx with hx | hx
            · obtain ⟨p, hp, he⟩ := List.mem_map.1 hx
              obtain ⟨_, _, _, g, _⟩ := allocsB_get R'.al (hst.erl.sub p hp)
              rw [← he]
              exact (Array.getElem?_eq_some_iff.1 g).1
            · exact hst.dn x hx
          have ha1n : a1 < ops.size := (Array.getElem?_eq_some_iff.1 g1).1
          by_cases hd1 : a1 ∈ ad ++ done0
          · -- it can't be done and still wait
            exact absurd hd1 (hdis a1 (List.mem_cons_self ..))
          · have hready : a1 ∈ Region.ready .any ops arr := by
              rw [mem_ready]
              refine ⟨?_, o', g1, fun e he hb => by rw [g5 e he] at hb; cases hb⟩
              rw [hst.lst.getT]
              simp only [List.mem_append, not_or] at hd1
              simp [ha1n, hE, hd1.1, hd1.2]
            obtain ⟨f, rfl, hc⟩ := hst.fuel1 ha1n hd1 hE
            refine ⟨fun hx => (by rw [hx] at hready; cases hready), fun j hj => ?_⟩
            have hj' := hj
            rw [mem_ready] at hj
            obtain ⟨q1, oj, q2, q3⟩ := hj
            have hjn : j < ops.size := (Array.getElem?_eq_some_iff.1 q2).1
            have hjd : j ∉ ES.map (·.1) ++ (ad ++ done0) := fun hx => by
              rw [hst.lst.getT] at q1
              simp only [Bool.or_eq_false_iff, decide_eq_false_iff_not, List.contains_eq_mem] at q1
              exact q1.2 hx
            have hjA : j ∈ a1 :: r := by
              have hall := List.all_eq_true.1 hnews j (by simpa using hjn)
              simp only [Bool.or_eq_true, List.contains_iff_mem] at hall
              have listed : ∀ e ∈ oj.after, Region.binds .any e = true → e.on ∈ ES.map (·.1) ++ (ad ++ done0) := fun e he hb => by
                have := q3 e he hb
                rw [hst.lst.getF] at this
                simp only [Bool.and_eq_true, List.contains_iff_mem] at this
                exact this.2
              simp only [List.mem_append, not_or] at hjd
              rcases hall with ((hall | hall) | hall) | hall
              · exact absurd hall hjd.2.2
              · rcases (hsplit j).1 hall with h | h
                · exact absurd h hjd.2.1
                · exact h
              · exfalso
                unfold waitsB at hall
                rw [q2] at hall
                obtain ⟨e, he, hb⟩ := Array.any_eq_true'.1 hall
                simp only [Bool.and_eq_true, Bool.not_eq_true', binds1, List.contains_eq_mem, decide_eq_false_iff_not] at hb
                have := listed e he hb.1.1
                rcases List.mem_append.1 this with hx | hx
                · obtain ⟨p, hp', he'⟩ := List.mem_map.1 hx
                  exact hb.2 (he' ▸ hRs _ (hst.erl.sub p hp'))
                · rcases List.mem_append.1 hx with hx | hx
                  · exact hb.2 ((hsplit _).2 (.inl hx))
                  · exact hb.1.2 hx
              · exfalso
                rw [q2] at hall
                have := List.all_eq_true.1 hall a1 (hRs a1 (List.mem_cons_self ..))
                obtain ⟨e, he, hb⟩ := Array.any_eq_true'.1 this
                simp only [Bool.and_eq_true, binds1, beq_iff_eq] at hb
                have hx := listed e he hb.1
                rw [hb.2] at hx
                rcases List.mem_append.1 hx with hx | hx
                · exact hE hx
                · exact hd1 hx
            have hjd2 := hjd
            simp only [List.mem_append, not_or] at hjd2
            obtain ⟨f', hff, hw⟩ := hst.early (Q := Q) R'.al hjA (R'.tsA j hjA) hj' (by simp only [List.mem_append, not_or]; exact hjd2.2) hjd2.1 (R'.zero j hjA) (R'.dst j hjA) (K := fun arr' f' a' w' => Goal C ops Q l σ T ws f' arr' a' w') (fun ES' arr' f' a' w' hlt hle hst => ih (cntF arr') (by omega) ES' arr' f' a' w' rfl hst)
            have : f' = f := by omega
            subst this
            exact hw
    exact key _ ES arr fuel a w rfl hst

end
end Go.Gw

namespace Go.Gw
open Go Go.RowKit

def hasP (T : List (Nat × Nat)) (i id : Nat) : Bool := T.any fun p => Nat.beq p.1 i && Nat.beq p.2 id
/-- What comes last: stores into what is told, and what only reckons. -/
def evD3 (C : Cx) (T : List (Nat × Nat)) (n0 i : Nat) (o : Oper) (e : Env) (σ : Store) (M : Mo) (k : Env → Store → Prop) : Prop :=
  match o.op with
  | .store t p x => (match o.dst with
    | some _ => False
    | none => opK e p fun pv => opK e x fun xv => (match pv with
      | .lp id off => (match hasP T i id || Nat.ble n0 id with
        | true => evStore C.P σ t (.lp id off) xv fun σ' => k e σ'
        | false => False)
      | _ => False))
  | .pick c x y => boolK e c (fun e => opB e x fun v => putK C.N o.dst v e fun e => k e σ) (fun e => opB e y fun v => putK C.N o.dst v e fun e => k e σ)
  | op => evLoose C.P e σ M op fun v => putK C.N o.dst v e fun e => k e σ

def ev3 (C : Cx) (all : List Oper) (T : List (Nat × Nat)) (n0 : Nat) (M : Mo) : List Nat → Env → Store → (Env → Store → Prop) → Prop
  | [], e, σ, k => k e σ
  | i :: r, e, σ, k => nthK all i fun o => wantK all o e (fun e => evD3 C T n0 i o e σ M fun e σ => ev3 C all T n0 M r e σ k) (fun e => putK C.N o.dst (.v undef) e fun e => ev3 C all T n0 M r e σ k)

def plan3B (ops : Array Oper) : List Nat → List Nat → Bool
  | [], done => (List.range ops.size).all fun i => done.contains i
  | i :: r, done => mayB ops done i && onlyB ops [] done i && plan3B ops r (i :: done)

section
variable {C : Cx} {ops : Array Oper} {Q : Exit → Act → World → Prop} {l : List Base} {σ : Store} {M0 : Mo} {ws : World} {A : List Nat} {T : List (Nat × Nat)}

theorem stage3 (R : Reg C ops [] T l σ M0 ws Q) {M : Mo} {l' : List Base} (hp : Pre l l' ws) : ∀ (p3 : List Nat) (done : List Nat) (e : Env) (σ' : Store) {k : Env → Store → Prop}, plan3B ops p3 done = true → ev3 C ops.toList T σ.length M p3 e σ' k →
    (∀ e σ' a w, k e σ' → EnvR C l' e a → Rel C l' σ' M w → Q .normal a w) →
    ∀ arr fuel a w, St C ops [] T l σ ws l' σ' M e done [] arr fuel a w → Goal C ops Q l σ T ws fuel arr a w
  | [], done, e, σ', k, hpl, h, next, arr, fuel, a, w, hst => by
    refine wpAnyG_done ?_ (next e σ' a w h hst.env hst.rel) fuel
    unfold plan3B at hpl
    cases hr : Region.ready .any ops arr with
    | nil => rfl
    | cons x xs =>
      exfalso
      have hx : x ∈ Region.ready .any ops arr := by rw [hr]; exact List.mem_cons_self ..
      rw [mem_ready] at hx
      obtain ⟨h1, o, h2, _⟩ := hx
      have hxn : x < ops.size := (Array.getElem?_eq_some_iff.1 h2).1
      have := List.all_eq_true.1 hpl x (by simpa using hxn)
      rw [hst.lst.getT] at h1
      simp only [List.map_nil, List.nil_append, this, Bool.or_true] at h1
      cases h1
  | i :: r, done, e, σ', k, hpl, h, next, arr, fuel, a, w, hst => by
    unfold plan3B at hpl
    simp only [Bool.and_eq_true] at hpl
    obtain ⟨⟨hm, ho⟩, hpl⟩ := hpl
    unfold ev3 at h
    obtain ⟨o, hol, h⟩ := nthK_iff h
    have hi : ops[i]? = some o := by simpa using hol
    have hin : i < ops.size := (Array.getElem?_eq_some_iff.1 hi).1
    have ih := fun e σ' (h : ev3 C ops.toList T σ.length M r e σ' k) => stage3 R hp r (i :: done) e σ' hpl h next
    refine strict1 R hm (by simp) ho hi (l1 := l') (σ1 := σ') (M := M) (e := e) ?_ _ [] arr fuel a w rfl hst
    intro ES arr f a w hst hc hir
    have hES : ES = [] := by
      cases ES with
      | nil => rfl
      | cons p r => exact absurd (hst.erl.sub p (List.mem_cons_self ..)) (by simp)
    subst hES
    have mk : ∀ (e'' : Env) (σ'' : Store) (a' : Act) (w' : World), EnvR C l' e'' a' → Rel C l' σ'' M w' → Held C l σ (TL T (arr.setIfInBounds i true)) ws w' → St C ops [] T l σ ws l' σ'' M e'' (i :: done) [] (arr.setIfInBounds i true) f a' w' := by
      intro e'' σ'' a' w' h1 h2 h3
      exact ⟨h1, h2, h3, hst.rch.set hir, ⟨(fun p hp => by cases hp), (fun p hp => by cases hp), (fun p hp => by cases hp), (fun p hp => by cases hp), (fun p hp => by cases hp), List.nodup_nil, List.nodup_nil⟩, hst.lst.set i, hc, (fun j hj => by cases hj), (fun x hx => (List.mem_cons.1 hx).elim (fun h => h ▸ hin) (hst.dn x))⟩
    have hheld : Held C l σ (TL T (arr.setIfInBounds i true)) ws w := hst.held.mono R.rel (fun x hx => R.ownT x (TL_sub x hx)) (TL_mono i)
    obtain ⟨e', he', hs, h⟩ := wantK_sound h hst.env
    unfold wpOp
    simp only [hi]
    by_cases hw : Region.wanted o (yielded ops a.tmps) = true
    · rw [if_pos hw] at h
      rw [if_pos hw]
      left
      unfold evD3 at h
      split at h
      · rename_i t p x hop
        split at h
        · exact h.elim
        · rename_i hd
          obtain ⟨pv, h1, h2, h⟩ := opK_sound h he'
          obtain ⟨xv, h3, h4, h⟩ := opK_sound h he'
          split at h
          case h_2 => exact h.elim
          rename_i id0 off0 hpv
          split at h
          case h_2 => exact h.elim
          rename_i hT
          obtain ⟨σ'', w', id', off, g, e1, e2, e3, ⟨arr0, arr1, te, e4, e5, e6⟩, h5, h6, h⟩ := evStore_sound h hst.rel h4
          simp at e1
          obtain ⟨rfl, rfl⟩ := e1
          have hrun : (execOp a.eval o).run C.P w = .ok .skip w' := by
            unfold execOp
            rw [hop]
            simp only [h1, h3, Sem.run_bind, h5, Result.andThen_ok]
            rfl
          unfold Oper.wp
          rw [hrun]
          simp only [Oper.upon, hd, Act.put]
          have hh : Held C l σ (TL T (arr.setIfInBounds i true)) ws w' := by
            refine hheld.store g e3 ?_ fun arr t ha => ?_
            · by_cases hid : id0 < l.length
              · left
                have : id0 ∈ TL T (arr.setIfInBounds i true) := by
                  simp only [Bool.or_eq_true] at hT
                  rcases hT with hT | hT
                  · unfold hasP at hT
                    obtain ⟨p, hp1, hp2⟩ := List.any_eq_true.1 hT
                    simp only [Bool.and_eq_true] at hp2
                    refine TL_self ?_ (by rw [hst.lst.1]; exact hin)
                    rw [← Nat.eq_of_beq_eq_true hp2.1, ← Nat.eq_of_beq_eq_true hp2.2]
                    exact hp1
                  · have := Nat.le_of_ble_eq_true hT
                    have := R.rel.len
                    omega
                refine ⟨id0, this, ?_⟩
                obtain ⟨x, hx⟩ := hp.pre
                rw [hx, List.getElem?_append_left hid] at e2
                exact e2
              · right
                exact hp.nw id0 _ (by omega) e2
            · rw [e4] at ha
              simp at ha
              obtain ⟨rfl, rfl⟩ := ha
              exact ⟨arr1, e5, e6⟩
          exact ⟨hh, ih e' σ'' h _ f _ _ (mk e' σ'' _ _ he' h6 hh)⟩
      · rename_i c x y hop
        obtain ⟨b, e2, h1, h2, _, h⟩ := boolK_sound h he'
        have hrun : (execOp a.eval o).run C.P w = .ok (.value (if b then a.eval x else a.eval y)) w := by
          unfold execOp
          rw [hop]
          simp only [h1, asBool, Sem.run_bind, Sem.run_pure, Result.andThen_ok]
        unfold Oper.wp
        rw [hrun]
        simp only [Oper.upon]
        cases b with
        | true =>
          obtain ⟨v, h3, h4, h⟩ := opB_sound h h2
          obtain ⟨e'', h5, h6⟩ := putK_sound h h2 h4
          simp only [if_true, h3]
          exact ⟨hheld, ih e'' σ' h6 _ f _ _ (mk e'' σ' _ _ h5 hst.rel hheld)⟩
        | false =>
          obtain ⟨v, h3, h4, h⟩ := opB_sound h h2
          obtain ⟨e'', h5, h6⟩ := putK_sound h h2 h4
          simp only [Bool.false_eq_true, if_false, h3]
          exact ⟨hheld, ih e'' σ' h6 _ f _ _ (mk e'' σ' _ _ h5 hst.rel hheld)⟩
      · obtain ⟨v, h1, h2, h3⟩ := evLoose_sound h l' a he' ⟨w, hst.rel⟩
        obtain ⟨e'', h5, h6⟩ := putK_sound h3 he' h2
        unfold Oper.wp
        rw [h1 w hst.rel]
        exact ⟨hheld, ih e'' σ' h6 _ f _ _ (mk e'' σ' _ _ h5 hst.rel hheld)⟩
    · rw [if_neg hw] at h
      rw [if_neg hw]
      obtain ⟨e'', h1, h2⟩ := putK_sound h he' (l := l') trivial
      exact ⟨hheld, ih e'' σ' h2 _ f _ _ (mk e'' σ' _ _ h1 hst.rel hheld)⟩

end

/-! ### The whole -/

def zeroB (P : Program) (ops : Array Oper) (A : List Nat) (N : Nat) : Bool :=
  A.all fun j => match ops[j]? with
    | some ⟨some d, .alloc t, _, _, _, _⟩ => Nat.blt d N && (match P.info? t with | some i => i.zero.isSome | none => false)
    | _ => false
def ownB (σ : Store) (T : List Nat) : Bool := T.all fun id => match σ[id]? with | some ⟨some _, _⟩ => true | _ => false
theorem ownB_iff {σ : Store} {T : List Nat} (h : ownB σ T = true) : ownT σ T := fun i hi => by
  have := List.all_eq_true.1 h i hi
  split at this
  · rename_i t c ho; exact ⟨_, ho, rfl⟩
  · cases this
def noneB (ops : Array Oper) (A : List Nat) (e : Env) : Bool := A.all fun i => match dstOf ops i with | some d => (match e.get d with | none => true | some _ => false) | none => true
def nodupB : List Nat → Bool
  | [] => true
  | x :: r => !r.contains x && nodupB r
theorem nodupB_iff : ∀ {l : List Nat}, nodupB l = true → l.Nodup
  | [], _ => List.nodup_nil
  | x :: r, h => by
    simp only [nodupB, Bool.and_eq_true, Bool.not_eq_true', List.contains_eq_mem, decide_eq_false_iff_not] at h
    exact List.nodup_cons.2 ⟨h.1, nodupB_iff h.2⟩
def planB (P : Program) (N : Nat) (ops : Array Oper) (lds : List Nat) (fl : List (Nat × List Nat)) (p1 A p3 : List Nat) (T : List (Nat × Nat)) : Bool :=
  P.follows .mixedOrders && Region.noSelect ops && allocsB ops A && zeroB P ops A N && nodupB A && plan1B ops lds A T p1 [] && newsB ops A p1.reverse && A.all (fun x => !p1.contains x) && plan3B ops p3 (A.reverse ++ p1.reverse) && fl.all (fun p => befT ops T p.1 p.2) && A.all (fun x => !(T.any fun p => p.1 == x))

def evDraw (C : Cx) (ops : Array Oper) (lds : List Nat) (fl : List (Nat × List Nat)) (p1 A p3 : List Nat) (T : List (Nat × Nat)) (K : Env → Store → Mo → Prop) (e : Env) (σ : Store) (M : Mo) : Prop :=
  ev1 C ops.toList lds fl σ (blur (T.map (·.2)) 0 σ) M p1 e M fun e M' => evA C ops.toList A e σ fun e σ' => ev3 C ops.toList T σ.length M' p3 e σ' fun e σ'' => K e σ'' M'

theorem drawS_ {C : Cx} {ops : Array Oper} {K : AK} {e : Env} {σ : Store} {M : Mo} (lds : List Nat) (fl : List (Nat × List Nat)) (p1 A p3 : List Nat) (T : List (Nat × Nat)) (hpl : planB C.P C.N ops lds fl p1 A p3 T = true) (hT : (ownB σ (T.map (·.2)) && fl.all fun p => ownB σ p.2) = true) (hn : noneB ops A e = true)
    (h : evDraw C ops lds fl p1 A p3 T (fun e σ M => K .normal e σ M) e σ M) : DrawK C ops K e σ M :=
  ⟨fun id => ⟨fun Q hQ l a w he hr => by
    unfold planB at hpl
    simp only [Bool.and_eq_true] at hpl
    obtain ⟨⟨⟨⟨⟨⟨⟨⟨⟨⟨hm, hsel⟩, hal⟩, hz⟩, hnd⟩, hp1⟩, hnews⟩, hdis⟩, hp3⟩, hfl⟩, hTA⟩ := hpl
    simp only [Bool.and_eq_true] at hT
    have hr' := hr.drew
    have hT' : ownT σ (T.map (·.2)) := ownB_iff hT.1
    have hfl' : ∀ p ∈ fl, ownT σ p.2 ∧ befT ops T p.1 p.2 = true := fun p hp => ⟨ownB_iff (List.all_eq_true.1 hT.2 p hp), List.all_eq_true.1 hfl p hp⟩
    have hTA' : ∀ x ∈ A, x ∉ T.map (·.1) := fun x hx hm => by
      obtain ⟨p, hp1, hp2⟩ := List.mem_map.1 hm
      have := List.all_eq_true.1 hTA x hx
      simp only [Bool.not_eq_true', List.any_eq_false] at this
      exact this p hp1 (by simp [hp2])
    have R1 : ∀ j ∈ A, ∀ t o, ops[j]? = some o → o.op = .alloc t → ∃ i z, C.P.info? t = some i ∧ i.zero = some z := fun j hj t o ho hop => by
        have := List.all_eq_true.1 hz j hj
        rw [ho] at this
        obtain ⟨d0, op0, x1, x2, x3, x4⟩ := o
        simp only at hop
        subst hop
        cases d0 with
        | none => cases this
        | some d0 =>
          simp only [Bool.and_eq_true] at this
          obtain ⟨_, this⟩ := this
          cases hi : C.P.info? t with
          | none => rw [hi] at this; cases this
          | some i =>
            rw [hi] at this
            simp only at this
            obtain ⟨z, hz⟩ := Option.isSome_iff_exists.1 this
            exact ⟨i, z, rfl, hz⟩
    have R2 : ∀ j ∈ A, ∀ d, dstOf ops j = some d → d < C.N := fun j hj d hd => by
        have := List.all_eq_true.1 hz j hj
        unfold dstOf at hd
        split at this
        · rename_i d0 t0 _ _ _ _ ho
          rw [ho] at hd
          simp at hd; subst hd
          simp only [Bool.and_eq_true] at this
          simpa [Nat.blt_eq] using this.1
        · cases this
    have R : Reg C ops A T l σ M w.drew (NoPanic' Q) := ⟨hsel, hal, hr', hT', hTA', R1, R2, fun _ _ _ h => h⟩
    refine Code.wp_mono NoPanic'.imp (wp_region_G (S := fun arr w' => Held C l σ (TL T arr) w.drew w') hm ?_)
    have hst : St C ops A T l σ w.drew l σ M e [] [] (Array.replicate ops.size false) ops.size a w.drew := by
      refine ⟨he, hr', .refl hr', Rch.start ops, ⟨(fun p hp => by cases hp), (fun p hp => by cases hp), (fun p hp => by cases hp), (fun p hp => by cases hp), (fun p hp => by cases hp), List.nodup_nil, List.nodup_nil⟩, Lst.start ops, ?_, fun i hi d hd => ?_, fun x hx => by cases hx⟩
      · unfold cntF
        rw [Array.toList_replicate, cntL_rep]
        exact Nat.le_refl _
      · have := List.all_eq_true.1 hn i hi
        rw [hd] at this
        simp only at this
        split at this
        · assumption
        · cases this
    refine stage1 hfl' R p1 e M [] hp1 h (fun e1 M1 ES arr fuel a w hk hs => ?_) [] _ _ _ _ hst
    rw [List.append_nil] at hs
    refine stageA R hnews A [] l σ e1 M1 (fun x => by simp) (fun x hx hm => ?_) (nodupB_iff hnd) ⟨⟨[], by simp⟩, fun i ad hi h1 => ?_⟩ hk (fun e2 l2 σ2 arr fuel a w hp hk hs => ?_) ES arr fuel a w hs
    · have := List.all_eq_true.1 hdis x hx
      simp only [List.nil_append, List.mem_reverse] at hm
      simp [hm] at this
    · rw [List.getElem?_eq_none (by omega)] at h1; cases h1
    · exact stage3 (R.sub (by simp)) hp p3 _ e2 σ2 hp3 hk (fun e3 σ3 a w hk he hr => hQ _ _ _ _ l2 a w hk he hr) arr fuel a w hs⟩⟩

theorem draw_ {C : Cx} {ops : Array Oper} {K : AK} {e : Env} {σ : Store} {M : Mo} (fl : List (Nat × List Nat)) (p1 A p3 : List Nat) (T : List (Nat × Nat)) (hpl : planB C.P C.N ops [] fl p1 A p3 T = true) (hT : (ownB σ (T.map (·.2)) && fl.all fun p => ownB σ p.2) = true) (hn : noneB ops A e = true)
    (h : evDraw C ops [] fl p1 A p3 T (fun e σ M => K .normal e σ M) e σ M) : DrawK C ops K e σ M := drawS_ [] fl p1 A p3 T hpl hT hn h

end Go.Gw

namespace Go.Gw
open Go Go.RowKit

/-! ### What a call sees -/

structure Sees (C : Cx) (l : List Base) (σ : Store) (M m : Mo) : Prop where
  rel : Rel C l σ M m.w
  okm : m.okm
  le : M.Le m
  row : ∀ (id : Nat) (c : Cells) (off n : Nat), σ[id]? = some ⟨none, c⟩ → m.row (Base.up (l.getD id none) off) (((c.conc l).drop off).take n)

theorem Rel.sees {C : Cx} {l : List Base} {σ : Store} {M : Mo} {w : World} (h : Rel C l σ M w) : Sees C l σ M ⟨owns l σ ++ C.L0, w⟩ :=
  ⟨h, h.bds, h.le2, fun _ _ off n ho => h.row_ro ho off n⟩

theorem Rel.sees2 {C : Cx} {l : List Base} {σ : Store} {M : Mo} {w : World} (h : Rel C l σ M w) {X : List Nat} (hX : ∀ b ∈ X, b < w.heap.size ∧ (b ∈ M.L ∨ M.w.heap.size ≤ b) ∧ ∀ (i : Nat) (ad : Addr) (o : Ob), l[i]? = some (some ad) → σ[i]? = some o → o.live → ad.block ≠ b) :
    Sees C l σ M ⟨X ++ (owns l σ ++ C.L0), w⟩ := by
  refine ⟨h, fun b hb => ?_, ⟨h.fr.size, fun b hb hn => ?_⟩, fun id c off n ho => ?_⟩
  · rcases List.mem_append.1 hb with hb | hb
    · exact (hX b hb).1
    · exact h.bds b hb
  · obtain ⟨h1, h2⟩ := h.le2.keep b hb hn
    refine ⟨h1, fun hm => ?_⟩
    rcases List.mem_append.1 hm with hm | hm
    · rcases (hX b hm).2.1 with h3 | h3
      · exact hn h3
      · omega
    · exact h2 hm
  · rcases h.row_ro ho off n with hr | ⟨bb, oo, ha, hr⟩
    · exact .inl hr
    · refine .inr ⟨bb, oo, ha, fun i x hx => ?_⟩
      obtain ⟨h1, h2⟩ := hr i x hx
      refine ⟨fun hm => ?_, h2⟩
      rcases List.mem_append.1 hm with hm | hm
      · have hid : id < l.length := by rw [h.len]; exact (List.getElem?_eq_some_iff.1 ho).1
        have hne : c.len ≠ 0 := by
          intro h0
          have : c.conc l = [] := List.eq_nil_of_length_eq_zero (by rw [Cells.conc_length]; exact h0)
          rw [this] at hx
          simp at hx
        obtain ⟨ad, e1, e2, e3⟩ := h.reads ho hne
        have hl : l[id]? = some (some ad) := by
          rw [List.getElem?_eq_getElem hid]
          simpa [List.getD, List.getElem?_eq_getElem hid] using e1
        have := (hX bb hm).2.2 id ad _ hl ho (.inr hne)
        rw [e1] at ha
        simp only [Base.up, Option.map_some, Option.some.injEq, Addr.mk.injEq] at ha
        exact this ha.1
      · exact h1 hm

theorem Sees.ints {C : Cx} {l : List Base} {σ : Store} {M m : Mo} (h : Sees C l σ M m) {id : Nat} {kd : IntKind} {xs : List Int} (ho : σ[id]? = some ⟨none, .ints kd xs⟩) (off n c : Nat) (hn : off + n ≤ xs.length) (hc : n ≤ c) :
    m.ints (conc l (.ls id off n c)) kd ((xs.drop off).take n) := by
  have hlen : ((xs.drop off).take n).length = n := by simp; omega
  refine ⟨Base.up (l.getD id none) off, c, ?_, by omega, fun ad hh => ?_, ?_⟩
  · rw [hlen]
    simp only [conc]
    cases l.getD id none <;> rfl
  · unfold Base.up at hh
    cases hq : l.getD id none with
    | none => rw [hq] at hh; cases hh
    | some q => rw [hq] at hh; simp at hh; subst hh; rfl
  · have := h.row id _ off n ho
    simp only [Cells.conc, ← List.map_drop, ← List.map_take] at this
    exact this
theorem Sees.ints0 {C : Cx} {l : List Base} {σ : Store} {M m : Mo} (h : Sees C l σ M m) {id : Nat} {kd : IntKind} {xs : List Int} (ho : σ[id]? = some ⟨none, .ints kd xs⟩) {c : Nat} (hc : xs.length ≤ c) :
    m.ints (conc l (.ls id 0 xs.length c)) kd xs := by
  simpa using h.ints ho 0 xs.length c (by omega) hc

/-- A call that gives a value. -/
theorem callS_ {C : Cx} {g : FuncId} {args : List AV} {σ : Store} {M : Mo} {k : VK} {R : Mo → Value → Prop} (hb : hasBody C.P g = true)
    (h : ∀ l m, Sees C l σ M m → Calls C.P g (concL l args).toArray m.w (Post m R)) (k' : ∀ M' v, M.Le M' → R M' v → k (.v v) σ M') : CallK C g args σ M k :=
  call_ hb (fun l w hr => h l ⟨owns l σ ++ C.L0, w⟩ hr.sees) k'

/-- A call that gives a row of numbers. -/
theorem callSi_ {C : Cx} {g : FuncId} {args : List AV} {σ : Store} {M : Mo} {k : VK} {kd : IntKind} {I : List Int → Prop} (hb : hasBody C.P g = true)
    (h : ∀ l m, Sees C l σ M m → Calls C.P g (concL l args).toArray m.w (Post m fun m v => ∃ xs, I xs ∧ m.ints v kd xs))
    (k' : ∀ M' c xs, M.Le M' → I xs → xs.length ≤ c → k (.ls σ.length 0 xs.length c) (σ ++ [⟨none, .ints kd xs⟩]) M') : CallK C g args σ M k :=
  calli_ hb (fun l w hr => h l ⟨owns l σ ++ C.L0, w⟩ hr.sees) k'

/-- A call in a drawn region. -/
theorem callD_ {C : Cx} {g : FuncId} {args : List AV} {σ : Store} {M : Mo} {k : Value → Mo → Prop} {R : Mo → Value → Prop} (hb : hasBody C.P g = true)
    (h : ∀ l m, Sees C l σ M m → Calls C.P g (concL l args).toArray m.w (Post m R)) (k' : ∀ M' v, M.Le M' → R M' v → k v M') : CallD C g args σ M k :=
  ⟨hb, fun l w X hr _ hX => (h l ⟨X ++ (owns l σ ++ C.L0), w⟩ (hr.sees2 hX)).mono fun e w' ⟨v, h1, h2, h3⟩ => by
    subst h1
    have hs := hr.sees2 hX
    refine ⟨⟨X ++ (owns l σ ++ C.L0), w'⟩, h2, ?_, fun b hb => List.mem_append.2 (.inl hb), k' _ v (hs.le.trans (Fr.le h2 _)) h3⟩
    exact (hr.step h2).later (Fr.refl _ _) (fun b hb => List.mem_append.2 (.inr (List.mem_append.2 (.inr hb)))) fun i b o g1 g2 g3 => .inl (List.mem_append.2 (.inr (List.mem_append.2 (.inl (mem_owns.2 ⟨i, b, o, g1, g2, g3, rfl⟩)))))⟩

/-! ### What is own becomes what is read -/

def pubS (σ : Store) (id : Nat) : Store := match σ[id]? with
  | some o => σ.set id ⟨none, o.c⟩
  | none => σ

theorem Rel.pub {C : Cx} {l : List Base} {σ : Store} {M : Mo} {w : World} (h : Rel C l σ M w) (id : Nat) : ∃ M', M.Le M' ∧ Rel C l (pubS σ id) M' w := by
  unfold pubS
  cases ho : σ[id]? with
  | none => exact ⟨M, .refl M, h⟩
  | some ob =>
    have hid : id < σ.length := (List.getElem?_eq_some_iff.1 ho).1
    have hset : ∀ (i : Nat) (o : Ob), (σ.set id ⟨none, ob.c⟩)[i]? = some o → ∃ o', σ[i]? = some o' ∧ (o.own.isSome = true → o'.own.isSome = true) ∧ (o.live → o'.live) ∧ (o = o' ∨ (i = id ∧ o = ⟨none, ob.c⟩ ∧ o' = ob)) := by
      intro i o hi
      by_cases e : id = i
      · subst e
        rw [List.getElem?_set_self hid] at hi
        simp at hi; subst hi
        refine ⟨ob, ho, (fun h => by cases h), (fun hl => hl.elim (fun h => by cases h) .inr), .inr ⟨rfl, rfl, rfl⟩⟩
      · rw [List.getElem?_set_ne e] at hi
        exact ⟨o, hi, fun h => h, fun h => h, .inl rfl⟩
    refine ⟨⟨owns l σ ++ C.L0, w⟩, h.le2, ?_⟩
    refine ⟨by simp [h.len], h.bd, h.ent, Fr.refl _ _, fun b hb => List.mem_append.2 (.inr hb), fun i b o hb hi => ?_, fun i b o hb hi hown => ?_, fun i b o hb hi hl => ?_, fun i j b b' o o' hij hb hb' hi hj hown hl => ?_, h.pin⟩
    · obtain ⟨o', h1, _, _, h4⟩ := hset i o hi
      obtain ⟨g1, g2⟩ := h.ob i b o' hb h1
      rcases h4 with rfl | ⟨_, rfl, rfl⟩
      · exact ⟨g1, g2⟩
      · refine ⟨?_, g2⟩
        by_cases hz : o'.c.len = 0
        · exact .inl hz
        · right
          obtain ⟨ad, e1, e2, e3⟩ := h.reads h1 hz
          have hlt : i < l.length := by rw [h.len]; exact (List.getElem?_eq_some_iff.1 h1).1
          refine ⟨ad, ?_, e2, e3⟩
          rw [← e1]
          simp [List.getD, hb]
    · obtain ⟨o', h1, h2, _, _⟩ := hset i o hi
      exact ⟨.inl (List.mem_append.2 (.inl (mem_owns.2 ⟨i, b, o', hb, h1, h2 hown, rfl⟩))), (h.own i b o' hb h1 (h2 hown)).2⟩
    · obtain ⟨o', h1, _, h3, _⟩ := hset i o hi
      exact h.out i b o' hb h1 (h3 hl)
    · obtain ⟨p, h1, h2, _, _⟩ := hset i o hi
      obtain ⟨p', h1', _, h3', _⟩ := hset j o' hj
      exact h.dis i j b b' p p' hij hb hb' h1 h1' (h2 hown) (h3' hl)

/-- The owned blocks given up are not owned any more: what was own before the moment is told anew. -/
theorem Rel.pub2 {C : Cx} {l : List Base} {σ : Store} {M : Mo} {w : World} (h : Rel C l σ M w) (id : Nat) : ∃ M', M.Le M' ∧ Rel C l (pubS σ id) M' w ∧ M'.w = w := by
  obtain ⟨M1, h1, h2⟩ := h.pub id
  exact ⟨⟨owns l (pubS σ id) ++ C.L0, w⟩, h1.trans h2.le2, h2.later (Fr.refl _ _) (fun b hb => List.mem_append.2 (.inr hb)) (fun i b o g1 g2 g3 => .inl (List.mem_append.2 (.inl (mem_owns.2 ⟨i, b, o, g1, g2, g3, rfl⟩)))), rfl⟩

theorem CallK.pub {C : Cx} {g : FuncId} {args : List AV} {σ : Store} {M : Mo} {k : VK} (id : Nat) (h : ∀ M', M.Le M' → CallK C g args (pubS σ id) M' k) : CallK C g args σ M k :=
  ⟨(h M (.refl M)).bod, fun l w hr hok => by
    obtain ⟨M', h1, h2⟩ := hr.pub id
    exact (h M' h1).run l w h2 hok⟩
theorem DrawK.pub {C : Cx} {ops : Array Oper} {K : AK} {e : Env} {σ : Store} {M : Mo} (id : Nat) (h : ∀ M', M.Le M' → DrawK C ops K e (pubS σ id) M') : DrawK C ops K e σ M :=
  ⟨fun r => ⟨fun Q hQ l a w he hr => by
    obtain ⟨M', h1, h2⟩ := hr.pub id
    exact ((h M' h1).out r).out Q hQ l a w he h2⟩⟩
theorem LoopK.pub {C : Cx} {c : Code} {K : AK} {e : Env} {σ : Store} {M : Mo} (id : Nat) (h : ∀ M', M.Le M' → LoopK C c K e (pubS σ id) M') : LoopK C c K e σ M :=
  ⟨⟨fun Q hQ l a w he hr => by
    obtain ⟨M', h1, h2⟩ := hr.pub id
    exact (h M' h1).out.out Q hQ l a w he h2⟩⟩
theorem FinK.pub {C : Cx} {R : Ending → World → Prop} {v : AV} {σ : Store} {M : Mo} (id : Nat) (h : ∀ M', M.Le M' → FinK C R v (pubS σ id) M') : FinK C R v σ M :=
  ⟨fun l w hr hv => by
    obtain ⟨M', h1, h2⟩ := hr.pub id
    exact (h M' h1).out l w h2 hv⟩

/-! ### Ends that tell of rows that are read -/

/-- What a body gives back, seen from outside. -/
theorem fin_see {C : Cx} {σ : Store} {M : Mo} {v : AV} {R : Mo → Value → Prop} (hmu : C.mu = []) (h : ∀ l m, Sees C l σ M m → (∀ b ∈ C.L0, b ∈ m.L) → R ⟨C.L0, m.w⟩ (conc l v)) : FinK C (Post ⟨C.L0, C.w0⟩ R) v σ M :=
  ⟨fun l w hr _ => ⟨_, rfl, by simpa [hmu] using hr.ent, h l ⟨owns l σ ++ C.L0, w⟩ hr.sees (fun b hb => List.mem_append.2 (.inr hb))⟩⟩

theorem Mo.ints.less {L L' : List Nat} {w : World} {v : Value} {kd : IntKind} {xs : List Int} (h : Mo.ints ⟨L, w⟩ v kd xs) (hl : ∀ b ∈ L', b ∈ L) : Mo.ints ⟨L', w⟩ v kd xs := by
  obtain ⟨a, c, h1, h2, h3, h4⟩ := h
  refine ⟨a, c, h1, h2, h3, ?_⟩
  rcases h4 with h4 | ⟨b, o, ha, h4⟩
  · exact .inl h4
  · exact .inr ⟨b, o, ha, fun i x hx => ⟨fun hm => (h4 i x hx).1 (hl _ hm), (h4 i x hx).2⟩⟩

end Go.Gw

namespace Go.Gw
open Go Go.RowKit

/-! ### What is told, under other numbers -/

theorem Rel.ren {C : Cx} {l : List Base} {σ : Store} {M : Mo} {w : World} (h : Rel C l σ M w) (l' : List Base) (σ' : Store) (f : Nat → Option Nat) (hlen : l'.length = σ'.length)
    (hinj : ∀ i j k, f i = some k → f j = some k → i = j)
    (hs : ∀ (j i : Nat) (o : Ob), f j = some i → σ'[j]? = some o → ∃ o0, σ[i]? = some o0 ∧ l'[j]? = l[i]? ∧ o.own = o0.own ∧ o.c.conc l' = o0.c.conc l)
    (hn : ∀ (j : Nat) (o : Ob), f j = none → σ'[j]? = some o → o.c.len = 0 ∧ (o.own = none ∨ ∃ t, o.own = some (t, 0) ∧ l'[j]? = some none))
    (hok : ∀ (j : Nat) (o : Ob), σ'[j]? = some o → o.c.ok l'.length) (hp : ∀ i, i < C.mu.length → l'[i]? = l[i]?) : Rel C l' σ' M w := by
  have hlenc : ∀ (o o0 : Ob), o.c.conc l' = o0.c.conc l → o.c.len = o0.c.len := fun o o0 e => by
    rw [← Cells.conc_length l', ← Cells.conc_length l, e]
  have hlive : ∀ (j : Nat) (b : Addr) (o : Ob), l'[j]? = some (some b) → σ'[j]? = some o → (o.own.isSome = true ∨ o.live) → ∃ i o0, f j = some i ∧ σ[i]? = some o0 ∧ l[i]? = some (some b) ∧ o.own = o0.own ∧ (o.live → o0.live) := by
    intro j b o hb ho hl
    have hl : o.live := hl.elim .inl (fun x => x)
    cases hf : f j with
    | none =>
      obtain ⟨h1, h2⟩ := hn j o hf ho
      rcases hl with hl | hl
      · rcases h2 with h2 | ⟨t, h2, h3⟩
        · rw [h2] at hl; cases hl
        · rw [hb] at h3; cases h3
      · exact absurd h1 hl
    | some i =>
      obtain ⟨o0, h1, h2, h3, h4⟩ := hs j i o hf ho
      refine ⟨i, o0, rfl, h1, h2 ▸ hb, h3, fun hl => ?_⟩
      rcases hl with hl | hl
      · exact .inl (h3 ▸ hl)
      · exact .inr (by rw [← hlenc o o0 h4]; exact hl)
  refine ⟨hlen, h.bd, h.ent, h.fr, h.sub, fun j b o hb ho => ⟨?_, hok j o ho⟩, fun j b o hb ho hown => ?_, fun j b o hb ho hl => ?_, fun j k b b' o o' hjk hb hb' ho ho' hown hl => ?_, fun i b hb => by
    rw [hp i (List.getElem?_eq_some_iff.1 hb).1]; exact h.pin i b hb⟩
  · cases hf : f j with
    | none =>
      obtain ⟨h1, h2⟩ := hn j o hf ho
      unfold ObR
      rcases h2 with h2 | ⟨t, h2, h3⟩
      · rw [h2]; exact .inl h1
      · rw [h2]
        rw [hb] at h3
        simp at h3
        exact .inl ⟨h3, h1, rfl⟩
    | some i =>
      obtain ⟨o0, h1, h2, h3, h4⟩ := hs j i o hf ho
      have h5 := hlenc o o0 h4
      obtain ⟨g1, _⟩ := h.ob i b o0 (h2 ▸ hb) h1
      unfold ObR at g1 ⊢
      rw [h3, h4, h5]
      exact g1
  · obtain ⟨i, o0, _, h2, h3, h4, _⟩ := hlive j b o hb ho (.inl hown)
    exact h.own i b o0 h3 h2 (h4 ▸ hown)
  · obtain ⟨i, o0, _, h2, h3, _, h5⟩ := hlive j b o hb ho (.inr hl)
    exact h.out i b o0 h3 h2 (h5 hl)
  · obtain ⟨i, o0, e1, h2, h3, h4, _⟩ := hlive j b o hb ho (.inl hown)
    obtain ⟨i', o0', e1', h2', h3', _, h5'⟩ := hlive k b' o' hb' ho' (.inr hl)
    exact h.dis i i' b b' o0 o0' (fun e => hjk (hinj j k i e1 (e ▸ e1'))) h3 h3' h2 h2' (h4 ▸ hown) (h5' hl)

def dead : Ob := ⟨none, .lit []⟩
/-- The object moves to the end. -/
theorem Rel.move {C : Cx} {l : List Base} {σ : Store} {M : Mo} {w : World} (h : Rel C l σ M w) {id : Nat} {o : Ob} (ho : σ[id]? = some o) :
    Rel C (l ++ [l.getD id none]) (σ.set id dead ++ [o]) M w := by
  have hid : id < σ.length := (List.getElem?_eq_some_iff.1 ho).1
  have hl := h.len
  have hcases : ∀ (j : Nat) (p : Ob), (σ.set id dead ++ [o])[j]? = some p → (j = σ.length ∧ p = o) ∨ (j = id ∧ p = dead) ∨ (j < σ.length ∧ j ≠ id ∧ σ[j]? = some p) := by
    intro j p hj
    rcases snoc_get _ _ _ _ hj with ⟨h1, h2⟩ | ⟨h1, h2⟩
    · simp only [List.length_set] at h1
      by_cases e : id = j
      · subst e
        rw [List.getElem?_set_self hid] at h2
        simp at h2
        exact .inr (.inl ⟨rfl, h2.symm⟩)
      · rw [List.getElem?_set_ne e] at h2
        exact .inr (.inr ⟨h1, fun x => e x.symm, h2⟩)
    · exact .inl ⟨by simpa using h1, h2⟩
  refine h.ren _ _ (fun j => if j = σ.length then some id else if j = id then none else some j) (by simp [hl]) ?_ ?_ ?_ ?_ (fun i hi => List.getElem?_append_left (by
    have := h.pin i C.mu[i] (List.getElem?_eq_getElem hi)
    exact (List.getElem?_eq_some_iff.1 this).1))
  · intro i j k h1 h2
    split at h1
    · split at h2
      · omega
      · split at h2
        · cases h2
        · simp at h1 h2; omega
    · split at h1
      · cases h1
      · split at h2
        · simp at h1 h2; omega
        · split at h2
          · cases h2
          · simp at h1 h2; omega
  · intro j i p h1 h2
    rcases hcases j p h2 with ⟨rfl, rfl⟩ | ⟨rfl, rfl⟩ | ⟨g1, g2, g3⟩
    · simp at h1; subst h1
      refine ⟨p, ho, ?_, rfl, Cells.conc_append l _ p.c ((h.ob id _ p (List.getElem?_eq_getElem (by omega)) ho).2)⟩
      rw [List.getElem?_append_right (by omega), hl]
      simp [List.getD, List.getElem?_eq_getElem (show id < l.length by omega)]
    · rw [if_neg (by omega), if_pos rfl] at h1; cases h1
    · rw [if_neg (by omega), if_neg g2] at h1
      simp at h1; subst h1
      refine ⟨p, g3, List.getElem?_append_left (by omega), rfl, Cells.conc_append l _ p.c ((h.ob j _ p (List.getElem?_eq_getElem (by omega)) g3).2)⟩
  · intro j p h1 h2
    rcases hcases j p h2 with ⟨rfl, rfl⟩ | ⟨rfl, rfl⟩ | ⟨g1, g2, g3⟩
    · simp at h1
    · exact ⟨rfl, .inl rfl⟩
    · rw [if_neg (by omega), if_neg g2] at h1; cases h1
  · intro j p h2
    rcases hcases j p h2 with ⟨rfl, rfl⟩ | ⟨rfl, rfl⟩ | ⟨g1, g2, g3⟩
    · exact ((h.ob id _ p (List.getElem?_eq_getElem (by omega)) ho).2).mono (by simp)
    · trivial
    · exact ((h.ob j _ p (List.getElem?_eq_getElem (by omega)) g3).2).mono (by simp)

/-! ### Names given anew at a loop's head -/

abbrev Ren := List (Option Nat)
mutual
def renV (r : Ren) : AV → AV
  | .v x => .v x
  | .kb b => .kb b
  | .lp id o => match r.getD id none with
    | some i => .lp i o
    | none => .v (.pointer none)
  | .ls id o n c => match r.getD id none with
    | some i => .ls i o n c
    | none => .v (.slice none n c)
  | .agg cs => .agg (renL r cs)
  | .tup cs => .tup (renL r cs)
  | .fn f cs => .fn f (renL r cs)
def renL (r : Ren) : List AV → List AV
  | [] => []
  | a :: s => renV r a :: renL r s
end
def renC (r : Ren) : Cells → Cells
  | .lit cs => .lit (renL r cs)
  | .ints k xs => .ints k xs
def renB (r : Ren) (l : List Base) : List Base := r.map fun
  | some i => l.getD i none
  | none => none
theorem renB_getD (r : Ren) (l : List Base) (id : Nat) : (renB r l).getD id none = match r.getD id none with | some i => l.getD i none | none => none := by
  unfold renB
  simp only [List.getD, List.getElem?_map]
  cases r[id]? with
  | none => rfl
  | some x => cases x <;> rfl
mutual
theorem ren_conc (r : Ren) (l : List Base) : ∀ v : AV, conc (renB r l) v = conc l (renV r v)
  | .v _ => rfl
  | .kb _ => rfl
  | .lp id o => by simp only [conc, renV, renB_getD]; cases r.getD id none <;> rfl
  | .ls id o n c => by simp only [conc, renV, renB_getD]; cases r.getD id none <;> rfl
  | .agg cs => by simp only [conc, renV, ren_concL r l cs]
  | .tup cs => by simp only [conc, renV, ren_concL r l cs]
  | .fn f cs => by simp only [conc, renV, ren_concL r l cs]
theorem ren_concL (r : Ren) (l : List Base) : ∀ cs : List AV, concL (renB r l) cs = concL l (renL r cs)
  | [] => rfl
  | a :: s => by simp only [concL, renL, ren_conc r l a, ren_concL r l s]
end
theorem renC_conc (r : Ren) (l : List Base) (c : Cells) : c.conc (renB r l) = (renC r c).conc l := by
  cases c with
  | lit cs => exact ren_concL r l cs
  | ints k xs => rfl

def RenE (r : Ren) : Env → Env → Prop
  | [], _ => True
  | (t, v) :: s, e => ((e.get t).map nrm = some (nrm (renV r v)) ∧ v.ok r.length) ∧ RenE r s e
theorem RenE.get {r : Ren} {e : Env} : ∀ {E : Env}, RenE r E e → ∀ t v, E.get t = some v → ∃ u, e.get t = some u ∧ nrm u = nrm (renV r v) ∧ v.ok r.length
  | [], _, t, v, h => by cases h
  | (s, x) :: q, hs, t, v, h => by
    obtain ⟨⟨h1, h0⟩, h2⟩ := hs
    unfold Env.get at h
    cases hb : Nat.beq s t with
    | true =>
      rw [hb] at h
      have : s = t := Nat.eq_of_beq_eq_true hb
      subst this
      simp at h; subst h
      cases hg : e.get s with
      | none => rw [hg] at h1; cases h1
      | some u => rw [hg] at h1; simp at h1; exact ⟨u, rfl, h1, h0⟩
    | false => rw [hb] at h; exact RenE.get h2 t v h

def RenS (r : Ren) (σ : Store) : Ren → Store → Prop
  | [], [] => True
  | some i :: q, o :: s => (σ[i]? = some ⟨o.own, renC r o.c⟩ ∧ o.c.ok r.length) ∧ RenS r σ q s
  | none :: q, o :: s => (o.c.len = 0 ∧ (o.own = none ∨ ∃ t, o.own = some (t, 0)) ∧ o.c.ok r.length) ∧ RenS r σ q s
  | _, _ => False
theorem RenS.get {r : Ren} {σ : Store} : ∀ {q : Ren} {S : Store}, RenS r σ q S → q.length = S.length ∧ ∀ (j : Nat) (x : Option Nat) (o : Ob), q[j]? = some x → S[j]? = some o →
    o.c.ok r.length ∧ (∀ i, x = some i → σ[i]? = some ⟨o.own, renC r o.c⟩) ∧ (x = none → o.c.len = 0 ∧ (o.own = none ∨ ∃ t, o.own = some (t, 0)))
  | [], [], _ => ⟨rfl, fun j x o h => by simp at h⟩
  | some i :: q, p :: s, h => by
    obtain ⟨h1, h2⟩ := RenS.get h.2
    refine ⟨by simp [h1], fun j x o hx ho => ?_⟩
    cases j with
    | zero =>
      simp at hx ho
      subst hx; subst ho
      exact ⟨h.1.2, fun i' hi => by simp at hi; subst hi; exact h.1.1, fun hx => by cases hx⟩
    | succ j => exact h2 j x o (by simpa using hx) (by simpa using ho)
  | none :: q, p :: s, h => by
    obtain ⟨h1, h2⟩ := RenS.get h.2
    refine ⟨by simp [h1], fun j x o hx ho => ?_⟩
    cases j with
    | zero =>
      simp at hx ho
      subst hx; subst ho
      exact ⟨h.1.2.2, (fun i' hi => by cases hi), fun _ => ⟨h.1.1, h.1.2.1⟩⟩
    | succ j => exact h2 j x o (by simpa using hx) (by simpa using ho)

def nodupO : Ren → Bool
  | [] => true
  | none :: r => nodupO r
  | some i :: r => !(r.contains (some i)) && nodupO r
theorem nodupO_inj : ∀ {r : Ren}, nodupO r = true → ∀ (i j k : Nat), r[i]? = some (some k) → r[j]? = some (some k) → i = j
  | [], _, i, j, k, h, _ => by simp at h
  | x :: r, hn, i, j, k, h, h' => by
    have hr : nodupO r = true := by
      cases x with
      | none => exact hn
      | some q => simp only [nodupO, Bool.and_eq_true] at hn; exact hn.2
    have hx : ∀ j : Nat, x = some k → r[j]? = some (some k) → False := by
      intro j e hj
      subst e
      simp only [nodupO, Bool.and_eq_true, Bool.not_eq_true', List.contains_eq_mem, decide_eq_false_iff_not] at hn
      exact hn.1 (List.mem_of_getElem? hj)
    cases i with
    | zero =>
      cases j with
      | zero => rfl
      | succ j => simp at h h'; exact (hx j h h').elim
    | succ i =>
      cases j with
      | zero => simp at h h'; exact (hx i h' h).elim
      | succ j =>
        simp at h h'
        rw [nodupO_inj hr i j k h h']

/-- What is held fast keeps its number. -/
def pinB : List Nat → Nat → Ren → Bool
  | [], _, _ => true
  | _ :: q, n, r => (match r[n]? with
    | some (some i) => Nat.beq i n
    | _ => false) && pinB q (n + 1) r
theorem pinB_get {r : Ren} : ∀ {q : List Nat} {n : Nat}, pinB q n r = true → ∀ i, i < q.length → r[n + i]? = some (some (n + i))
  | [], n, _, i, h => by cases h
  | _ :: q, n, hb, i, h => by
    simp only [pinB, Bool.and_eq_true] at hb
    obtain ⟨h1, h2⟩ := hb
    cases i with
    | zero =>
      split at h1
      · rename_i j hj
        rw [Nat.add_zero, hj, Nat.eq_of_beq_eq_true h1]
      · cases h1
    | succ i =>
      have := pinB_get h2 i (by simpa using h)
      rwa [show n + 1 + i = n + (i + 1) by omega] at this
theorem Ref.ren {C : Cx} {e E : Env} {σ S : Store} {M : Mo} (r : Ren) (hd : nodupO r = true) (hE : RenE r E e) (hS : RenS r σ r S) (hpin : pinB C.mu 0 r = true := by rfl) : Ref C e σ M E S M := fun l a w he hr => by
  obtain ⟨g1, g2⟩ := hS.get
  have hlen : (renB r l).length = r.length := by simp [renB]
  refine ⟨renB r l, ⟨he.size, he.nod, fun t v hv => ?_⟩, ?_⟩
  · obtain ⟨u, h1, h2, h3⟩ := hE.get t v hv
    obtain ⟨h4, h5⟩ := he.get t u h1
    exact ⟨by rw [h4, ren_conc, nrm_conc h2], by rw [hlen]; exact h3⟩
  · refine hr.ren (renB r l) S (fun j => (r[j]?).getD none) (by rw [hlen, g1]) (fun i j k h1 h2 => ?_) (fun j i o h1 h2 => ?_) (fun j o h1 h2 => ?_) (fun j o h2 => ?_) (fun i hi => by
      have h1 := pinB_get hpin i hi
      have h2 := hr.pin i C.mu[i] (List.getElem?_eq_getElem hi)
      rw [Nat.zero_add] at h1
      simp [renB, h1, List.getD, h2])
    · refine nodupO_inj hd i j k ?_ ?_
      · cases hq : r[i]? with
        | none => rw [hq] at h1; cases h1
        | some x => rw [hq] at h1; simp at h1; rw [h1]
      · cases hq : r[j]? with
        | none => rw [hq] at h2; cases h2
        | some x => rw [hq] at h2; simp at h2; rw [h2]
    · cases hq : r[j]? with
      | none => rw [hq] at h1; cases h1
      | some x =>
        rw [hq] at h1
        simp at h1
        subst h1
        obtain ⟨_, h3, _⟩ := g2 j _ o hq h2
        have h4 := h3 i rfl
        have hi : i < l.length := by rw [hr.len]; exact (List.getElem?_eq_some_iff.1 h4).1
        refine ⟨_, h4, ?_, rfl, renC_conc r l o.c⟩
        simp [renB, hq, List.getD, List.getElem?_eq_getElem hi]
    · have hj : j < r.length := by rw [g1]; exact (List.getElem?_eq_some_iff.1 h2).1
      have hq : r[j]? = some none := by
        rw [List.getElem?_eq_getElem hj] at h1 ⊢
        simpa using h1
      obtain ⟨_, _, h3⟩ := g2 j _ o hq h2
      obtain ⟨h4, h5⟩ := h3 rfl
      refine ⟨h4, ?_⟩
      rcases h5 with h5 | ⟨t, h5⟩
      · exact .inl h5
      · exact .inr ⟨t, h5, by simp [renB, hq]⟩
    · have hj : j < r.length := by rw [g1]; exact (List.getElem?_eq_some_iff.1 h2).1
      rw [hlen]
      exact (g2 j _ o (List.getElem?_eq_getElem hj) h2).1

end Go.Gw

namespace Go.Gw
open Go Go.RowKit

/-! ### What is read by an append, a copy -/

structure Rd (C : Cx) (σ : Store) (M : Mo) (x : AV) (tx : TypeId) (kd : IntKind) (news : List Int) : Prop where
  kind : (∃ e', C.P.underlying tx = some (.slice e')) ∨ C.P.underlying tx = some .string
  len : ∀ l w, Rel C l σ M w → ∀ w', (Builtin.lenOf (conc l x)).run C.P w' = .ok news.length w'
  cells : ∀ l w, Rel C l σ M w → ∀ j, j ≤ news.length → (Builtin.firstCells 1 j (conc l x)).run C.P w = .ok ((news.take j).map (.int kd)).toArray w

theorem Rd.src {C : Cx} {σ : Store} {M : Mo} {x : AV} {tx : TypeId} {kd : IntKind} {news : List Int} (h : Rd C σ M x tx kd news) {l : List Base} {w : World} (hr : Rel C l σ M w) : Src C.P 1 tx (conc l x) news.length (news.map (.int kd)) w := by
  refine ⟨h.kind, h.len l w hr, ?_, ?_, by simp, fun u hu => ?_⟩
  · have := h.cells l w hr news.length (Nat.le_refl _)
    rwa [List.take_length] at this
  · have := h.cells l w.drew hr.drew news.length (Nat.le_refl _)
    rwa [List.take_length] at this
  · obtain ⟨n, _, rfl⟩ := List.mem_map.1 hu; rfl

theorem rd_obj {C : Cx} {σ : Store} {M : Mo} {tx e' : TypeId} {kd : IntKind} {xs : List Int} {id : Nat} {ob : Ob} (hk : C.P.underlying tx = some (.slice e')) (ho : σ[id]? = some ob) (hc : ∀ l, ob.c.conc l = xs.map (.int kd)) (off n c : Nat) (hn : off + n ≤ xs.length) :
    Rd C σ M (.ls id off n c) tx kd ((xs.drop off).take n) := by
  have hl : ((xs.drop off).take n).length = n := by simp; omega
  refine ⟨.inl ⟨e', hk⟩, fun l w _ w' => by rw [hl]; rfl, fun l w hr j hj => ?_⟩
  rw [hl] at hj
  rw [List.take_take, Nat.min_eq_left hj]
  by_cases hz : ob.c.len = 0
  · have hx : xs = [] := by
      have := Cells.conc_length l ob.c
      rw [hc l, hz] at this
      simpa using this
    subst hx
    have : j = 0 := by simp at hn; omega
    subst this
    simp only [conc]
    cases l.getD id none with
    | none => exact run_firstCells_none w 1 0 n c
    | some a => exact run_firstCells_some w 1 0 _ n c [] rfl (by simp)
  · obtain ⟨ad, e1, e2, e3⟩ := hr.reads ho hz
    simp only [conc, e1, Base.up, Option.map_some]
    refine run_firstCells_some w 1 j _ n c _ (by simp; omega) fun i v hv => ?_
    rw [List.getElem?_map, List.getElem?_take] at hv
    split at hv
    · rw [List.getElem?_drop] at hv
      have := e3 (off + i) v (by rw [hc l, List.getElem?_map]; exact hv)
      rw [← Nat.add_assoc] at this
      rw [Addr.add_lit]; exact this
    · cases hv
theorem rd_row {C : Cx} {σ : Store} {M : Mo} {tx e' : TypeId} {kd : IntKind} {xs : List Int} {id : Nat} {own : Option (TypeId × Nat)} (hk : C.P.underlying tx = some (.slice e')) (ho : σ[id]? = some ⟨own, .ints kd xs⟩) (c : Nat) :
    Rd C σ M (.ls id 0 xs.length c) tx kd xs := by
  simpa using rd_obj (M := M) hk ho (fun _ => rfl) 0 xs.length c (by omega)
theorem rd_str {C : Cx} {σ : Store} {M : Mo} {tx : TypeId} (hk : C.P.underlying tx = some .string) (s : ByteArray) : Rd C σ M (.v (.string s)) tx .u8 (bytesI s) := by
  have hl : (bytesI s).length = s.size := by unfold bytesI; rw [List.length_map, Array.length_toList]; rfl
  refine ⟨.inr hk, fun l w _ w' => by rw [hl]; rfl, fun l w _ j hj => ?_⟩
  simp only [conc, Builtin.firstCells, Sem.run_pure]
  congr 1
  apply Array.ext'
  simp [bytesI, List.map_take]
  rfl
theorem rd_nil {C : Cx} {σ : Store} {M : Mo} {tx e' : TypeId} {kd : IntKind} (hk : C.P.underlying tx = some (.slice e')) (c : Nat) : Rd C σ M (.v (.slice none 0 c)) tx kd [] :=
  ⟨.inl ⟨e', hk⟩, fun _ _ _ _ => rfl, fun l w _ j hj => by
    have : j = 0 := by simpa using hj
    subst this
    exact run_firstCells_none w 1 0 0 c⟩
theorem rd_op {C : Cx} {σ : Store} {M : Mo} {tx e' : TypeId} {kd : IntKind} {xs : List Int} {v : Value} (hk : C.P.underlying tx = some (.slice e')) (h : M.ints v kd xs) : Rd C σ M (.v v) tx kd xs := by
  obtain ⟨a, c, rfl, h2, h3, h4⟩ := h
  refine ⟨.inl ⟨e', hk⟩, fun l w _ w' => rfl, fun l w hr j hj => ?_⟩
  simp only [conc]
  replace h4 := h4.mono hr.le
  rcases h4 with h4 | ⟨b, o, rfl, h4⟩
  · have hx : xs = [] := by simpa using h4
    subst hx
    have : j = 0 := by simpa using hj
    subst this
    cases a with
    | none => exact run_firstCells_none w 1 0 _ c
    | some a => exact run_firstCells_some w 1 0 _ _ c [] rfl (by simp)
  · simp only [Base.up, Option.map_some]
    refine run_firstCells_some w 1 j _ _ c _ (by simp; omega) fun i v hv => ?_
    rw [List.getElem?_map, List.getElem?_take] at hv
    split at hv
    · have := (h4 i v (by rw [List.getElem?_map]; exact hv)).2
      rw [Addr.add_lit]; exact this
    · cases hv

/-! ### An object given up; a new block of which the head is told -/

theorem Rel.kill {C : Cx} {l : List Base} {σ : Store} {M : Mo} {w : World} (h : Rel C l σ M w) (id : Nat) : Rel C l (σ.set id dead) M w := by
  have hcases : ∀ (j : Nat) (p : Ob), (σ.set id dead)[j]? = some p → (j = id ∧ p = dead) ∨ (j ≠ id ∧ σ[j]? = some p) := by
    intro j p hj
    by_cases e : id = j
    · subst e
      rw [List.getElem?_set] at hj
      simp only [if_true] at hj
      split at hj
      · simp at hj; exact .inl ⟨rfl, hj.symm⟩
      · cases hj
    · rw [List.getElem?_set_ne e] at hj
      exact .inr ⟨fun x => e x.symm, hj⟩
  refine h.ren _ _ (fun j => if j = id then none else some j) (by simp [h.len]) (fun i j k h1 h2 => ?_) (fun j i p h1 h2 => ?_) (fun j p h1 h2 => ?_) (fun j p h2 => ?_) (fun _ _ => rfl)
  · split at h1
    · cases h1
    · split at h2
      · cases h2
      · simp at h1 h2; omega
  · rcases hcases j p h2 with ⟨rfl, rfl⟩ | ⟨g1, g2⟩
    · rw [if_pos rfl] at h1; cases h1
    · rw [if_neg g1] at h1
      simp at h1; subst h1
      exact ⟨p, g2, rfl, rfl, rfl⟩
  · rcases hcases j p h2 with ⟨rfl, rfl⟩ | ⟨g1, g2⟩
    · exact ⟨rfl, .inl rfl⟩
    · rw [if_neg g1] at h1; cases h1
  · rcases hcases j p h2 with ⟨rfl, rfl⟩ | ⟨g1, g2⟩
    · trivial
    · exact (h.ob j _ p (List.getElem?_eq_getElem (by rw [h.len]; exact (List.getElem?_eq_some_iff.1 g2).1)) g2).2

theorem Rel.new' {C : Cx} {l : List Base} {σ : Store} {M : Mo} {w : World} (h : Rel C l σ M w) (t : TypeId) (arr : Array Value) (c : Cells) (hc : arr.toList.take c.len = c.conc l) (hk : c.ok l.length) :
    Rel C (l ++ [some ⟨w.heap.size, 0, none⟩]) (σ ++ [⟨some (t, arr.size), c⟩]) M (w.alloc (.cells arr t)) := by
  have h1 := h.step (w' := w.alloc (.cells arr t)) (.ofBelow ((Below.refl _ _).alloc (Nat.le_refl _) _))
  refine h1.snoc _ _ ?_ hk (fun a e _ => ?_) (fun a e _ hx => ?_) (fun a e _ i b o hb ho hl _ => ?_)
  · exact .inr ⟨_, arr, rfl, heap_alloc_new w _, rfl, hc⟩
  · simp at e; subst e
    exact ⟨.inr h.fr.size, .inr h.ent.size⟩
  · simp at e; subst e
    have := h.bd _ hx
    have := h.ent.size
    simp at *
    omega
  · simp at e; subst e
    have := h.lt i b o hb ho hl
    simp
    omega

/-- What adds an object adds it also where an older one is given up. -/
theorem set_snoc (σ : Store) (id : Nat) (o p : Ob) (h : id < σ.length) : (σ ++ [o]).set id p = σ.set id p ++ [o] := by
  rw [List.set_append_left _ _ h]

theorem zeroCells_size (k : IntKind) (n : Nat) : (Builtin.zeroCells (Value.int k 0).cells n).size = n := by simp [Builtin.zeroCells, Value.cells]

/-! ### append -/

/-- Nothing is told of the first one but its cells. -/
theorem append_ {C : Cx} {t tx e : TypeId} {i : TypeInfo} {kd : IntKind} {σ : Store} {M : Mo} {k : VK} {id cap n : Nat} {c : Cells} {xs news : List Int} {x : AV} (ho : σ[id]? = some ⟨some (e, cap), c⟩) (hc : ∀ l, c.conc l = xs.map (.int kd)) (hn : n = xs.length)
    (hu : C.P.underlying t = some (.slice e)) (hi : C.P.info? e = some i) (hsz : i.size = 1) (hz : i.zero = some (.int kd 0)) (hx : Rd C σ M x tx kd news) (hb : (xs.length + news.length) * i.bytes ≤ 140737488355328) (h63 : xs.length + news.length ≤ 9223372036854775807)
    (k' : ∀ cap', xs.length + news.length ≤ cap' → k (.ls σ.length 0 (xs.length + news.length) cap') (σ.set id dead ++ [⟨some (e, cap'), .ints kd (xs ++ news)⟩]) M) : AppendK C [t, tx] (.ls id 0 n cap) x σ M k :=
  ⟨fun l w ty hr _ _ => by
    subst hn
    have hlc : ∀ l, c.len = xs.length := fun l => by have := Cells.conc_length l c; rw [hc l] at this; simpa using this.symm
    have hlc := hlc l
    have hid : id < l.length := by rw [hr.len]; exact (List.getElem?_eq_some_iff.1 ho).1
    obtain ⟨r, _⟩ := hr.ob id _ _ (List.getElem?_eq_getElem hid) ho
    have hsrc := hx.src hr
    have hgd : l.getD id none = l[id] := by simp [List.getD, List.getElem?_eq_getElem hid]
    by_cases hg : cap < xs.length + news.length
    · have hold : (Builtin.firstCells i.size xs.length (conc l (.ls id 0 xs.length cap))).run C.P w.drew = .ok (xs.map (.int kd)).toArray w.drew := by
        rw [hsz]
        rcases r with ⟨r1, r2, _⟩ | ⟨g, arr, r1, r2, r3, r4⟩
        · simp only at r2
          have : xs = [] := List.eq_nil_of_length_eq_zero (by omega)
          subst this
          simp only [conc, hgd, r1, Base.up, Option.map_none]
          exact run_firstCells_none w.drew 1 0 0 cap
        · simp only [conc, hgd, r1, Base.up, Option.map_some]
          refine run_firstCells_some w.drew 1 xs.length _ xs.length cap _ (by simp) fun j v hv => ?_
          simp only at r4
          rw [hlc, hc l] at r4
          have hv' : arr[j]? = some v := by
            rw [← r4, List.getElem?_take] at hv
            split at hv
            · simpa using hv
            · cases hv
          have : (w.cell? ⟨g, 0 + 0 + j, none⟩) = arr[0 + 0 + j]? := by simp [World.cell?, r2]
          rw [Addr.add_lit]; exact this.trans (by simpa using hv')
      have hrun := run_append_grow_src (P := C.P) w t tx ty e i (.int kd 0) hu hi hz _ xs.length cap _ hold (conc l x) news.length _ (by rw [hsz]; exact hsrc) hg (by omega) (growslice_fits hg hb)
      have hge := grownCap_ge w (xs.length + news.length) cap e
      generalize hcap : grownCap w (xs.length + news.length) cap e = cap' at hrun hge
      have hnew := hr.drew.new' e (((xs.map (Value.int kd) ++ news.map (Value.int kd)).toArray ++ Builtin.zeroCells (Value.int kd 0).cells (cap' - (xs.length + news.length)))) (.ints kd (xs ++ news)) (by
        simp only [Cells.len, Cells.conc, Array.toList_append, List.length_append, List.map_append]
        rw [List.take_append_of_le_length (by simp)]
        rw [List.take_of_length_le (by simp)]) trivial
      have hkill := hnew.kill id
      rw [set_snoc _ _ _ _ (by rw [← hr.len]; exact hid)] at hkill
      have hsize : ((xs.map (Value.int kd) ++ news.map (Value.int kd)).toArray ++ Builtin.zeroCells (Value.int kd 0).cells (cap' - (xs.length + news.length))).size = cap' := by
        rw [Array.size_append, zeroCells_size]
        simp
        omega
      rw [hsize] at hkill
      refine ⟨_, [some ⟨w.heap.size, 0, none⟩], .ls σ.length 0 (xs.length + news.length) cap', _, M, ?_, hkill, ?_, k' cap' hge⟩
      · rw [show (conc (l ++ [some ⟨w.heap.size, 0, none⟩]) (.ls σ.length 0 (xs.length + news.length) cap')) = .slice (some ⟨w.heap.size, 0, none⟩) (xs.length + news.length) cap' by simp [conc, ← hr.len, Base.up]]
        exact hrun
      · simp [AV.ok, hr.len]
    · have hroom : xs.length + news.length ≤ cap := by omega
      by_cases hnw : news = []
      · subst hnw
        have hrun := run_append_nothing (P := C.P) w t tx ty e i hu hi (Base.up (l.getD id none) 0) xs.length cap (by simpa using hroom) (conc l x) (by rw [hsz]; exact hsrc)
        have hset : Rel C l (σ.set id ⟨some (e, cap), .ints kd xs⟩) M w := by
          refine hr.ren l _ (fun j => some j) (by simp [hr.len]) (fun i j k h1 h2 => by simp at h1 h2; omega) (fun j i' p h1 h2 => ?_) (fun j p h1 => by cases h1) (fun j p h2 => ?_) (fun _ _ => rfl)
          · simp at h1; subst h1
            by_cases e : id = j
            · subst e
              rw [List.getElem?_set_self (by rw [← hr.len]; exact hid)] at h2
              simp at h2; subst h2
              exact ⟨_, ho, rfl, rfl, (hc l).symm⟩
            · rw [List.getElem?_set_ne e] at h2
              exact ⟨p, h2, rfl, rfl, rfl⟩
          · by_cases e : id = j
            · subst e
              rw [List.getElem?_set_self (by rw [← hr.len]; exact hid)] at h2
              simp at h2; subst h2
              trivial
            · rw [List.getElem?_set_ne e] at h2
              exact (hr.ob j _ p (List.getElem?_eq_getElem (by rw [hr.len]; exact (List.getElem?_eq_some_iff.1 h2).1)) h2).2
        have hmv := hset.move (id := id) (o := ⟨some (e, cap), .ints kd xs⟩) (by rw [List.getElem?_set_self (by rw [← hr.len]; exact hid)])
        rw [List.set_set] at hmv
        refine ⟨w, [l.getD id none], .ls σ.length 0 (xs.length + 0) cap, _, M, ?_, hmv, ?_, by simpa using k' cap hroom⟩
        · simp only [conc, ← hr.len, List.getD, List.getElem?_append_right (Nat.le_refl _), Nat.sub_self]
          simpa using hrun
        · simp [AV.ok, hr.len]
      · have hpos : 0 < news.length := by
          rcases Nat.eq_zero_or_pos news.length with h | h
          · exact absurd (List.eq_nil_of_length_eq_zero h) hnw
          · exact h
        rcases r with ⟨r1, r2, r3⟩ | ⟨g, arr, r1, r2, r3, r4⟩
        · omega
        · simp only at r4
          rw [hlc, hc l] at r4
          have hrun : (Builtin.append_ #[t, tx] ty #[.slice (some ⟨g, 0, none⟩) xs.length cap, conc l x]).run C.P w = .ok (.slice (some ⟨g, 0, none⟩) (xs.length + news.length) cap) (w.setRow g (arr.toList.take xs.length ++ news.map (Value.int kd) ++ arr.toList.drop (xs.length + news.length)).toArray) := by
            have hst := run_storeCells_at (P := C.P) g xs.length e (news.map (.int kd)) 0 arr w r2 (by simp; omega) (by intro v hv; obtain ⟨q, _, rfl⟩ := List.mem_map.1 hv; rfl)
            simp only [Nat.add_zero, List.length_map] at hst
            rcases hsrc.kind with ⟨e', hk⟩ | hk <;> simp [Builtin.append_, run_underlying hu, run_underlying hk, sizeOf, typeInfo, hi, hsz, hsrc.len, hroom, hsrc.cells, Addr.add_lit, hst]
          have hset := hr.set id e cap c (.ints kd (xs ++ news)) ho g arr (arr' := (arr.toList.take xs.length ++ news.map (Value.int kd) ++ arr.toList.drop (xs.length + news.length)).toArray) (by rw [List.getElem?_eq_getElem hid, r1]) r2 (by simp; omega) (by
            simp only [Cells.len, Cells.conc, List.length_append, List.map_append]
            rw [r4, List.append_assoc, ← List.append_assoc]
            rw [List.take_append_of_le_length (by simp)]
            rw [List.take_of_length_le (by simp)]) trivial
          have hmv := hset.move (id := id) (o := ⟨some (e, cap), .ints kd (xs ++ news)⟩) (by rw [List.getElem?_set_self (by rw [← hr.len]; exact hid)])
          rw [List.set_set] at hmv
          refine ⟨_, [l.getD id none], .ls σ.length 0 (xs.length + news.length) cap, _, M, ?_, hmv, ?_, k' cap hroom⟩
          · have h1 : conc (l ++ [l.getD id none]) (.ls σ.length 0 (xs.length + news.length) cap) = .slice (some ⟨g, 0, none⟩) (xs.length + news.length) cap := by
              simp only [conc, ← hr.len, List.getD, List.getElem?_append_right (Nat.le_refl _), Nat.sub_self, List.getElem?_eq_getElem hid, r1]
              rfl
            have h2 : conc l (.ls id 0 xs.length cap) = .slice (some ⟨g, 0, none⟩) xs.length cap := by
              simp only [conc, hgd, r1]
              rfl
            rw [h1, h2]
            exact hrun
          · simp [AV.ok, hr.len]⟩

/-- Upon nil. -/
theorem append_nil_ {C : Cx} {t tx e : TypeId} {i : TypeInfo} {kd : IntKind} {σ : Store} {M : Mo} {k : VK} {news : List Int} {x : AV}
    (hu : C.P.underlying t = some (.slice e)) (hi : C.P.info? e = some i) (hsz : i.size = 1) (hz : i.zero = some (.int kd 0)) (hx : Rd C σ M x tx kd news) (hb : news.length * i.bytes ≤ 140737488355328) (h63 : news.length ≤ 9223372036854775807)
    (k' : ∀ cap', news.length ≤ cap' → k (.ls σ.length 0 news.length cap') (σ ++ [⟨some (e, cap'), .ints kd news⟩]) M) : AppendK C [t, tx] (.v (.slice none 0 0)) x σ M k :=
  ⟨fun l w ty hr _ _ => by
    have hsrc := hx.src hr
    by_cases hnw : news = []
    · subst hnw
      have hrun := run_append_nothing (P := C.P) w t tx ty e i hu hi none 0 0 (by omega) (conc l x) (by rw [hsz]; exact hsrc)
      refine ⟨w, [none], .ls σ.length 0 0 0, _, M, ?_, hr.snoc none ⟨some (e, 0), .ints kd []⟩ (.inl ⟨rfl, rfl, rfl⟩) trivial (fun a e => by cases e) (fun a e => by cases e) (fun a e => by cases e), ?_, by simpa using k' 0 (Nat.le_refl _)⟩
      · simp only [conc, ← hr.len, List.getD, List.getElem?_append_right (Nat.le_refl _), Nat.sub_self]
        simpa [Base.up] using hrun
      · simp [AV.ok, hr.len]
    · have hpos : 0 < news.length := by
        rcases Nat.eq_zero_or_pos news.length with h | h
        · exact absurd (List.eq_nil_of_length_eq_zero h) hnw
        · exact h
      have hrun := run_append_grow_src (P := C.P) w t tx ty e i (.int kd 0) hu hi hz none 0 0 [] (run_firstCells_none w.drew _ _ _ _) (conc l x) news.length _ (by rw [hsz]; exact hsrc) (by omega) (by omega) (growslice_fits (by omega) (by simpa using hb))
      simp only [Nat.zero_add, List.nil_append] at hrun
      have hge := grownCap_ge w news.length 0 e
      generalize hcap : grownCap w news.length 0 e = cap' at hrun hge
      have hnew := hr.drew.new' e ((news.map (Value.int kd)).toArray ++ Builtin.zeroCells (Value.int kd 0).cells (cap' - news.length)) (.ints kd news) (by
        simp only [Cells.len, Cells.conc, Array.toList_append]
        rw [List.take_append_of_le_length (by simp)]
        rw [List.take_of_length_le (by simp)]) trivial
      have hsize : ((news.map (Value.int kd)).toArray ++ Builtin.zeroCells (Value.int kd 0).cells (cap' - news.length)).size = cap' := by
        rw [Array.size_append, zeroCells_size]
        simp
        omega
      rw [hsize] at hnew
      refine ⟨_, [some ⟨w.heap.size, 0, none⟩], .ls σ.length 0 news.length cap', _, M, ?_, hnew, ?_, k' cap' hge⟩
      · rw [show (conc (l ++ [some ⟨w.heap.size, 0, none⟩]) (.ls σ.length 0 news.length cap')) = .slice (some ⟨w.heap.size, 0, none⟩) news.length cap' by simp [conc, ← hr.len, Base.up]]
        exact hrun
      · simp [AV.ok, hr.len]⟩

/-! ### copy -/

theorem copy_row {C : Cx} {t tx e : TypeId} {i : TypeInfo} {kd : IntKind} {σ : Store} {M : Mo} {k : VK} {id cap off n : Nat} {ty' : TypeId × Nat} {xs news : List Int} {x : AV} (ho : σ[id]? = some ⟨some ty', .ints kd xs⟩) (hn : off + n ≤ xs.length)
    (hu : C.P.underlying t = some (.slice e)) (hi : C.P.info? e = some i) (hsz : i.size = 1) (hx : Rd C σ M x tx kd news) {m : Nat} (hm : m = min news.length n)
    (k' : k (.v (.int .i64 m)) (σ.set id ⟨some ty', .ints kd (xs.take off ++ news.take m ++ xs.drop (off + m))⟩) M) : CopyK C [t, tx] (.ls id off n cap) x σ M k :=
  ⟨fun l w ty hr _ _ => by
    subst hm
    obtain ⟨e1, tot⟩ := ty'
    have hid : id < l.length := by rw [hr.len]; exact (List.getElem?_eq_some_iff.1 ho).1
    obtain ⟨r, _⟩ := hr.ob id _ _ (List.getElem?_eq_getElem hid) ho
    have hgd : l.getD id none = l[id] := by simp [List.getD, List.getElem?_eq_getElem hid]
    have hlen := hx.len l w hr
    have hcells := hx.cells l w hr (min news.length n) (Nat.min_le_left _ _)
    have h0 : (conc l (.ls id off n cap)) = .slice (Base.up (l.getD id none) off) n cap := rfl
    rcases r with ⟨r1, r2, r3⟩ | ⟨g, arr, r1, r2, r3, r4⟩
    · simp only [Cells.len] at r2
      have hx0 : xs = [] := List.eq_nil_of_length_eq_zero r2
      subst hx0
      have hn0 : n = 0 := by simp at hn; omega
      subst hn0
      simp only [Nat.min_zero] at hcells k' ⊢
      refine ⟨w, [], .v (.int .i64 (0 : Nat)), _, M, ?_, by simpa using hr, trivial, ?_⟩
      · rw [h0, hgd, r1]
        simp [Builtin.copy_, run_underlying hu, hlen, sizeOf, typeInfo, hi, hsz, hcells, Base.up, conc, goInt]
      · have : σ.set id ⟨some (e1, tot), .ints kd ([].take off ++ news.take 0 ++ [].drop (off + 0))⟩ = σ := by
          have hlt : id < σ.length := by rw [← hr.len]; exact hid
          rw [List.getElem?_eq_getElem hlt] at ho
          simp at ho
          simp [← ho]
        rw [this] at k'
        exact k'
    · simp only [Cells.len, Cells.conc] at r4
      have hle : xs.length ≤ arr.size := by
        have := congrArg List.length r4
        simp at this
        omega
      have hst := run_storeCells_at (P := C.P) g off e1 ((news.take (min news.length n)).map (.int kd)) 0 arr w r2 (by simp; omega) (by intro v hv; obtain ⟨q, _, rfl⟩ := List.mem_map.1 hv; rfl)
      simp only [Nat.add_zero, List.length_map, List.length_take] at hst
      have hset := hr.set id e1 tot (.ints kd xs) (.ints kd (xs.take off ++ news.take (min news.length n) ++ xs.drop (off + min news.length n))) ho g arr
        (arr' := (arr.toList.take off ++ (news.take (min news.length n)).map (Value.int kd) ++ arr.toList.drop (off + min (min news.length n) news.length)).toArray) (by rw [List.getElem?_eq_getElem hid, r1]) r2 (by simp; omega) (by
          have hmm : min (min news.length n) news.length = min news.length n := by omega
          have hnl : (news.take (min news.length n)).length = min news.length n := by simp
          have hm2 : min news.length n ≤ n := Nat.min_le_right _ _
          simp only [Cells.len, Cells.conc, hmm]
          have s1 := seg_get arr.toList ((news.take (min news.length n)).map (Value.int kd)) off
          have s2 := seg_get (xs.map (Value.int kd)) ((news.take (min news.length n)).map (Value.int kd)) off
          simp only [List.length_map, hnl] at s1 s2
          apply List.ext_getElem?
          intro j
          have e2 : (xs.take off ++ news.take (min news.length n) ++ xs.drop (off + min news.length n)).map (Value.int kd) = (xs.map (Value.int kd)).take off ++ (news.take (min news.length n)).map (.int kd) ++ (xs.map (Value.int kd)).drop (off + min news.length n) := by
            simp [List.map_take, List.map_drop]
          have e3 : (xs.take off ++ news.take (min news.length n) ++ xs.drop (off + min news.length n)).length = xs.length := by simp; omega
          rw [e2, e3, List.getElem?_take, s2 j (by omega)]
          by_cases hj : j < xs.length
          · rw [if_pos hj, s1 j (by simp; omega)]
            have : arr.toList[j]? = (xs.map (Value.int kd))[j]? := by rw [← r4, List.getElem?_take_of_lt hj]
            rw [this]
          · rw [if_neg hj, if_neg (by omega), if_neg (by omega), List.getElem?_eq_none (by simp; omega)]) trivial
      refine ⟨_, [], .v (.int .i64 (min news.length n : Nat)), _, M, ?_, by rw [List.append_nil]; exact hset, trivial, k'⟩
      rw [h0, hgd, r1]
      generalize hvs : (news.take (min news.length n)).map (Value.int kd) = vs at *
      have hmin : news.length.min n = min news.length n := rfl
      simp only [Builtin.copy_, run_underlying hu, hlen, sizeOf, run_typeInfo_some hi, hsz, hmin, hcells, Base.up, conc, goInt, Sem.run_bind, Sem.run_pure, Result.andThen_ok, Option.map_some, Nat.zero_add, hst, List.getElem?_toArray, List.getElem?_cons_zero, List.getElem?_cons_succ]⟩

end Go.Gw

namespace Go.Gw
open Go Go.RowKit

/-- A row of one's own is given away. -/
theorem fin_mine {C : Cx} {σ : Store} {M : Mo} {id n c : Nat} {e : TypeId} {kd : IntKind} {zs : List Int} {I : List Int → Prop} (hmu : C.mu = []) (ho : σ[id]? = some ⟨some (e, c), .ints kd zs⟩) (hn : n = zs.length) (hI : I zs) :
    FinK C (fun en w' => ∃ v xs, en = .returned v ∧ Fr [] C.w0 w' ∧ I xs ∧ Mo.own ⟨[], w'⟩ C.w0.heap.size e v kd xs) (.ls id 0 n c) σ M :=
  ⟨fun l w hr _ => by
    subst hn
    have hid : id < l.length := by rw [hr.len]; exact (List.getElem?_eq_some_iff.1 ho).1
    obtain ⟨r, _⟩ := hr.ob id _ _ (List.getElem?_eq_getElem hid) ho
    have hgd : l.getD id none = l[id] := by simp [List.getD, List.getElem?_eq_getElem hid]
    refine ⟨_, zs, rfl, by simpa [hmu] using hr.ent, hI, ?_⟩
    rcases r with ⟨r1, r2, r3⟩ | ⟨g, arr, r1, r2, r3, r4⟩
    · simp only [Cells.len] at r2
      have hz : zs = [] := List.eq_nil_of_length_eq_zero r2
      subst hz; subst r3
      exact .inl ⟨by simp only [conc, hgd, r1]; rfl, rfl⟩
    · simp only [Cells.len, Cells.conc] at r4
      right
      have hown := (hr.own id ⟨g, 0, none⟩ _ (by rw [List.getElem?_eq_getElem hid, r1]) ho rfl).2
      rw [hmu] at hown
      refine ⟨g, c, arr, by simp only [conc, hgd, r1]; rfl, hown.elim (fun h => by cases h) (fun h => h), r2, r3, ?_, r4⟩
      have := congrArg List.length r4
      simp at this
      omega⟩
/-- Nothing is given away. -/
theorem fin_none {C : Cx} {σ : Store} {M : Mo} {e : TypeId} {kd : IntKind} {I : List Int → Prop} (hmu : C.mu = []) (hI : I []) :
    FinK C (fun en w' => ∃ v xs, en = .returned v ∧ Fr [] C.w0 w' ∧ I xs ∧ Mo.own ⟨[], w'⟩ C.w0.heap.size e v kd xs) (.v (.slice none 0 0)) σ M :=
  ⟨fun _ _ hr _ => ⟨_, [], rfl, by simpa [hmu] using hr.ent, hI, .inl ⟨rfl, rfl⟩⟩⟩

/-! ### The same, with what is asked of the type checked at once -/

def sliceOf (P : Program) (t e : TypeId) : Bool := match P.underlying t with
  | some (.slice e') => Nat.beq e' e
  | _ => false
theorem sliceOf_iff {P : Program} {t e : TypeId} (h : sliceOf P t e = true) : P.underlying t = some (.slice e) := by
  unfold sliceOf at h
  split at h
  · rename_i e' hu
    rw [hu, Nat.eq_of_beq_eq_true h]
  · cases h
def elI (P : Program) (e : TypeId) (kd : IntKind) : Bool := match P.info? e with
  | some i => Nat.beq i.size 1 && Nat.ble i.bytes 8 && (match i.zero with
    | some (.int k z) => ikEq k kd && decide (z = 0)
    | _ => false)
  | none => false
theorem elI_iff {P : Program} {e : TypeId} {kd : IntKind} (h : elI P e kd = true) : ∃ i, P.info? e = some i ∧ i.size = 1 ∧ i.zero = some (.int kd 0) ∧ i.bytes ≤ 8 := by
  unfold elI at h
  split at h
  · rename_i i hi
    simp only [Bool.and_eq_true] at h
    obtain ⟨⟨h1, h2⟩, h3⟩ := h
    split at h3
    · rename_i k z hz
      simp only [Bool.and_eq_true, decide_eq_true_eq] at h3
      obtain ⟨h3, h4⟩ := h3
      have := ikEq_eq h3
      subst this
      subst h4
      exact ⟨i, hi, Nat.eq_of_beq_eq_true h1, hz, Nat.le_of_ble_eq_true h2⟩
    · cases h3
  · cases h

theorem app_ {C : Cx} {t tx e : TypeId} (kd : IntKind) {σ : Store} {M : Mo} {k : VK} {id cap n : Nat} {c : Cells} {xs news : List Int} {x : AV} (ho : σ[id]? = some ⟨some (e, cap), c⟩) (hc : ∀ l, c.conc l = xs.map (.int kd)) (hn : n = xs.length)
    (hu : sliceOf C.P t e = true) (he : elI C.P e kd = true) (hx : Rd C σ M x tx kd news) (hb : xs.length + news.length ≤ 1000000000000)
    (k' : ∀ cap', xs.length + news.length ≤ cap' → k (.ls σ.length 0 (xs.length + news.length) cap') (σ.set id dead ++ [⟨some (e, cap'), .ints kd (xs ++ news)⟩]) M) : AppendK C [t, tx] (.ls id 0 n cap) x σ M k := by
  obtain ⟨i, hi, h1, h2, h3⟩ := elI_iff he
  exact append_ ho hc hn (sliceOf_iff hu) hi h1 h2 hx (by have := Nat.mul_le_mul hb h3; omega) (by omega) k'
theorem app_nil_ {C : Cx} {t tx e : TypeId} (kd : IntKind) {σ : Store} {M : Mo} {k : VK} {news : List Int} {x : AV}
    (hu : sliceOf C.P t e = true) (he : elI C.P e kd = true) (hx : Rd C σ M x tx kd news) (hb : news.length ≤ 1000000000000)
    (k' : ∀ cap', news.length ≤ cap' → k (.ls σ.length 0 news.length cap') (σ ++ [⟨some (e, cap'), .ints kd news⟩]) M) : AppendK C [t, tx] (.v (.slice none 0 0)) x σ M k := by
  obtain ⟨i, hi, h1, h2, h3⟩ := elI_iff he
  exact append_nil_ (sliceOf_iff hu) hi h1 h2 hx (by have := Nat.mul_le_mul hb h3; omega) (by omega) k'
theorem cpy_ {C : Cx} {t tx : TypeId} (e : TypeId) {kd : IntKind} {σ : Store} {M : Mo} {k : VK} {id cap off n : Nat} {ty' : TypeId × Nat} {xs news : List Int} {x : AV} (ho : σ[id]? = some ⟨some ty', .ints kd xs⟩) (hn : off + n ≤ xs.length)
    (hu : sliceOf C.P t e = true) (he : elI C.P e kd = true) (hx : Rd C σ M x tx kd news) {m : Nat} (hm : m = min news.length n)
    (k' : k (.v (.int .i64 m)) (σ.set id ⟨some ty', .ints kd (xs.take off ++ news.take m ++ xs.drop (off + m))⟩) M) : CopyK C [t, tx] (.ls id off n cap) x σ M k := by
  obtain ⟨i, hi, h1, h2, h3⟩ := elI_iff he
  exact copy_row ho hn (sliceOf_iff hu) hi h1 hx hm k'
theorem mk_ {C : Cx} {t e : TypeId} {n : Int} {k1 k2 : IntKind} {σ : Store} {M : Mo} {k : VK} (kd : IntKind) (N : Nat) (hu : sliceOf C.P t e = true) (he : elI C.P e kd = true)
    (h0 : n = N) (h1 : N ≤ 1000000000000)
    (h : k (.ls σ.length 0 N N) (σ ++ [⟨some (e, N), .ints kd (List.replicate N 0)⟩]) M) : MakeK C t (.v (.int k1 n)) (.v (.int k2 n)) σ M k := by
  obtain ⟨i, hi, g1, g2, g3⟩ := elI_iff he
  subst h0
  refine make_ints e i kd (sliceOf_iff hu) hi g2 g1 (by omega) ?_ (by omega) (by simpa using h)
  have := Nat.mul_le_mul g3 h1
  omega

end Go.Gw

namespace Go.Gw
open Go Go.RowKit

/-! ### Bits that do not meet are added -/

theorem or_add (n k : Nat) (a y : Int) (ha : 0 ≤ a) (hm : a % 2 ^ k = 0) (hy : 0 ≤ y) (hyk : y < 2 ^ k) (hb : a + y < 2 ^ n) : (((BitVec.ofInt n a ||| BitVec.ofInt n y).toNat : Nat) : Int) = a + y := by
  obtain ⟨a, rfl⟩ := Int.eq_ofNat_of_zero_le ha
  obtain ⟨y, rfl⟩ := Int.eq_ofNat_of_zero_le hy
  have hm' : a % 2 ^ k = 0 := by exact_mod_cast hm
  have hy' : y < 2 ^ k := by exact_mod_cast hyk
  have hb' : a + y < 2 ^ n := by exact_mod_cast hb
  have h1 : (BitVec.ofInt n (a : Int)).toNat = a := by
    rw [BitVec.ofInt_natCast, BitVec.toNat_ofNat, Nat.mod_eq_of_lt (by omega)]
  have h2 : (BitVec.ofInt n (y : Int)).toNat = y := by
    rw [BitVec.ofInt_natCast, BitVec.toNat_ofNat, Nat.mod_eq_of_lt (by omega)]
  rw [BitVec.toNat_or, h1, h2]
  have h3 : a = 2 ^ k * (a / 2 ^ k) := by
    have := Nat.div_add_mod a (2 ^ k)
    omega
  have h4 := Nat.two_pow_add_eq_or_of_lt hy' (a / 2 ^ k)
  rw [← h3] at h4
  rw [← h4]
  omega
theorem or_add' (n k : Nat) (a y : Int) (ha : 0 ≤ a) (hm : a % 2 ^ k = 0) (hy : 0 ≤ y) (hyk : y < 2 ^ k) (hb : a + y < 2 ^ n) : (((BitVec.ofInt n y ||| BitVec.ofInt n a).toNat : Nat) : Int) = a + y := by
  rw [BitVec.or_comm]; exact or_add n k a y ha hm hy hyk hb
theorem or64 (k : Nat) (a y : Int) (ha : 0 ≤ a) (hm : a % 2 ^ k = 0) (hy : 0 ≤ y) (hyk : y < 2 ^ k) (hb : a + y < 18446744073709551616) : IntKind.u64.wrap (((BitVec.ofInt IntKind.u64.bits a ||| BitVec.ofInt IntKind.u64.bits y).toNat : Nat) : Int) = a + y := by
  have := or_add 64 k a y ha hm hy hyk hb
  show IntKind.u64.wrap (((BitVec.ofInt 64 a ||| BitVec.ofInt 64 y).toNat : Nat) : Int) = a + y
  rw [this, wrap_u64]; omega
theorem or32 (k : Nat) (a y : Int) (ha : 0 ≤ a) (hm : a % 2 ^ k = 0) (hy : 0 ≤ y) (hyk : y < 2 ^ k) (hb : a + y < 4294967296) : IntKind.u32.wrap (((BitVec.ofInt IntKind.u32.bits a ||| BitVec.ofInt IntKind.u32.bits y).toNat : Nat) : Int) = a + y := by
  have := or_add 32 k a y ha hm hy hyk hb
  show IntKind.u32.wrap (((BitVec.ofInt 32 a ||| BitVec.ofInt 32 y).toNat : Nat) : Int) = a + y
  rw [this, wrap_u32]; omega
theorem or32' (k : Nat) (a y : Int) (ha : 0 ≤ a) (hm : a % 2 ^ k = 0) (hy : 0 ≤ y) (hyk : y < 2 ^ k) (hb : a + y < 4294967296) : IntKind.u32.wrap (((BitVec.ofInt IntKind.u32.bits y ||| BitVec.ofInt IntKind.u32.bits a).toNat : Nat) : Int) = a + y := by
  have := or_add' 32 k a y ha hm hy hyk hb
  show IntKind.u32.wrap (((BitVec.ofInt 32 y ||| BitVec.ofInt 32 a).toNat : Nat) : Int) = a + y
  rw [this, wrap_u32]; omega

theorem Ref.subS {C : Cx} {e E : Env} {σ S : Store} {M : Mo} (h : SubE E e) (hs : σ = S) : Ref C e σ M E S M := hs ▸ Ref.sub h

end Go.Gw

namespace Go.Gw
open Go Go.RowKit

/-! ### A row that a call writes -/

def PostM (b : Nat) (te : TypeId) (tot : Nat) (kd : IntKind) (w : World) (R : World → List Int → Value → Prop) (en : Ending) (w' : World) : Prop :=
  ∃ v ys arr, en = .returned v ∧ Fr [b] w w' ∧ w'.heap[b]? = some (.cells arr te (0, 0)) ∧ arr.size = tot ∧ arr.toList.take ys.length = ys.map (.int kd) ∧ R w' ys v

theorem enterM_ {P : Program} {f : FuncId} (fn : Func) (c : Code) (N : Nat) (b : Nat) (te : TypeId) (tot : Nat) (kd : IntKind) (ys : List Int) (l0 : List Base) (σ0 : Store) (avs : List AV) {args : Array Value} {m : Mo} {arr : Array Value} {R : Ending → World → Prop} (hf : P.funcs[f]? = some fn) (hb : fn.body = some c) (hN : N = avs.length + (fn.ntmps - avs.length))
    (hm : m.okm) (hbm : b ∈ m.L) (hg : m.w.heap[b]? = some (.cells arr te (0, 0))) (hs : arr.size = tot) (hc : arr.toList.take ys.length = ys.map (.int kd)) (hargs : args = (concL (some ⟨b, 0, none⟩ :: l0) avs).toArray) (hok : okL (l0.length + 1) avs) (hro : RoOK m l0 σ0)
    (h : evC ⟨P, N, [b], m.w, m.L.filter (fun x => !Nat.beq x b)⟩ c (retK ⟨P, N, [b], m.w, m.L.filter (fun x => !Nat.beq x b)⟩ fn.results.toList R) (argsE 0 avs) (⟨some (te, tot), .ints kd ys⟩ :: σ0) m) : Calls P f args m.w R := by
  subst hargs
  obtain ⟨hlen, hget⟩ := hro.get
  have hfil : ∀ x, x ∈ m.L.filter (fun x => !Nat.beq x b) → x ∈ m.L ∧ x ≠ b := by
    intro x hx
    have := List.mem_filter.1 hx
    refine ⟨this.1, fun e => ?_⟩
    subst e
    simp at this
  refine calls_of_wp hf hb ?_
  refine (evC_sound c h).out _ retK_sound (some ⟨b, 0, none⟩ :: l0) _ _ ⟨?_, rfl, fun t v hv => ?_⟩ ⟨by simp [hlen], fun x hx => hm x (hfil x hx).1, Fr.refl _ _, Fr.refl _ _, fun x hx => (hfil x hx).1, fun i a o h1 h2 => ?_, fun i a o h1 h2 h3 => ?_, fun i a o h1 h2 h3 hx => ?_, fun i j a a' o o' hij h1 h1' h2 h2' h3 h3' => ?_, fun i x h1 => ?_⟩
  · simp [hN, concL_length]
  · obtain ⟨h1, h2⟩ := argsE_get 0 _ 0 t v hv
    simp only [Nat.sub_zero] at h2
    have hlt : t < avs.length := (List.getElem?_eq_some_iff.1 h2).1
    refine ⟨?_, okL_get hok h2⟩
    rw [Array.getElem?_append_left (by simpa [concL_length] using hlt)]
    simp [concL_get, h2]
  · cases i with
    | zero =>
      simp at h1 h2
      subst h1; subst h2
      exact ⟨.inr ⟨b, arr, rfl, hg, hs, hc⟩, trivial⟩
    | succ i =>
      simp only [List.getElem?_cons_succ] at h1 h2
      obtain ⟨g1, g2, g3, g4⟩ := hget i a o h1 h2
      have e0 : o.c.conc (some ⟨b, 0, none⟩ :: l0) = o.c.conc [] := by simpa using Cells.conc_append [] (some ⟨b, 0, none⟩ :: l0) o.c g3
      refine ⟨?_, g3.mono (Nat.zero_le _)⟩
      unfold ObR
      rw [g1]
      simp only
      rcases g4 with g4 | ⟨bb, oo, rfl, g4⟩
      · left; rw [← Cells.conc_length [], g4]; rfl
      · right
        rw [e0]
        exact ⟨_, rfl, rfl, fun i x hx => (g4 i x hx).2⟩
  · cases i with
    | zero =>
      simp at h1
      subst h1
      exact ⟨.inl hbm, .inl (List.mem_singleton.2 rfl)⟩
    | succ i =>
      simp only [List.getElem?_cons_succ] at h1 h2
      rw [(hget i _ o h1 h2).1] at h3; cases h3
  · cases i with
    | zero =>
      simp at h1
      subst h1
      exact (hfil _ hx).2 rfl
    | succ i =>
      simp only [List.getElem?_cons_succ] at h1 h2
      obtain ⟨g1, g2, g3, g4⟩ := hget i _ o h1 h2
      rcases h3 with h3 | h3
      · rw [g1] at h3; cases h3
      · rcases g4 with g4 | ⟨bb, oo, e, g4⟩
        · have := Cells.conc_length [] o.c
          rw [g4] at this
          exact absurd this.symm h3
        · simp at e; subst e
          exact (g4 0 _ (List.getElem?_eq_getElem (by rw [Cells.conc_length]; omega))).1 (hfil _ hx).1
  · cases i with
    | succ i =>
      simp only [List.getElem?_cons_succ] at h1 h2
      rw [(hget i _ o h1 h2).1] at h3; cases h3
    | zero =>
      cases j with
      | zero => exact absurd rfl hij
      | succ j =>
        simp only [List.getElem?_cons_succ] at h1' h2'
        simp at h1
        subst h1
        obtain ⟨g1, g2, g3, g4⟩ := hget j _ o' h1' h2'
        rcases h3' with h3' | h3'
        · rw [g1] at h3'; cases h3'
        · rcases g4 with g4 | ⟨bb, oo, e, g4⟩
          · have := Cells.conc_length [] o'.c
            rw [g4] at this
            exact absurd this.symm h3'
          · simp at e; subst e
            intro he
            exact (g4 0 _ (List.getElem?_eq_getElem (by rw [Cells.conc_length]; omega))).1 (by simp only at he ⊢; rw [← he]; exact hbm)
  · cases i with
    | zero => simp at h1; subst h1; rfl
    | succ i => simp at h1

theorem Rel.pinned {C : Cx} {l : List Base} {σ : Store} {M : Mo} {w : World} (h : Rel C l σ M w) {b : Nat} (hmu : C.mu = [b]) {te : TypeId} {tot : Nat} {kd : IntKind} {ys : List Int} (ho : σ[0]? = some ⟨some (te, tot), .ints kd ys⟩) :
    l[0]? = some (some ⟨b, 0, none⟩) ∧ ∃ arr, w.heap[b]? = some (.cells arr te (0, 0)) ∧ arr.size = tot ∧ arr.toList.take ys.length = ys.map (.int kd) := by
  have hp := h.pin 0 b (by rw [hmu]; rfl)
  obtain ⟨r, _⟩ := h.ob 0 _ _ hp ho
  rcases r with ⟨r, _⟩ | ⟨g, arr, r1, r2, r3, r4⟩
  · cases r
  · simp at r1
    subst r1
    exact ⟨hp, arr, r2, r3, r4⟩

theorem fin_mut {C : Cx} {σ : Store} {M : Mo} {b : Nat} {te : TypeId} {tot : Nat} {kd : IntKind} {ys : List Int} {v : Value} {R : World → List Int → Value → Prop} (hmu : C.mu = [b]) (ho : σ[0]? = some ⟨some (te, tot), .ints kd ys⟩) (hR : ∀ w, R w ys v) :
    FinK C (PostM b te tot kd C.w0 R) (.v v) σ M :=
  ⟨fun l w hr _ => by
    obtain ⟨_, arr, h1, h2, h3⟩ := hr.pinned hmu ho
    exact ⟨v, ys, arr, rfl, by simpa [hmu] using hr.ent, h1, h2, h3, hR w⟩⟩

/-- A row of one's own is given away besides. -/
theorem fin_mutO {C : Cx} {σ : Store} {M : Mo} {b : Nat} {te : TypeId} {tot : Nat} {kd kd' : IntKind} {ys zs : List Int} {id n c : Nat} {e : TypeId} {I : List Int → List Int → Prop} (hmu : C.mu = [b]) (ho : σ[0]? = some ⟨some (te, tot), .ints kd ys⟩)
    (h0 : id ≠ 0) (ho' : σ[id]? = some ⟨some (e, c), .ints kd' zs⟩) (hn : n = zs.length) (hI : I ys zs) :
    FinK C (PostM b te tot kd C.w0 fun w' ys v => ∃ zs, I ys zs ∧ Mo.own ⟨[], w'⟩ C.w0.heap.size e v kd' zs) (.ls id 0 n c) σ M :=
  ⟨fun l w hr _ => by
    subst hn
    obtain ⟨hp, arr, h1, h2, h3⟩ := hr.pinned hmu ho
    refine ⟨_, ys, arr, rfl, by simpa [hmu] using hr.ent, h1, h2, h3, zs, hI, ?_⟩
    have hid : id < l.length := by rw [hr.len]; exact (List.getElem?_eq_some_iff.1 ho').1
    obtain ⟨r, _⟩ := hr.ob id _ _ (List.getElem?_eq_getElem hid) ho'
    have hgd : l.getD id none = l[id] := by simp [List.getD, List.getElem?_eq_getElem hid]
    rcases r with ⟨r1, r2, r3⟩ | ⟨g, arr, r1, r2, r3, r4⟩
    · simp only [Cells.len] at r2
      have hz : zs = [] := List.eq_nil_of_length_eq_zero r2
      subst hz; subst r3
      exact .inl ⟨by simp only [conc, hgd, r1]; rfl, rfl⟩
    · simp only [Cells.len, Cells.conc] at r4
      right
      have hl : l[id]? = some (some ⟨g, 0, none⟩) := by rw [List.getElem?_eq_getElem hid, r1]
      have hown := (hr.own id ⟨g, 0, none⟩ _ hl ho' rfl).2
      have hd := hr.dis id 0 _ _ _ _ h0 hl hp ho' ho rfl (.inl rfl)
      rw [hmu] at hown
      refine ⟨g, c, arr, by simp only [conc, hgd, r1]; rfl, hown.elim (fun h => absurd (List.mem_singleton.1 h) hd) (fun h => h), r2, r3, ?_, r4⟩
      have := congrArg List.length r4
      simp at this
      omega⟩

theorem Fr.trans' {L L' : List Nat} {a b c : World} (h : Fr L a b) (k : Fr L' b c) (hl : ∀ x ∈ L', x < a.heap.size → x ∈ L) : Fr L a c :=
  ⟨k.os.trans h.os, k.tape.trans h.tape, k.output.trans h.output, Nat.le_trans h.size k.size, fun i hi hn => (k.block i (Nat.lt_of_lt_of_le hi h.size) (fun hx => hn (hl i hx hi))).trans (h.block i hi hn)⟩
theorem Rel.mut {C : Cx} {l : List Base} {σ : Store} {M : Mo} {w w' : World} (h : Rel C l σ M w) (id : Nat) (t : TypeId) (tot : Nat) (c c' : Cells) (ho : σ[id]? = some ⟨some (t, tot), c⟩)
    (g : Nat) (arr' : Array Value) (hb : l[id]? = some (some ⟨g, 0, none⟩)) (hf : Fr [g] w w') (hg : w'.heap[g]? = some (.cells arr' t (0, 0))) (hs : arr'.size = tot)
    (hc : arr'.toList.take c'.len = c'.conc l) (hk : c'.ok l.length) :
    Rel C l (σ.set id ⟨some (t, tot), c'⟩) M w' := by
  have hid : id < σ.length := (List.getElem?_eq_some_iff.1 ho).1
  have hset : ∀ (i : Nat) (o : Ob), (σ.set id ⟨some (t, tot), c'⟩)[i]? = some o → (i = id ∧ o = ⟨some (t, tot), c'⟩) ∨ (i ≠ id ∧ σ[i]? = some o) := by
    intro i o hi
    by_cases e : id = i
    · subst e
      rw [List.getElem?_set_self hid] at hi
      simp at hi
      exact .inl ⟨rfl, hi.symm⟩
    · rw [List.getElem?_set_ne e] at hi
      exact .inr ⟨fun x => e x.symm, hi⟩
  have hlive : ∀ (i : Nat) (o : Ob), (σ.set id ⟨some (t, tot), c'⟩)[i]? = some o → ∃ o', σ[i]? = some o' ∧ o'.own = o.own ∧ (o.live → o'.live) := by
    intro i o hi
    rcases hset i o hi with ⟨rfl, rfl⟩ | ⟨_, hi⟩
    · exact ⟨_, ho, rfl, fun _ => .inl rfl⟩
    · exact ⟨o, hi, rfl, fun x => x⟩
  have hne : ∀ k, k < w.heap.size → k ≠ g → w'.heap[k]? = w.heap[k]? := fun k hk hn => hf.block k hk (by simpa using hn)
  obtain ⟨o1, o2⟩ := h.own id _ _ hb ho rfl
  refine ⟨by simp [h.len], h.bd, h.ent.trans' hf (fun x hx hm => ?_), h.fr.trans' hf (fun x hx hm => ?_), h.sub,
    fun i b o hb' ho' => ?_, fun i b o hb' ho' hown => ?_, fun i b o hb' ho' hl => ?_, fun i j b b' o o' hij hb' hb'' ho' ho'' hown hl => ?_, h.pin⟩
  · have := List.mem_singleton.1 hx
    subst this
    exact o2.elim (fun h => h) (fun h => absurd h (by simp only; omega))
  · have := List.mem_singleton.1 hx
    subst this
    exact o1.elim (fun h => h) (fun h => absurd h (by simp only; omega))
  · rcases hset i o ho' with ⟨rfl, rfl⟩ | ⟨hni, hi⟩
    · rw [hb] at hb'
      simp at hb'
      subst hb'
      refine ⟨?_, hk⟩
      simp only [ObR]
      exact .inr ⟨g, arr', rfl, hg, hs, hc⟩
    · obtain ⟨r1, r2⟩ := h.ob i b o hb' hi
      refine ⟨?_, r2⟩
      unfold ObR at *
      split at r1
      · rename_i t' tot' hown
        rcases r1 with r1 | ⟨blk, arr0, e1, e2, e3, e4⟩
        · exact .inl r1
        subst e1
        have hd := h.dis i id _ _ o _ hni hb' hb hi ho (by simp [hown]) (.inl rfl)
        exact .inr ⟨blk, arr0, rfl, (hne blk (Array.getElem?_eq_some_iff.1 e2).1 hd).trans e2, e3, e4⟩
      · rename_i hown
        rcases r1 with r1 | ⟨ad, e1, e2, e3⟩
        · exact .inl r1
        · subst e1
          by_cases hz : o.c.len = 0
          · exact .inl hz
          · have hd := h.dis id i _ _ _ o (fun x => hni x.symm) hb hb' ho hi rfl (.inr hz)
            exact .inr ⟨ad, rfl, e2, fun k c hc => (World.cell?_of_block (a := ⟨ad.block, ad.off + k, none⟩) (hne _ (World.block_lt_of_cell? _ _ (e3 k c hc)) (fun x => hd x.symm))).trans (e3 k c hc)⟩
  · obtain ⟨o', hi, e, _⟩ := hlive i o ho'
    exact h.own i b o' hb' hi (by rw [e]; exact hown)
  · obtain ⟨o', hi, e, hl'⟩ := hlive i o ho'
    exact h.out i b o' hb' hi (hl' hl)
  · obtain ⟨p, hp, e, _⟩ := hlive i o ho'
    obtain ⟨p', hp', e', hl'⟩ := hlive j o' ho''
    exact h.dis i j b b' p p' hij hb' hb'' hp hp' (by rw [e]; exact hown) (hl' hl)

/-- A row of one's own comes out of a call. -/
theorem Rel.gain {C : Cx} {l : List Base} {σ : Store} {M : Mo} {w : World} (h : Rel C l σ M w) {n0 : Nat} {e : TypeId} {v : Value} {kd : IntKind} {xs : List Int} (hlt : ∀ (i : Nat) (b : Addr) (o : Ob), l[i]? = some (some b) → σ[i]? = some o → o.live → b.block < n0) (hC : C.w0.heap.size ≤ n0) (hM : M.w.heap.size ≤ n0)
    (h3 : Mo.own ⟨[], w⟩ n0 e v kd xs) : ∃ b c, v = conc (l ++ [b]) (.ls σ.length 0 xs.length c) ∧ xs.length ≤ c ∧ Rel C (l ++ [b]) (σ ++ [⟨some (e, c), .ints kd xs⟩]) M w := by
  rcases h3 with ⟨rfl, rfl⟩ | ⟨g, c, arr, rfl, hg, hh, hs, hc, ht⟩
  · refine ⟨none, 0, by simp [conc, ← h.len, Base.up], Nat.le_refl _, h.snoc none ⟨some (e, 0), .ints kd []⟩ (.inl ⟨rfl, rfl, rfl⟩) trivial (fun a e => by cases e) (fun a e => by cases e) (fun a e => by cases e)⟩
  · refine ⟨some ⟨g, 0, none⟩, c, by simp [conc, ← h.len, Base.up], hc, h.snoc (some ⟨g, 0, none⟩) ⟨some (e, c), .ints kd xs⟩ (.inr ⟨g, arr, rfl, hh, hs, ht⟩) trivial ?_ ?_ ?_⟩
    · intro a e1 _
      simp at e1; subst e1
      exact ⟨.inr (by simp only; omega), .inr (by simp only; omega)⟩
    · intro a e1 _ hx
      simp at e1; subst e1
      have := h.bd _ hx
      simp at *
      omega
    · intro a e1 _ i b o hb' ho' hl _
      simp at e1; subst e1
      have := hlt i b o hb' ho' hl
      simp
      omega

/-- What a call that writes one's own row sees. -/
structure Writes (C : Cx) (l : List Base) (σ : Store) (M m : Mo) (id : Nat) (te : TypeId) (tot : Nat) (kd : IntKind) (ys : List Int) (b : Nat) (arr : Array Value) : Prop where
  sees : Sees C l σ M m
  mem : b ∈ m.L
  base : l[id]? = some (some ⟨b, 0, none⟩)
  heap : m.w.heap[b]? = some (.cells arr te (0, 0))
  size : arr.size = tot
  cells : arr.toList.take ys.length = ys.map (.int kd)
theorem Writes.arg {C : Cx} {l : List Base} {σ : Store} {M m : Mo} {id : Nat} {te : TypeId} {tot : Nat} {kd : IntKind} {ys : List Int} {b : Nat} {arr : Array Value} (h : Writes C l σ M m id te tot kd ys b arr) (off n c : Nat) : conc l (.ls id off n c) = .slice (some ⟨b, off, none⟩) n c := by
  have : l.getD id none = some ⟨b, 0, none⟩ := by simp [List.getD, h.base]
  simp only [conc, this, Base.up, Option.map_some, Nat.zero_add]

theorem Rel.writes {C : Cx} {l : List Base} {σ : Store} {M : Mo} {w : World} (h : Rel C l σ M w) {id : Nat} {te : TypeId} {tot : Nat} {kd : IntKind} {ys : List Int} (ho : σ[id]? = some ⟨some (te, tot), .ints kd ys⟩) (hne : ys ≠ []) :
    ∃ b arr, Writes C l σ M ⟨owns l σ ++ C.L0, w⟩ id te tot kd ys b arr := by
  have hid : id < l.length := by rw [h.len]; exact (List.getElem?_eq_some_iff.1 ho).1
  obtain ⟨r, _⟩ := h.ob id _ _ (List.getElem?_eq_getElem hid) ho
  rcases r with ⟨_, r, _⟩ | ⟨g, arr, r1, r2, r3, r4⟩
  · exact absurd (List.eq_nil_of_length_eq_zero r) hne
  · have hl : l[id]? = some (some ⟨g, 0, none⟩) := by rw [List.getElem?_eq_getElem hid, r1]
    exact ⟨g, arr, h.sees, List.mem_append.2 (.inl (mem_owns.2 ⟨id, _, _, hl, ho, rfl, rfl⟩)), hl, r2, r3, r4⟩

theorem callm_ {C : Cx} {g : FuncId} {args : List AV} {σ : Store} {M : Mo} {k : VK} {id : Nat} {te : TypeId} {tot : Nat} {kd : IntKind} {ys : List Int} {R : List Int → Value → Prop} (hb : hasBody C.P g = true) (ho : σ[id]? = some ⟨some (te, tot), .ints kd ys⟩) (hne : ys ≠ [])
    (h : ∀ l m b arr, Writes C l σ M m id te tot kd ys b arr → Calls C.P g (concL l args).toArray m.w (PostM b te tot kd m.w fun _ ys' v => R ys' v))
    (k' : ∀ M' ys' v, M.Le M' → R ys' v → k (.v v) (σ.set id ⟨some (te, tot), .ints kd ys'⟩) M') : CallK C g args σ M k :=
  ⟨hb, fun l w hr _ => by
    obtain ⟨b, arr, hw⟩ := hr.writes ho hne
    refine (h l _ b arr hw).mono fun en w' ⟨v, ys', arr', h1, h2, h3, h4, h5, h6⟩ => ?_
    subst h1
    have hm := hr.mut id te tot _ (.ints kd ys') ho b arr' hw.base h2 h3 h4 h5 trivial
    exact ⟨[], .v v, _, ⟨owns l (σ.set id ⟨some (te, tot), .ints kd ys'⟩) ++ C.L0, w'⟩, by simp [conc], trivial, by
      rw [List.append_nil]
      exact hm.later (Fr.refl _ _) (fun b hb => List.mem_append.2 (.inr hb)) fun i b o g1 g2 g3 => .inl (List.mem_append.2 (.inl (mem_owns.2 ⟨i, b, o, g1, g2, g3, rfl⟩))), k' _ ys' v hm.le2 h6⟩⟩

theorem callmo_ {C : Cx} {g : FuncId} {args : List AV} {σ : Store} {M : Mo} {k : VK} {id : Nat} {te e : TypeId} {tot : Nat} {kd kd' : IntKind} {ys : List Int} {I : List Int → List Int → Prop} (hb : hasBody C.P g = true) (ho : σ[id]? = some ⟨some (te, tot), .ints kd ys⟩) (hne : ys ≠ [])
    (h : ∀ l m b arr, Writes C l σ M m id te tot kd ys b arr → Calls C.P g (concL l args).toArray m.w (PostM b te tot kd m.w fun w' ys' v => ∃ zs, I ys' zs ∧ Mo.own ⟨[], w'⟩ m.w.heap.size e v kd' zs))
    (k' : ∀ M' c ys' zs, M.Le M' → I ys' zs → zs.length ≤ c → k (.ls σ.length 0 zs.length c) (σ.set id ⟨some (te, tot), .ints kd ys'⟩ ++ [⟨some (e, c), .ints kd' zs⟩]) M') : CallK C g args σ M k :=
  ⟨hb, fun l w hr _ => by
    obtain ⟨b, arr, hw⟩ := hr.writes ho hne
    refine (h l _ b arr hw).mono fun en w' ⟨v, ys', arr', h1, h2, h3, h4, h5, zs, h6, h7⟩ => ?_
    subst h1
    have hm := hr.mut id te tot _ (.ints kd ys') ho b arr' hw.base h2 h3 h4 h5 trivial
    have hlt : ∀ (i : Nat) (b : Addr) (o : Ob), l[i]? = some (some b) → (σ.set id ⟨some (te, tot), .ints kd ys'⟩)[i]? = some o → o.live → b.block < w.heap.size := by
      intro i b' o hb' ho' hl
      by_cases e : id = i
      · subst e
        exact hr.lt id b' _ hb' ho (.inl rfl)
      · rw [List.getElem?_set_ne e] at ho'
        exact hr.lt i b' o hb' ho' hl
    obtain ⟨b', c, e1, e2, e3⟩ := hm.gain hlt hr.ent.size hr.fr.size h7
    rw [List.length_set] at e1
    exact ⟨[b'], .ls σ.length 0 zs.length c, _, ⟨owns (l ++ [b']) (σ.set id ⟨some (te, tot), .ints kd ys'⟩ ++ [⟨some (e, c), .ints kd' zs⟩]) ++ C.L0, w'⟩, e1.symm, by simp [AV.ok, hr.len], 
      e3.later (Fr.refl _ _) (fun b hb => List.mem_append.2 (.inr hb)) fun i b o g1 g2 g3 => .inl (List.mem_append.2 (.inl (mem_owns.2 ⟨i, b, o, g1, g2, g3, rfl⟩))), k' _ c ys' zs e3.le2 h6 e2⟩⟩

/-- What is own, read in part by a call whose result is new. -/
theorem Rel.ints_own' {C : Cx} {l : List Base} {σ : Store} {M : Mo} {w : World} (h : Rel C l σ M w) {id : Nat} {t : TypeId × Nat} {kd : IntKind} {xs : List Int} (ho : σ[id]? = some ⟨some t, .ints kd xs⟩) (off n c : Nat) (hn : off + n ≤ xs.length) (hc : n ≤ c) :
    Mo.ints ⟨C.L0, w⟩ (conc l (.ls id off n c)) kd ((xs.drop off).take n) := by
  have hlen : ((xs.drop off).take n).length = n := by simp; omega
  refine ⟨Base.up (l.getD id none) off, c, ?_, by omega, fun ad' hh => ?_, ?_⟩
  · rw [hlen]
    simp only [conc]
    cases l.getD id none <;> rfl
  · unfold Base.up at hh
    cases hq : l.getD id none with
    | none => rw [hq] at hh; cases hh
    | some q => rw [hq] at hh; simp at hh; subst hh; rfl
  · by_cases hx : xs = []
    · left; simp [hx]
    · obtain ⟨ad, e1, e2, e3⟩ := h.reads ho (by simp only [Cells.len]; exact fun h0 => hx (List.eq_nil_of_length_eq_zero h0))
      have hid : id < l.length := by rw [h.len]; exact (List.getElem?_eq_some_iff.1 ho).1
      have hl : l[id]? = some (some ad) := by
        rw [List.getElem?_eq_getElem hid]
        simpa [List.getD, List.getElem?_eq_getElem hid] using e1
      right
      refine ⟨ad.block, ad.off + off, by rw [e1]; rfl, fun i x hx => ⟨h.out id ad _ hl ho (.inl rfl), ?_⟩⟩
      simp only [Cells.conc] at e3
      rw [List.getElem?_map, List.getElem?_take] at hx
      split at hx
      · rw [List.getElem?_drop] at hx
        have := e3 (off + i) x (by rw [List.getElem?_map]; exact hx)
        rw [← Nat.add_assoc] at this
        exact this
      · cases hx

/-- An element's address, behind an offset of which nothing is told. -/
theorem ixo_ {p : Prop} {off len : Nat} {n : Int} {K : Nat → Prop} (h : p) (h2 : off + n.toNat < len) (k : K (off + n.toNat)) : p ∧ ixK off n 1 (fun o => o < len ∧ K o) := by
  refine ⟨h, ?_⟩
  cases off with
  | zero => simp only [ixK]; simpa using And.intro h2 k
  | succ q => exact ⟨h2, k⟩

end Go.Gw

namespace Go.Gw
open Go Go.RowKit

/-- A call that gives a struct whose second field is a row of numbers: the row comes in. -/
theorem callSa_ {C : Cx} {g : FuncId} {args : List AV} {σ : Store} {M : Mo} {k : VK} {kd : IntKind} {I : Value → List Int → Prop} (hb : hasBody C.P g = true)
    (h : ∀ l m, Sees C l σ M m → Calls C.P g (concL l args).toArray m.w (Post m fun m v => ∃ bb vr xs, v = .agg #[bb, vr] ∧ I bb xs ∧ m.ints vr kd xs))
    (k' : ∀ M' c bb xs, M.Le M' → I bb xs → xs.length ≤ c → k (.agg [.v bb, .ls σ.length 0 xs.length c]) (σ ++ [⟨none, .ints kd xs⟩]) M') : CallK C g args σ M k :=
  ⟨hb, fun l w hr _ => (h l _ hr.sees).mono fun e w' ⟨v, h1, h2, bb, vr, xs, h3, hI, a, c, h4, h5, h6, h7⟩ => by
    subst h1
    subst h3
    subst h4
    obtain ⟨hle, hr'⟩ := hr.after h2
    refine ⟨[a], .agg [.v bb, .ls σ.length 0 xs.length c], _, _, ?_, ?_, hr'.imp a (.ints kd xs) trivial h6 h7, k' _ c bb xs hle hI h5⟩
    · rw [← hr.len]
      simp only [conc, concL, List.getD, List.getElem?_append_right (Nat.le_refl _), Nat.sub_self]
      rfl
    · simp [AV.ok, okL, hr.len]⟩

/-- A row that is read, of cells that are told one by one. -/
theorem Sees.ints_lit {C : Cx} {l : List Base} {σ : Store} {M m : Mo} (h : Sees C l σ M m) {id : Nat} {kd : IntKind} {c : Cells} {xs : List Int} (ho : σ[id]? = some ⟨none, c⟩) (hc : ∀ l, c.conc l = xs.map (.int kd)) {cp : Nat} (hcp : xs.length ≤ cp) :
    m.ints (conc l (.ls id 0 xs.length cp)) kd xs := by
  refine ⟨Base.up (l.getD id none) 0, cp, ?_, hcp, fun ad hh => ?_, ?_⟩
  · simp only [conc]
    cases l.getD id none <;> rfl
  · unfold Base.up at hh
    cases hq : l.getD id none with
    | none => rw [hq] at hh; cases hh
    | some q => rw [hq] at hh; simp at hh; subst hh; rfl
  · have := h.row id _ 0 xs.length ho
    rw [hc l, List.drop_zero, List.take_of_length_le (by simp)] at this
    exact this
theorem Mo.ints_nil (m : Mo) (kd : IntKind) : m.ints (.slice none 0 0) kd [] := ⟨none, 0, rfl, Nat.le_refl _, (fun _ h => by cases h), .inl rfl⟩

end Go.Gw

namespace Go.Gw
open Go Go.RowKit Go.Lib

/-! ### Strings out of bytes, bytes out of strings -/

def strB (xs : List Int) : ByteArray := ⟨(xs.map fun i => UInt8.ofNat i.toNat).toArray⟩
theorem strB_bytes (s : ByteArray) : strB (bytesI s) = s := by
  unfold strB bytesI
  rw [List.map_map]
  have : ((fun i : Int => UInt8.ofNat i.toNat) ∘ fun b : UInt8 => (b.toNat : Int)) = id := by
    funext b
    simp
  rw [this]
  simp
theorem bytes_strB {xs : List Int} (h : ∀ x ∈ xs, 0 ≤ x ∧ x < 256) : bytesI (strB xs) = xs := by
  unfold strB bytesI
  simp only [List.map_map]
  conv => rhs; rw [← List.map_id xs]
  apply List.map_congr_left
  intro x hx
  obtain ⟨h1, h2⟩ := h x hx
  simp
  omega
theorem bytesI_inj {s t : ByteArray} (h : bytesI s = bytesI t) : s = t := by rw [← strB_bytes s, ← strB_bytes t, h]
theorem bytesI_range (s : ByteArray) : ∀ x ∈ bytesI s, 0 ≤ x ∧ x < 256 := by
  intro x hx
  unfold bytesI at hx
  obtain ⟨b, _, rfl⟩ := List.mem_map.1 hx
  have := b.toNat_lt
  omega
theorem strB_size (xs : List Int) : (strB xs).size = xs.length := by
  show (List.map _ xs).toArray.size = _
  simp
theorem foldl_push_strB : ∀ (l : List Int) (r : ByteArray), l.foldl (fun r n => r.push (UInt8.ofNat n.toNat)) r = ⟨r.data ++ (l.map fun i => UInt8.ofNat i.toNat).toArray⟩
  | [], r => by simp
  | b :: l, r => by
    simp only [List.foldl_cons, List.map_cons]
    rw [foldl_push_strB l]
    simp [ByteArray.push]

def isStr (P : Program) (t : TypeId) : Bool := match P.underlying t with
  | some .string => true
  | _ => false
theorem isStr_iff {P : Program} {t : TypeId} (h : isStr P t = true) : P.underlying t = some .string := by
  unfold isStr at h
  split at h
  · assumption
  · cases h
def isU8 (P : Program) (t : TypeId) : Bool := match P.underlying t with
  | some (.int .u8) => true
  | _ => false
theorem isU8_iff {P : Program} {t : TypeId} (h : isU8 P t = true) : P.underlying t = some (.int .u8) := by
  unfold isU8 at h
  split at h
  · assumption
  · cases h

/-- A string out of bytes. -/
theorem conv_str_ {C : Cx} {s d : TypeId} (e : TypeId) {σ : Store} {M : Mo} {k : VK} {id off n c : Nat} {own : Option (TypeId × Nat)} {xs : List Int} (hs : sliceOf C.P s e = true) (he : isU8 C.P e = true) (hd : isStr C.P d = true)
    (ho : σ[id]? = some ⟨own, .ints .u8 xs⟩) (hn : off + n ≤ xs.length) (h : k (.v (.string (strB ((xs.drop off).take n)))) σ M) : ConvK C s d (.ls id off n c) σ M k :=
  ⟨fun l w hr _ => by
    refine ⟨w, [], .v (.string (strB ((xs.drop off).take n))), σ, M, ?_, by simpa using hr, trivial, h⟩
    simp only [conc]
    rw [run_convert_bytes_string w s d e _ n c (sliceOf_iff hs) (isU8_iff he) (isStr_iff hd)]
    by_cases hz : n = 0
    · subst hz
      cases hq : l.getD id none with
      | none =>
        simp only [Base.up, Option.map_none, Conv.bytesToString, Sem.run_pure]
        rfl
      | some ad =>
        simp only [Base.up, Option.map_some]
        have hl : (loadCells ⟨ad.block, ad.off + off, none⟩ 0).run C.P w = .ok ((([] : List Int)).map (Value.int .u8)).toArray w := by simp [loadCells, loadCellsFrom]
        rw [run_bytesToString w _ 0 c [] hl]
        simp [strB]
        rfl
    · obtain ⟨ad, e1, e2, e3⟩ := hr.reads ho (by simp only [Cells.len]; omega)
      simp only [e1, Base.up, Option.map_some]
      have hlen : (((xs.drop off).take n).map (Value.int .u8)).length = n := by simp; omega
      have hl := run_loadCells_list (P := C.P) (w := w) ⟨ad.block, ad.off + off, none⟩ (((xs.drop off).take n).map (Value.int .u8)) (fun j v hj => by
        rw [List.getElem?_map, List.getElem?_take] at hj
        split at hj
        · rw [List.getElem?_drop] at hj
          have := e3 (off + j) v (by simp only [Cells.conc, List.getElem?_map]; exact hj)
          rw [← Nat.add_assoc] at this
          rw [Addr.add_lit]; exact this
        · cases hj)
      rw [hlen] at hl
      rw [run_bytesToString w _ n c _ hl, foldl_push_strB]
      have he0 : ByteArray.empty.data = #[] := rfl
      rw [he0]
      simp [strB]⟩
theorem conv_str_nil_ {C : Cx} {s d : TypeId} (e : TypeId) {σ : Store} {M : Mo} {k : VK} {c : Nat} (hs : sliceOf C.P s e = true) (he : isU8 C.P e = true) (hd : isStr C.P d = true)
    (h : k (.v (.string (strB []))) σ M) : ConvK C s d (.v (.slice none 0 c)) σ M k :=
  ⟨fun l w hr _ => by
    refine ⟨w, [], .v (.string (strB [])), σ, M, ?_, by simpa using hr, trivial, h⟩
    simp only [conc]
    rw [run_convert_bytes_string w s d e _ 0 c (sliceOf_iff hs) (isU8_iff he) (isStr_iff hd)]
    simp only [Conv.bytesToString, Sem.run_pure]
    rfl⟩

/-- Bytes out of a string: a row that is only read. -/
theorem conv_bytes_ {C : Cx} {s d : TypeId} (e : TypeId) {σ : Store} {M : Mo} {k : VK} {str : ByteArray} (hs : isStr C.P s = true) (hd : sliceOf C.P d e = true) (he : isU8 C.P e = true)
    (h : ∀ c, (bytesI str).length ≤ c → k (.ls σ.length 0 (bytesI str).length c) (σ ++ [⟨none, .ints .u8 (bytesI str)⟩]) M) : ConvK C s d (.v (.string str)) σ M k :=
  ⟨fun l w hr _ => by
    have hsz := bytesI_length str
    have hge := grownCap_ge w str.size 0 e
    have hf : Fr [] w (bytesWorld w e str) := ⟨rfl, rfl, rfl, by rw [bytesWorld_size]; omega, fun k hk _ => bytesWorld_at_old w e str k hk⟩
    refine ⟨_, [some ⟨w.heap.size, 0, none⟩], .ls σ.length 0 (bytesI str).length (grownCap w str.size 0 e), _, M, ?_, (hr.step hf).snoc (some ⟨w.heap.size, 0, none⟩) ⟨none, .ints .u8 (bytesI str)⟩ ?_ trivial (fun ad e ho => by cases ho) (fun ad e hl hx => ?_) (fun ad e hl i b o hb ho hlo hor => ?_), ?_, h _ (by omega)⟩
    · have := Go.Lib.run_convert_string_bytes (P := C.P) w s d e str (isStr_iff hs) (sliceOf_iff hd) (isU8_iff he)
      simp only [conc, ← hr.len, Base.up, List.getD, List.getElem?_append_right (Nat.le_refl _), Nat.sub_self]
      rw [hsz]
      exact this
    · simp only [ObR]
      refine .inr ⟨_, rfl, rfl, fun i c hc => ?_⟩
      simp only [Cells.conc, List.getElem?_map] at hc
      rw [Nat.zero_add]
      cases hx : (bytesI str)[i]? with
      | none => rw [hx] at hc; cases hc
      | some x =>
        rw [hx] at hc
        simp at hc; subst hc
        have hi : i < (bytesI str).length := (List.getElem?_eq_some_iff.1 hx).1
        rw [bytesWorld_cell w e str i (by omega)]
        unfold bytesI at hx
        rw [List.getElem?_map] at hx
        cases hy : str.data.toList[i]? with
        | none => rw [hy] at hx; cases hx
        | some y =>
          rw [hy] at hx
          simp at hx; subst hx
          simp only [List.getD, hy]
          rfl
    · simp at e; subst e
      have := hr.bd _ hx
      have := hr.ent.size
      simp at *
      omega
    · simp at e; subst e
      have := hr.lt i b o hb ho hlo
      simp
      omega
    · simp [AV.ok, hr.len]⟩

/-! ### nil as a row of one's own -/
theorem Rel.nil {C : Cx} {l : List Base} {σ : Store} {M : Mo} {w : World} (h : Rel C l σ M w) (e : TypeId) (kd : IntKind) : Rel C (l ++ [none]) (σ ++ [⟨some (e, 0), .ints kd []⟩]) M w :=
  h.snoc none ⟨some (e, 0), .ints kd []⟩ (.inl ⟨rfl, rfl, rfl⟩) trivial (fun a e => by cases e) (fun a e => by cases e) (fun a e => by cases e)
theorem Ref.nil {C : Cx} {e : Env} {σ : Store} {M : Mo} (t : Nat) (te : TypeId) (kd : IntKind) (h : e.get t = some (.v (.slice none 0 0))) : Ref C e σ M ((t, .ls σ.length 0 0 0) :: e) (σ ++ [⟨some (te, 0), .ints kd []⟩]) M := fun l a w he hr => by
  refine ⟨l ++ [none], ?_, hr.nil te kd⟩
  have hlen := hr.len
  refine he.ext.drop t (.v (.slice none 0 0)) (.ls σ.length 0 0 0) h ?_ ?_
  · simp only [conc, ← hlen, List.getD, List.getElem?_append_right (Nat.le_refl _), Nat.sub_self]
    rfl
  · simp [AV.ok, hlen]
theorem LoopK.nil {C : Cx} {c : Code} {K : AK} {e : Env} {σ : Store} {M : Mo} (t : Nat) (te : TypeId) (kd : IntKind) (h : e.get t = some (.v (.slice none 0 0))) (k : LoopK C c K ((t, .ls σ.length 0 0 0) :: e) (σ ++ [⟨some (te, 0), .ints kd []⟩]) M) : LoopK C c K e σ M :=
  ⟨⟨fun Q hQ l a w he hr => by
    obtain ⟨l', he', hr'⟩ := Ref.nil (C := C) t te kd h l a w he hr
    exact k.out.out Q hQ l' a w he' hr'⟩⟩

end Go.Gw

namespace Go.Gw
open Go Go.RowKit

theorem fin_mutV {C : Cx} {σ : Store} {M : Mo} {b : Nat} {te : TypeId} {tot : Nat} {kd : IntKind} {ys : List Int} {av : AV} {v : Value} {R : World → List Int → Value → Prop} (hR : ∀ w, R w ys v) (hmu : C.mu = [b] := by rfl) (ho : σ[0]? = some ⟨some (te, tot), .ints kd ys⟩ := by rfl) (hv : ∀ l, conc l av = v := by exact fun _ => rfl) :
    FinK C (PostM b te tot kd C.w0 R) av σ M :=
  ⟨fun l w hr _ => by
    obtain ⟨_, arr, h1, h2, h3⟩ := hr.pinned hmu ho
    exact ⟨v, ys, arr, by rw [hv], by simpa [hmu] using hr.ent, h1, h2, h3, hR w⟩⟩

/-- A row that stands in a slot as a bare value becomes an object. -/
theorem Ref.imp {C : Cx} {e : Env} {σ : Store} {M : Mo} (t : Nat) {p : Option Addr} {n c : Nat} {kd : IntKind} {xs : List Int} (h : e.get t = some (.v (.slice p n c))) (hv : M.ints (.slice p n c) kd xs) :
    Ref C e σ M ((t, .ls σ.length 0 xs.length c) :: e) (σ ++ [⟨none, .ints kd xs⟩]) M := fun l a w he hr => by
  obtain ⟨a0, c0, h1, h2, h3, h4⟩ := hv.mono hr.le2
  injection h1 with h1 h5 h6
  subst h5; subst h6; subst h1
  have hlen := hr.len
  refine ⟨l ++ [a0], ?_, hr.imp a0 (.ints kd xs) trivial h3 h4⟩
  refine he.ext.drop t (.v (.slice (Base.up a0 0) xs.length c)) (.ls σ.length 0 xs.length c) h ?_ ?_
  · simp only [conc, ← hlen, List.getD, List.getElem?_append_right (Nat.le_refl _), Nat.sub_self]
    rfl
  · simp [AV.ok, hlen]
theorem LoopK.ref {C : Cx} {c : Code} {K : AK} {e e' : Env} {σ σ' : Store} {M M' : Mo} (h : Ref C e σ M e' σ' M') (k : LoopK C c K e' σ' M') : LoopK C c K e σ M :=
  ⟨⟨fun Q hQ l a w he hr => by
    obtain ⟨l', he', hr'⟩ := h l a w he hr
    exact k.out.out Q hQ l' a w he' hr'⟩⟩

/-- More numbers behind a row. -/
theorem rd_lit {C : Cx} {σ : Store} {M : Mo} {tx e' : TypeId} {kd : IntKind} {xs : List Int} {id : Nat} {own : Option (TypeId × Nat)} {cs : List AV} {n c : Nat} (hk : sliceOf C.P tx e' = true) (ho : σ[id]? = some ⟨own, .lit cs⟩) (hc : ∀ l, concL l cs = xs.map (.int kd)) (hn : n = xs.length) :
    Rd C σ M (.ls id 0 n c) tx kd xs := by
  subst hn
  simpa using rd_obj (M := M) (sliceOf_iff hk) ho hc 0 xs.length c (by omega)
end Go.Gw

namespace Go.Gw
open Go Go.RowKit

/-! ### Strings held against one another, and their parts -/
theorem toList_loop (b : ByteArray) : ∀ (n i : Nat) (r : List UInt8), b.size - i = n → ByteArray.toList.loop b i r = r.reverse ++ b.data.toList.drop i := by
  intro n
  induction n with
  | zero =>
    intro i r h
    unfold ByteArray.toList.loop
    rw [if_neg (by omega), List.drop_of_length_le (by rw [Array.length_toList]; show b.size ≤ i; omega), List.append_nil]
  | succ n ih =>
    intro i r h
    unfold ByteArray.toList.loop
    have hi : i < b.size := by omega
    have hi' : i < b.data.toList.length := by rw [Array.length_toList]; exact hi
    rw [if_pos hi, ih (i + 1) _ (by omega), List.drop_eq_getElem_cons hi', List.reverse_cons, List.append_assoc]
    congr 1
    have : b.get! i = b.data.toList[i] := by
      have hd : i < b.data.size := hi
      show b.data[i]! = _
      rw [getElem!_pos b.data i hd]
      rfl
    rw [this]
    rfl
theorem ba_toList (b : ByteArray) : b.toList = b.data.toList := by
  unfold ByteArray.toList
  rw [toList_loop b _ 0 [] rfl]
  rfl
theorem str_eq (a b : ByteArray) : (a.toList == b.toList) = decide (bytesI a = bytesI b) := by
  rw [ba_toList, ba_toList, Bool.eq_iff_iff]
  simp only [beq_iff_eq, decide_eq_true_eq]
  constructor
  · intro h; unfold bytesI; rw [h]
  · intro h; rw [bytesI_inj h]
theorem bytes_extract (s : ByteArray) (l h : Nat) : bytesI (s.extract l h) = ((bytesI s).take h).drop l := by
  unfold bytesI
  rw [ByteArray.data_extract]
  simp [List.map_take, List.map_drop, List.drop_take]
theorem bytes_size {s : ByteArray} {bs : List Int} (h : bytesI s = bs) : s.size = bs.length := by rw [← h, bytesI_length]
end Go.Gw

namespace Go.Gw
theorem Br.yes {b : Bool} {t f : Prop} (h : b = true) (k : t) : Br b t f := ⟨fun _ => k, fun h2 => (by rw [h] at h2; cases h2)⟩
theorem Br.no {b : Bool} {t f : Prop} (h : b = false) (k : f) : Br b t f := ⟨fun h2 => (by rw [h] at h2; cases h2), fun _ => k⟩
end Go.Gw

/- The last step of a law's row: a call that may have frozen something new. -/
namespace Go.Gw
open Go Go.RowKit Go.WideShapes Go.ChangeShapes
section
variable {H : Type} {enc : TypeId × Value → H} {P : Program}
theorem post_of_below {f : Func} {s : ChangeSpec} {apart fresh handsOn again : Bool} {W W' : World} {args : Array Value} {v : Value} {ds gs : List (DataW H)} {before pa pv : List MemPlace}
    (hW : DataW.Whole enc P f.params.toList s.vars apart W args.toList ds gs before)
    (hres : ∀ (b : Nat) (sp : Nat → Bool) (hd : Bool), DataW.TrodAll enc P W' b sp hd f.resultTypes.toList (v.resultList f.resultTypes.size) (s.fn H (ds ++ gs)).results [])
    (hargs : ∀ sp : Nat → Bool, (∀ p ∈ before, sp p.block = true) → DataW.TrodAll enc P W' 0 sp true f.params.toList args.toList (s.fn H (ds ++ gs)).args pa)
    (hvars : ∀ sp : Nat → Bool, (∀ p ∈ before, sp p.block = true) → DataW.TrodVars enc P W' sp s.vars (s.fn H (ds ++ gs)).vars pv)
    (hps : before = pa ++ pv) (hb : Below W.heap.size W W')
    (hok : ∀ (j : Nat) (t : TypeId) (r : Value), f.resultTypes[j]? = some t → (v.resultList f.resultTypes.size)[j]? = some r → Value.okWide P W' .any 0 t r) :
    s.post enc P f apart fresh handsOn again W args v W' := by
  have hlt : ∀ p ∈ before, p.block < W.heap.size := fun p hp => hW.lt p hp
  have hold : ∀ p ∈ before, (fun b => decide (b < W.heap.size)) p.block = true := fun p hp => by simpa using hlt p hp
  refine ⟨ds, gs, before, [], pa, pv, hW, hres _ _ _, hargs _ hold, hvars _ hold, World.keptBut_mono (fun p hp => ⟨hp, ?_⟩) (hb.frame (· ∈ before)), fun _ => ?_⟩
  · rw [hps, List.mem_append] at hp
    exact Or.inr hp
  · obtain ⟨_, _, _, _, _, hz, hn⟩ := hW
    refine ⟨hok, _, _, ([] ++ pa) ++ pv, ⟨[] ++ pa, pv, trodAll_append (hargs _ (fun _ _ => rfl)) (hres _ _ _), hvars _ (fun _ _ => rfl), rfl, ?_, ?_⟩, ?_⟩
    · intro b off hp
      have hin : MemPlace.cell b off ∈ before := by rw [hps]; simpa using hp
      rw [hb.frozen (hlt _ hin)]
      exact hz b off hin
    · intro ha
      have := hn ha
      rw [hps] at this
      simpa using this
    · intro p hp _
      rw [hps]
      simpa using hp
end
theorem post_true {w w' : World} {e : Ending} (h : Post ⟨[], w⟩ (fun _ v => v = .bool true) e w') : e = .returned (.bool true) ∧ Below w.heap.size w w' := by
  obtain ⟨v, h1, h2, h3⟩ := h
  exact ⟨by rw [h1, h3], h2.below⟩
theorem okm_nil (w : World) : Mo.okm ⟨[], w⟩ := fun b hb => by cases hb
end Go.Gw
