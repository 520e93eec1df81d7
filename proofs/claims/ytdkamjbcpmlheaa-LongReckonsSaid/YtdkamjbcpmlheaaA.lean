/- The walker's ground: values and memory as a walk through a Go function tells them, and what each operation makes of them. -/
import Derived.WalkKit
import Derived.Orders
set_option linter.unusedVariables false
set_option linter.unusedSimpArgs false
/- The walker's own ground: values that may point into memory of the call's own, the store that tells that memory, and how both stand to a world. -/
namespace Go.Gw
open Go Go.RowKit

/-- A world but for the blocks of L. -/
structure Fr (L : List Nat) (m w : World) : Prop where
  os : w.os = m.os
  tape : w.tape = m.tape
  output : w.output = m.output
  size : m.heap.size ≤ w.heap.size
  block : ∀ k, k < m.heap.size → k ∉ L → w.heap[k]? = m.heap[k]?

theorem Fr.refl (L : List Nat) (w : World) : Fr L w w := ⟨rfl, rfl, rfl, Nat.le_refl _, fun _ _ _ => rfl⟩
theorem Fr.trans {L : List Nat} {a b c : World} (h : Fr L a b) (k : Fr L b c) : Fr L a c :=
  ⟨k.os.trans h.os, k.tape.trans h.tape, k.output.trans h.output, Nat.le_trans h.size k.size, fun i hi hn => (k.block i (Nat.lt_of_lt_of_le hi h.size) hn).trans (h.block i hi hn)⟩
theorem Fr.mono {L L' : List Nat} {a b : World} (h : Fr L a b) (hl : ∀ x, x < a.heap.size → x ∈ L → x ∈ L') : Fr L' a b :=
  ⟨h.os, h.tape, h.output, h.size, fun i hi hn => h.block i hi (fun hx => hn (hl i hi hx))⟩
theorem Fr.drew {L : List Nat} {a w : World} (h : Fr L a w) : Fr L a w.drew := ⟨h.os, h.tape, h.output, h.size, h.block⟩
theorem Fr.alloc {L : List Nat} {a w : World} (h : Fr L a w) (o : Obj) : Fr L a (w.alloc o) :=
  ⟨h.os, h.tape, h.output, by simp; have := h.size; omega, fun i hi hn => (Below.heap_alloc w o i (Nat.lt_of_lt_of_le hi h.size)).trans (h.block i hi hn)⟩
theorem Fr.setBlk {L : List Nat} {a w w' : World} (h : Fr L a w) (b : Nat) (hb : b ∈ L ∨ a.heap.size ≤ b) (h1 : w'.os = w.os) (h2 : w'.tape = w.tape) (h3 : w'.output = w.output) (h4 : w'.heap.size = w.heap.size)
    (h5 : ∀ k, k ≠ b → w'.heap[k]? = w.heap[k]?) : Fr L a w' :=
  ⟨h1.trans h.os, h2.trans h.tape, h3.trans h.output, by rw [h4]; exact h.size, fun i hi hn => (h5 i (fun e => by subst e; rcases hb with hb | hb; exact hn hb; omega)).trans (h.block i hi hn)⟩
theorem Fr.below {w w' : World} (h : Fr [] w w') : Below w.heap.size w w' := ⟨h.os, h.tape, h.output, h.size, fun k hk => h.block k hk (by simp)⟩
theorem Fr.ofBelow {w w' : World} (h : Below w.heap.size w w') : Fr [] w w' := ⟨h.os, h.tape, h.output, h.size, fun k hk _ => h.block k hk⟩

/-- A moment: a world, and the blocks that are somebody's own in it (of which no fact speaks). -/
structure Mo where
  L : List Nat
  w : World

/-- What stands outside what is owned stays. -/
structure Mo.Le (m m' : Mo) : Prop where
  size : m.w.heap.size ≤ m'.w.heap.size
  keep : ∀ b, b < m.w.heap.size → b ∉ m.L → m'.w.heap[b]? = m.w.heap[b]? ∧ b ∉ m'.L
theorem Mo.Le.refl (m : Mo) : m.Le m := ⟨Nat.le_refl _, fun _ _ h => ⟨rfl, h⟩⟩
theorem Mo.Le.trans {a b c : Mo} (h : a.Le b) (k : b.Le c) : a.Le c :=
  ⟨Nat.le_trans h.size k.size, fun i hi hn => let ⟨e, n⟩ := h.keep i hi hn; let ⟨e', n'⟩ := k.keep i (Nat.lt_of_lt_of_le hi h.size) n; ⟨e'.trans e, n'⟩⟩

/-- An address's cell, outside what is owned. -/
def Mo.at (m : Mo) (a : Addr) (v : Value) : Prop := a.block ∉ m.L ∧ m.w.cell? a = some v
theorem Mo.at.mono {m m' : Mo} {a : Addr} {v : Value} (h : m.at a v) (l : m.Le m') : m'.at a v := by
  obtain ⟨h1, h2⟩ := h
  have hb := World.block_lt_of_cell? _ _ h2
  obtain ⟨e, n⟩ := l.keep _ hb h1
  exact ⟨n, (World.cell?_of_block e).trans h2⟩

/-- A row of cells behind an address. -/
def Mo.row (m : Mo) (a : Option Addr) (cs : List Value) : Prop :=
  cs = [] ∨ ∃ b o, a = some ⟨b, o, none⟩ ∧ ∀ i c, cs[i]? = some c → m.at ⟨b, o + i, none⟩ c
theorem Mo.row.mono {m m' : Mo} {a : Option Addr} {cs : List Value} (h : m.row a cs) (l : m.Le m') : m'.row a cs := by
  rcases h with h | ⟨b, o, ha, h⟩
  · exact .inl h
  · exact .inr ⟨b, o, ha, fun i c hc => (h i c hc).mono l⟩
theorem Mo.row.take {m : Mo} {a : Option Addr} {cs : List Value} (h : m.row a cs) (n : Nat) : m.row a (cs.take n) := by
  rcases h with h | ⟨b, o, ha, h⟩
  · left; simp [h]
  · right
    refine ⟨b, o, ha, fun i c hc => h i c ?_⟩
    rw [List.getElem?_take] at hc
    split at hc
    · exact hc
    · cases hc

/-! ### Values that may point into what is owned -/

inductive AV where
  | v (x : Value)
  | kb (b : Bool)
  | lp (id off : Nat)
  | ls (id off len cap : Nat)
  | agg (cs : List AV)
  | tup (cs : List AV)
  | fn (f : Nat) (caps : List AV)

abbrev Base := Option Addr
def Base.up (b : Base) (n : Nat) : Option Addr := b.map fun a => ⟨a.block, a.off + n, none⟩

mutual
def conc (l : List Base) : AV → Value
  | .v x => x
  | .kb b => .bool b
  | .lp id o => .pointer (Base.up (l.getD id none) o)
  | .ls id o n c => .slice (Base.up (l.getD id none) o) n c
  | .agg cs => .agg (concL l cs).toArray
  | .tup cs => .tuple (concL l cs).toArray
  | .fn f cs => .func (.func f) #[] (concL l cs).toArray
def concL (l : List Base) : List AV → List Value
  | [] => []
  | a :: r => conc l a :: concL l r
end

mutual
def AV.ok (n : Nat) : AV → Prop
  | .v _ => True
  | .kb _ => True
  | .lp id _ => id < n
  | .ls id _ _ _ => id < n
  | .agg cs => okL n cs
  | .tup cs => okL n cs
  | .fn _ cs => okL n cs
def okL (n : Nat) : List AV → Prop
  | [] => True
  | a :: r => a.ok n ∧ okL n r
end

theorem getD_append (l x : List Base) (id : Nat) (h : id < l.length) : (l ++ x).getD id none = l.getD id none := by
  simp [List.getD, List.getElem?_append_left h]

mutual
theorem conc_append (l x : List Base) : ∀ a : AV, a.ok l.length → conc (l ++ x) a = conc l a
  | .v _, _ => rfl
  | .kb _, _ => rfl
  | .lp id o, h => by simp only [AV.ok] at h; simp only [conc, getD_append l x id h]
  | .ls id o n c, h => by simp only [AV.ok] at h; simp only [conc, getD_append l x id h]
  | .agg cs, h => by simp only [AV.ok] at h; simp only [conc, concL_append l x cs h]
  | .tup cs, h => by simp only [AV.ok] at h; simp only [conc, concL_append l x cs h]
  | .fn f cs, h => by simp only [AV.ok] at h; simp only [conc, concL_append l x cs h]
theorem concL_append (l x : List Base) : ∀ cs : List AV, okL l.length cs → concL (l ++ x) cs = concL l cs
  | [], _ => rfl
  | a :: r, h => by simp only [okL] at h; simp only [concL, conc_append l x a h.1, concL_append l x r h.2]
end
mutual
theorem AV.ok.mono {n k : Nat} (hk : n ≤ k) : ∀ a : AV, a.ok n → a.ok k
  | .v _, h => h
  | .kb _, h => h
  | .lp id o, h => by simp only [AV.ok] at *; omega
  | .ls id o _ c, h => by simp only [AV.ok] at *; omega
  | .agg cs, h => by simp only [AV.ok] at *; exact okL.mono hk cs h
  | .tup cs, h => by simp only [AV.ok] at *; exact okL.mono hk cs h
  | .fn f cs, h => by simp only [AV.ok] at *; exact okL.mono hk cs h
theorem okL.mono {n k : Nat} (hk : n ≤ k) : ∀ cs : List AV, okL n cs → okL k cs
  | [], h => h
  | a :: r, h => by simp only [okL] at *; exact ⟨AV.ok.mono hk a h.1, okL.mono hk r h.2⟩
end

theorem concL_length (l : List Base) : ∀ cs : List AV, (concL l cs).length = cs.length
  | [] => rfl
  | _ :: r => by simp [concL, concL_length l r]
theorem concL_get (l : List Base) : ∀ (cs : List AV) (i : Nat), (concL l cs)[i]? = (cs[i]?).map (conc l)
  | [], i => by simp [concL]
  | a :: r, 0 => by simp [concL]
  | a :: r, i + 1 => by simp [concL, concL_get l r i]
theorem okL_get {n : Nat} : ∀ {cs : List AV} {i : Nat} {a : AV}, okL n cs → cs[i]? = some a → a.ok n
  | b :: r, 0, a, h, e => by simp at e; subst e; exact h.1
  | b :: r, i + 1, a, h, e => by simp at e; exact okL_get (cs := r) (i := i) h.2 e
theorem okL_append {n : Nat} : ∀ {a b : List AV}, okL n a → okL n b → okL n (a ++ b)
  | [], _, _, h => h
  | _ :: _, _, h, k => ⟨h.1, okL_append h.2 k⟩
theorem okL_take {n : Nat} : ∀ {a : List AV} (k : Nat), okL n a → okL n (a.take k)
  | [], k, h => by simpa using h
  | a :: r, 0, h => by simp [okL]
  | a :: r, k + 1, h => by simp only [List.take_succ_cons, okL]; exact ⟨h.1, okL_take k h.2⟩
theorem okL_drop {n : Nat} : ∀ {a : List AV} (k : Nat), okL n a → okL n (a.drop k)
  | [], k, h => by simpa using h
  | a :: r, 0, h => h
  | a :: r, k + 1, h => by simp only [List.drop_succ_cons]; exact okL_drop k h.2
theorem concL_app (l : List Base) : ∀ a b : List AV, concL l (a ++ b) = concL l a ++ concL l b
  | [], _ => rfl
  | _ :: r, b => by simp [concL, concL_app l r b]
theorem concL_take (l : List Base) : ∀ (a : List AV) (k : Nat), concL l (a.take k) = (concL l a).take k
  | [], k => by simp [concL]
  | a :: r, 0 => by simp [concL]
  | a :: r, k + 1 => by simp [concL, concL_take l r k]
theorem concL_drop (l : List Base) : ∀ (a : List AV) (k : Nat), concL l (a.drop k) = (concL l a).drop k
  | [], k => by simp [concL]
  | a :: r, 0 => by simp [concL]
  | a :: r, k + 1 => by simp [concL, concL_drop l r k]
theorem concL_map_v (l : List Base) : ∀ xs : List Value, concL l (xs.map AV.v) = xs
  | [] => rfl
  | x :: r => by simp [concL, conc, concL_map_v l r]
theorem okL_map_v (n : Nat) : ∀ xs : List Value, okL n (xs.map AV.v)
  | [] => trivial
  | x :: r => ⟨trivial, okL_map_v n r⟩

/-- The cells of a value. -/
def AV.cells : AV → List AV
  | .agg cs => cs
  | .v (.agg cs) => cs.toList.map .v
  | a => [a]
theorem conc_cells (l : List Base) (a : AV) : (conc l a).cells.toList = concL l a.cells := by
  cases a with
  | agg cs => simp [conc, AV.cells, Value.cells]
  | v x => cases x <;> simp [conc, AV.cells, Value.cells, concL, concL_map_v]
  | kb _ => simp [conc, AV.cells, Value.cells, concL]
  | lp _ _ => simp [conc, AV.cells, Value.cells, concL]
  | ls _ _ _ _ => simp [conc, AV.cells, Value.cells, concL]
  | tup _ => simp [conc, AV.cells, Value.cells, concL]
  | fn _ _ => simp [conc, AV.cells, Value.cells, concL]
theorem ok_cells {n : Nat} {a : AV} (h : a.ok n) : okL n a.cells := by
  cases a with
  | agg cs => exact h
  | v x => cases x <;> first | exact okL_map_v _ _ | exact ⟨trivial, trivial⟩
  | _ => exact ⟨h, trivial⟩

end Go.Gw

namespace Go.Gw
open Go Go.RowKit

/-! ### The store -/

inductive Cells where
  | lit (cs : List AV)
  | ints (k : IntKind) (xs : List Int)
def Cells.conc (l : List Base) : Cells → List Value
  | .lit cs => concL l cs
  | .ints k xs => xs.map (.int k)
def Cells.ok (n : Nat) : Cells → Prop
  | .lit cs => okL n cs
  | .ints _ _ => True
def Cells.len : Cells → Nat
  | .lit cs => cs.length
  | .ints _ xs => xs.length
theorem Cells.conc_length (l : List Base) (c : Cells) : (c.conc l).length = c.len := by
  cases c <;> simp [Cells.conc, Cells.len, concL_length]
theorem Cells.conc_append (l x : List Base) (c : Cells) (h : c.ok l.length) : c.conc (l ++ x) = c.conc l := by
  cases c with
  | lit cs => exact concL_append l x cs h
  | ints k xs => rfl

/-- An object: the call's own (its element's type, how many cells the block has), or one that is only read. -/
structure Ob where
  own : Option (TypeId × Nat)
  c : Cells
abbrev Store := List Ob
abbrev Env := List (Nat × AV)

def ObR (l : List Base) (w : World) (b : Base) (o : Ob) : Prop :=
  match o.own with
  | some (t, tot) => (b = none ∧ o.c.len = 0 ∧ tot = 0) ∨ ∃ blk arr, b = some ⟨blk, 0, none⟩ ∧ w.heap[blk]? = some (.cells arr t (0, 0)) ∧ arr.size = tot ∧ arr.toList.take o.c.len = o.c.conc l
  | none => o.c.len = 0 ∨ ∃ ad, b = some ad ∧ ad.spot = none ∧ ∀ i c, (o.c.conc l)[i]? = some c → w.cell? ⟨ad.block, ad.off + i, none⟩ = some c

def Ob.live (o : Ob) : Prop := o.own.isSome = true ∨ o.c.len ≠ 0

/-- What does not turn in a walk: what may be changed of what was there at the entry, the world then, and the blocks that are others' own. -/
structure Cx where
  P : Program
  N : Nat
  mu : List Nat
  w0 : World
  L0 : List Nat

structure Rel (C : Cx) (l : List Base) (σ : Store) (M : Mo) (w : World) : Prop where
  len : l.length = σ.length
  bd : ∀ b ∈ C.L0, b < C.w0.heap.size
  ent : Fr C.mu C.w0 w
  fr : Fr M.L M.w w
  sub : ∀ b ∈ C.L0, b ∈ M.L
  ob : ∀ (i : Nat) (b : Base) (o : Ob), l[i]? = some b → σ[i]? = some o → ObR l w b o ∧ o.c.ok l.length
  own : ∀ (i : Nat) (b : Addr) (o : Ob), l[i]? = some (some b) → σ[i]? = some o → o.own.isSome = true → (b.block ∈ M.L ∨ M.w.heap.size ≤ b.block) ∧ (b.block ∈ C.mu ∨ C.w0.heap.size ≤ b.block)
  out : ∀ (i : Nat) (b : Addr) (o : Ob), l[i]? = some (some b) → σ[i]? = some o → o.live → b.block ∉ C.L0
  dis : ∀ (i j : Nat) (b b' : Addr) (o o' : Ob), i ≠ j → l[i]? = some (some b) → l[j]? = some (some b') → σ[i]? = some o → σ[j]? = some o' → o.own.isSome = true → o'.live → b.block ≠ b'.block
  pin : ∀ (i b : Nat), C.mu[i]? = some b → l[i]? = some (some ⟨b, 0, none⟩)

theorem Rel.le {C : Cx} {l : List Base} {σ : Store} {M : Mo} {w : World} (h : Rel C l σ M w) : M.Le ⟨C.L0, w⟩ :=
  ⟨h.fr.size, fun b hb hn => ⟨h.fr.block b hb hn, fun hx => hn (h.sub b hx)⟩⟩

/-- The blocks of what is own. -/
def owns (l : List Base) (σ : Store) : List Nat := (l.zip σ).filterMap fun (b, o) => if o.own.isSome then b.map (·.block) else none
theorem mem_owns {l : List Base} {σ : Store} {k : Nat} : k ∈ owns l σ ↔ ∃ (i : Nat) (b : Addr) (o : Ob), l[i]? = some (some b) ∧ σ[i]? = some o ∧ o.own.isSome = true ∧ b.block = k := by
  unfold owns
  rw [List.mem_filterMap]
  constructor
  · rintro ⟨⟨b, o⟩, hm, hk⟩
    obtain ⟨i, hi⟩ := List.getElem?_of_mem hm
    rw [List.getElem?_zip_eq_some] at hi
    by_cases ho : o.own.isSome = true
    · simp only [ho, if_true] at hk
      cases b with
      | none => simp at hk
      | some b => simp at hk; exact ⟨i, b, o, hi.1, hi.2, ho, hk⟩
    · simp [ho] at hk
  · rintro ⟨i, b, o, h1, h2, h3, h4⟩
    refine ⟨(some b, o), List.mem_of_getElem? (List.getElem?_zip_eq_some.2 ⟨h1, h2⟩), by simp [h3, h4]⟩

theorem Rel.drew {C : Cx} {l : List Base} {σ : Store} {M : Mo} {w : World} (h : Rel C l σ M w) : Rel C l σ M w.drew :=
  ⟨h.len, h.bd, h.ent.drew, h.fr.drew, h.sub, h.ob, h.own, h.out, h.dis, h.pin⟩

theorem ObR.ext {l x : List Base} {w : World} {b : Base} {o : Ob} (h : ObR l w b o) (hk : o.c.ok l.length) : ObR (l ++ x) w b o := by
  unfold ObR at *
  rw [Cells.conc_append l x o.c hk]
  exact h

theorem Cells.ok.mono {n k : Nat} (hk : n ≤ k) {c : Cells} (h : c.ok n) : c.ok k := by
  cases c with
  | lit cs => exact okL.mono hk cs h
  | ints _ _ => trivial

/-- A world in which every block that was there is as it was: all stays. -/
theorem Rel.step {C : Cx} {l : List Base} {σ : Store} {M : Mo} {w w' : World} (h : Rel C l σ M w) (hf : Fr [] w w') : Rel C l σ M w' := by
  have hblk : ∀ k, k < w.heap.size → w'.heap[k]? = w.heap[k]? := fun k hk => hf.block k hk (by simp)
  refine ⟨h.len, h.bd, h.ent.trans (hf.mono (by simp)), h.fr.trans (hf.mono (by simp)), h.sub, fun i b o hb ho => ?_, h.own, h.out, h.dis, h.pin⟩
  obtain ⟨h1, h2⟩ := h.ob i b o hb ho
  refine ⟨?_, h2⟩
  unfold ObR at *
  split at h1
  · rename_i t tot hown
    rcases h1 with h1 | ⟨blk, arr, e1, e2, e3, e4⟩
    · exact .inl h1
    refine .inr ⟨blk, arr, e1, (hblk blk (Array.getElem?_eq_some_iff.1 e2).1).trans e2, e3, e4⟩
  · rename_i hown
    rcases h1 with h1 | ⟨ad, e1, e2, e3⟩
    · exact .inl h1
    · exact .inr ⟨ad, e1, e2, fun i c hc => (World.cell?_of_block (hblk _ (World.block_lt_of_cell? _ _ (e3 i c hc)))).trans (e3 i c hc)⟩

theorem Rel.lt {C : Cx} {l : List Base} {σ : Store} {M : Mo} {w : World} (h : Rel C l σ M w) (i : Nat) (b : Addr) (o : Ob) (hb : l[i]? = some (some b)) (ho : σ[i]? = some o) (hl : o.live) : b.block < w.heap.size := by
  obtain ⟨hr, _⟩ := h.ob i _ o hb ho
  unfold ObR at hr
  split at hr
  · rcases hr with ⟨hr, _⟩ | ⟨blk, arr, e1, e2, _⟩
    · cases hr
    simp at e1; subst e1
    exact (Array.getElem?_eq_some_iff.1 e2).1
  · rename_i hown
    rcases hr with hr | ⟨ad, e1, _, e3⟩
    · rcases hl with hl | hl
      · simp [hown] at hl
      · exact absurd hr hl
    · simp at e1; subst e1
      rcases hl with hl | hl
      · simp [hown] at hl
      · have hln : 0 < (o.c.conc l).length := by rw [Cells.conc_length]; omega
        exact World.block_lt_of_cell? w ⟨b.block, b.off + 0, none⟩ (e3 0 _ (List.getElem?_eq_getElem hln))

theorem snoc_get {α : Type} (l : List α) (x b : α) (i : Nat) (h : (l ++ [x])[i]? = some b) : (i < l.length ∧ l[i]? = some b) ∨ (i = l.length ∧ b = x) := by
  by_cases hi : i < l.length
  · left; rw [List.getElem?_append_left hi] at h; exact ⟨hi, h⟩
  · right
    rw [List.getElem?_append_right (by omega)] at h
    have : i - l.length = 0 := by
      rcases Nat.eq_zero_or_pos (i - l.length) with e | e
      · exact e
      · rw [List.getElem?_eq_none (by simp; omega)] at h; cases h
    rw [this] at h; simp at h
    exact ⟨by omega, h.symm⟩

/-- One object more. -/
theorem Rel.snoc {C : Cx} {l : List Base} {σ : Store} {M : Mo} {w : World} (h : Rel C l σ M w) (nb : Base) (no : Ob) (hr : ObR l w nb no) (hk : no.c.ok l.length)
    (hown : ∀ a, nb = some a → no.own.isSome = true → (a.block ∈ M.L ∨ M.w.heap.size ≤ a.block) ∧ (a.block ∈ C.mu ∨ C.w0.heap.size ≤ a.block))
    (hout : ∀ a, nb = some a → no.live → a.block ∉ C.L0)
    (hdis : ∀ a, nb = some a → no.live → ∀ (i : Nat) (b : Addr) (o : Ob), l[i]? = some (some b) → σ[i]? = some o → o.live → (no.own.isSome = true ∨ o.own.isSome = true) → b.block ≠ a.block) :
    Rel C (l ++ [nb]) (σ ++ [no]) M w := by
  have hσ : ∀ (i : Nat) (b : Base) (o : Ob), (l ++ [nb])[i]? = some b → (σ ++ [no])[i]? = some o → (i < l.length ∧ l[i]? = some b ∧ σ[i]? = some o) ∨ (i = l.length ∧ b = nb ∧ o = no) := by
    intro i b o hb ho
    rcases snoc_get _ _ _ _ hb with ⟨h1, h2⟩ | ⟨h1, h2⟩ <;> rcases snoc_get _ _ _ _ ho with ⟨h3, h4⟩ | ⟨h3, h4⟩
    · exact .inl ⟨h1, h2, h4⟩
    · rw [h.len] at h1; omega
    · rw [h.len] at h1; omega
    · exact .inr ⟨h1, h2, h4⟩
  refine ⟨by simp [h.len], h.bd, h.ent, h.fr, h.sub, fun i b o hb ho => ?_, fun i b o hb ho ho' => ?_, fun i b o hb ho hl => ?_, fun i j b b' o o' hij hb hb' ho ho' hown' hl => ?_, fun i b hb => by
    have h1 := h.pin i b hb
    rw [List.getElem?_append_left (List.getElem?_eq_some_iff.1 h1).1]; exact h1⟩
  · rcases hσ i b o hb ho with ⟨_, hb, ho⟩ | ⟨_, rfl, rfl⟩
    · obtain ⟨r1, r2⟩ := h.ob i b o hb ho
      exact ⟨r1.ext r2, r2.mono (by simp)⟩
    · exact ⟨hr.ext hk, hk.mono (by simp)⟩
  · rcases hσ i _ o hb ho with ⟨_, hb, ho⟩ | ⟨_, e, rfl⟩
    · exact h.own i b o hb ho ho'
    · exact hown b e.symm ho'
  · rcases hσ i _ o hb ho with ⟨_, hb, ho⟩ | ⟨_, e, rfl⟩
    · exact h.out i b o hb ho hl
    · exact hout b e.symm hl
  · rcases hσ i _ o hb ho with ⟨h1, hbi, hoi⟩ | ⟨h1, e, rfl⟩ <;> rcases hσ j _ o' hb' ho' with ⟨h2, hbj, hoj⟩ | ⟨h2, e', rfl⟩
    · exact h.dis i j b b' o o' hij hbi hbj hoi hoj hown' hl
    · exact hdis b' e'.symm hl i b o hbi hoi (.inl hown') (.inr hown')
    · exact fun he => hdis b e.symm (.inl hown') j b' o' hbj hoj hl (.inl hown') he.symm
    · omega

/-- A new block, which is own. -/
theorem Rel.new {C : Cx} {l : List Base} {σ : Store} {M : Mo} {w : World} (h : Rel C l σ M w) (t : TypeId) (arr : Array Value) (c : Cells) (hc : c.conc l = arr.toList) (hk : c.ok l.length) :
    Rel C (l ++ [some ⟨w.heap.size, 0, none⟩]) (σ ++ [⟨some (t, arr.size), c⟩]) M (w.alloc (.cells arr t)) := by
  have h1 := h.step (w' := w.alloc (.cells arr t)) (.ofBelow ((Below.refl _ _).alloc (Nat.le_refl _) _))
  refine h1.snoc _ _ ?_ hk (fun a e _ => ?_) (fun a e _ hx => ?_) (fun a e _ i b o hb ho hl _ => ?_)
  · simp only [ObR]
    refine .inr ⟨_, arr, rfl, heap_alloc_new w _, rfl, ?_⟩
    rw [hc]
    exact List.take_of_length_le (by rw [← hc, Cells.conc_length]; omega)
  · simp at e; subst e
    exact ⟨.inr h.fr.size, .inr h.ent.size⟩
  · simp at e; subst e
    have := h.bd _ hx
    have := h.ent.size
    simp at *
    omega
  · simp at e; subst e
    have := h.lt i b o hb ho hl
    simp
    omega

theorem heap_setRow_ne (w : World) (g : Nat) (cs : Array Value) (k : Nat) (h : k ≠ g) : (w.setRow g cs).heap[k]? = w.heap[k]? := by
  simp only [World.setRow, Array.getElem?_modify]
  rw [if_neg (by omega)]

/-- What is own is written. -/
theorem Rel.set {C : Cx} {l : List Base} {σ : Store} {M : Mo} {w : World} (h : Rel C l σ M w) (id : Nat) (t : TypeId) (tot : Nat) (c c' : Cells) (ho : σ[id]? = some ⟨some (t, tot), c⟩)
    (g : Nat) (arr arr' : Array Value) (hb : l[id]? = some (some ⟨g, 0, none⟩)) (hg : w.heap[g]? = some (.cells arr t (0, 0))) (hs : arr'.size = tot)
    (hc : arr'.toList.take c'.len = c'.conc l) (hk : c'.ok l.length) :
    Rel C l (σ.set id ⟨some (t, tot), c'⟩) M (w.setRow g arr') := by
  have hid : id < σ.length := (List.getElem?_eq_some_iff.1 ho).1
  have hset : ∀ (i : Nat) (o : Ob), (σ.set id ⟨some (t, tot), c'⟩)[i]? = some o → (i = id ∧ o = ⟨some (t, tot), c'⟩) ∨ (i ≠ id ∧ σ[i]? = some o) := by
    intro i o hi
    by_cases e : id = i
    · subst e
      rw [List.getElem?_set_self hid] at hi
      simp at hi
      exact .inl ⟨rfl, hi.symm⟩
    · rw [List.getElem?_set_ne e] at hi
      exact .inr ⟨fun x => e x.symm, hi⟩
  have hlive : ∀ (i : Nat) (o : Ob), (σ.set id ⟨some (t, tot), c'⟩)[i]? = some o → ∃ o', σ[i]? = some o' ∧ o'.own = o.own ∧ (o.live → o'.live) := by
    intro i o hi
    rcases hset i o hi with ⟨rfl, rfl⟩ | ⟨_, hi⟩
    · exact ⟨_, ho, rfl, fun _ => .inl rfl⟩
    · exact ⟨o, hi, rfl, fun x => x⟩
  obtain ⟨o1, o2⟩ := h.own id _ _ hb ho rfl
  refine ⟨by simp [h.len], h.bd, h.ent.setBlk g o2 rfl rfl rfl (by simp [World.setRow]) (fun k hk => heap_setRow_ne w g _ k hk), h.fr.setBlk g o1 rfl rfl rfl (by simp [World.setRow]) (fun k hk => heap_setRow_ne w g _ k hk), h.sub,
    fun i b o hb' ho' => ?_, fun i b o hb' ho' hown => ?_, fun i b o hb' ho' hl => ?_, fun i j b b' o o' hij hb' hb'' ho' ho'' hown hl => ?_, h.pin⟩
  · rcases hset i o ho' with ⟨rfl, rfl⟩ | ⟨hne, hi⟩
    · rw [hb] at hb'
      simp at hb'
      subst hb'
      refine ⟨?_, hk⟩
      simp only [ObR]
      exact .inr ⟨g, arr', rfl, setRow_heap w g arr arr' t (0, 0) hg, hs, hc⟩
    · obtain ⟨r1, r2⟩ := h.ob i b o hb' hi
      refine ⟨?_, r2⟩
      unfold ObR at *
      split at r1
      · rename_i t' tot' hown
        rcases r1 with r1 | ⟨blk, arr0, e1, e2, e3, e4⟩
        · exact .inl r1
        subst e1
        have hd := h.dis i id _ _ o _ hne hb' hb hi ho (by simp [hown]) (.inl rfl)
        exact .inr ⟨blk, arr0, rfl, (heap_setRow_ne w g _ _ hd).trans e2, e3, e4⟩
      · rename_i hown
        rcases r1 with r1 | ⟨ad, e1, e2, e3⟩
        · exact .inl r1
        · subst e1
          by_cases hz : o.c.len = 0
          · exact .inl hz
          · have hd := h.dis id i _ _ _ o (fun x => hne x.symm) hb hb' ho hi rfl (.inr hz)
            exact .inr ⟨ad, rfl, e2, fun k c hc => (World.cell?_of_block (a := ⟨ad.block, ad.off + k, none⟩) (heap_setRow_ne w g _ _ (fun x => hd x.symm))).trans (e3 k c hc)⟩
  · obtain ⟨o', hi, e, _⟩ := hlive i o ho'
    exact h.own i b o' hb' hi (by rw [e]; exact hown)
  · obtain ⟨o', hi, e, hl'⟩ := hlive i o ho'
    exact h.out i b o' hb' hi (hl' hl)
  · obtain ⟨p, hp, e, _⟩ := hlive i o ho'
    obtain ⟨p', hp', e', hl'⟩ := hlive j o' ho''
    exact h.dis i j b b' p p' hij hb' hb'' hp hp' (by rw [e]; exact hown) (hl' hl)

end Go.Gw

namespace Go.Gw
open Go Go.RowKit

/-! ### The frame -/

def Env.get : Env → Nat → Option AV
  | [], _ => none
  | (s, v) :: r, t => match Nat.beq s t with | true => some v | false => Env.get r t
def Env.getK : Env → Nat → (AV → Prop) → Prop
  | [], _, _ => False
  | (s, v) :: r, t, K => match Nat.beq s t with | true => K v | false => Env.getK r t K
theorem Env.getK_iff {t : Nat} {K : AV → Prop} : ∀ {e : Env}, e.getK t K → ∃ v, e.get t = some v ∧ K v
  | [], h => h.elim
  | (s, v) :: r, h => by
    unfold Env.getK at h
    unfold Env.get
    cases hb : Nat.beq s t with
    | true => rw [hb] at h; exact ⟨v, rfl, h⟩
    | false => rw [hb] at h; exact Env.getK_iff (e := r) h

structure EnvR (C : Cx) (l : List Base) (e : Env) (a : Act) : Prop where
  size : a.tmps.size = C.N
  nod : a.defers = []
  get : ∀ t v, e.get t = some v → a.tmps[t]? = some (conc l v) ∧ v.ok l.length

theorem EnvR.ext {C : Cx} {l x : List Base} {e : Env} {a : Act} (h : EnvR C l e a) : EnvR C (l ++ x) e a :=
  ⟨h.size, h.nod, fun t v hv => let ⟨h1, h2⟩ := h.get t v hv; ⟨by rw [conc_append l x v h2]; exact h1, h2.mono (by simp)⟩⟩

theorem EnvR.put {C : Cx} {l : List Base} {e : Env} {a : Act} (h : EnvR C l e a) (d : Nat) (v : AV) (hd : d < C.N) (hv : v.ok l.length) :
    EnvR C l ((d, v) :: e) (a.put (some d) (conc l v)) := by
  refine ⟨by simp [Act.put, h.size], h.nod, fun t u hu => ?_⟩
  unfold Env.get at hu
  cases hb : Nat.beq d t with
  | true =>
    rw [hb] at hu
    have : d = t := Nat.eq_of_beq_eq_true hb
    simp at hu; subst hu; subst this
    exact ⟨by simp [Act.put, h.size, hd], hv⟩
  | false =>
    rw [hb] at hu
    have hne : d ≠ t := fun e => by subst e; simp at hb
    obtain ⟨h1, h2⟩ := h.get t u hu
    exact ⟨by simp only [Act.put]; rw [Array.getElem?_setIfInBounds_ne hne]; exact h1, h2⟩

/-- A slot that is put, of which nothing is told. -/
theorem EnvR.drop {C : Cx} {l : List Base} {e : Env} {a : Act} (h : EnvR C l e a) (t : Nat) (v w : AV) (hv : e.get t = some v) (hc : conc l v = conc l w) (hw : w.ok l.length) : EnvR C l ((t, w) :: e) a := by
  refine ⟨h.size, h.nod, fun s u hu => ?_⟩
  unfold Env.get at hu
  cases hb : Nat.beq t s with
  | true =>
    rw [hb] at hu
    have : t = s := Nat.eq_of_beq_eq_true hb
    simp at hu; subst hu; subst this
    exact ⟨by rw [← hc]; exact (h.get _ _ hv).1, hw⟩
  | false => rw [hb] at hu; exact h.get s u hu

/-- A known bool reads as any bool. -/
def normK (v : AV) (K : AV → Prop) : Prop :=
  match v with
  | .kb b => K (.v (.bool b))
  | .v x => K (.v x)
  | .lp id o => K (.lp id o)
  | .ls id o n c => K (.ls id o n c)
  | .agg cs => K (.agg cs)
  | .tup cs => K (.tup cs)
  | .fn f cs => K (.fn f cs)
theorem normK_iff {v : AV} {K : AV → Prop} (l : List Base) (h : normK v K) (hv : v.ok l.length) : ∃ u, conc l v = conc l u ∧ u.ok l.length ∧ K u := by
  cases v <;> first | exact ⟨_, rfl, hv, h⟩ | exact ⟨.v (.bool _), rfl, trivial, h⟩

def opK (e : Env) : Operand → (AV → Prop) → Prop
  | .tmp t, K => e.getK t fun v => normK v K
  | .const v, K => K (.v v)
  | .func f, K => K (.fn f [])
  | .global g, K => K (.v (.pointer (some ⟨g, 0, none⟩)))
theorem opK_sound {C : Cx} {e : Env} {x : Operand} {K : AV → Prop} (h : opK e x K) {l : List Base} {a : Act} (he : EnvR C l e a) :
    ∃ v, a.eval x = conc l v ∧ v.ok l.length ∧ K v := by
  cases x with
  | tmp t =>
    obtain ⟨v, hv, hk⟩ := Env.getK_iff h
    obtain ⟨h1, h2⟩ := he.get t v hv
    obtain ⟨u, h3, h4, h5⟩ := normK_iff l hk h2
    exact ⟨u, by simp [Act.eval, Array.getD_eq_getD_getElem?, h1, h3], h4, h5⟩
  | const v => exact ⟨.v v, rfl, trivial, h⟩
  | func f => exact ⟨.fn f [], by simp [Act.eval, conc, concL], trivial, h⟩
  | global g => exact ⟨.v (.pointer (some ⟨g, 0, none⟩)), rfl, trivial, h⟩

def opsK (e : Env) : List Operand → (List AV → Prop) → Prop
  | [], K => K []
  | x :: r, K => opK e x fun v => opsK e r fun vs => K (v :: vs)
theorem opsK_sound {C : Cx} {e : Env} {l : List Base} {a : Act} (he : EnvR C l e a) : ∀ {xs : List Operand} {K : List AV → Prop}, opsK e xs K →
    ∃ vs, xs.map a.eval = concL l vs ∧ okL l.length vs ∧ K vs
  | [], K, h => ⟨[], rfl, trivial, h⟩
  | x :: r, K, h => by
    obtain ⟨v, h1, h2, h3⟩ := opK_sound h he
    obtain ⟨vs, h4, h5, h6⟩ := opsK_sound he h3
    exact ⟨v :: vs, by simp [h1, h4, concL], ⟨h2, h5⟩, h6⟩

/-! ### Arithmetic -/

def ikEq : IntKind → IntKind → Bool
  | .i8, .i8 => true | .i16, .i16 => true | .i32, .i32 => true | .i64, .i64 => true
  | .u8, .u8 => true | .u16, .u16 => true | .u32, .u32 => true | .u64, .u64 => true
  | _, _ => false
theorem ikEq_eq {a b : IntKind} (h : ikEq a b = true) : a = b := by cases a <;> cases b <;> first | rfl | cases h

def evInt (op : BinOp) (kd : IntKind) (a b : Int) (k : AV → Prop) : Prop :=
  match op with
  | .add => k (.v (.int kd (kd.wrap (a + b))))
  | .sub => k (.v (.int kd (kd.wrap (a - b))))
  | .mul => k (.v (.int kd (kd.wrap (a * b))))
  | .quo => b ≠ 0 ∧ k (.v (.int kd (kd.wrap (a.tdiv b))))
  | .rem => b ≠ 0 ∧ k (.v (.int kd (a.tmod b)))
  | .and => k (.v (.int kd (kd.wrap ((BitVec.ofInt kd.bits a &&& BitVec.ofInt kd.bits b).toNat))))
  | .or => k (.v (.int kd (kd.wrap ((BitVec.ofInt kd.bits a ||| BitVec.ofInt kd.bits b).toNat))))
  | .xor => k (.v (.int kd (kd.wrap ((BitVec.ofInt kd.bits a ^^^ BitVec.ofInt kd.bits b).toNat))))
  | .andNot => k (.v (.int kd (kd.wrap ((BitVec.ofInt kd.bits a &&& ~~~BitVec.ofInt kd.bits b).toNat))))
  | .eql => k (.v (.bool (a == b)))
  | .neq => k (.v (.bool (a != b)))
  | .lss => k (.v (.bool (decide (a < b))))
  | .leq => k (.v (.bool (decide (a ≤ b))))
  | .gtr => k (.v (.bool (decide (a > b))))
  | .geq => k (.v (.bool (decide (a ≥ b))))
  | .shl | .shr => False

def evStr (op : BinOp) (a b : ByteArray) (k : AV → Prop) : Prop :=
  match op with
  | .add => a.size + b.size ≤ 9223372036854775807 ∧ k (.v (.string (a ++ b)))
  | .eql => k (.v (.bool (a.toList == b.toList)))
  | .neq => k (.v (.bool (!(a.toList == b.toList))))
  | .lss => k (.v (.bool (Op.bytesLess a.toList b.toList)))
  | .leq => k (.v (.bool (Op.bytesLess a.toList b.toList || a.toList == b.toList)))
  | .gtr => k (.v (.bool (!(Op.bytesLess a.toList b.toList || a.toList == b.toList))))
  | .geq => k (.v (.bool (!Op.bytesLess a.toList b.toList)))
  | _ => False

def evBool (op : BinOp) (P : Program) (t : TypeId) (a b : Bool) (k : AV → Prop) : Prop :=
  match P.underlying t with
  | some .bool => match op with
    | .eql => k (.v (.bool (a == b)))
    | .neq => k (.v (.bool (!(a == b))))
    | _ => False
  | _ => False

/-- A slice held against nil. -/
def evNil (op : BinOp) (P : Program) (t : TypeId) (x : AV) (k : AV → Prop) : Prop :=
  match P.underlying t with
  | some (.slice _) => match x with
    | .v (.slice a _ _) => (match op with
      | .eql => k (.v (.bool a.isNone))
      | .neq => k (.v (.bool (!a.isNone)))
      | _ => False)
    | .ls _ _ _ _ => (match op with
      | .eql => ∀ b : Bool, k (.v (.bool b))
      | .neq => ∀ b : Bool, k (.v (.bool b))
      | _ => False)
    | _ => False
  | _ => False

def evBin (P : Program) (op : BinOp) (t : TypeId) (x y : AV) (k : AV → Prop) : Prop :=
  match x, y with
  | .v (.int kd a), .v (.int kd' b) => (match op with
    | .shl => 0 ≤ b ∧ k (.v (.int kd (kd.wrap (a * 2 ^ (min b.toNat kd.bits)))))
    | .shr => 0 ≤ b ∧ k (.v (.int kd (a.fdiv (2 ^ (min b.toNat kd.bits)))))
    | op => match ikEq kd kd' with | true => evInt op kd a b k | false => False)
  | .v (.string a), .v (.string b) => evStr op a b k
  | .v (.bool a), .v (.bool b) => evBool op P t a b k
  | x, .v (.slice none 0 0) => evNil op P t x k
  | _, _ => False

variable {C : Cx}

theorem run_intAny (P : Program) (op : BinOp) (t : TypeId) (x y : Operand) (kd : IntKind) (a b : Int) (k : AV → Prop) (l : List Base)
    (h : evBin P op t (.v (.int kd a)) (.v (.int kd b)) k) :
    ∃ v, (∀ w, (do eqGuard op t x y (.int kd a) (.int kd b); binOp op t (.int kd a) (.int kd b) : Sem Value).run P w = .ok (conc l v) w) ∧ v.ok l.length ∧ k v := by
  have hik : ikEq kd kd = true := by cases kd <;> rfl
  cases op <;> simp only [evBin, hik, evInt] at h
  all_goals first
    | (refine ⟨_, ?_, ?_, h⟩
       · intro w
         simp [eqGuard, binOp, Op.intArith, conc]
         done
       · trivial)
    | (refine ⟨_, ?_, ?_, h⟩
       · intro w
         simp [eqGuard, binOp, Op.intBits, conc]
         done
       · trivial)
    | (refine ⟨_, ?_, ?_, h⟩
       · intro w
         simp [eqGuard, binOp, Op.intCmp, conc]
         done
       · trivial)
    | (obtain ⟨h1, h⟩ := h
       refine ⟨_, ?_, ?_, h⟩
       · intro w
         simp [eqGuard, binOp, Op.intDiv, conc, h1]
         done
       · trivial)
    | (obtain ⟨h1, h⟩ := h
       refine ⟨_, ?_, ?_, h⟩
       · intro w
         simp [eqGuard, binOp, Op.shift, conc, Int.not_lt.2 h1]
       · trivial)

theorem run_shAny (P : Program) (op : BinOp) (hop : op = .shl ∨ op = .shr) (t : TypeId) (x y : Operand) (kd kd' : IntKind) (a b : Int) (k : AV → Prop) (l : List Base)
    (h : evBin P op t (.v (.int kd a)) (.v (.int kd' b)) k) :
    ∃ v, (∀ w, (do eqGuard op t x y (.int kd a) (.int kd' b); binOp op t (.int kd a) (.int kd' b) : Sem Value).run P w = .ok (conc l v) w) ∧ v.ok l.length ∧ k v := by
  rcases hop with rfl | rfl <;> simp only [evBin] at h <;> obtain ⟨h1, h⟩ := h
  all_goals
    refine ⟨_, ?_, ?_, h⟩
    · intro w
      simp [eqGuard, binOp, Op.shift, conc, Int.not_lt.2 h1]
    · trivial

theorem run_strAny (P : Program) (op : BinOp) (t : TypeId) (x y : Operand) (a b : ByteArray) (k : AV → Prop) (l : List Base)
    (h : evStr op a b k) :
    ∃ v, (∀ w, (do eqGuard op t x y (.string a) (.string b); binOp op t (.string a) (.string b) : Sem Value).run P w = .ok (conc l v) w) ∧ v.ok l.length ∧ k v := by
  cases op <;> simp only [evStr] at h
  all_goals first
    | exact h.elim
    | (refine ⟨_, fun w => ?_, ?_, h⟩ <;> simp [eqGuard, binOp, Op.stringOp, conc, AV.ok]; done)
    | (obtain ⟨h1, h⟩ := h
       refine ⟨_, ?_, ?_, h⟩
       · have h2 : (a.size : Int) + b.size ≤ 9223372036854775807 := by omega
         intro w
         simp [eqGuard, binOp, Op.stringOp, conc, h2]
       · trivial)

theorem run_equal_bool (P : Program) (w : World) (t : TypeId) (hu : P.underlying t = some .bool) (a b : Bool) : (Op.equal t (.bool a) (.bool b)).run P w = .ok (a == b) w := by
  show (Op.equalIn (9999 + 1) t (.bool a) (.bool b)).run P w = _
  unfold Op.equalIn
  rw [Sem.run_bind, run_underlying hu]
  rfl
theorem run_equal_nil (P : Program) (w : World) (t e : TypeId) (hu : P.underlying t = some (.slice e)) (q : Option Addr) (n c : Nat) : (Op.equal t (.slice q n c) (.slice none 0 0)).run P w = .ok q.isNone w := by
  show (Op.equalIn (9999 + 1) t (.slice q n c) (.slice none 0 0)).run P w = _
  unfold Op.equalIn
  rw [Sem.run_bind, run_underlying hu]
  cases q <;> rfl

theorem run_boolAny (P : Program) (op : BinOp) (t : TypeId) (x y : Operand) (a b : Bool) (k : AV → Prop) (l : List Base)
    (h : evBool op P t a b k) :
    ∃ v, (∀ w, (do eqGuard op t x y (.bool a) (.bool b); binOp op t (.bool a) (.bool b) : Sem Value).run P w = .ok (conc l v) w) ∧ v.ok l.length ∧ k v := by
  unfold evBool at h
  split at h
  · rename_i hu
    cases op <;> simp only [] at h
    all_goals first
      | exact h.elim
      | (refine ⟨_, fun w => ?_, ?_, h⟩ <;> simp [eqGuard, binOp, run_equal_bool P _ t hu, conc, AV.ok]; done)
  · exact h.elim

theorem run_nilAny (P : Program) (op : BinOp) (t : TypeId) (x y : Operand) (z : AV) (k : AV → Prop) (l : List Base) (hz : z.ok l.length)
    (h : evNil op P t z k) :
    ∃ v, (∀ w, (do eqGuard op t x y (conc l z) (.slice none 0 0); binOp op t (conc l z) (.slice none 0 0) : Sem Value).run P w = .ok (conc l v) w) ∧ v.ok l.length ∧ k v := by
  unfold evNil at h
  split at h
  · rename_i e hu
    split at h
    · rename_i a n c
      cases op <;> simp only [] at h
      all_goals first
        | exact h.elim
        | (refine ⟨_, ?_, ?_, h⟩
           · intro w
             simp [eqGuard, binOp, run_equal_nil P w t e hu, conc]
           · trivial)
    · rename_i id o n c
      cases op <;> simp only [] at h
      all_goals first
        | exact h.elim
        | (refine ⟨_, ?_, ?_, h (Base.up (l.getD id none) o).isNone⟩
           · intro w
             simp only [conc]
             generalize Base.up (l.getD id none) o = q
             simp [eqGuard, binOp, run_equal_nil P w t e hu]
           · trivial)
        | (refine ⟨_, ?_, ?_, h (!(Base.up (l.getD id none) o).isNone)⟩
           · intro w
             simp only [conc]
             generalize Base.up (l.getD id none) o = q
             simp [eqGuard, binOp, run_equal_nil P w t e hu]
           · trivial)
    · exact h.elim
  · exact h.elim

theorem evBin_sound (P : Program) (op : BinOp) (t : TypeId) (x y : Operand) (z u : AV) (k : AV → Prop) (l : List Base) (hz : z.ok l.length)
    (h : evBin P op t z u k) :
    ∃ v, (∀ w, (do eqGuard op t x y (conc l z) (conc l u); binOp op t (conc l z) (conc l u) : Sem Value).run P w = .ok (conc l v) w) ∧ v.ok l.length ∧ k v := by
  have h0 := h
  unfold evBin at h
  split at h
  · rename_i kd a kd' b
    by_cases hop : op = .shl ∨ op = .shr
    · exact run_shAny P op hop t x y kd kd' a b k l h0
    · have hk : kd = kd' := by
        cases hq : ikEq kd kd' with
        | true => exact ikEq_eq hq
        | false => cases op <;> simp [hq] at h hop
      subst hk
      exact run_intAny P op t x y kd a b k l h0
  · exact run_strAny P op t x y _ _ k l h
  · exact run_boolAny P op t x y _ _ k l h
  · exact run_nilAny P op t x y _ k l hz h
  · exact h.elim

end Go.Gw

namespace Go.Gw
open Go Go.RowKit

/-! ### Lists by continuation -/

def nthK {α : Type} : List α → Nat → (α → Prop) → Prop
  | [], _, _ => False
  | a :: _, 0, K => K a
  | _ :: r, n + 1, K => nthK r n K
theorem nthK_iff {α : Type} {K : α → Prop} : ∀ {l : List α} {n : Nat}, nthK l n K → ∃ a, l[n]? = some a ∧ K a
  | [], _, h => h.elim
  | a :: _, 0, h => ⟨a, rfl, h⟩
  | _ :: r, n + 1, h => by simpa using nthK_iff (l := r) (n := n) h
def setK {α : Type} : List α → Nat → α → (List α → Prop) → Prop
  | [], _, _, _ => False
  | _ :: r, 0, x, K => K (x :: r)
  | a :: r, n + 1, x, K => setK r n x fun s => K (a :: s)
theorem setK_iff {α : Type} {x : α} : ∀ {l : List α} {n : Nat} {K : List α → Prop}, setK l n x K → n < l.length ∧ K (l.set n x)
  | [], _, _, h => h.elim
  | a :: _, 0, _, h => ⟨by simp, h⟩
  | a :: r, n + 1, K, h => by
    obtain ⟨h1, h2⟩ := setK_iff (l := r) (n := n) h
    exact ⟨by simp; omega, h2⟩
def snocK {α : Type} : List α → α → (List α → Prop) → Prop
  | [], x, K => K [x]
  | a :: r, x, K => snocK r x fun s => K (a :: s)
theorem snocK_iff {α : Type} {x : α} : ∀ {l : List α} {K : List α → Prop}, snocK l x K → K (l ++ [x])
  | [], _, h => h
  | a :: r, K, h => snocK_iff (l := r) (K := fun s => K (a :: s)) h
def dropK {α : Type} : Nat → List α → (List α → Prop) → Prop
  | 0, l, K => K l
  | _ + 1, [], _ => False
  | n + 1, _ :: r, K => dropK n r K
theorem dropK_iff {α : Type} {K : List α → Prop} : ∀ {n : Nat} {l : List α}, dropK n l K → n ≤ l.length ∧ K (l.drop n)
  | 0, _, h => ⟨Nat.zero_le _, h⟩
  | n + 1, [], h => h.elim
  | n + 1, _ :: r, h => by obtain ⟨h1, h2⟩ := dropK_iff (n := n) (l := r) h; exact ⟨by simp; omega, h2⟩
def takeK {α : Type} : Nat → List α → (List α → Prop) → Prop
  | 0, _, K => K []
  | _ + 1, [], _ => False
  | n + 1, a :: r, K => takeK n r fun s => K (a :: s)
theorem takeK_iff {α : Type} : ∀ {n : Nat} {l : List α} {K : List α → Prop}, takeK n l K → n ≤ l.length ∧ K (l.take n)
  | 0, _, _, h => ⟨Nat.zero_le _, h⟩
  | n + 1, [], _, h => h.elim
  | n + 1, a :: r, K, h => by obtain ⟨h1, h2⟩ := takeK_iff (n := n) (l := r) (K := fun s => K (a :: s)) h; exact ⟨by simp; omega, h2⟩
def ovK {α : Type} : List α → List α → (List α → Prop) → Prop
  | [], l, K => K l
  | _ :: _, [], _ => False
  | a :: n, _ :: r, K => ovK n r fun s => K (a :: s)
theorem ovK_iff {α : Type} : ∀ {n l : List α} {K : List α → Prop}, ovK n l K → n.length ≤ l.length ∧ K (n ++ l.drop n.length)
  | [], _, _, h => ⟨Nat.zero_le _, h⟩
  | _ :: _, [], _, h => h.elim
  | a :: n, _ :: r, K, h => by obtain ⟨h1, h2⟩ := ovK_iff (n := n) (l := r) (K := fun s => K (a :: s)) h; exact ⟨by simp; omega, h2⟩
def putAtK {α : Type} : Nat → List α → List α → (List α → Prop) → Prop
  | 0, n, l, K => ovK n l K
  | _ + 1, _, [], _ => False
  | i + 1, n, a :: r, K => putAtK i n r fun s => K (a :: s)
theorem putAtK_iff {α : Type} : ∀ {i : Nat} {n l : List α} {K : List α → Prop}, putAtK i n l K → i + n.length ≤ l.length ∧ K (l.take i ++ n ++ l.drop (i + n.length))
  | 0, n, l, K, h => by obtain ⟨h1, h2⟩ := ovK_iff h; exact ⟨by omega, by simpa using h2⟩
  | i + 1, n, [], _, h => h.elim
  | i + 1, n, a :: r, K, h => by
    obtain ⟨h1, h2⟩ := putAtK_iff (i := i) (n := n) (l := r) (K := fun s => K (a :: s)) h
    exact ⟨by simp; omega, by simpa [Nat.succ_add] using h2⟩

/-! ### Memory -/

def aggD : Option TypeDesc → Bool
  | some (.struct _) => true
  | some (.array _ _) => true
  | _ => false
theorem run_isAgg {P : Program} {w : World} {t : TypeId} (hu : (P.underlying t).isSome = true) : (isAgg t).run P w = .ok (aggD (P.underlying t)) w := by
  obtain ⟨d, hd⟩ := Option.isSome_iff_exists.1 hu
  unfold isAgg
  rw [Sem.run_bind, run_underlying hd, Result.andThen_ok, hd]
  cases d <;> rfl

/-- A load of what is not own: in every later moment it tells v. -/
def LoadsF (P : Program) (M : Mo) (t : TypeId) (a : Addr) (v : Value) : Prop := ∀ M', M.Le M' → (loadVar t a).run P M'.w = .ok v M'.w

def one1 : AV → Prop → Prop
  | .v (.bool _), K => K
  | .v (.int _ _), K => K
  | .v (.string _), K => K
  | .v (.slice _ _ _), K => K
  | .v (.pointer _), K => K
  | .v (.func _ _ _), K => K
  | .v .nilFunc, K => K
  | .v (.iface _ _), K => K
  | .v .nilIface, K => K
  | .kb _, K => K
  | .lp _ _, K => K
  | .ls _ _ _ _, K => K
  | .fn _ _, K => K
  | _, _ => False
def all1 : List AV → Prop → Prop
  | [], K => K
  | a :: r, K => one1 a (all1 r K)
theorem one1_iff {a : AV} {K : Prop} (l : List Base) (h : one1 a K) : (conc l a).oneCell' = true ∧ K := by
  unfold one1 at h
  split at h <;> first | exact h.elim | exact ⟨rfl, h⟩
theorem all1_iff {K : Prop} (l : List Base) : ∀ {cs : List AV}, all1 cs K → (∀ v ∈ concL l cs, v.oneCell' = true) ∧ K
  | [], h => ⟨by simp [concL], h⟩
  | a :: r, h => by
    obtain ⟨h1, h2⟩ := one1_iff l h
    obtain ⟨h3, h4⟩ := all1_iff l (cs := r) h2
    exact ⟨by simp [concL]; exact ⟨h1, h3⟩, h4⟩

def evLoad (P : Program) (σ : Store) (M : Mo) (t : TypeId) (p : AV) (k : AV → Prop) : Prop :=
  match p with
  | .lp id off => nthK σ id fun ob => match P.info? t with
    | none => False
    | some i => match ob.c with
      | .lit cs => (match aggD (P.underlying t) with
        | true => (match Nat.beq i.size 0 with
          | true => False
          | false => dropK off cs fun r => takeK i.size r fun s => k (.agg s))
        | false => nthK cs off k)
      | .ints kd xs => (match aggD (P.underlying t) with
        | true => False
        | false => off < xs.length ∧ k (.v (.int kd (xs.getD off 0))))
  | .v (.pointer (some ad)) => ∃ v, LoadsF P M t ad v ∧ k (.v v)
  | _ => False

/-- Where an object lies, and how it reads. -/
theorem Rel.reads {C : Cx} {l : List Base} {σ : Store} {M : Mo} {w : World} (h : Rel C l σ M w) {id : Nat} {ob : Ob} (ho : σ[id]? = some ob) (hn : ob.c.len ≠ 0) :
    ∃ ad : Addr, l.getD id none = some ad ∧ ad.spot = none ∧ ∀ i c, (ob.c.conc l)[i]? = some c → w.cell? ⟨ad.block, ad.off + i, none⟩ = some c := by
  have hid : id < l.length := by rw [h.len]; exact (List.getElem?_eq_some_iff.1 ho).1
  obtain ⟨r, _⟩ := h.ob id _ ob (List.getElem?_eq_getElem hid) ho
  have hg : l.getD id none = l[id] := by simp [List.getD, List.getElem?_eq_getElem hid]
  rw [hg]
  unfold ObR at r
  split at r
  · rcases r with ⟨_, r, _⟩ | ⟨blk, arr, e1, e2, e3, e4⟩
    · exact absurd r hn
    refine ⟨_, e1, rfl, fun i c hc => ?_⟩
    rw [← e4, List.getElem?_take] at hc
    split at hc
    · simpa [World.cell?, e2] using hc
    · cases hc
  · rename_i hown
    rcases r with r | r
    · exact absurd r hn
    · exact r

theorem Addr.add_none (b o n : Nat) : (⟨b, o, none⟩ : Addr).add n = ⟨b, o + n, none⟩ := by unfold Addr.add; split <;> simp_all

theorem underlying_isSome {P : Program} {t : TypeId} (h : aggD (P.underlying t) = true) : (P.underlying t).isSome = true := by
  cases hq : P.underlying t <;> simp_all [aggD]

theorem run_loadAgg {P : Program} {w : World} {t : TypeId} {i : TypeInfo} (hi : P.info? t = some i) (ha : aggD (P.underlying t) = true) (ad : Addr) (cs : List Value) (hl : cs.length = i.size)
    (hs : ad.spot = none) (hc : ∀ j c, cs[j]? = some c → w.cell? ⟨ad.block, ad.off + j, none⟩ = some c) : (loadVar t ad).run P w = .ok (.agg cs.toArray) w := by
  obtain ⟨b, o, s⟩ := ad
  simp only at hs; subst hs
  have h1 := run_loadCells_list (P := P) (w := w) ⟨b, o, none⟩ cs (fun j v hv => by rw [Addr.add_none]; exact hc j v hv)
  unfold loadVar
  rw [Sem.run_bind, run_isAgg (underlying_isSome ha), Result.andThen_ok, ha]
  simp only [if_true, Sem.run_bind, run_sizeOf w hi, Result.andThen_ok, Program.cellsOf, hi, Option.map_some, Option.getD_some]
  rw [← hl, h1]
  simp

theorem run_loadOne {P : Program} {w : World} {t : TypeId} (hu : (P.underlying t).isSome = true) (ha : aggD (P.underlying t) = false) (ad : Addr) (c : Value)
    (hc : w.cell? ad = some c) : (loadVar t ad).run P w = .ok c w := by
  unfold loadVar
  rw [Sem.run_bind, run_isAgg hu, Result.andThen_ok, ha]
  simp [load, Sem.run, hc]

theorem evLoad_sound {C : Cx} {σ : Store} {M : Mo} {t : TypeId} {p : AV} {k : AV → Prop} (hu : (C.P.underlying t).isSome = true) (h : evLoad C.P σ M t p k) {l : List Base} (hr0 : ∃ w, Rel C l σ M w) :
    ∃ v, (∀ w, Rel C l σ M w → (Instr.loadAt t (conc l p)).run C.P w = .ok (conc l v) w) ∧ v.ok l.length ∧ k v := by
  obtain ⟨w0, hr0⟩ := hr0
  unfold evLoad at h
  split at h
  · rename_i id off
    obtain ⟨ob, ho, h⟩ := nthK_iff h
    have hid : id < l.length := by rw [hr0.len]; exact (List.getElem?_eq_some_iff.1 ho).1
    obtain ⟨_, hok⟩ := hr0.ob id _ ob (List.getElem?_eq_getElem hid) ho
    cases hi : C.P.info? t with
    | none => rw [hi] at h; exact h.elim
    | some i =>
      rw [hi] at h
      simp only at h
      cases hc : ob.c with
      | lit cs =>
        rw [hc] at h hok
        simp only at h
        cases ha : aggD (C.P.underlying t) with
        | true =>
          rw [ha] at h
          simp only at h
          cases hz : Nat.beq i.size 0 with
          | true => rw [hz] at h; exact h.elim
          | false =>
            rw [hz] at h
            have hz : i.size ≠ 0 := fun e => by rw [e] at hz; cases hz
            obtain ⟨h1, h⟩ := dropK_iff h
            obtain ⟨h2, h⟩ := takeK_iff h
            refine ⟨_, ?_, ?_, h⟩
            · intro w hr
              obtain ⟨ad, e1, e2, e3⟩ := hr.reads ho (by
                rw [hc]
                simp only [Cells.len]
                simp at h2
                omega)
              simp only [conc, e1, Base.up, Option.map_some, Instr.loadAt, Instr.sureAddr, Sem.run_bind, Sem.run_pure, Result.andThen_ok]
              refine run_loadAgg hi ha ⟨ad.block, ad.off + off, none⟩ (concL l (List.take i.size (List.drop off cs))) ?_ rfl ?_
              · rw [concL_length]; simp at h2 ⊢; omega
              · intro j c hj
                rw [hc] at e3
                have := e3 (off + j) c (by
                  simp only [Cells.conc]
                  rw [concL_take, concL_drop, List.getElem?_take] at hj
                  split at hj
                  · rw [List.getElem?_drop] at hj; exact hj
                  · cases hj)
                rw [← Nat.add_assoc] at this
                exact this
            · simp only [AV.ok]; exact okL_take _ (okL_drop _ hok)
        | false =>
          rw [ha] at h
          simp only at h
          obtain ⟨v, hv, h⟩ := nthK_iff h
          have hlen : off < cs.length := (List.getElem?_eq_some_iff.1 hv).1
          refine ⟨v, ?_, okL_get hok hv, h⟩
          intro w hr
          obtain ⟨ad, e1, e2, e3⟩ := hr.reads ho (by rw [hc]; simp only [Cells.len]; omega)
          simp only [conc, e1, Base.up, Option.map_some, Instr.loadAt, Instr.sureAddr, Sem.run_bind, Sem.run_pure, Result.andThen_ok]
          refine run_loadOne hu ha _ _ (e3 off _ ?_)
          rw [hc]
          simp only [Cells.conc]
          rw [concL_get, hv]; rfl
      | ints kd xs =>
        rw [hc] at h
        simp only at h
        cases ha : aggD (C.P.underlying t) with
        | true => rw [ha] at h; exact h.elim
        | false =>
          rw [ha] at h
          simp only at h
          obtain ⟨h1, h⟩ := h
          refine ⟨_, ?_, ?_, h⟩
          · intro w hr
            obtain ⟨ad, e1, e2, e3⟩ := hr.reads ho (by rw [hc]; simp only [Cells.len]; omega)
            simp only [conc, e1, Base.up, Option.map_some, Instr.loadAt, Instr.sureAddr, Sem.run_bind, Sem.run_pure, Result.andThen_ok]
            refine run_loadOne hu ha _ _ (e3 off _ ?_)
            rw [hc]
            simp [Cells.conc, List.getD_eq_getElem?_getD, List.getElem?_eq_getElem h1]
          · trivial
  · rename_i ad
    obtain ⟨v, h1, h⟩ := h
    refine ⟨.v v, ?_, trivial, h⟩
    intro w hr
    simp only [conc, Instr.loadAt, Instr.sureAddr, Sem.run_bind, Sem.run_pure, Result.andThen_ok]
    exact h1 ⟨C.L0, w⟩ hr.le
  · exact h.elim
end Go.Gw

namespace Go.Gw
open Go Go.RowKit

theorem run_typeInfo_some {P : Program} {w : World} {t : TypeId} {i : TypeInfo} (h : P.info? t = some i) : (typeInfo t).run P w = .ok i w := by
  unfold typeInfo program
  simp [Sem.run, h]

/-! ### Stores -/

def evStore (P : Program) (σ : Store) (t : TypeId) (p x : AV) (k : Store → Prop) : Prop :=
  match p with
  | .lp id off => nthK σ id fun ob => match ob.own with
    | none => False
    | some ty => match P.info? t with
      | none => False
      | some i => match ob.c with
        | .lit [] => False
        | .lit (c0 :: cr) => (match Nat.beq x.cells.length i.size with
          | true => all1 x.cells (putAtK off x.cells (c0 :: cr) fun cs' => setK σ id ⟨some ty, .lit cs'⟩ k)
          | false => False)
        | .ints kd xs => match x with
          | .v (.int kd' n) => (match ikEq kd' kd with
            | true => (match Nat.beq i.size 1 with
              | true => off < xs.length ∧ setK σ id ⟨some ty, .ints kd (xs.set off n)⟩ k
              | false => False)
            | false => False)
          | _ => False
  | _ => False

theorem run_storeVar_at {P : Program} {w : World} {t : TypeId} {i : TypeInfo} (hi : P.info? t = some i) (g o : Nat) (v : Value) (cur : Array Value) (te : TypeId) (hg : w.heap[g]? = some (.cells cur te (0, 0)))
    (hs : v.cells.size = i.size) (hf : o + v.cells.size ≤ cur.size) (h1 : ∀ x ∈ v.cells.toList, x.oneCell' = true) :
    (storeVar t ⟨g, o, none⟩ v).run P w = .ok () (w.setRow g (cur.toList.take o ++ v.cells.toList ++ cur.toList.drop (o + v.cells.toList.length)).toArray) := by
  have hst := run_storeCells_at (P := P) g o te v.cells.toList 0 cur w hg (by simpa using hf) h1
  unfold storeVar
  rw [Sem.run_bind, run_sizeOf w hi, Result.andThen_ok]
  simp only [Program.cellsOf, hi, Option.map_some, Option.getD_some, hs, ne_eq, not_true_eq_false, if_false]
  simpa using hst

theorem seg_get {α : Type} (X N : List α) (off i : Nat) (hf : off + N.length ≤ X.length) :
    (X.take off ++ N ++ X.drop (off + N.length))[i]? = if i < off then X[i]? else if i < off + N.length then N[i - off]? else X[i]? := by
  have e1 : (X.take off).length = off := by rw [List.length_take]; omega
  by_cases h1 : i < off
  · rw [if_pos h1, List.append_assoc, List.getElem?_append_left (by omega), List.getElem?_take_of_lt h1]
  · rw [if_neg h1]
    by_cases h2 : i < off + N.length
    · rw [if_pos h2, List.append_assoc, List.getElem?_append_right (by omega), e1, List.getElem?_append_left (by omega)]
    · rw [if_neg h2, List.getElem?_append_right (by rw [List.length_append]; omega), List.length_append, e1, List.getElem?_drop]
      congr 1
      omega

theorem seg_conc (l : List Base) (arr : List Value) (cs new : List AV) (off : Nat) (h : arr.take cs.length = concL l cs) (hf : off + new.length ≤ cs.length) (hl : cs.length ≤ arr.length) :
    (arr.take off ++ concL l new ++ arr.drop (off + new.length)).take (cs.take off ++ new ++ cs.drop (off + new.length)).length = concL l (cs.take off ++ new ++ cs.drop (off + new.length)) := by
  have e1 : (cs.take off ++ new ++ cs.drop (off + new.length)).length = cs.length := by simp; omega
  have e2 := concL_length l new
  have e3 := concL_length l cs
  rw [e1, concL_app, concL_app, concL_take, concL_drop]
  apply List.ext_getElem?
  intro i
  have s1 := seg_get arr (concL l new) off i (by omega)
  have s2 := seg_get (concL l cs) (concL l new) off i (by omega)
  rw [e2] at s1 s2
  rw [s2, List.getElem?_take]
  by_cases hi : i < cs.length
  · rw [if_pos hi, s1]
    have : arr[i]? = (concL l cs)[i]? := by rw [← h, List.getElem?_take_of_lt hi]
    rw [this]
  · rw [if_neg hi, if_neg (by omega), if_neg (by omega), List.getElem?_eq_none (by omega)]

theorem frRow (w : World) (g : Nat) (cs : Array Value) : Fr [g] w (w.setRow g cs) :=
  ⟨rfl, rfl, rfl, by simp [World.setRow], fun k _ hn => heap_setRow_ne w g cs k (by simpa using hn)⟩

theorem evStore_sound {C : Cx} {σ : Store} {M : Mo} {t : TypeId} {p x : AV} {k : Store → Prop} (h : evStore C.P σ t p x k) {l : List Base} {w : World} (hr : Rel C l σ M w) (hx : x.ok l.length) :
    ∃ σ' w' id off g, p = .lp id off ∧ l[id]? = some (some ⟨g, 0, none⟩) ∧ Fr [g] w w' ∧ (∃ arr arr' te, w.heap[g]? = some (.cells arr te (0, 0)) ∧ w'.heap[g]? = some (.cells arr' te (0, 0)) ∧ arr'.size = arr.size) ∧ (Instr.storeAt t (conc l p) (conc l x)).run C.P w = .ok () w' ∧ Rel C l σ' M w' ∧ k σ' := by
  unfold evStore at h
  split at h
  case h_2 => exact h.elim
  rename_i id off
  obtain ⟨ob, ho, h⟩ := nthK_iff h
  obtain ⟨own, c⟩ := ob
  simp only at h
  cases own with
  | none => exact h.elim
  | some ty =>
    obtain ⟨te, tot⟩ := ty
    simp only at h
    have hid : id < l.length := by rw [hr.len]; exact (List.getElem?_eq_some_iff.1 ho).1
    obtain ⟨r, hok⟩ := hr.ob id _ _ (List.getElem?_eq_getElem hid) ho
    have hcl : c.len ≠ 0 := by
      intro h0
      cases hi : C.P.info? t with
      | none => rw [hi] at h; exact h.elim
      | some i =>
        rw [hi] at h
        cases c with
        | lit cs =>
          cases cs with
          | nil => exact h.elim
          | cons c0 cr => simp [Cells.len] at h0
        | ints kd xs =>
          simp only [Cells.len] at h0
          have hx0 : xs = [] := List.eq_nil_of_length_eq_zero h0
          subst hx0
          simp only at h
          split at h
          · split at h
            · split at h
              · exact absurd h.1 (by simp)
              · exact h.elim
            · exact h.elim
          · exact h.elim
    rcases r with ⟨_, r, _⟩ | ⟨g, arr, e1, e2, e3, e4⟩
    · exact absurd r hcl
    have hg : l.getD id none = some ⟨g, 0, none⟩ := by simp [List.getD, List.getElem?_eq_getElem hid, e1]
    have hl : l[id]? = some (some ⟨g, 0, none⟩) := by rw [List.getElem?_eq_getElem hid, e1]
    cases hi : C.P.info? t with
    | none => rw [hi] at h; exact h.elim
    | some i =>
      rw [hi] at h
      simp only at h
      have run0 : ∀ v : Value, (Instr.storeAt t (conc l (.lp id off)) v).run C.P w = (storeVar t ⟨g, off, none⟩ v).run C.P w := fun v => by
        simp only [conc, hg, Base.up, Option.map_some, Instr.storeAt, Instr.sureAddr, Sem.run_bind, Sem.run_pure, Result.andThen_ok, Nat.zero_add]
      rw [run0]
      cases c with
      | lit cs =>
        cases cs with
        | nil => exact absurd rfl hcl
        | cons c0 cr =>
        simp only at h
        generalize c0 :: cr = cs at *
        cases hb : Nat.beq x.cells.length i.size with
        | false => rw [hb] at h; exact h.elim
        | true =>
          rw [hb] at h
          have hsz := Nat.eq_of_beq_eq_true hb
          simp only at h
          obtain ⟨h1, h⟩ := all1_iff l h
          obtain ⟨h2, h⟩ := putAtK_iff h
          obtain ⟨h3, h⟩ := setK_iff h
          have hcc : (conc l x).cells.toList = concL l x.cells := conc_cells l x
          have hcs : (conc l x).cells.size = x.cells.length := by rw [← concL_length l, ← hcc]; simp
          simp only [Cells.len, Cells.conc] at e4
          have hle : cs.length ≤ arr.toList.length := by
            have := congrArg List.length e4
            rw [concL_length, List.length_take] at this
            omega
          refine ⟨_, _, id, off, g, rfl, hl, frRow _ _ _, ⟨arr, _, te, e2, setRow_heap w g arr _ te (0, 0) e2, by simp [hcc, concL_length]; simp at hle; omega⟩, run_storeVar_at hi g off (conc l x) arr te e2 (by rw [hcs, hsz]) (by rw [hcs]; simp at hle; omega) (by rw [hcc]; exact h1), ?_, h⟩
          refine hr.set id te tot (.lit cs) _ ho g arr _ hl e2 ?_ ?_ ?_
          · simp only [List.size_toArray, List.length_append, List.length_take, List.length_drop, hcc, concL_length]
            simp at hle ⊢
            omega
          · simp only [Cells.len, Cells.conc, hcc, concL_length]
            exact seg_conc l arr.toList cs x.cells off e4 h2 hle
          · exact okL_append (okL_append (okL_take _ hok) (ok_cells hx)) (okL_drop _ hok)
      | ints kd xs =>
        simp only at h
        obtain ⟨kd', n, rfl⟩ : ∃ kd' n, x = .v (.int kd' n) := by
          split at h
          · exact ⟨_, _, rfl⟩
          · exact h.elim
        simp only at h
        cases hk : ikEq kd' kd with
        | false => rw [hk] at h; exact h.elim
        | true =>
          rw [hk] at h
          have hke := ikEq_eq hk
          subst hke
          simp only at h
          cases hb : Nat.beq i.size 1 with
          | false => rw [hb] at h; exact h.elim
          | true =>
            rw [hb] at h
            have hsz := Nat.eq_of_beq_eq_true hb
            simp only at h
            obtain ⟨h1, h⟩ := h
            obtain ⟨h3, h⟩ := setK_iff h
            simp only [Cells.len, Cells.conc] at e4
            have hle : xs.length ≤ arr.toList.length := by
              have := congrArg List.length e4
              rw [List.length_map, List.length_take] at this
              omega
            refine ⟨_, _, id, off, g, rfl, hl, frRow _ _ _, ⟨arr, _, te, e2, setRow_heap w g arr _ te (0, 0) e2, by simp [Value.cells]; simp at hle; omega⟩, run_storeVar_at hi g off (.int kd' n) arr te e2 (by rw [hsz]; rfl) (by simp [Value.cells] at hle ⊢; omega) (by intro y hy; simp [Value.cells] at hy; subst hy; rfl), ?_, h⟩
            refine hr.set id te tot (.ints kd' xs) _ ho g arr _ hl e2 ?_ ?_ trivial
            · simp [Value.cells] at hle ⊢
              omega
            · simp only [Cells.len, Cells.conc, Value.cells, List.length_set]
              apply List.ext_getElem?
              intro j
              have e5 : (arr.toList.take xs.length)[j]? = (xs.map (Value.int kd'))[j]? := by rw [e4]
              have s1 := seg_get arr.toList [Value.int kd' n] off j (by simp only [List.length_singleton]; omega)
              simp only [List.length_singleton] at s1
              rw [List.getElem?_take]
              by_cases hj : j < xs.length
              · rw [List.getElem?_take_of_lt hj] at e5
                rw [if_pos hj]
                show (List.take off arr.toList ++ [Value.int kd' n] ++ List.drop (off + 1) arr.toList)[j]? = _
                rw [s1, e5, List.map_set, List.getElem?_set]
                by_cases hjo : j < off
                · rw [if_pos hjo, if_neg (by omega)]
                · rw [if_neg hjo]
                  by_cases hje : j < off + 1
                  · have : off = j := by omega
                    subst this
                    simp [h1]
                  · rw [if_neg hje, if_neg (by omega)]
              · rw [if_neg hj, List.getElem?_eq_none (by simp; omega)]

/-! ### New blocks -/

def evAlloc (P : Program) (σ : Store) (t : TypeId) (k : AV → Store → Prop) : Prop :=
  match P.info? t with
  | some i => match i.zero with
    | some z => snocK σ ⟨some (t, (AV.v z).cells.length), .lit (AV.v z).cells⟩ fun σ' => k (.lp σ.length 0) σ'
    | none => False
  | none => False

theorem newVar_run {P : Program} {w : World} (t : TypeId) (v : Value) : (newVar t v).run P w = .ok ⟨w.heap.size, 0, none⟩ (w.alloc (.cells v.cells t)) := by
  simp only [newVar, newRow, newObj, Sem.run_bind]
  rfl

theorem conc_new {l : List Base} {b : Addr} (n : Nat) (hn : l.length = n) (o : Nat) : conc (l ++ [some b]) (.lp n o) = .pointer (some ⟨b.block, b.off + o, none⟩) := by
  subst hn
  simp [conc, List.getD, Base.up]

theorem new_sound {C : Cx} {l : List Base} {σ : Store} {M : Mo} {w : World} (hr : Rel C l σ M w) (t : TypeId) (x : AV) (hx : x.ok l.length) :
    Rel C (l ++ [some ⟨w.heap.size, 0, none⟩]) (σ ++ [⟨some (t, x.cells.length), .lit x.cells⟩]) M (w.alloc (.cells (conc l x).cells t)) := by
  have h1 := hr.new t (conc l x).cells (.lit x.cells) (by simp only [Cells.conc]; exact (conc_cells l x).symm) (ok_cells hx)
  have h2 : (conc l x).cells.size = x.cells.length := by
    have := congrArg List.length (conc_cells l x)
    rw [concL_length] at this
    simpa using this
  rw [h2] at h1
  exact h1

theorem evAlloc_sound {C : Cx} {σ : Store} {M : Mo} {t : TypeId} {k : AV → Store → Prop} (h : evAlloc C.P σ t k) {l : List Base} {w : World} (hr : Rel C l σ M w) :
    ∃ w' x v σ', (Instr.alloc t true (.tuple #[])).run C.P w = .ok (conc (l ++ x) v) w' ∧ Rel C (l ++ x) σ' M w' ∧ v.ok (l ++ x).length ∧ k v σ' := by
  unfold evAlloc at h
  cases hi : C.P.info? t with
  | none => rw [hi] at h; exact h.elim
  | some i =>
    rw [hi] at h
    simp only at h
    cases hz : i.zero with
    | none => rw [hz] at h; exact h.elim
    | some z =>
      rw [hz] at h
      simp only at h
      have h := snocK_iff h
      refine ⟨_, [some ⟨w.heap.size, 0, none⟩], _, _, ?_, new_sound hr t (.v z) trivial, ?_, h⟩
      · rw [conc_new _ hr.len]
        have h0 : (zeroValue t).run C.P w = .ok z w := by
          unfold zeroValue
          rw [Sem.run_bind, run_typeInfo_some hi, Result.andThen_ok, hz]
          rfl
        unfold Instr.alloc
        rw [Sem.run_bind, h0, Result.andThen_ok]
        simp [newVar_run, conc]
      · simp [AV.ok, hr.len]

def evBox (σ : Store) (t : TypeId) (x : AV) (k : AV → Store → Prop) : Prop :=
  snocK σ ⟨some (t, x.cells.length), .lit x.cells⟩ fun σ' => k (.lp σ.length 0) σ'
theorem evBox_sound {C : Cx} {σ : Store} {M : Mo} {t : TypeId} {x : AV} {k : AV → Store → Prop} (h : evBox σ t x k) {l : List Base} {w : World} (hr : Rel C l σ M w) (hx : x.ok l.length) :
    ∃ w' y v σ', (Instr.box t (conc l x)).run C.P w = .ok (conc (l ++ y) v) w' ∧ Rel C (l ++ y) σ' M w' ∧ v.ok (l ++ y).length ∧ k v σ' := by
  have h := snocK_iff h
  refine ⟨_, [some ⟨w.heap.size, 0, none⟩], _, _, ?_, new_sound hr t x hx, ?_, h⟩
  · rw [conc_new _ hr.len]
    simp [Instr.box, newVar_run]
  · simp [AV.ok, hr.len]

end Go.Gw

namespace Go.Gw
open Go Go.RowKit

/-! ### Operations that only reckon -/

def evUn (op : UnOp) (x : AV) (k : AV → Prop) : Prop :=
  match op, x with
  | .not, .v (.bool b) => k (.v (.bool !b))
  | .neg, .v (.int kd n) => k (.v (.int kd (kd.wrap (0 - n))))
  | .xor, .v (.int kd n) => k (.v (.int kd (kd.wrap ((BitVec.ofInt kd.bits (if kd.signed then -1 else kd.max) ^^^ BitVec.ofInt kd.bits n).toNat))))
  | _, _ => False
theorem evUn_sound {P : Program} {op : UnOp} {x : AV} {k : AV → Prop} (l : List Base) (h : evUn op x k) :
    ∃ v, (∀ w, (Op.unary op (conc l x)).run P w = .ok (conc l v) w) ∧ v.ok l.length ∧ k v := by
  unfold evUn at h
  split at h
  · refine ⟨_, fun w => ?_, ?_, h⟩ <;> first | rfl | trivial
  · refine ⟨_, fun w => ?_, ?_, h⟩ <;> first | rfl | trivial
  · refine ⟨_, fun w => ?_, ?_, h⟩ <;> first | rfl | trivial
  · exact h.elim

def evConv (P : Program) (s d : TypeId) (x : AV) (k : AV → Prop) : Prop :=
  match P.underlying s with
  | none => False
  | some _ => match P.underlying d with
    | some (.int kd) => (match x with
      | .v (.int _ n) => k (.v (.int kd (kd.wrap n)))
      | _ => False)
    | some .string => (match x with
      | .v (.string b) => k (.v (.string b))
      | _ => False)
    | _ => False
theorem evConv_sound {P : Program} {s d : TypeId} {x : AV} {k : AV → Prop} (l : List Base) (h : evConv P s d x k) :
    ∃ v, (∀ w, (convert s d (conc l x)).run P w = .ok (conc l v) w) ∧ v.ok l.length ∧ k v := by
  unfold evConv at h
  cases hs : P.underlying s with
  | none => rw [hs] at h; exact h.elim
  | some ds =>
    rw [hs] at h
    simp only at h
    split at h
    · rename_i kd hd
      split at h
      · rename_i k0 n
        refine ⟨_, ?_, ?_, h⟩
        case refine_2 => trivial
        intro w
        unfold convert
        rw [Sem.run_bind, run_underlying hs, Result.andThen_ok, Sem.run_bind, run_underlying hd, Result.andThen_ok]
        simp only [conc]
        cases ds <;> simp [Conv.intToInt]
      · exact h.elim
    · rename_i hd
      split at h
      · rename_i b
        refine ⟨_, ?_, ?_, h⟩
        case refine_2 => trivial
        intro w
        unfold convert
        rw [Sem.run_bind, run_underlying hs, Result.andThen_ok, Sem.run_bind, run_underlying hd, Result.andThen_ok]
        simp only [conc]
        cases ds <;> simp
      · exact h.elim
    · exact h.elim

/-- An object that lies somewhere. -/
def baseK (σ : Store) (id : Nat) (K : Prop) : Prop := nthK σ id fun ob => match ob.c with
  | .lit (_ :: _) => K
  | .lit [] => False
  | .ints _ xs => xs ≠ [] ∧ K
theorem baseK_iff {C : Cx} {l : List Base} {σ : Store} {M : Mo} {w : World} (hr : Rel C l σ M w) {id : Nat} {K : Prop} (h : baseK σ id K) : (∃ ad, l.getD id none = some ad ∧ ad.spot = none) ∧ K := by
  replace h := nthK_iff h
  obtain ⟨ob, ho, h⟩ := h
  have key : ob.c.len ≠ 0 → ∃ ad, l.getD id none = some ad ∧ ad.spot = none := fun hne =>
    let ⟨ad, e1, e2, _⟩ := hr.reads ho hne; ⟨ad, e1, e2⟩
  split at h
  · rename_i hc
    exact ⟨key (by rw [hc]; simp [Cells.len]), h⟩
  · exact h.elim
  · rename_i hc
    exact ⟨key (by rw [hc]; simp only [Cells.len]; exact fun h0 => h.1 (List.eq_nil_of_length_eq_zero h0)), h.2⟩

def evFieldAddr (P : Program) (σ : Store) (s : TypeId) (x : AV) (f : Nat) (k : AV → Prop) : Prop :=
  match P.underlying s with
  | some (.struct fs) => nthK fs.toList f fun fd => (match P.info? fd.type with
    | none => False
    | some i => match Nat.beq i.size 0 with
      | true => False
      | false => match x with
        | .lp id off => baseK σ id (k (.lp id (off + fd.offset)))
        | .v (.pointer (some ⟨b, o, none⟩)) => k (.v (.pointer (some ⟨b, o + fd.offset, none⟩)))
        | _ => False)
  | _ => False
theorem evFieldAddr_sound {C : Cx} {σ : Store} {M : Mo} {s : TypeId} {x : AV} {f : Nat} {k : AV → Prop} (h : evFieldAddr C.P σ s x f k) {l : List Base} (hr0 : ∃ w, Rel C l σ M w) (hx : x.ok l.length) :
    ∃ v, (∀ w, (Instr.fieldAt s (conc l x) f).run C.P w = .ok (conc l v) w) ∧ v.ok l.length ∧ k v := by
  obtain ⟨w0, hr⟩ := hr0
  unfold evFieldAddr at h
  split at h
  · rename_i fs hu
    replace h := nthK_iff h; obtain ⟨fd, hfd, h⟩ := h
    cases hi : C.P.info? fd.type with
    | none => rw [hi] at h; exact h.elim
    | some i =>
      rw [hi] at h
      simp only at h
      cases hz : Nat.beq i.size 0 with
      | true => rw [hz] at h; exact h.elim
      | false =>
        rw [hz] at h
        have hz : i.size ≠ 0 := fun e => by rw [e] at hz; cases hz
        simp only at h
        have hfd' : fs[f]? = some fd := by simpa using hfd
        have hp : ∀ (w : World) (a : Addr), (Instr.fieldAt s (.pointer (some a)) f).run C.P w = .ok (.pointer (some (a.add fd.offset))) w := fun w a => by
          unfold Instr.fieldAt
          rw [Sem.run_bind, run_underlying hu, Result.andThen_ok]
          simp only [hfd']
          simp only [Instr.sureAddr, fieldPlace, Sem.run_bind, Sem.run_pure, Result.andThen_ok, run_sizeOf w hi, Program.cellsOf, hi, Option.map_some, Option.getD_some, hz, if_false]
        split at h
        · rename_i id off
          replace h := baseK_iff hr h; obtain ⟨⟨b, hb, _⟩, h⟩ := h
          refine ⟨_, ?_, ?_, h⟩
          · intro w
            simp only [conc, hb, Base.up, Option.map_some, hp, Addr.add_none, Nat.add_assoc]
          · exact hx
        · refine ⟨_, ?_, ?_, h⟩
          · intro w
            simp only [conc, hp, Addr.add_none]
          · trivial
        · exact h.elim
  · exact h.elim

def evField (P : Program) (s : TypeId) (x : AV) (f : Nat) (k : AV → Prop) : Prop :=
  match P.underlying s with
  | some (.struct fs) => nthK fs.toList f fun fd => (match P.underlying fd.type with
    | none => False
    | some d => match P.info? fd.type with
      | none => False
      | some i => match x with
        | .agg cs => (match aggD (some d) with
          | true => dropK fd.offset cs fun r => takeK i.size r fun s => k (.agg s)
          | false => nthK cs fd.offset k)
        | .v (.agg cs) => (match aggD (some d) with
          | true => dropK fd.offset cs.toList fun r => takeK i.size r fun s => k (.v (.agg s.toArray))
          | false => nthK cs.toList fd.offset fun c => k (.v c))
        | _ => False)
  | _ => False

theorem part_run {P : Program} {t : TypeId} {d : TypeDesc} {i : TypeInfo} (hd : P.underlying t = some d) (hi : P.info? t = some i) (cs : Array Value) (off : Nat) :
    (aggD (some d) = true → ∀ w, (part t cs off).run P w = .ok (.agg (cs.toList.drop off |>.take i.size).toArray) w) ∧
    (∀ c, aggD (some d) = false → cs[off]? = some c → ∀ w, (part t cs off).run P w = .ok c w) := by
  have h1 : ∀ w, _ := fun w => run_isAgg (P := P) (w := w) (t := t) (by rw [hd]; rfl)
  rw [hd] at h1
  constructor
  · intro ha w
    rw [ha] at h1
    unfold part
    rw [Sem.run_bind, h1, Result.andThen_ok]
    simp only [if_true, Sem.run_bind, run_sizeOf w hi, Result.andThen_ok, Program.cellsOf, hi, Option.map_some, Option.getD_some, Sem.run_pure]
    congr 2
    apply Array.ext'
    simp [List.extract]
  · intro c ha hc w
    rw [ha] at h1
    unfold part
    rw [Sem.run_bind, h1, Result.andThen_ok]
    simp [hc]

theorem evField_sound {P : Program} {s : TypeId} {x : AV} {f : Nat} {k : AV → Prop} (l : List Base) (h : evField P s x f k) (hx : x.ok l.length) :
    ∃ v, (∀ w, (Instr.field s (conc l x) f).run P w = .ok (conc l v) w) ∧ v.ok l.length ∧ k v := by
  unfold evField at h
  split at h
  · rename_i fs hu
    replace h := nthK_iff h; obtain ⟨fd, hfd, h⟩ := h
    have hfd' : fs[f]? = some fd := by simpa using hfd
    cases hd : P.underlying fd.type with
    | none => rw [hd] at h; exact h.elim
    | some d =>
      rw [hd] at h
      simp only at h
      cases hi : P.info? fd.type with
      | none => rw [hi] at h; exact h.elim
      | some i =>
        rw [hi] at h
        simp only at h
        have hp : ∀ (w : World) (cs : Array Value), (Instr.field s (.agg cs) f).run P w = (part fd.type cs fd.offset).run P w := fun w cs => by
          unfold Instr.field
          rw [Sem.run_bind, run_underlying hu, Result.andThen_ok]
          simp [hfd', asAgg]
        split at h
        · rename_i cs
          obtain ⟨p1, p2⟩ := part_run hd hi (concL l cs).toArray fd.offset
          simp only [conc, hp]
          split at h
          · rename_i ha
            replace h := dropK_iff h; obtain ⟨h1, h⟩ := h
            replace h := takeK_iff h; obtain ⟨h2, h⟩ := h
            refine ⟨_, fun w => (p1 ha w).trans ?_, ?_, h⟩
            · simp [conc, concL_take, concL_drop]
            · exact okL_take _ (okL_drop _ hx)
          · rename_i ha
            replace h := nthK_iff h; obtain ⟨v, hv, h⟩ := h
            refine ⟨v, p2 _ ha ?_, okL_get hx hv, h⟩
            simp [concL_get, hv]
        · rename_i cs
          obtain ⟨p1, p2⟩ := part_run hd hi cs fd.offset
          simp only [conc, hp]
          split at h
          · rename_i ha
            replace h := dropK_iff h; obtain ⟨h1, h⟩ := h
            replace h := takeK_iff h; obtain ⟨h2, h⟩ := h
            refine ⟨.v (.agg (List.take i.size (List.drop fd.offset cs.toList)).toArray), p1 ha, ?_, h⟩
            trivial
          · rename_i ha
            replace h := nthK_iff h; obtain ⟨v, hv, h⟩ := h
            refine ⟨.v v, p2 v ha (by simpa using hv), ?_, h⟩
            trivial
        · exact h.elim
  · exact h.elim

/-- The place of an element. -/
def ixK (off : Nat) (n : Int) (s : Nat) (K : Nat → Prop) : Prop :=
  match off, s with
  | 0, 1 => K n.toNat
  | 0, s => K (n.toNat * s)
  | off, 1 => K (off + n.toNat)
  | off, s => K (off + n.toNat * s)
theorem ixK_iff {off : Nat} {n : Int} {s : Nat} {K : Nat → Prop} (h : ixK off n s K) : K (off + n.toNat * s) := by
  unfold ixK at h
  split at h
  · simpa using h
  · simpa using h
  · simpa using h
  · exact h

/-! ### A string's byte -/

def bytesI (s : ByteArray) : List Int := s.data.toList.map fun b => (b.toNat : Int)
theorem bytesI_length (s : ByteArray) : (bytesI s).length = s.size := by unfold bytesI; rw [List.length_map, Array.length_toList]; rfl
def evIndex (P : Program) (t : TypeId) (x i : AV) (k : AV → Prop) : Prop :=
  match i with
  | .v (.int _ n) => (match P.underlying t with
    | some .string => (match x with
      | .v (.string s) => (0 ≤ n ∧ n < s.size) ∧ k (.v (.int .u8 ((bytesI s).getD n.toNat 0)))
      | _ => False)
    | _ => False)
  | _ => False
theorem evIndex_sound {P : Program} {t : TypeId} {x i : AV} {k : AV → Prop} (l : List Base) (h : evIndex P t x i k) :
    ∃ v, (∀ w, (Instr.index t (conc l x) (conc l i)).run P w = .ok (conc l v) w) ∧ v.ok l.length ∧ k v := by
  unfold evIndex at h
  split at h
  case h_2 => exact h.elim
  rename_i kd n
  split at h
  case h_2 => exact h.elim
  rename_i hu
  split at h
  case h_2 => exact h.elim
  rename_i s
  obtain ⟨⟨h1, h2⟩, h⟩ := h
  refine ⟨.v _, fun w => ?_, trivial, h⟩
  have hn : n.toNat < s.size := by omega
  have hget : s[n.toNat]? = some s[n.toNat] := getElem?_pos s n.toNat hn
  have hb : (bytesI s).getD n.toNat 0 = (s[n.toNat].toNat : Int) := by
    unfold bytesI
    have hn' : n.toNat < s.data.size := hn
    rw [List.getD, List.getElem?_map, Array.getElem?_toList, Array.getElem?_eq_getElem hn']
    rfl
  simp only [Instr.index, conc, asIntOf, Sem.run_bind, Sem.run_pure, Result.andThen_ok, run_underlying hu, if_pos h1, hget, hb]

def elemD : Option TypeDesc → Option (Option Nat × TypeId)
  | some (.slice e) => some (none, e)
  | some (.array n e) => some (some n, e)
  | _ => none

/-- The address of an element: it must lie in the object. -/
def evIndexAddr (P : Program) (σ : Store) (t : TypeId) (x i : AV) (k : AV → Prop) : Prop :=
  match i with
  | .v (.int _ n) => (match P.underlying t with
    | some (.slice e) => (match P.info? e with
      | none => False
      | some i => match x with
        | .ls id off len _ => nthK σ id fun ob => (0 ≤ n ∧ n < len) ∧ ixK off n i.size fun o => o < ob.c.len ∧ k (.lp id o)
        | .v (.slice (some ⟨b, o, none⟩) len _) => (0 ≤ n ∧ n < len) ∧ k (.v (.pointer (some ⟨b, o + n.toNat * i.size, none⟩)))
        | _ => False)
    | some (.array len e) => (match P.info? e with
      | none => False
      | some i => match x with
        | .lp id off => baseK σ id ((0 ≤ n ∧ n < len) ∧ ixK off n i.size fun o => k (.lp id o))
        | .v (.pointer (some ⟨b, o, none⟩)) => (0 ≤ n ∧ n < len) ∧ k (.v (.pointer (some ⟨b, o + n.toNat * i.size, none⟩)))
        | _ => False)
    | _ => False)
  | _ => False

theorem evIndexAddr_sound {C : Cx} {σ : Store} {M : Mo} {t : TypeId} {x i : AV} {k : AV → Prop} (h : evIndexAddr C.P σ t x i k) {l : List Base} (hr0 : ∃ w, Rel C l σ M w) (hx : x.ok l.length) :
    ∃ v, (∀ w, (Instr.indexAt t (conc l x) (conc l i)).run C.P w = .ok (conc l v) w) ∧ v.ok l.length ∧ k v := by
  obtain ⟨w0, hr⟩ := hr0
  unfold evIndexAddr at h
  split at h
  case h_2 => exact h.elim
  rename_i ki n
  split at h
  · rename_i e hu
    have hp : ∀ (w : World) (a : Addr) (len cap : Nat), 0 ≤ n → n < len → ∀ j, C.P.info? e = some j → (Instr.indexAt t (.slice (some a) len cap) (.int ki n)).run C.P w = .ok (.pointer (some (a.add (n.toNat * j.size)))) w := fun w a len cap h1 h2 j hj => by
      unfold Instr.indexAt
      simp [asIntOf, run_underlying hu, h1, h2, sizeOf, run_typeInfo_some hj]
    cases hi : C.P.info? e with
    | none => rw [hi] at h; exact h.elim
    | some j =>
      rw [hi] at h
      simp only at h
      split at h
      · rename_i id off len cap
        replace h := nthK_iff h; obtain ⟨ob, ho, ⟨h1, h2⟩, h⟩ := h
        replace h := ixK_iff h; obtain ⟨h3, h⟩ := h
        obtain ⟨ad, e1, e2, _⟩ := hr.reads ho (by omega)
        refine ⟨_, ?_, ?_, h⟩
        · intro w
          simp only [conc, e1, Base.up, Option.map_some]
          rw [hp _ _ _ _ h1 h2 j hi, Addr.add_none, Nat.add_assoc]
        · exact hx
      · obtain ⟨⟨h1, h2⟩, h⟩ := h
        refine ⟨_, ?_, ?_, h⟩
        · intro w
          simp only [conc]
          rw [hp _ _ _ _ h1 h2 j hi, Addr.add_none]
        · trivial
      · exact h.elim
  · rename_i len e hu
    have hp : ∀ (w : World) (a : Addr), 0 ≤ n → n < len → ∀ j, C.P.info? e = some j → (Instr.indexAt t (.pointer (some a)) (.int ki n)).run C.P w = .ok (.pointer (some (a.add (n.toNat * j.size)))) w := fun w a h1 h2 j hj => by
      unfold Instr.indexAt
      simp [asIntOf, run_underlying hu, Instr.sureAddr, h1, h2, sizeOf, run_typeInfo_some hj]
    cases hi : C.P.info? e with
    | none => rw [hi] at h; exact h.elim
    | some j =>
      rw [hi] at h
      simp only at h
      split at h
      · rename_i id off
        replace h := baseK_iff hr h; obtain ⟨⟨b, hb, _⟩, ⟨h1, h2⟩, h⟩ := h
        replace h := ixK_iff h
        refine ⟨_, ?_, ?_, h⟩
        · intro w
          simp only [conc, hb, Base.up, Option.map_some]
          rw [hp _ _ h1 h2 j hi, Addr.add_none, Nat.add_assoc]
        · exact hx
      · obtain ⟨⟨h1, h2⟩, h⟩ := h
        refine ⟨_, ?_, ?_, h⟩
        · intro w
          simp only [conc]
          rw [hp _ _ h1 h2 j hi, Addr.add_none]
        · trivial
      · exact h.elim
  · exact h.elim

end Go.Gw

namespace Go.Gw
open Go Go.RowKit

/-! ### Cuts, lengths, what is built -/

def bndK (y : Nat) : AV → (Nat → Prop) → Prop
  | .v (.int _ i), K => (0 ≤ i ∧ i ≤ (y : Int)) ∧ K i.toNat
  | _, _ => False
theorem bndK_iff {P : Program} {y : Nat} {x : AV} {K : Nat → Prop} (l : List Base) (code : BoundsCode) (h : bndK y x K) : ∃ n, (∀ w, (Instr.sliceBound (conc l x) y code).run P w = .ok n w) ∧ K n := by
  unfold bndK at h
  split at h
  · obtain ⟨⟨h1, h2⟩, h⟩ := h
    exact ⟨_, fun w => run_sliceBound w _ _ y code h1 h2, h⟩
  · exact h.elim
def bndOK (y d : Nat) : Option AV → (Nat → Prop) → Prop
  | none, K => K d
  | some v, K => bndK y v K
theorem bndOK_iff {P : Program} {y d : Nat} {x : Option AV} {K : Nat → Prop} (l : List Base) (code : BoundsCode) (h : bndOK y d x K) :
    ∃ n, (∀ w, ((match x.map (conc l) with | some v => Instr.sliceBound v y code | none => pure d : Sem Nat)).run P w = .ok n w) ∧ K n := by
  cases x with
  | none => exact ⟨d, fun _ => rfl, h⟩
  | some v => exact bndK_iff l code h
def bndsK (len cap : Nat) (lo hi mx : Option AV) (K : Nat → Nat → Nat → Prop) : Prop :=
  bndOK cap cap mx fun m => match hi with
    | none => (match mx with
      | some _ => False
      | none => bndOK len 0 lo fun l => K l len m)
    | some v => bndK m v fun h => bndOK h 0 lo fun l => K l h m
theorem bndsK_iff {P : Program} {isS : Bool} {len cap : Nat} {lo hi mx : Option AV} {K : Nat → Nat → Nat → Prop} (l : List Base) (h : bndsK len cap lo hi mx K) :
    ∃ a b c, (∀ w, (Instr.sliceBounds isS len cap (lo.map (conc l)) (hi.map (conc l)) (mx.map (conc l))).run P w = .ok (a, b, c) w) ∧ K a b c := by
  unfold bndsK at h
  obtain ⟨m, hm, h⟩ := bndOK_iff (P := P) l (if isS then .slice3Acap else .slice3Alen) h
  cases hi with
  | none =>
    cases mx with
    | some v => exact h.elim
    | none =>
      simp only at h
      obtain ⟨a, ha, h⟩ := bndOK_iff (P := P) l .sliceB h
      refine ⟨a, len, m, fun w => ?_, h⟩
      specialize hm w
      specialize ha w
      unfold Instr.sliceBounds
      simp only [Option.map_none] at hm ⊢
      simp only [Sem.run_bind, Sem.run_pure, Result.andThen_ok, Option.isSome_none, Bool.false_eq_true, if_false] at hm ⊢
      injection hm with hm
      subst hm
      cases lo with
      | none =>
        simp only [Option.map_none, Sem.run_pure] at ha ⊢
        injection ha with ha
        subst ha
        simp only [Sem.run_bind, Sem.run_pure, Result.andThen_ok]
      | some u =>
        simp only [Option.map_some] at ha ⊢
        simp only [Sem.run_bind, ha, Sem.run_pure, Result.andThen_ok]
  | some v =>
    simp only at h
    obtain ⟨b, hb, h⟩ := bndK_iff (P := P) l (if mx.isSome then .slice3B else (if isS then .sliceAcap else .sliceAlen)) h
    obtain ⟨a, ha, h⟩ := bndOK_iff (P := P) l (if (mx.map (conc l)).isSome then .slice3C else .sliceB) h
    refine ⟨a, b, m, fun w => ?_, h⟩
    specialize hm w
    specialize hb w
    specialize ha w
    unfold Instr.sliceBounds
    cases mx with
    | none =>
      simp only [Option.map_none, Option.map_some, Option.isSome_none, Bool.false_eq_true, if_false, Sem.run_pure] at hm hb ha ⊢
      injection hm with hm
      subst hm
      cases lo with
      | none =>
        simp only [Option.map_none, Sem.run_pure] at ha ⊢
        injection ha with ha
        subst ha
        simp only [Sem.run_bind, hb, Sem.run_pure, Result.andThen_ok]
      | some u =>
        simp only [Option.map_some] at ha ⊢
        simp only [Sem.run_bind, hb, ha, Sem.run_pure, Result.andThen_ok]
    | some u =>
      simp only [Option.map_some, Option.isSome_some, if_true] at hm hb ha ⊢
      cases lo with
      | none =>
        simp only [Option.map_none, Sem.run_pure] at ha ⊢
        injection ha with ha
        subst ha
        simp only [Sem.run_bind, hm, hb, Sem.run_pure, Result.andThen_ok]
      | some u =>
        simp only [Option.map_some] at ha ⊢
        simp only [Sem.run_bind, hm, hb, ha, Sem.run_pure, Result.andThen_ok]

def optK (e : Env) : Option Operand → (Option AV → Prop) → Prop
  | none, K => K none
  | some x, K => opK e x fun v => K (some v)
theorem optK_sound {C : Cx} {e : Env} {x : Option Operand} {K : Option AV → Prop} (h : optK e x K) {l : List Base} {a : Act} (he : EnvR C l e a) :
    ∃ v, x.map a.eval = v.map (conc l) ∧ K v := by
  cases x with
  | none => exact ⟨none, rfl, h⟩
  | some x =>
    obtain ⟨v, h1, _, h3⟩ := opK_sound h he
    exact ⟨some v, by simp [h1], h3⟩

def evSlice (P : Program) (σ : Store) (t : TypeId) (x : AV) (lo hi mx : Option AV) (k : AV → Prop) : Prop :=
  match P.underlying t with
  | some (.slice e) => (match P.info? e with
    | none => False
    | some i => match x with
      | .ls id off len cap => bndsK len cap lo hi mx fun l h m => k (.ls id (if m = l then off else off + l * i.size) (h - l) (m - l))
      | .v (.slice a len cap) => bndsK len cap lo hi mx fun l h m => k (.v (.slice (if m = l then a else a.map (·.add (l * i.size))) (h - l) (m - l)))
      | _ => False)
  | some .string => (match mx with
    | some _ => False
    | none => match x with
      | .v (.string s) => bndsK s.size s.size lo hi none fun l h _ => k (.v (.string (s.extract l h)))
      | _ => False)
  | some (.array n e) => (match P.info? e with
    | none => False
    | some i => match x with
      | .lp id off => baseK σ id (bndsK n n lo hi mx fun l h m => k (.ls id (if m = l then off else off + l * i.size) (h - l) (m - l)))
      | _ => False)
  | _ => False

theorem evSlice_sound {C : Cx} {σ : Store} {M : Mo} {t : TypeId} {x : AV} {lo hi mx : Option AV} {k : AV → Prop} (h : evSlice C.P σ t x lo hi mx k) {l : List Base} (hr0 : ∃ w, Rel C l σ M w) (hx : x.ok l.length) :
    ∃ v, (∀ w, (Instr.sliceAt t (conc l x) (lo.map (conc l)) (hi.map (conc l)) (mx.map (conc l))).run C.P w = .ok (conc l v) w) ∧ v.ok l.length ∧ k v := by
  obtain ⟨w0, hr⟩ := hr0
  unfold evSlice at h
  split at h
  · rename_i e hu
    cases hi' : C.P.info? e with
    | none => rw [hi'] at h; exact h.elim
    | some i =>
      rw [hi'] at h
      simp only at h
      split at h
      · rename_i id off len cap
        obtain ⟨a, b, c, hb, h⟩ := bndsK_iff (P := C.P) (isS := true) l h
        refine ⟨_, ?_, ?_, h⟩
        · intro w
          unfold Instr.sliceAt Instr.slice
          simp only [Sem.run_bind, run_underlying hu, Result.andThen_ok, conc, hb, sizeOf, run_typeInfo_some hi', Sem.run_pure]
          congr 2
          cases hq : l.getD id none with
          | none => simp [Base.up]
          | some ad => split <;> simp [Base.up, Addr.add_none, Nat.add_assoc]
        · exact hx
      · obtain ⟨a, b, c, hb, h⟩ := bndsK_iff (P := C.P) (isS := true) l h
        refine ⟨_, ?_, ?_, h⟩
        · intro w
          unfold Instr.sliceAt Instr.slice
          simp only [Sem.run_bind, run_underlying hu, Result.andThen_ok, conc, hb, sizeOf, run_typeInfo_some hi', Sem.run_pure]
        · trivial
      · exact h.elim
  · rename_i hu
    split at h
    · exact h.elim
    · split at h
      · rename_i s
        obtain ⟨a, b, c, hb, h⟩ := bndsK_iff (P := C.P) (isS := false) l h
        refine ⟨_, ?_, ?_, h⟩
        · intro w
          unfold Instr.sliceAt Instr.slice
          simp only [Option.map_none] at hb
          simp [run_underlying hu, conc, hb]
        · trivial
      · exact h.elim
  · rename_i n e hu
    cases hi' : C.P.info? e with
    | none => rw [hi'] at h; exact h.elim
    | some i =>
      rw [hi'] at h
      simp only at h
      split at h
      · rename_i id off
        replace h := baseK_iff hr h; obtain ⟨⟨ad, hb0, _⟩, h⟩ := h
        obtain ⟨a, b, c, hb, h⟩ := bndsK_iff (P := C.P) (isS := false) l h
        refine ⟨_, ?_, ?_, h⟩
        · intro w
          unfold Instr.sliceAt
          simp only [Sem.run_bind, run_underlying hu, Result.andThen_ok, conc, hb, sizeOf, run_typeInfo_some hi', Sem.run_pure, hb0, Base.up, Option.map_some, Instr.sureAddr]
          congr 2
          split <;> simp [Addr.add_none, Nat.add_assoc]
        · exact hx
      · exact h.elim
  · exact h.elim

def evLen (P : Program) (t : TypeId) (x : AV) (k : AV → Prop) : Prop :=
  match P.underlying t with
  | some .string => (match x with | .v (.string s) => k (.v (.int .i64 s.size)) | _ => False)
  | some (.array n _) => k (.v (.int .i64 n))
  | some (.slice _) => (match x with | .v (.slice _ n _) => k (.v (.int .i64 n)) | .ls _ _ n _ => k (.v (.int .i64 n)) | _ => False)
  | _ => False
theorem evLen_sound {P : Program} {t ty : TypeId} {x : AV} {k : AV → Prop} (l : List Base) (h : evLen P t x k) :
    ∃ v, (∀ w, (Builtin.len_ #[t] ty #[conc l x]).run P w = .ok (conc l v) w) ∧ v.ok l.length ∧ k v := by
  unfold evLen at h
  split at h
  · rename_i hu
    split at h
    · refine ⟨_, ?_, ?_, h⟩
      · intro w; simp [Builtin.len_, run_underlying hu, conc, goInt]
      · trivial
    · exact h.elim
  · rename_i n e hu
    refine ⟨_, ?_, ?_, h⟩
    · intro w; simp [Builtin.len_, run_underlying hu, conc, goInt]
    · trivial
  · rename_i e hu
    split at h
    · refine ⟨_, ?_, ?_, h⟩
      · intro w; simp [Builtin.len_, run_underlying hu, conc, goInt]
      · trivial
    · refine ⟨_, ?_, ?_, h⟩
      · intro w; simp [Builtin.len_, run_underlying hu, conc, goInt]
      · trivial
    · exact h.elim
  · exact h.elim

def evExtract (x : AV) (i : Nat) (k : AV → Prop) : Prop :=
  match x with
  | .tup cs => nthK cs i k
  | .v (.tuple vs) => nthK vs.toList i fun v => k (.v v)
  | _ => False
theorem evExtract_sound {P : Program} {x : AV} {i : Nat} {k : AV → Prop} (l : List Base) (h : evExtract x i k) (hx : x.ok l.length) :
    ∃ v, (∀ w, (Instr.extract (conc l x) i).run P w = .ok (conc l v) w) ∧ v.ok l.length ∧ k v := by
  unfold evExtract at h
  split at h
  · rename_i cs
    obtain ⟨v, hv, h⟩ := nthK_iff h
    refine ⟨v, fun w => ?_, okL_get hx hv, h⟩
    simp [conc, Instr.extract, concL_get, hv]
  · rename_i vs
    obtain ⟨v, hv, h⟩ := nthK_iff h
    refine ⟨.v v, fun w => ?_, trivial, h⟩
    have : vs[i]? = some v := by simpa using hv
    simp [conc, Instr.extract, this]
  · exact h.elim

def evNil1 (σ : Store) (x : AV) (k : AV → Prop) : Prop :=
  match x with
  | .lp id off => baseK σ id (k (.lp id off))
  | .v (.pointer (some a)) => k (.v (.pointer (some a)))
  | .fn f cs => k (.fn f cs)
  | _ => False

/-- The cells of a struct or an array, part by part. -/
def fillK (place : Nat → Option (Nat × Nat)) : List AV → List (Nat × AV) → (List AV → Prop) → Prop
  | cs, [], K => K cs
  | cs, (i, v) :: r, K => match place i with
    | none => False
    | some (off, size) => match Nat.beq v.cells.length size with
      | true => putAtK off v.cells cs fun cs' => fillK place cs' r K
      | false => False

theorem foldl_set (off : Nat) : ∀ (vs : List Value) (j : Nat) (cells : Array Value), off + j + vs.length ≤ cells.size →
    ((vs.zipIdx j).foldl (fun cs (x : Value × Nat) => cs.setIfInBounds (off + x.2) x.1) cells).toList = cells.toList.take (off + j) ++ vs ++ cells.toList.drop (off + j + vs.length)
  | [], j, cells, _ => by simp
  | v :: r, j, cells, h => by
    simp only [List.length_cons] at h
    rw [List.zipIdx_cons, List.foldl_cons, foldl_set off r (j + 1) _ (by simp; omega)]
    simp only [Array.toList_setIfInBounds, List.length_cons]
    apply List.ext_getElem?
    intro k
    have s1 := seg_get (cells.toList.set (off + j) v) r (off + (j + 1)) k (by simp; omega)
    have s2 := seg_get cells.toList (v :: r) (off + j) k (by simp; omega)
    rw [s1]
    simp only [List.length_cons] at s2
    rw [s2, List.getElem?_set]
    by_cases h1 : k < off + j
    · rw [if_pos (by omega), if_neg (by omega), if_pos h1]
    · rw [if_neg h1]
      by_cases h2 : k = off + j
      · subst h2
        simp
        omega
      · rw [if_neg (by omega)]
        by_cases h3 : k < off + (j + 1) + r.length
        · rw [if_pos h3, if_pos (by omega)]
          obtain ⟨q, hq⟩ : ∃ q, k - (off + j) = q + 1 := ⟨k - (off + j) - 1, by omega⟩
          rw [hq, List.getElem?_cons_succ]
          congr 1
          omega
        · rw [if_neg h3, if_neg (by omega), if_neg (by omega)]

theorem fillK_sound (place : Nat → Option (Nat × Nat)) (l : List Base) : ∀ (ps : List (Nat × AV)) (cs : List AV) {K : List AV → Prop}, fillK place cs ps K → okL l.length cs → (∀ p ∈ ps, p.2.ok l.length) →
    ∃ cs', Instr.fill place (concL l cs).toArray (ps.map fun p => (p.1, conc l p.2)) = some (concL l cs').toArray ∧ okL l.length cs' ∧ K cs'
  | [], cs, K, h, hk, _ => ⟨cs, rfl, hk, h⟩
  | (i, v) :: r, cs, K, h, hk, hp => by
    unfold fillK at h
    cases hpl : place i with
    | none => rw [hpl] at h; exact h.elim
    | some os =>
      obtain ⟨off, size⟩ := os
      rw [hpl] at h
      simp only at h
      cases hb : Nat.beq v.cells.length size with
      | false => rw [hb] at h; exact h.elim
      | true =>
        rw [hb] at h
        have hsz := Nat.eq_of_beq_eq_true hb
        simp only at h
        replace h := putAtK_iff h
        obtain ⟨h1, h⟩ := h
        have hv : v.ok l.length := hp (i, v) (by simp)
        have hcc := conc_cells l v
        have hcs : (conc l v).cells.size = v.cells.length := by rw [← concL_length l, ← hcc]; simp
        obtain ⟨cs', e1, e2, e3⟩ := fillK_sound place l r _ h (okL_append (okL_append (okL_take _ hk) (ok_cells hv)) (okL_drop _ hk)) (fun p hpm => hp p (by simp [hpm]))
        refine ⟨cs', ?_, e2, e3⟩
        rw [← e1]
        simp only [List.map_cons, Instr.fill, hpl]
        rw [if_neg (by simp [hcs, hsz, concL_length]; omega)]
        congr 1
        apply Array.ext'
        have hf := foldl_set off (concL l v.cells) 0 (concL l cs).toArray (by simp [concL_length]; omega)
        simp only [Nat.add_zero, concL_length] at hf
        rw [← Array.foldl_toList]
        rw [show ((conc l v).cells.zipIdx.toList) = (concL l v.cells).zipIdx from by rw [← hcc]; simp]
        rw [hf]
        simp [concL_app, concL_take, concL_drop]

def partsK (e : Env) : List (Nat × Operand) → (List (Nat × AV) → Prop) → Prop
  | [], K => K []
  | (i, x) :: r, K => opK e x fun v => partsK e r fun vs => K ((i, v) :: vs)
theorem partsK_sound {C : Cx} {e : Env} {l : List Base} {a : Act} (he : EnvR C l e a) : ∀ {xs : List (Nat × Operand)} {K : List (Nat × AV) → Prop}, partsK e xs K →
    ∃ vs, (xs.map fun p => (p.1, a.eval p.2)) = (vs.map fun p => (p.1, conc l p.2)) ∧ (∀ p ∈ vs, p.2.ok l.length) ∧ K vs
  | [], K, h => ⟨[], rfl, by simp, h⟩
  | (i, x) :: r, K, h => by
    obtain ⟨v, h1, h2, h3⟩ := opK_sound h he
    obtain ⟨vs, h4, h5, h6⟩ := partsK_sound he h3
    exact ⟨(i, v) :: vs, by simp [h1, h4], by
      intro p hp
      rcases List.mem_cons.1 hp with rfl | hp
      · exact h2
      · exact h5 p hp, h6⟩

/-- The places of a struct's fields. -/
def placesK (P : Program) : List Field → (List (Nat × Nat) → Prop) → Prop
  | [], K => K []
  | f :: r, K => match P.info? f.type with
    | none => False
    | some i => placesK P r fun s => K ((f.offset, i.size) :: s)
theorem placesK_sound {P : Program} : ∀ {fs : List Field} {K : List (Nat × Nat) → Prop}, placesK P fs K →
    ∃ ps, (∀ w, (fs.mapM (fun f => do pure (f.offset, ← sizeOf f.type) : Field → Sem (Nat × Nat))).run P w = .ok ps w) ∧ K ps
  | [], K, h => ⟨[], fun _ => rfl, h⟩
  | f :: r, K, h => by
    unfold placesK at h
    cases hi : P.info? f.type with
    | none => rw [hi] at h; exact h.elim
    | some i =>
      rw [hi] at h
      obtain ⟨ps, h1, h2⟩ := placesK_sound h
      refine ⟨_, fun w => ?_, h2⟩
      rw [List.mapM_cons]
      simp only [Sem.run_bind, run_sizeOf w hi, Result.andThen_ok, Sem.run_pure, h1, Program.cellsOf, hi, Option.map_some, Option.getD_some]

def evBuild (P : Program) (t : TypeId) (ps : List (Nat × AV)) (k : AV → Prop) : Prop :=
  match P.info? t with
  | none => False
  | some i => match i.zero with
    | none => False
    | some z => match P.underlying t with
      | some (.struct fs) => placesK P fs.toList fun pl => fillK (fun j => pl[j]?) (z.cells.toList.map .v) ps fun cs => k (.agg cs)
      | some (.array _ e) => (match P.info? e with
        | none => False
        | some j => fillK (fun n => some (n * j.size, j.size)) (z.cells.toList.map .v) ps fun cs => k (.agg cs))
      | _ => False
theorem run_zeroValue_some {P : Program} {w : World} {t : TypeId} {i : TypeInfo} {z : Value} (hi : P.info? t = some i) (hz : i.zero = some z) : (zeroValue t).run P w = .ok z w := by
  unfold zeroValue
  rw [Sem.run_bind, run_typeInfo_some hi, Result.andThen_ok, hz]
  rfl
theorem evBuild_sound {P : Program} {t : TypeId} {ps : List (Nat × AV)} {k : AV → Prop} (l : List Base) (h : evBuild P t ps k) (hp : ∀ p ∈ ps, p.2.ok l.length) :
    ∃ v, (∀ w, (Instr.build t (ps.map fun p => (p.1, conc l p.2)).toArray).run P w = .ok (conc l v) w) ∧ v.ok l.length ∧ k v := by
  unfold evBuild at h
  cases hi : P.info? t with
  | none => rw [hi] at h; exact h.elim
  | some i =>
    rw [hi] at h
    simp only at h
    cases hz : i.zero with
    | none => rw [hz] at h; exact h.elim
    | some z =>
      rw [hz] at h
      simp only at h
      have hz0 : ∀ w, (zeroValue t).run P w = .ok z w := fun w => run_zeroValue_some hi hz
      have hzc : (concL l (z.cells.toList.map AV.v)).toArray = z.cells := by rw [concL_map_v]
      split at h
      · rename_i fs hu
        obtain ⟨pl, h1, h⟩ := placesK_sound h
        obtain ⟨cs, h2, h3, h⟩ := fillK_sound _ l ps _ h (okL_map_v _ _) hp
        rw [hzc] at h2
        refine ⟨_, ?_, ?_, h⟩
        · intro w
          unfold Instr.build
          have h1' : (fs.mapM (fun f => do pure (f.offset, ← sizeOf f.type) : Field → Sem (Nat × Nat))).run P w = .ok pl.toArray w := by
            rw [Array.mapM_eq_mapM_toList, Sem.run_map, h1, Result.andThen_ok]
          rw [Sem.run_bind, hz0, Result.andThen_ok, Sem.run_bind, run_underlying hu, Result.andThen_ok]
          simp only [Sem.run_bind, h1', Result.andThen_ok]
          have h2' : Instr.fill (fun x => pl.toArray[x]?) z.cells (ps.map fun p => (p.1, conc l p.2)) = some (concL l cs).toArray := by
            rw [← h2]
            congr 1
            funext x
            simp
          simp only [h2']
          rfl
        · exact h3
      · rename_i n e hu
        cases hj : P.info? e with
        | none => rw [hj] at h; exact h.elim
        | some j =>
          rw [hj] at h
          simp only at h
          obtain ⟨cs, h2, h3, h⟩ := fillK_sound _ l ps _ h (okL_map_v _ _) hp
          rw [hzc] at h2
          refine ⟨_, ?_, ?_, h⟩
          · intro w
            unfold Instr.build
            rw [Sem.run_bind, hz0, Result.andThen_ok, Sem.run_bind, run_underlying hu, Result.andThen_ok]
            simp only [Sem.run_bind, run_sizeOf w hj, Result.andThen_ok, Program.cellsOf, hj, Option.map_some, Option.getD_some, h2]
            rfl
          · exact h3
      · exact h.elim

end Go.Gw

namespace Go.Gw
open Go Go.RowKit

/-! ### One operation -/

abbrev VK := AV → Store → Mo → Prop

def maxK : AV → List AV → (AV → Prop) → Prop
  | x, [], K => K x
  | .v (.int kd a), .v (.int _ b) :: r, K => maxK (.v (.int kd (if b > a then b else a))) r K
  | _, _ :: _, _ => False
def minK : AV → List AV → (AV → Prop) → Prop
  | x, [], K => K x
  | .v (.int kd a), .v (.int _ b) :: r, K => minK (.v (.int kd (if b < a then b else a))) r K
  | _, _ :: _, _ => False
theorem maxK_sound {P : Program} (l : List Base) : ∀ (r : List AV) (x : AV) {K : AV → Prop}, maxK x r K → x.ok l.length →
    ∃ v, (∀ w, Sem.run P ((concL l r).foldlM Builtin.max2 (conc l x)) w = .ok (conc l v) w) ∧ v.ok l.length ∧ K v
  | [], x, K, h, hx => ⟨x, fun _ => rfl, hx, by simpa [maxK] using h⟩
  | y :: r, x, K, h, hx => by
    unfold maxK at h
    split at h
    · rename_i heq; cases heq
    · rename_i kd a kd' b r' heq
      cases heq
      obtain ⟨v, h1, h2, h3⟩ := maxK_sound (P := P) l r _ h trivial
      refine ⟨v, fun w => ?_, h2, h3⟩
      rw [← h1 w]
      simp [concL, conc, Builtin.max2]
    · exact h.elim
theorem minK_sound {P : Program} (l : List Base) : ∀ (r : List AV) (x : AV) {K : AV → Prop}, minK x r K → x.ok l.length →
    ∃ v, (∀ w, Sem.run P ((concL l r).foldlM Builtin.min2 (conc l x)) w = .ok (conc l v) w) ∧ v.ok l.length ∧ K v
  | [], x, K, h, hx => ⟨x, fun _ => rfl, hx, by simpa [minK] using h⟩
  | y :: r, x, K, h, hx => by
    unfold minK at h
    split at h
    · rename_i heq; cases heq
    · rename_i kd a kd' b r' heq
      cases heq
      obtain ⟨v, h1, h2, h3⟩ := minK_sound (P := P) l r _ h trivial
      refine ⟨v, fun w => ?_, h2, h3⟩
      rw [← h1 w]
      simp [concL, conc, Builtin.min2]
    · exact h.elim

/-- A call of what is built in. -/
def evBuiltin (P : Program) (b : Builtin) (tys : List TypeId) (args : List AV) (k : AV → Prop) : Prop :=
  match b, tys, args with
  | .len, [t], [x] => evLen P t x k
  | .max, _, x :: r => maxK x r k
  | .min, _, x :: r => minK x r k
  | _, _, _ => False

/-- What an operation tells that yields a value and leaves the world as it is. -/
def evLoose (P : Program) (e : Env) (σ : Store) (M : Mo) (o : Op) (k : AV → Prop) : Prop :=
  match o with
  | .move x => opK e x k
  | .assign x => opK e x k
  | .binOp op t x y _ => opK e x fun a => opK e y fun b => evBin P op t a b k
  | .unOp u _ x => opK e x fun a => evUn u a k
  | .convert s d x => opK e x fun a => evConv P s d a k
  | .load t x => opK e x fun p => (match P.underlying t with
    | none => False
    | some _ => evLoad P σ M t p k)
  | .fieldAddr s x f => opK e x fun a => evFieldAddr P σ s a f k
  | .field s x f => opK e x fun a => evField P s a f k
  | .indexAddr t x i => opK e x fun a => opK e i fun b => evIndexAddr P σ t a b k
  | .index t x i => opK e x fun a => opK e i fun b => evIndex P t a b k
  | .slice t x lo hi mx => opK e x fun a => optK e lo fun l => optK e hi fun h => optK e mx fun m => evSlice P σ t a l h m k
  | .extract x i => opK e x fun a => evExtract a i k
  | .nilCheck x => opK e x fun a => evNil1 σ a k
  | .build t ps => partsK e ps.toList fun vs => evBuild P t vs k
  | .makeFunc (.func f) first cap => (match first.toList with
    | [] => opsK e cap.toList fun vs => k (.fn f vs)
    | _ => False)
  | .call ⟨.builtin b, args, tys⟩ => opsK e args.toList fun vs => evBuiltin P b tys.toList vs k
  | _ => False

/-- It yields so, in every world that fits. -/
def RunU (C : Cx) (e : Env) (σ : Store) (M : Mo) (o : Oper) (k : AV → Prop) : Prop :=
  ∀ l a, EnvR C l e a → (∃ w, Rel C l σ M w) → ∃ v, (∀ w, Rel C l σ M w → (execOp a.eval o).run C.P w = .ok (.value (conc l v)) w) ∧ v.ok l.length ∧ k v

theorem valOk {P : Program} {w w' : World} {s : Sem Value} {v : Value} (h : s.run P w = .ok v w') : (do pure (.value (← s)) : Sem Next).run P w = .ok (.value v) w' := by
  rw [Sem.run_bind, h]; rfl

theorem evLoose_sound {C : Cx} {e : Env} {σ : Store} {M : Mo} {o : Oper} {k : AV → Prop} (h : evLoose C.P e σ M o.op k) : RunU C e σ M o k := by
  obtain ⟨dst, op, ty, pos, after, guard⟩ := o
  intro l a he hr
  unfold evLoose at h
  simp only at h
  split at h
  · obtain ⟨v, h1, h2, h3⟩ := opK_sound h he
    exact ⟨v, fun w _ => by simp [execOp, h1], h2, h3⟩
  · obtain ⟨v, h1, h2, h3⟩ := opK_sound h he
    exact ⟨v, fun w _ => by simp [execOp, h1], h2, h3⟩
  · rename_i op t xo yo yt
    obtain ⟨x, h1, h2, h⟩ := opK_sound h he
    obtain ⟨y, h3, h4, h⟩ := opK_sound h he
    obtain ⟨v, h5, h6, h⟩ := evBin_sound C.P op t xo yo x y _ l h2 h
    exact ⟨v, fun w _ => by simp only [execOp, h1, h3]; exact valOk (h5 w), h6, h⟩
  · obtain ⟨x, h1, h2, h⟩ := opK_sound h he
    obtain ⟨v, h5, h6, h⟩ := evUn_sound (P := C.P) l h
    exact ⟨v, fun w _ => by simp only [execOp, h1]; exact valOk (h5 w), h6, h⟩
  · obtain ⟨x, h1, h2, h⟩ := opK_sound h he
    obtain ⟨v, h5, h6, h⟩ := evConv_sound (P := C.P) l h
    exact ⟨v, fun w _ => by simp only [execOp, h1]; exact valOk (h5 w), h6, h⟩
  · obtain ⟨x, h1, h2, h⟩ := opK_sound h he
    split at h
    · exact h.elim
    · rename_i hu
      obtain ⟨v, h5, h6, h⟩ := evLoad_sound (by rw [hu]; rfl) h hr
      exact ⟨v, fun w hw => by simp only [execOp, h1]; exact valOk (h5 w hw), h6, h⟩
  · obtain ⟨x, h1, h2, h⟩ := opK_sound h he
    obtain ⟨v, h5, h6, h⟩ := evFieldAddr_sound h hr h2
    exact ⟨v, fun w _ => by simp only [execOp, h1]; exact valOk (h5 w), h6, h⟩
  · obtain ⟨x, h1, h2, h⟩ := opK_sound h he
    obtain ⟨v, h5, h6, h⟩ := evField_sound (P := C.P) l h h2
    exact ⟨v, fun w _ => by simp only [execOp, h1]; exact valOk (h5 w), h6, h⟩
  · obtain ⟨x, h1, h2, h⟩ := opK_sound h he
    obtain ⟨y, h3, h4, h⟩ := opK_sound h he
    obtain ⟨v, h5, h6, h⟩ := evIndexAddr_sound h hr h2
    exact ⟨v, fun w _ => by simp only [execOp, h1, h3]; exact valOk (h5 w), h6, h⟩
  · obtain ⟨x, h1, h2, h⟩ := opK_sound h he
    obtain ⟨y, h3, h4, h⟩ := opK_sound h he
    obtain ⟨v, h5, h6, h⟩ := evIndex_sound (P := C.P) l h
    exact ⟨v, fun w _ => by simp only [execOp, h1, h3]; exact valOk (h5 w), h6, h⟩
  · obtain ⟨x, h1, h2, h⟩ := opK_sound h he
    obtain ⟨lo, h3, h⟩ := optK_sound h he
    obtain ⟨hi, h4, h⟩ := optK_sound h he
    obtain ⟨mx, h5, h⟩ := optK_sound h he
    obtain ⟨v, h6, h7, h⟩ := evSlice_sound h hr h2
    exact ⟨v, fun w _ => by simp only [execOp, h1, h3, h4, h5]; exact valOk (h6 w), h7, h⟩
  · obtain ⟨x, h1, h2, h⟩ := opK_sound h he
    obtain ⟨v, h5, h6, h⟩ := evExtract_sound (P := C.P) l h h2
    exact ⟨v, fun w _ => by simp only [execOp, h1]; exact valOk (h5 w), h6, h⟩
  · obtain ⟨x, h1, h2, h⟩ := opK_sound h he
    obtain ⟨w0, hr⟩ := hr
    unfold evNil1 at h
    split at h
    · replace h := baseK_iff hr h
      obtain ⟨⟨ad, hb, _⟩, h⟩ := h
      exact ⟨_, fun w _ => by simp only [execOp, h1, conc, hb, Base.up, Option.map_some, Sem.run_pure], h2, h⟩
    · exact ⟨_, fun w _ => by simp only [execOp, h1, conc, Sem.run_pure], h2, h⟩
    · exact ⟨_, fun w _ => by simp only [execOp, h1, conc, Sem.run_pure], h2, h⟩
    · exact h.elim
  · obtain ⟨vs, h1, h2, h⟩ := partsK_sound he h
    obtain ⟨v, h5, h6, h⟩ := evBuild_sound (P := C.P) l h h2
    refine ⟨v, fun w _ => ?_, h6, h⟩
    simp only [execOp]
    refine valOk ?_
    rw [← h5 w]
    congr 2
    apply Array.ext'
    simpa using h1
  · split at h
    · rename_i hf
      obtain ⟨vs, h1, h2, h⟩ := opsK_sound he h
      refine ⟨_, fun w _ => ?_, ?_, h⟩
      · simp only [execOp, Instr.makeFunc]
        refine valOk ?_
        simp only [conc, Sem.run_pure]
        congr 2
        · apply Array.ext'
          simp [hf]
        · apply Array.ext'
          simpa using h1
      · exact h2
    · exact h.elim
  · rename_i b args tys
    replace h := opsK_sound he h
    obtain ⟨vs, h1, h2, h⟩ := h
    have ha : args.map a.eval = (concL l vs).toArray := Array.ext' (by simpa using h1)
    unfold evBuiltin at h
    split at h
    · rename_i t x htys
      obtain ⟨v, h5, h6, h⟩ := evLen_sound (P := C.P) (ty := ty) l h
      refine ⟨v, fun w _ => ?_, h6, h⟩
      have ht : tys = #[t] := Array.ext' (by simpa using htys)
      simp only [concL] at ha
      simp only [execOp, resolve, ha, ht, Sem.run_bind, Sem.run_pure, Result.andThen_ok, invoke, builtin]
      rw [h5]
      rfl
    · obtain ⟨v, h5, h6, h⟩ := maxK_sound (P := C.P) l _ _ h h2.1
      refine ⟨v, fun w _ => ?_, h6, h⟩
      simp only [execOp, resolve, ha, Sem.run_bind, Sem.run_pure, Result.andThen_ok, invoke, builtin, Builtin.max_, concL]
      rw [h5]
      rfl
    · obtain ⟨v, h5, h6, h⟩ := minK_sound (P := C.P) l _ _ h h2.1
      refine ⟨v, fun w _ => ?_, h6, h⟩
      simp only [execOp, resolve, ha, Sem.run_bind, Sem.run_pure, Result.andThen_ok, invoke, builtin, Builtin.min_, concL]
      rw [h5]
      rfl
    · exact h.elim
  · exact h.elim

/-- What an operation that yields a value tells. -/
def evVal (P : Program) (e : Env) (σ : Store) (M : Mo) (o : Op) (k : VK) : Prop :=
  match o with
  | .alloc t => evAlloc P σ t fun v σ' => k v σ' M
  | .box t x => opK e x fun a => evBox σ t a fun v σ' => k v σ' M
  | o => evLoose P e σ M o fun v => k v σ M

/-- It runs so, in every world that fits; no block that was there turns. -/
def RunV (C : Cx) (e : Env) (σ : Store) (M : Mo) (o : Oper) (k : VK) : Prop :=
  ∀ l a w, EnvR C l e a → Rel C l σ M w → ∃ w' x v σ' M', (execOp a.eval o).run C.P w = .ok (.value (conc (l ++ x) v)) w' ∧ Fr [] w w' ∧ Rel C (l ++ x) σ' M' w' ∧ v.ok (l ++ x).length ∧ k v σ' M'

theorem frAlloc (w : World) (o : Obj) : Fr [] w (w.alloc o) := .ofBelow ((Below.refl _ _).alloc (Nat.le_refl _) _)

theorem evVal_sound {C : Cx} {e : Env} {σ : Store} {M : Mo} {o : Oper} {k : VK} (h : evVal C.P e σ M o.op k) : RunV C e σ M o k := by
  unfold evVal at h
  intro l a w he hr
  split at h
  · rename_i t hop
    obtain ⟨w', x, v, σ', h1, h2, h3, h⟩ := evAlloc_sound h hr
    have hf : Fr [] w w' := by
      have h4 := h1
      unfold Instr.alloc at h4
      rw [Sem.run_bind] at h4
      cases hz : (zeroValue t).run C.P w with
      | halt x y => rw [hz] at h4; cases h4
      | ok z w1 =>
        rw [hz] at h4
        have hw1 : w1 = w := by
          unfold zeroValue at hz
          rw [Sem.run_bind] at hz
          cases hi : C.P.info? t with
          | none => simp [typeInfo, program, Sem.run, hi, stuck] at hz
          | some i =>
            rw [run_typeInfo_some hi, Result.andThen_ok] at hz
            cases hzz : i.zero with
            | none => rw [hzz] at hz; cases hz
            | some z' => rw [hzz] at hz; injection hz with _ e2; exact e2.symm
        subst hw1
        simp only [Result.andThen_ok, Sem.run_bind, newVar_run, Sem.run_pure] at h4
        injection h4 with _ e2
        subst e2
        exact frAlloc _ _
    exact ⟨w', x, v, σ', M, by unfold execOp; rw [hop]; exact valOk h1, hf, h2, h3, h⟩
  · rename_i t xo hop
    obtain ⟨x, h0, hx, h⟩ := opK_sound h he
    obtain ⟨w', y, v, σ', h1, h2, h3, h⟩ := evBox_sound h hr hx
    have hf : Fr [] w w' := by
      have h4 := h1
      simp only [Instr.box, Sem.run_bind, newVar_run, Result.andThen_ok, Sem.run_pure] at h4
      injection h4 with _ e2
      subst e2
      exact frAlloc _ _
    exact ⟨w', y, v, σ', M, by unfold execOp; rw [hop]; simp only [h0]; exact valOk h1, hf, h2, h3, h⟩
  · obtain ⟨v, h1, h2, h3⟩ := evLoose_sound h l a he ⟨w, hr⟩
    exact ⟨w, [], v, σ, M, by simpa using h1 w hr, Fr.refl _ _, by simpa using hr, by simpa using h2, h3⟩

end Go.Gw

namespace Go.Gw
open Go Go.RowKit

/-! ### Tests, calls, operations one behind the other -/

structure Br (b : Bool) (t f : Prop) : Prop where
  t : b = true → t
  f : b = false → f

/-- The frame after a test: the same slots are told. -/
def Same (e e' : Env) : Prop := ∀ d, e.get d = none → e'.get d = none
theorem Same.refl (e : Env) : Same e e := fun _ h => h
theorem Same.kb {e : Env} {t : Nat} {v : AV} (h : e.get t = some v) (b : Bool) : Same e ((t, .kb b) :: e) := by
  intro d hd
  unfold Env.get
  cases hb : Nat.beq t d with
  | true =>
    have := Nat.eq_of_beq_eq_true hb
    subst this
    rw [h] at hd; cases hd
  | false => exact hd

def boolV (t : Nat) (e : Env) (v : AV) (kt kf : Env → Prop) : Prop :=
  match v with
  | .kb true => kt e
  | .kb false => kf e
  | .v (.bool b) => Br b (kt ((t, .kb true) :: e)) (kf ((t, .kb false) :: e))
  | _ => False
def boolK (e : Env) (c : Operand) (kt kf : Env → Prop) : Prop :=
  match c with
  | .tmp t => e.getK t fun v => boolV t e v kt kf
  | _ => False
theorem boolK_sound {C : Cx} {e : Env} {c : Operand} {kt kf : Env → Prop} (h : boolK e c kt kf) {l : List Base} {a : Act} (he : EnvR C l e a) :
    ∃ b e', a.eval c = .bool b ∧ EnvR C l e' a ∧ Same e e' ∧ (if b then kt e' else kf e') := by
  unfold boolK at h
  split at h
  · rename_i t
    obtain ⟨v, hv, h⟩ := Env.getK_iff h
    have hg := he.get t v hv
    have hev : a.eval (.tmp t) = conc l v := by simp [Act.eval, Array.getD_eq_getD_getElem?, hg.1]
    unfold boolV at h
    split at h
    · exact ⟨true, e, hev, he, .refl e, h⟩
    · exact ⟨false, e, hev, he, .refl e, h⟩
    · rename_i b
      cases b with
      | true => exact ⟨true, _, hev, he.drop t _ (.kb true) hv rfl trivial, .kb hv true, h.t rfl⟩
      | false => exact ⟨false, _, hev, he.drop t _ (.kb false) hv rfl trivial, .kb hv false, h.f rfl⟩
    · exact h.elim
  · exact h.elim

def putK (N : Nat) (d : Option Nat) (v : AV) (e : Env) (k : Env → Prop) : Prop :=
  match d with
  | none => k e
  | some d => match Nat.blt d N with
    | true => k ((d, v) :: e)
    | false => False
theorem putK_sound {C : Cx} {d : Option Nat} {v : AV} {e : Env} {k : Env → Prop} (h : putK C.N d v e k) {l : List Base} {a : Act} (he : EnvR C l e a) (hv : v.ok l.length) :
    ∃ e', EnvR C l e' (a.put d (conc l v)) ∧ k e' := by
  unfold putK at h
  cases d with
  | none => exact ⟨e, he, h⟩
  | some d =>
    simp only at h
    cases hb : Nat.blt d C.N with
    | false => rw [hb] at h; exact h.elim
    | true =>
      rw [hb] at h
      exact ⟨_, he.put d v (by simpa [Nat.blt_eq] using hb) hv, h⟩

def hasBody (P : Program) (f : FuncId) : Bool :=
  match P.funcs[f]? with
  | some fn => fn.body.isSome && !(fn.name == "runtime.NumGoroutine")
  | none => false
theorem run_callFunc {P : Program} {f : FuncId} (h : hasBody P f = true) (args : Array Value) (w : World) : (callFunc f args).run P w = .ok (.enter f args) w := by
  unfold hasBody at h
  split at h
  · rename_i fn hf
    simp only [Bool.and_eq_true, Bool.not_eq_true'] at h
    unfold callFunc program
    rw [Sem.run_bind]
    simp only [Sem.run, Result.andThen_ok, hf]
    have h2 : ¬ (fn.name == "runtime.NumGoroutine") = true := by rw [h.2]; simp
    have h3 : ¬ fn.body.isNone = true := by cases hb : fn.body <;> simp_all
    rw [if_neg h2, if_neg h3]
    rfl
  · cases h

/-- What a call must come to. -/
def CallPost (C : Cx) (l : List Base) (k : VK) : Ending → World → Prop
  | .returned v, w' => ∃ x av σ' M', conc (l ++ x) av = v ∧ av.ok (l ++ x).length ∧ Rel C (l ++ x) σ' M' w' ∧ k av σ' M'
  | _, _ => False
structure CallK (C : Cx) (g : FuncId) (args : List AV) (σ : Store) (M : Mo) (k : VK) : Prop where
  bod : hasBody C.P g = true
  run : ∀ l w, Rel C l σ M w → okL l.length args → Calls C.P g (concL l args).toArray w (CallPost C l k)

/-- What takes memory in a way of its own: a make, an append, a copy. -/
structure MakeK (C : Cx) (t : TypeId) (n c : AV) (σ : Store) (M : Mo) (k : VK) : Prop where
  out : ∀ l w, Rel C l σ M w → ∃ w' x v σ' M', (Instr.makeSlice t (conc l n) (conc l c)).run C.P w = .ok (conc (l ++ x) v) w' ∧ Rel C (l ++ x) σ' M' w' ∧ v.ok (l ++ x).length ∧ k v σ' M'
structure AppendK (C : Cx) (tys : List TypeId) (s x : AV) (σ : Store) (M : Mo) (k : VK) : Prop where
  out : ∀ l w ty, Rel C l σ M w → s.ok l.length → x.ok l.length → ∃ w' y v σ' M', (Builtin.append_ tys.toArray ty #[conc l s, conc l x]).run C.P w = .ok (conc (l ++ y) v) w' ∧ Rel C (l ++ y) σ' M' w' ∧ v.ok (l ++ y).length ∧ k v σ' M'
structure CopyK (C : Cx) (tys : List TypeId) (s x : AV) (σ : Store) (M : Mo) (k : VK) : Prop where
  out : ∀ l w ty, Rel C l σ M w → s.ok l.length → x.ok l.length → ∃ w' y v σ' M', (Builtin.copy_ tys.toArray ty #[conc l s, conc l x]).run C.P w = .ok (conc (l ++ y) v) w' ∧ Rel C (l ++ y) σ' M' w' ∧ v.ok (l ++ y).length ∧ k v σ' M'

/-- A string out of bytes; bytes out of a string. -/
structure ConvK (C : Cx) (s d : TypeId) (x : AV) (σ : Store) (M : Mo) (k : VK) : Prop where
  out : ∀ l w, Rel C l σ M w → x.ok l.length → ∃ w' y v σ' M', (convert s d (conc l x)).run C.P w = .ok (conc (l ++ y) v) w' ∧ Rel C (l ++ y) σ' M' w' ∧ v.ok (l ++ y).length ∧ k v σ' M'
def convB (P : Program) (s d : TypeId) : Bool :=
  match P.underlying s, P.underlying d with
  | some (.slice _), some .string => true
  | some .string, some (.slice _) => true
  | _, _ => false

/-- So many times these cells. -/
def repC : Nat → List AV → List AV
  | 0, _ => []
  | n + 1, z => z ++ repC n z
def evBuildSlice (P : Program) (σ : Store) (t : TypeId) (len : Nat) (ps : List (Nat × AV)) (k : AV → Store → Prop) : Prop :=
  match P.underlying t with
  | some (.slice e) => (match P.info? e with
    | none => False
    | some i => match i.zero with
      | none => False
      | some z => match Nat.ble (len * i.size) 16777216, Nat.beq z.cells.size i.size with
        | true, true => fillK (fun n => some (n * i.size, i.size)) (repC len (AV.v z).cells) ps fun cs => snocK σ ⟨some (e, len * i.size), .lit cs⟩ fun σ' => k (.ls σ.length 0 len len) σ'
        | _, _ => False)
  | _ => False

theorem fillK_len (place : Nat → Option (Nat × Nat)) (l : List Base) : ∀ (ps : List (Nat × AV)) (a b : Array Value), Instr.fill place a (ps.map fun p => (p.1, conc l p.2)) = some b → b.size = a.size
  | [], a, b, h => by simp [Instr.fill] at h; rw [h]
  | (i, v) :: r, a, b, h => by
    simp only [List.map_cons, Instr.fill] at h
    split at h
    · cases h
    · split at h
      · cases h
      · have := fillK_len place l r _ b h
        rw [this]
        have key : ∀ (xs : List (Value × Nat)) (o : Nat) (c : Array Value), (xs.foldl (fun cs (x : Value × Nat) => cs.setIfInBounds (o + x.2) x.1) c).size = c.size := by
          intro xs o
          induction xs with
          | nil => intro c; rfl
          | cons x xs ih => intro c; rw [List.foldl_cons, ih]; simp
        rw [← Array.foldl_toList]
        exact key _ _ _

theorem newRow_run {P : Program} {w : World} (t : TypeId) (c : Array Value) : (newRow t c).run P w = .ok ⟨w.heap.size, 0, none⟩ (w.alloc (.cells c t)) := by
  simp only [newRow, newObj, Sem.run_bind]
  rfl

theorem repC_length (z : List AV) : ∀ n, (repC n z).length = n * z.length
  | 0 => by simp [repC]
  | n + 1 => by simp [repC, repC_length z n, Nat.succ_mul, Nat.add_comm]
theorem repC_ok {k : Nat} {z : List AV} (h : okL k z) : ∀ n, okL k (repC n z)
  | 0 => trivial
  | n + 1 => okL_append h (repC_ok h n)
theorem repC_get (l : List Base) (z : Value) (s : Nat) (hz : z.cells.size = s) : ∀ (n i : Nat), i < n * s → (concL l (repC n (AV.v z).cells))[i]? = z.cells[i % s]?
  | 0, i, h => by omega
  | n + 1, i, h => by
    have hl : (concL l (AV.v z).cells) = z.cells.toList := (conc_cells l (.v z)).symm
    have hs : (concL l (AV.v z).cells).length = s := by rw [hl]; simpa using hz
    simp only [repC, concL_app]
    by_cases hi : i < s
    · rw [List.getElem?_append_left (by omega), hl, Nat.mod_eq_of_lt hi]; simp
    · rw [List.getElem?_append_right (by omega), hs, repC_get l z s hz n (i - s) (by rw [Nat.succ_mul] at h; omega)]
      rw [Nat.mod_eq_sub_mod (by omega : s ≤ i)]

theorem evBuildSlice_sound {C : Cx} {σ : Store} {M : Mo} {t : TypeId} {len : Nat} {ps : List (Nat × AV)} {k : AV → Store → Prop} (h : evBuildSlice C.P σ t len ps k) {l : List Base} {w : World} (hr : Rel C l σ M w) (hp : ∀ p ∈ ps, p.2.ok l.length) :
    ∃ w' x v σ', (Instr.buildSlice t len (ps.map fun p => (p.1, conc l p.2)).toArray).run C.P w = .ok (conc (l ++ x) v) w' ∧ Rel C (l ++ x) σ' M w' ∧ v.ok (l ++ x).length ∧ k v σ' := by
  unfold evBuildSlice at h
  split at h
  case h_2 => exact h.elim
  rename_i e hu
  cases hi : C.P.info? e with
  | none => rw [hi] at h; exact h.elim
  | some i =>
    rw [hi] at h
    simp only at h
    cases hz : i.zero with
    | none => rw [hz] at h; exact h.elim
    | some z =>
      rw [hz] at h
      simp only at h
      split at h
      case h_2 => exact h.elim
      rename_i hb1 hb2
      have hle : len * i.size ≤ 16777216 := Nat.le_of_ble_eq_true hb1
      have hzs := Nat.eq_of_beq_eq_true hb2
      obtain ⟨cs, h1, h2, h⟩ := fillK_sound _ l ps _ h (repC_ok (ok_cells (a := .v z) trivial) len) hp
      replace h := snocK_iff h
      have hcl : (AV.v z).cells.length = i.size := by
        have := congrArg List.length (conc_cells l (.v z))
        rw [concL_length] at this
        rw [← this, ← hzs]
        simp [conc]
      have hzero : ((Array.range (len * i.size)).map (fun j => z.cells[j % z.cells.size]!)) = (concL l (repC len (AV.v z).cells)).toArray := by
        apply Array.ext'
        apply List.ext_getElem?
        intro j
        by_cases hj : j < len * i.size
        · rw [repC_get l z i.size hzs len j hj]
          have hs0 : 0 < i.size := by
            rcases Nat.eq_zero_or_pos i.size with h0 | h0
            · rw [h0] at hj; omega
            · exact h0
          have hm : j % i.size < z.cells.size := by rw [hzs]; exact Nat.mod_lt _ hs0
          simp only [Array.toList_map, Array.toList_range, List.getElem?_map, List.getElem?_range hj, Option.map_some, hzs]
          rw [Array.getElem?_eq_getElem hm, getElem!_pos z.cells _ hm]
        · rw [List.getElem?_eq_none (by simp; omega), List.getElem?_eq_none (by simp [concL_length, repC_length, hcl]; omega)]
      have hlen : cs.length = len * i.size := by
        have h3 := fillK_len _ l ps _ _ h1
        simp only [List.size_toArray, concL_length, repC_length, hcl] at h3
        exact h3
      refine ⟨w.alloc (.cells (concL l cs).toArray e), [some ⟨w.heap.size, 0, none⟩], .ls σ.length 0 len len, _, ?_, ?_, ?_, h⟩
      · unfold Instr.buildSlice
        rw [Sem.run_bind, run_underlying hu, Result.andThen_ok]
        simp only [Sem.run_bind, sizeOf, run_typeInfo_some hi, Result.andThen_ok, Sem.run_pure]
        rw [if_neg (by omega)]
        have hf : ∀ zz : Array Value, zz = z.cells ∨ len * i.size = 0 → Instr.fill (fun n => some (n * i.size, i.size)) ((Array.range (len * i.size)).map (fun j => zz[j % zz.size]!)) (ps.map fun p => (p.1, conc l p.2)).toArray.toList = some (concL l cs).toArray := by
          intro zz hzz
          rw [← h1]
          congr 1
          rw [← hzero]
          rcases hzz with rfl | h0
          · rfl
          · rw [h0]; simp
        have hc : conc (l ++ [some ⟨w.heap.size, 0, none⟩]) (.ls σ.length 0 len len) = .slice (some ⟨w.heap.size, 0, none⟩) len len := by
          simp [conc, ← hr.len, Base.up]
        rw [hc]
        by_cases h0 : len * i.size = 0
        · have := hf #[] (.inr h0)
          rw [if_pos h0]
          simp only [Sem.run_pure, Result.andThen_ok, this, Sem.run_bind, newRow_run]
        · rw [if_neg h0]
          simp only [Sem.run_bind, run_zeroValue_some hi hz, Result.andThen_ok, Sem.run_pure, hf z.cells (.inl rfl), newRow_run]
      · have := hr.new e (concL l cs).toArray (.lit cs) (by simp [Cells.conc]) h2
        simp only [List.size_toArray, concL_length, hlen] at this
        exact this
      · simp [AV.ok, hr.len]

def calleeK (e : Env) (f : Operand) (k : FuncId → List AV → Prop) : Prop :=
  opK e f fun v => match v with
    | .fn g caps => k g caps
    | _ => False

def appK : List AV → List AV → (List AV → Prop) → Prop
  | [], b, K => K b
  | a :: r, b, K => appK r b fun s => K (a :: s)
theorem appK_iff : ∀ {a b : List AV} {K : List AV → Prop}, appK a b K → K (a ++ b)
  | [], _, _, h => h
  | x :: r, _, K, h => appK_iff (a := r) (K := fun s => K (x :: s)) h

def flipK (want : Bool) (f : (Env → Prop) → (Env → Prop) → Prop) (kt kf : Env → Prop) : Prop :=
  match want with
  | true => f kt kf
  | false => f kf kt
/-- Is it wanted? -/
def wantK (all : List Oper) (o : Oper) (e : Env) (kt kf : Env → Prop) : Prop :=
  match o.guard with
  | none => kt e
  | some (j, want) => nthK all j fun oj => match oj.dst with
    | none => False
    | some g => e.getK g fun v => match v with
      | .v (.tuple _) => kf e
      | v => flipK want (boolV g e v) kt kf

/-- A bool that is a constant is known. -/
def opB (e : Env) : Operand → (AV → Prop) → Prop
  | .const (.bool b), K => K (.kb b)
  | x, K => opK e x K
theorem opB_sound {C : Cx} {e : Env} {x : Operand} {K : AV → Prop} (h : opB e x K) {l : List Base} {a : Act} (he : EnvR C l e a) :
    ∃ v, a.eval x = conc l v ∧ v.ok l.length ∧ K v := by
  unfold opB at h
  split at h
  · rename_i b
    exact ⟨.kb b, rfl, trivial, h⟩
  · exact opK_sound h he

/-- A call, a store, a choice, or what yields a value. -/
def evOne (C : Cx) (o : Oper) (e : Env) (σ : Store) (M : Mo) (k : Env → Store → Mo → Prop) : Prop :=
  match o.op with
  | .call ⟨.value f, args, _⟩ => calleeK e f fun g caps => opsK e args.toList fun vs => appK vs caps fun vs => CallK C g vs σ M fun v σ' M' => putK C.N o.dst v e fun e' => k e' σ' M'
  | .store t p x => (match o.dst with
    | some _ => False
    | none => opK e p fun pv => opK e x fun xv => evStore C.P σ t pv xv fun σ' => k e σ' M)
  | .makeSlice t n c => opK e n fun nv => opK e c fun cv => MakeK C t nv cv σ M fun v σ' M' => putK C.N o.dst v e fun e' => k e' σ' M'
  | .buildSlice t n ps => partsK e ps.toList fun vs => evBuildSlice C.P σ t n vs fun v σ' => putK C.N o.dst v e fun e' => k e' σ' M
  | .call ⟨.builtin .append, args, tys⟩ => opsK e args.toList fun vs => (match vs with
    | [s, x] => AppendK C tys.toList s x σ M fun v σ' M' => putK C.N o.dst v e fun e' => k e' σ' M'
    | _ => False)
  | .call ⟨.builtin .copy, args, tys⟩ => opsK e args.toList fun vs => (match vs with
    | [s, x] => CopyK C tys.toList s x σ M fun v σ' M' => putK C.N o.dst v e fun e' => k e' σ' M'
    | _ => False)
  | .pick c x y => boolK e c (fun e => opB e x fun v => putK C.N o.dst v e fun e' => k e' σ M) (fun e => opB e y fun v => putK C.N o.dst v e fun e' => k e' σ M)
  | .convert s d x => (match convB C.P s d with
    | true => opK e x fun v => ConvK C s d v σ M fun v σ' M' => putK C.N o.dst v e fun e' => k e' σ' M'
    | false => evVal C.P e σ M (.convert s d x) fun v σ' M' => putK C.N o.dst v e fun e' => k e' σ' M')
  | op => evVal C.P e σ M op fun v σ' M' => putK C.N o.dst v e fun e' => k e' σ' M'

def evOps (C : Cx) (all : List Oper) : List Oper → Env → Store → Mo → (Env → Store → Mo → Prop) → Prop
  | [], e, σ, M, k => k e σ M
  | o :: r, e, σ, M, k => wantK all o e (fun e => evOne C o e σ M fun e σ M => evOps C all r e σ M k) (fun e => putK C.N o.dst (.v undef) e fun e' => evOps C all r e' σ M k)

/-- A condition on frame and world, out of one on what they tell. -/
def Meets (C : Cx) (k : Env → Store → Mo → Prop) (a : Act) (w : World) : Prop := ∃ l e σ M, EnvR C l e a ∧ Rel C l σ M w ∧ k e σ M

theorem wantK_sound {C : Cx} {ops : Array Oper} {o : Oper} {e : Env} {kt kf : Env → Prop} (h : wantK ops.toList o e kt kf) {l : List Base} {a : Act} (he : EnvR C l e a) :
    ∃ e', EnvR C l e' a ∧ Same e e' ∧ (if Region.wanted o (yielded ops a.tmps) then kt e' else kf e') := by
  unfold wantK at h
  unfold Region.wanted
  split at h
  · rename_i hg
    rw [hg]
    exact ⟨e, he, .refl e, h⟩
  · rename_i j want hg
    rw [hg]
    obtain ⟨oj, hoj, h⟩ := nthK_iff h
    split at h
    · exact h.elim
    · rename_i g hd
      obtain ⟨v, hv, h⟩ := Env.getK_iff h
      have hgv := he.get g v hv
      have hy : yielded ops a.tmps j = match conc l v with | .bool b => some b | _ => none := by
        unfold yielded
        have : ops[j]? = some oj := by simpa using hoj
        simp only [this, Option.bind_some, hd, hgv.1]
        cases conc l v <;> rfl
      have key : ∀ (b : Bool) (e' : Env), conc l v = .bool b → EnvR C l e' a → Same e e' → (∀ (x y : Env → Prop), boolV g e v x y → (if b then x e' else y e')) →
          flipK want (boolV g e v) kt kf → ∃ e', EnvR C l e' a ∧ Same e e' ∧ (if (yielded ops a.tmps j == some want) = true then kt e' else kf e') := by
        intro b e' hb he' hs hxy hh
        refine ⟨e', he', hs, ?_⟩
        rw [hy, hb]
        cases want <;> cases b <;> simpa using hxy _ _ hh
      cases v with
      | kb b =>
        refine key b e rfl he (.refl e) (fun x y hh => ?_) h
        cases b <;> simpa [boolV] using hh
      | v x =>
        cases x with
        | bool b =>
          refine key b ((g, .kb b) :: e) rfl (he.drop g _ (.kb b) hv rfl trivial) (.kb hv b) (fun x y hh => ?_) h
          simp only [boolV] at hh
          cases b
          · simpa using hh.f rfl
          · simpa using hh.t rfl
        | tuple cs =>
          refine ⟨e, he, .refl e, ?_⟩
          show if (yielded ops a.tmps j == some want) = true then kt e else kf e
          rw [hy]
          simpa [conc] using h
        | _ => cases want <;> exact h.elim
      | _ => cases want <;> exact h.elim

theorem Oper.wp_of_runV {C : Cx} {e : Env} {σ : Store} {M : Mo} {o : Oper} {kv : VK} (h : RunV C e σ M o kv) {l : List Base} {a : Act} {w : World} (he : EnvR C l e a) (hr : Rel C l σ M w)
    {Q : Exit → Act → World → Prop} {K : Act → World → Prop} (hK : ∀ x v σ' M' w', Rel C (l ++ x) σ' M' w' → v.ok (l ++ x).length → kv v σ' M' → K (a.put o.dst (conc (l ++ x) v)) w') : o.wp C.P a w K Q := by
  obtain ⟨w', x, v, σ', M', h1, _, h2, h3, h4⟩ := h l a w he hr
  unfold Oper.wp
  rw [h1]
  exact hK x v σ' M' w' h2 h3 h4

theorem evOne_sound {C : Cx} {o : Oper} {e : Env} {σ : Store} {M : Mo} {k : Env → Store → Mo → Prop} (h : evOne C o e σ M k) {l : List Base} {a : Act} {w : World} (he : EnvR C l e a) (hr : Rel C l σ M w)
    {Q : Exit → Act → World → Prop} : o.wp C.P a w (Meets C k) Q := by
  unfold evOne at h
  split at h
  · rename_i f args tys hop
    unfold calleeK at h
    obtain ⟨fv, h1, h2, h⟩ := opK_sound h he
    split at h
    case h_2 => exact h.elim
    rename_i g caps
    obtain ⟨vs, h3, h4, h⟩ := opsK_sound he h
    replace h := appK_iff h
    have hrun : (execOp a.eval o).run C.P w = .ok (.enter g (concL l (vs ++ caps)).toArray) w := by
      unfold execOp
      rw [hop]
      have ha : args.map a.eval = (concL l vs).toArray := Array.ext' (by simpa using h3)
      simp only [resolve, ha, h1, conc, Deferred.ofValue, Sem.run_bind, Sem.run_pure, Result.andThen_ok, invoke]
      rw [run_callFunc h.bod]
      congr 2
      apply Array.ext'
      simp [concL_app]
    unfold Oper.wp
    rw [hrun]
    simp only [Oper.upon]
    refine (h.run l w hr (okL_append h4 h2)).mono fun en w' hen => ?_
    cases en with
    | returned v =>
      obtain ⟨x, av, σ', M', e1, e2, e3, e4⟩ := hen
      subst e1
      obtain ⟨e', e5, e6⟩ := putK_sound e4 he.ext e2
      exact ⟨_, e', σ', M', e5, e3, e6⟩
    | panicked _ => exact hen.elim
    | outgrown => exact hen.elim
  · rename_i t p x hop
    split at h
    · exact h.elim
    · rename_i hd
      obtain ⟨pv, h1, h2, h⟩ := opK_sound h he
      obtain ⟨xv, h3, h4, h⟩ := opK_sound h he
      obtain ⟨σ', w', _, _, _, _, _, _, _, h5, h6, h⟩ := evStore_sound h hr h4
      have hrun : (execOp a.eval o).run C.P w = .ok .skip w' := by
        unfold execOp
        rw [hop]
        simp only [h1, h3, Sem.run_bind, h5, Result.andThen_ok]
        rfl
      unfold Oper.wp
      rw [hrun]
      simp only [Oper.upon, hd, Act.put]
      exact ⟨l, e, σ', M, he, h6, h⟩
  · rename_i t n c hop
    obtain ⟨nv, h1, h2, h⟩ := opK_sound h he
    obtain ⟨cv, h3, h4, h⟩ := opK_sound h he
    obtain ⟨w', x, v, σ', M', h5, h6, h7, h⟩ := h.out l w hr
    have hrun : (execOp a.eval o).run C.P w = .ok (.value (conc (l ++ x) v)) w' := by
      unfold execOp
      rw [hop]
      simp only [h1, h3]
      exact valOk h5
    obtain ⟨e', h8, h9⟩ := putK_sound h he.ext h7
    unfold Oper.wp
    rw [hrun]
    exact ⟨_, e', σ', M', h8, h6, h9⟩
  · rename_i t n ps hop
    obtain ⟨vs, h1, h2, h⟩ := partsK_sound he h
    obtain ⟨w', x, v, σ', h5, h6, h7, h⟩ := evBuildSlice_sound h hr h2
    have hrun : (execOp a.eval o).run C.P w = .ok (.value (conc (l ++ x) v)) w' := by
      unfold execOp
      rw [hop]
      refine valOk ?_
      rw [← h5]
      congr 2
      apply Array.ext'
      simpa using h1
    obtain ⟨e', h8, h9⟩ := putK_sound h he.ext h7
    unfold Oper.wp
    rw [hrun]
    exact ⟨_, e', σ', M, h8, h6, h9⟩
  · rename_i args tys hop
    obtain ⟨vs, h1, h2, h⟩ := opsK_sound he h
    split at h
    case h_2 => exact h.elim
    rename_i s y
    obtain ⟨w', x, v, σ', M', h5, h6, h7, h⟩ := h.out l w o.type hr h2.1 h2.2.1
    have ha : args.map a.eval = #[conc l s, conc l y] := Array.ext' (by simpa [concL] using h1)
    have hrun : (execOp a.eval o).run C.P w = .ok (.value (conc (l ++ x) v)) w' := by
      unfold execOp
      rw [hop]
      simp only [resolve, ha, Sem.run_bind, Sem.run_pure, Result.andThen_ok, invoke, builtin]
      rw [show (Builtin.append_ tys o.type #[conc l s, conc l y]).run C.P w = _ from h5]
      rfl
    obtain ⟨e', h8, h9⟩ := putK_sound h he.ext h7
    unfold Oper.wp
    rw [hrun]
    exact ⟨_, e', σ', M', h8, h6, h9⟩
  · rename_i args tys hop
    obtain ⟨vs, h1, h2, h⟩ := opsK_sound he h
    split at h
    case h_2 => exact h.elim
    rename_i s y
    obtain ⟨w', x, v, σ', M', h5, h6, h7, h⟩ := h.out l w o.type hr h2.1 h2.2.1
    have ha : args.map a.eval = #[conc l s, conc l y] := Array.ext' (by simpa [concL] using h1)
    have hrun : (execOp a.eval o).run C.P w = .ok (.value (conc (l ++ x) v)) w' := by
      unfold execOp
      rw [hop]
      simp only [resolve, ha, Sem.run_bind, Sem.run_pure, Result.andThen_ok, invoke, builtin]
      rw [show (Builtin.copy_ tys o.type #[conc l s, conc l y]).run C.P w = _ from h5]
      rfl
    obtain ⟨e', h8, h9⟩ := putK_sound h he.ext h7
    unfold Oper.wp
    rw [hrun]
    exact ⟨_, e', σ', M', h8, h6, h9⟩
  · rename_i c x y hop
    obtain ⟨b, e', h1, h2, _, h⟩ := boolK_sound h he
    have hrun : (execOp a.eval o).run C.P w = .ok (.value (if b then a.eval x else a.eval y)) w := by
      unfold execOp
      rw [hop]
      simp only [h1, asBool, Sem.run_bind, Sem.run_pure, Result.andThen_ok]
    unfold Oper.wp
    rw [hrun]
    simp only [Oper.upon]
    cases b with
    | true =>
      obtain ⟨v, h3, h4, h⟩ := opB_sound h h2
      obtain ⟨e'', h5, h6⟩ := putK_sound h h2 h4
      simp only [if_true, h3]
      exact ⟨l, e'', σ, M, h5, hr, h6⟩
    | false =>
      obtain ⟨v, h3, h4, h⟩ := opB_sound h h2
      obtain ⟨e'', h5, h6⟩ := putK_sound h h2 h4
      simp only [Bool.false_eq_true, if_false, h3]
      exact ⟨l, e'', σ, M, h5, hr, h6⟩
  · rename_i s d x hop
    split at h
    · obtain ⟨xv, h1, h2, h⟩ := opK_sound h he
      obtain ⟨w', y, v, σ', M', h5, h6, h7, h⟩ := h.out l w hr h2
      have hrun : (execOp a.eval o).run C.P w = .ok (.value (conc (l ++ y) v)) w' := by
        unfold execOp
        rw [hop]
        simp only [h1]
        exact valOk h5
      obtain ⟨e', h8, h9⟩ := putK_sound h he.ext h7
      unfold Oper.wp
      rw [hrun]
      exact ⟨_, e', σ', M', h8, h6, h9⟩
    · rw [← hop] at h
      refine Oper.wp_of_runV (evVal_sound h) he hr fun x v σ' M' w' h1 h2 h3 => ?_
      obtain ⟨e', h4, h5⟩ := putK_sound h3 he.ext h2
      exact ⟨_, e', σ', M', h4, h1, h5⟩
  · refine Oper.wp_of_runV (evVal_sound h) he hr fun x v σ' M' w' h1 h2 h3 => ?_
    obtain ⟨e', h4, h5⟩ := putK_sound h3 he.ext h2
    exact ⟨_, e', σ', M', h4, h1, h5⟩

theorem evOps_sound {C : Cx} {ops : Array Oper} {Q : Exit → Act → World → Prop} {k : Env → Store → Mo → Prop} (hQ : ∀ a w, Meets C k a w → Q .normal a w) :
    ∀ (r : List Oper) (n : Nat), ops.toList.drop n = r → ∀ {e σ M l a w}, evOps C ops.toList r e σ M k → EnvR C l e a → Rel C l σ M w → wpOps C.P ops Q (List.range' n r.length) a w
  | [], n, _, e, σ, M, l, a, w, h, he, hr => by
    simp only [List.length_nil, List.range'_zero, wpOps]
    exact hQ a w ⟨l, e, σ, M, he, hr, h⟩
  | o :: r, n, hn, e, σ, M, l, a, w, h, he, hr => by
    unfold evOps at h
    have ho : ops[n]? = some o := by
      have : (ops.toList.drop n)[0]? = some o := by rw [hn]; rfl
      simpa using this
    have hn' : ops.toList.drop (n + 1) = r := by
      rw [← List.drop_drop, hn]; rfl
    obtain ⟨e', he', _, h⟩ := wantK_sound h he
    simp only [List.length_cons, List.range'_succ, wpOps, ho]
    by_cases hw : Region.wanted o (yielded ops a.tmps) = true
    · rw [if_pos hw] at h
      rw [if_pos hw]
      refine .inl (Oper.wp_mono ?_ (evOne_sound h he' hr))
      rintro a' w' ⟨l', e'', σ', M', g1, g2, g3⟩
      exact evOps_sound hQ r (n + 1) hn' g3 g1 g2
    · rw [if_neg hw] at h
      rw [if_neg hw]
      obtain ⟨e'', h1, h2⟩ := putK_sound h he' (l := l) trivial
      exact evOps_sound hQ r (n + 1) hn' h2 h1 hr

end Go.Gw

namespace Go.Gw
open Go Go.RowKit

/-! ### Code -/

abbrev AK := Exit → Env → Store → Mo → Prop
def Sound (C : Cx) (K : AK) (Q : Exit → Act → World → Prop) : Prop := ∀ ex e σ M l a w, K ex e σ M → EnvR C l e a → Rel C l σ M w → Q ex a w
/-- The code comes to K, whatever that means. -/
structure Sem' (C : Cx) (c : Code) (K : AK) (e : Env) (σ : Store) (M : Mo) : Prop where
  out : ∀ Q, Sound C K Q → ∀ l a w, EnvR C l e a → Rel C l σ M w → c.wp C.P Q a w
/-- A loop; a region whose order is drawn; what is not gone through. -/
structure LoopK (C : Cx) (c : Code) (K : AK) (e : Env) (σ : Store) (M : Mo) : Prop where
  out : Sem' C (.loop c) K e σ M
structure DrawK (C : Cx) (ops : Array Oper) (K : AK) (e : Env) (σ : Store) (M : Mo) : Prop where
  out : ∀ id, Sem' C (.region id ops true) K e σ M
structure ElseK (C : Cx) (c : Code) (K : AK) (e : Env) (σ : Store) (M : Mo) : Prop where
  out : Sem' C c K e σ M

def seqK (K' : Env → Store → Mo → Prop) (K : AK) : AK
  | .normal, e, σ, M => K' e σ M
  | ex, e, σ, M => K ex e σ M
def blkK (id : Nat) (K : AK) : AK
  | .exit i, e, σ, M => (match Nat.beq i id with
    | true => K .normal e σ M
    | false => K (.exit i) e σ M)
  | ex, e, σ, M => K ex e σ M

def evC (C : Cx) : Code → AK → Env → Store → Mo → Prop
  | .skip, K, e, σ, M => K .normal e σ M
  | .seq a b, K, e, σ, M => evC C a (seqK (fun e σ M => evC C b K e σ M) K) e σ M
  | .region _ ops false, K, e, σ, M => evOps C ops.toList ops.toList e σ M fun e σ M => K .normal e σ M
  | .region _ ops true, K, e, σ, M => DrawK C ops K e σ M
  | .cond c a b, K, e, σ, M => boolK e c (fun e => evC C a K e σ M) (fun e => evC C b K e σ M)
  | .block id c, K, e, σ, M => evC C c (blkK id K) e σ M
  | .exit id, K, e, σ, M => K (.exit id) e σ M
  | .ret, K, e, σ, M => K .ret e σ M
  | .loop c, K, e, σ, M => LoopK C c K e σ M
  | c, K, e, σ, M => ElseK C c K e σ M

theorem seqK_sound {C : Cx} {K' : Env → Store → Mo → Prop} {K : AK} {Q : Exit → Act → World → Prop} {N : Act → World → Prop} (h : Sound C K Q) (hn : ∀ e σ M l a w, K' e σ M → EnvR C l e a → Rel C l σ M w → N a w) :
    Sound C (seqK K' K) (Exit.then N Q) := by
  intro ex e σ M l a w hk he hr
  cases ex <;> simp only [seqK, Exit.then] at * <;> first | exact hn e σ M l a w hk he hr | exact h _ e σ M l a w hk he hr
theorem blkK_sound {C : Cx} {id : Nat} {K : AK} {Q : Exit → Act → World → Prop} (h : Sound C K Q) : Sound C (blkK id K) (Exit.inBlock id Q) := by
  intro ex e σ M l a w hk he hr
  cases ex with
  | exit i =>
    simp only [blkK, Exit.inBlock] at *
    cases hb : Nat.beq i id with
    | true =>
      rw [hb] at hk
      rw [if_pos (Nat.eq_of_beq_eq_true hb)]
      exact h _ e σ M l a w hk he hr
    | false =>
      rw [hb] at hk
      rw [if_neg (fun e => by subst e; simp at hb)]
      exact h _ e σ M l a w hk he hr
  | normal => exact h _ e σ M l a w hk he hr
  | goto _ => exact h _ e σ M l a w hk he hr
  | ret => exact h _ e σ M l a w hk he hr
  | panic _ => exact h _ e σ M l a w hk he hr
  | outgrown => exact h _ e σ M l a w hk he hr

theorem evC_sound {C : Cx} : ∀ (c : Code) {K : AK} {e : Env} {σ : Store} {M : Mo}, evC C c K e σ M → Sem' C c K e σ M
  | .skip, K, e, σ, M, h => ⟨fun Q hQ l a w he hr => wp_skip (hQ _ _ _ _ l a w h he hr)⟩
  | .seq x y, K, e, σ, M, h => ⟨fun Q hQ l a w he hr => wp_seq ((evC_sound x h).out _ (seqK_sound hQ fun e σ M l a w hk he hr => (evC_sound y hk).out Q hQ l a w he hr) l a w he hr)⟩
  | .region id ops false, K, e, σ, M, h => ⟨fun Q hQ l a w he hr => wp_region (by
      have := evOps_sound (C := C) (ops := ops) (Q := Q) (fun a w ⟨l, e, σ, M, h1, h2, h3⟩ => hQ _ _ _ _ l a w h3 h1 h2) ops.toList 0 rfl h he hr
      rw [← List.range_eq_range'] at this
      simpa using this)⟩
  | .region id ops true, K, e, σ, M, h => h.out id
  | .cond c x y, K, e, σ, M, h => ⟨fun Q hQ l a w he hr => by
      obtain ⟨b, e', h1, h2, _, h3⟩ := boolK_sound h he
      refine wp_cond h1 ?_
      cases b with
      | true => exact (evC_sound x h3).out Q hQ l a w h2 hr
      | false => exact (evC_sound y h3).out Q hQ l a w h2 hr⟩
  | .block id c, K, e, σ, M, h => ⟨fun Q hQ l a w he hr => wp_block ((evC_sound c h).out _ (blkK_sound hQ) l a w he hr)⟩
  | .exit id, K, e, σ, M, h => ⟨fun Q hQ l a w he hr => wp_exit (hQ _ _ _ _ l a w h he hr)⟩
  | .ret, K, e, σ, M, h => ⟨fun Q hQ l a w he hr => wp_ret (hQ _ _ _ _ l a w h he hr)⟩
  | .loop c, K, e, σ, M, h => h.out
  | .rangeFunc _ _ _ _, K, e, σ, M, h => h.out
  | .scope _, K, e, σ, M, h => h.out
  | .label _, K, e, σ, M, h => h.out
  | .goto _, K, e, σ, M, h => h.out
  | .refuse _, K, e, σ, M, h => h.out

/-! ### What is told turned into what is told otherwise -/

/-- Whoever fits the first, fits the second. -/
def Ref (C : Cx) (e : Env) (σ : Store) (M : Mo) (e' : Env) (σ' : Store) (M' : Mo) : Prop :=
  ∀ l a w, EnvR C l e a → Rel C l σ M w → ∃ l', EnvR C l' e' a ∧ Rel C l' σ' M' w
theorem Ref.refl {C : Cx} {e : Env} {σ : Store} {M : Mo} : Ref C e σ M e σ M := fun l _ _ he hr => ⟨l, he, hr⟩
theorem Ref.trans {C : Cx} {e e' e'' : Env} {σ σ' σ'' : Store} {M M' M'' : Mo} (h : Ref C e σ M e' σ' M') (k : Ref C e' σ' M' e'' σ'' M'') : Ref C e σ M e'' σ'' M'' :=
  fun l a w he hr => let ⟨l', he', hr'⟩ := h l a w he hr; k l' a w he' hr'

def nrm : AV → AV
  | .kb b => .v (.bool b)
  | a => a
theorem nrm_conc {l : List Base} {a b : AV} (h : nrm a = nrm b) : conc l a = conc l b := by
  have : ∀ a, conc l (nrm a) = conc l a := fun a => by cases a <;> rfl
  rw [← this a, h, this b]
theorem nrm_ok {n : Nat} {a b : AV} (h : nrm a = nrm b) (ha : a.ok n) : b.ok n := by
  have : ∀ a : AV, (nrm a).ok n ↔ a.ok n := fun a => by cases a <;> rfl
  rw [← this b, ← h, this a]; exact ha

/-- What is told of the slots is told by the other one. -/
def SubE : Env → Env → Prop
  | [], _ => True
  | (t, v) :: r, e => (e.get t).map nrm = some (nrm v) ∧ SubE r e
theorem SubE.get {e : Env} : ∀ {E : Env}, SubE E e → ∀ t v, E.get t = some v → ∃ u, e.get t = some u ∧ nrm u = nrm v
  | [], _, t, v, h => by cases h
  | (s, x) :: r, hs, t, v, h => by
    obtain ⟨h1, h2⟩ := hs
    unfold Env.get at h
    cases hb : Nat.beq s t with
    | true =>
      rw [hb] at h
      have : s = t := Nat.eq_of_beq_eq_true hb
      subst this
      simp at h; subst h
      cases hg : e.get s with
      | none => rw [hg] at h1; cases h1
      | some u => rw [hg] at h1; simp at h1; exact ⟨u, rfl, h1⟩
    | false => rw [hb] at h; exact SubE.get h2 t v h
theorem Ref.sub {C : Cx} {e E : Env} {σ : Store} {M : Mo} (h : SubE E e) : Ref C e σ M E σ M := fun l a w he hr =>
  ⟨l, ⟨he.size, he.nod, fun t v hv => by
    obtain ⟨u, h1, h2⟩ := h.get t v hv
    obtain ⟨h3, h4⟩ := he.get t u h1
    exact ⟨by rw [h3, nrm_conc h2], nrm_ok h2 h4⟩⟩, hr⟩

/-- A later moment. -/
theorem Rel.later {C : Cx} {l : List Base} {σ : Store} {M M' : Mo} {w : World} (h : Rel C l σ M w) (hm : Fr M'.L M'.w w) (hs : ∀ b ∈ C.L0, b ∈ M'.L)
    (ho : ∀ (i : Nat) (b : Addr) (o : Ob), l[i]? = some (some b) → σ[i]? = some o → o.own.isSome = true → b.block ∈ M'.L ∨ M'.w.heap.size ≤ b.block) : Rel C l σ M' w :=
  ⟨h.len, h.bd, h.ent, hm, hs, h.ob, fun i b o hb ho' hown => ⟨ho i b o hb ho' hown, (h.own i b o hb ho' hown).2⟩, h.out, h.dis, h.pin⟩

theorem Rel.le2 {C : Cx} {l : List Base} {σ : Store} {M : Mo} {w : World} (h : Rel C l σ M w) : M.Le ⟨owns l σ ++ C.L0, w⟩ :=
  ⟨h.fr.size, fun b hb hn => ⟨h.fr.block b hb hn, fun hx => by
    rcases List.mem_append.1 hx with hx | hx
    · obtain ⟨i, a, o, h1, h2, h3, h4⟩ := mem_owns.1 hx
      rcases (h.own i a o h1 h2 h3).1 with h5 | h5
      · exact hn (h4 ▸ h5)
      · omega
    · exact hn (h.sub b hx)⟩⟩

theorem Fr.le {w w' : World} (h : Fr [] w w') (L : List Nat) : Mo.Le ⟨L, w⟩ ⟨L, w'⟩ := ⟨h.size, fun b hb hn => ⟨h.block b hb (by simp), hn⟩⟩

/-! ### A loop -/

theorem wp_loop_by {P : Program} {c : Code} {Q : Exit → Act → World → Prop} (I : Nat → Act → World → Prop)
    (round : ∀ n a w, I n a w → c.wp P (Exit.then (fun a' w' => ∃ m, m < n ∧ I m a' w') Q) a w) {n : Nat} {a : Act} {w : World} (h0 : I n a w) : (Code.loop c).wp P Q a w := by
  intro b k cs
  have key : ∀ n a w, I n a w → ∃ e a' w', Q e a' w' ∧ Arrives P (lone (b.at a (.code c :: .inLoop c :: k)) cs w) b k cs e a' w' := by
    intro n
    induction n using Nat.strongRecOn with
    | _ n ih =>
      intro a w hI
      obtain ⟨e, a₁, w₁, hq, harr⟩ := round n a w hI b (.inLoop c :: k) cs
      cases e with
      | normal =>
        obtain ⟨m, hlt, hI₁⟩ := hq
        obtain ⟨e₂, a₂, w₂, hq₂, harr₂⟩ := ih m hlt a₁ w₁ hI₁
        exact ⟨e₂, a₂, w₂, hq₂, .of_steps (Steps.trans harr (.one step_inLoop)) harr₂⟩
      | exit id => exact ⟨_, a₁, w₁, hq, .pass (x := .inLoop c) rfl (fun _ _ => .inl (by simp)) harr⟩
      | goto l => exact ⟨_, a₁, w₁, hq, .pass (x := .inLoop c) rfl (fun _ _ => .inl (by simp)) harr⟩
      | ret => exact ⟨_, a₁, w₁, hq, .pass (x := .inLoop c) rfl (fun _ _ => .inl (by simp)) harr⟩
      | panic ch => exact ⟨_, a₁, w₁, hq, .pass (x := .inLoop c) rfl (fun _ _ => .inl (by simp)) harr⟩
      | outgrown => exact ⟨_, a₁, w₁, hq, .pass (x := .inLoop c) rfl (fun _ _ => .inl (by simp)) harr⟩
  obtain ⟨e, a', w', hq, harr⟩ := key n a w h0
  exact ⟨e, a', w', hq, .of_steps (.one step_loop) harr⟩

/-- The relation at the head: frame E i, store S i, and I i of a moment; each round lowers μ. -/
theorem loop_ {C : Cx} {c : Code} {K : AK} {e : Env} {σ : Store} {M : Mo} {ι : Type} (E : ι → Env) (S : ι → Store) (I : ι → Mo → Prop) (μ : ι → Nat) (i0 : ι) {M0 : Mo} (h0 : Ref C e σ M (E i0) (S i0) M0) (hI : I i0 M0)
    (round : ∀ i M, I i M → evC C c (seqK (fun e' σ' M' => ∃ j M'', Ref C e' σ' M' (E j) (S j) M'' ∧ I j M'' ∧ μ j < μ i) K) (E i) (S i) M) : LoopK C c K e σ M :=
  ⟨⟨fun Q hQ l a w he hr => by
    obtain ⟨l', he', hr'⟩ := h0 l a w he hr
    refine wp_loop_by (fun n a w => ∃ i M l, I i M ∧ EnvR C l (E i) a ∧ Rel C l (S i) M w ∧ μ i = n) ?_ ⟨i0, M0, l', hI, he', hr', rfl⟩
    rintro n a w ⟨i, M, l, g1, g2, g3, rfl⟩
    refine (evC_sound c (round i M g1)).out _ (seqK_sound hQ ?_) l a w g2 g3
    rintro e' σ' M' l a w ⟨j, M'', hR, hI', hlt⟩ he hr
    obtain ⟨l', he', hr'⟩ := hR l a w he hr
    exact ⟨μ j, hlt, j, M'', l', hI', he', hr', rfl⟩⟩⟩

/-! ### The end, and the beginning -/

/-- What a walk must come to. -/
structure FinK (C : Cx) (R : Ending → World → Prop) (v : AV) (σ : Store) (M : Mo) : Prop where
  out : ∀ l w, Rel C l σ M w → v.ok l.length → R (.returned (conc l v)) w

def resK (P : Program) (e : Env) (σ : Store) (M : Mo) : List ResultVar → (List AV → Prop) → Prop
  | [], k => k []
  | .tmp t :: r, k => e.getK t fun v => resK P e σ M r fun vs => k (v :: vs)
  | .cell t ty :: r, k => e.getK t fun p => (match p with
    | .lp id off => baseK σ id (match P.underlying ty with
      | none => False
      | some _ => evLoad P σ M ty (.lp id off) fun v => resK P e σ M r fun vs => k (v :: vs))
    | _ => False)

def resSem (a : Act) : ResultVar → Sem Value
  | .tmp t => pure (a.tmps.getD t undef)
  | .cell x t => do loadVar t (← asAddr (a.tmps.getD x undef))

theorem resK_sound {C : Cx} {e : Env} {σ : Store} {M : Mo} {l : List Base} {a : Act} {w : World} (he : EnvR C l e a) (hr : Rel C l σ M w) : ∀ {rs : List ResultVar} {k : List AV → Prop}, resK C.P e σ M rs k →
    ∃ vs, (rs.mapM (resSem a)).run C.P w = .ok (concL l vs) w ∧ okL l.length vs ∧ vs.length = rs.length ∧ k vs
  | [], k, h => ⟨[], rfl, trivial, rfl, h⟩
  | .tmp t :: r, k, h => by
    unfold resK at h
    obtain ⟨v, hv, h⟩ := Env.getK_iff h
    obtain ⟨h1, h2⟩ := he.get t v hv
    obtain ⟨vs, h3, h4, h5, h6⟩ := resK_sound he hr h
    refine ⟨v :: vs, ?_, ⟨h2, h4⟩, by simp [h5], h6⟩
    have e1 : a.tmps.getD t undef = conc l v := by simp [Array.getD_eq_getD_getElem?, h1]
    rw [List.mapM_cons]
    simp only [resSem, Sem.run_bind, Sem.run_pure, Result.andThen_ok, h3, e1]
    rfl
  | .cell t ty :: r, k, h => by
    unfold resK at h
    obtain ⟨p, hp, h⟩ := Env.getK_iff h
    split at h
    case h_2 => exact h.elim
    rename_i id off
    replace h := baseK_iff hr h
    obtain ⟨⟨ad, hb, _⟩, h⟩ := h
    obtain ⟨h1, h2⟩ := he.get t _ hp
    split at h
    · exact h.elim
    · rename_i hu
      obtain ⟨v, h7, h8, h⟩ := evLoad_sound (by rw [hu]; rfl) h ⟨w, hr⟩
      replace h7 := h7 w hr
      obtain ⟨vs, h3, h4, h5, h6⟩ := resK_sound he hr h
      refine ⟨v :: vs, ?_, ⟨h8, h4⟩, by simp [h5], h6⟩
      have e1 : a.tmps.getD t undef = conc l (.lp id off) := by simp [Array.getD_eq_getD_getElem?, h1]
      rw [List.mapM_cons]
      simp only [conc, hb, Base.up, Option.map_some, Instr.loadAt, Instr.sureAddr, Sem.run_bind, Sem.run_pure, Result.andThen_ok] at h7
      have e2 : (resSem a (.cell t ty)).run C.P w = .ok (conc l v) w := by
        simp only [resSem, e1, conc, hb, Base.up, Option.map_some, asAddr, Sem.run_bind, Sem.run_pure, Result.andThen_ok, h7]
      rw [Sem.run_bind, e2, Result.andThen_ok, Sem.run_bind, h3]
      rfl

def oneK : List AV → (AV → Prop) → Prop
  | [v], k => k v
  | vs, k => k (.tup vs)

/-- Where a body ends. -/
def retK (C : Cx) (rs : List ResultVar) (R : Ending → World → Prop) : AK
  | .normal, e, σ, M => resK C.P e σ M rs fun vs => oneK vs fun v => FinK C R v σ M
  | .ret, e, σ, M => resK C.P e σ M rs fun vs => oneK vs fun v => FinK C R v σ M
  | _, _, _, _ => False

theorem retK_sound {C : Cx} {fn : Func} {R : Ending → World → Prop} : Sound C (retK C fn.results.toList R) (bodyPost C.P fn R) := by
  intro ex e σ M l a w hk he hr
  have key : (resK C.P e σ M fn.results.toList fun vs => oneK vs fun v => FinK C R v σ M) → a.defers = [] ∧ ∃ v, (results fn a.tmps).run C.P w = .ok v w ∧ R (.returned v) w := by
    intro h
    obtain ⟨vs, h1, h2, h3, h⟩ := resK_sound he hr h
    refine ⟨he.nod, ?_⟩
    have h4 : (results fn a.tmps).run C.P w = .ok (if h : (concL l vs).toArray.size = 1 then (concL l vs).toArray[0] else .tuple (concL l vs).toArray) w := by
      unfold results
      have e0 : (fun (x : ResultVar) => (match x with | .tmp t => pure (a.tmps.getD t undef) | .cell x t => do loadVar t (← asAddr (a.tmps.getD x undef)) : Sem Value)) = resSem a := by
        funext x
        cases x <;> rfl
      rw [Sem.run_bind, Array.mapM_eq_mapM_toList, Sem.run_map]
      erw [e0, h1]
      rfl
    rw [h4]
    match vs, h, h2 with
    | [v], h, h2 => exact ⟨_, rfl, by simpa [concL] using h.out l w hr h2.1⟩
    | [], h, h2 => exact ⟨_, rfl, h.out l w hr h2⟩
    | v :: u :: r, h, h2 =>
      refine ⟨_, rfl, ?_⟩
      rw [dif_neg (by simp [concL])]
      exact h.out l w hr h2
  cases ex <;> simp only [retK, bodyPost] at * <;> first | exact hk.elim | exact key hk

def argsE : Nat → List AV → Env
  | _, [] => []
  | n, v :: r => (n, v) :: argsE (n + 1) r
theorem argsE_get (n : Nat) : ∀ (vs : List AV) (m t : Nat) (v : AV), Env.get (argsE m vs) t = some v → m ≤ t ∧ vs[t - m]? = some v
  | [], m, t, v, h => by cases h
  | x :: r, m, t, v, h => by
    unfold argsE Env.get at h
    cases hb : Nat.beq m t with
    | true =>
      rw [hb] at h
      have : m = t := Nat.eq_of_beq_eq_true hb
      subst this
      simp at h; subst h
      exact ⟨Nat.le_refl _, by simp⟩
    | false =>
      rw [hb] at h
      obtain ⟨h1, h2⟩ := argsE_get n r (m + 1) t v h
      refine ⟨by omega, ?_⟩
      obtain ⟨q, hq⟩ : ∃ q, t - m = q + 1 := ⟨t - m - 1, by omega⟩
      rw [hq, List.getElem?_cons_succ, ← h2]
      congr 1
      omega

/-- The entry: the arguments as they come. -/
theorem enter_ {P : Program} {f : FuncId} (fn : Func) (c : Code) (N : Nat) {args : List Value} {M : Mo} {R : Ending → World → Prop} (hf : P.funcs[f]? = some fn) (hb : fn.body = some c) (hN : N = args.length + (fn.ntmps - args.length))
    (hL : ∀ b ∈ M.L, b < M.w.heap.size)
    (h : evC ⟨P, N, [], M.w, M.L⟩ c (retK ⟨P, N, [], M.w, M.L⟩ fn.results.toList R) (argsE 0 (args.map .v)) [] M) : Calls P f args.toArray M.w R := by
  refine calls_of_wp hf hb ?_
  refine (evC_sound c h).out _ retK_sound [] _ _ ⟨?_, rfl, fun t v hv => ?_⟩ ⟨rfl, hL, Fr.refl _ _, Fr.refl _ _, fun _ h => h, ?_, ?_, ?_, ?_, ?_⟩
  · simp [hN]
  · obtain ⟨h1, h2⟩ := argsE_get 0 _ 0 t v hv
    simp only [Nat.sub_zero, List.getElem?_map] at h2
    cases ha : args[t]? with
    | none => rw [ha] at h2; cases h2
    | some x =>
      rw [ha] at h2
      simp at h2
      subst h2
      have hlt : t < args.length := (List.getElem?_eq_some_iff.1 ha).1
      exact ⟨by rw [Array.getElem?_append_left (by simpa using hlt)]; simpa [conc] using ha, trivial⟩
  all_goals (intros; simp_all)

end Go.Gw

namespace Go.Gw
open Go Go.RowKit

/-! ### Contracts -/

def Mo.okm (m : Mo) : Prop := ∀ b ∈ m.L, b < m.w.heap.size
/-- A call returns a value of which R tells; nothing that was there turns. -/
def Post (m : Mo) (R : Mo → Value → Prop) (e : Ending) (w' : World) : Prop := ∃ v, e = .returned v ∧ Fr [] m.w w' ∧ R ⟨m.L, w'⟩ v
/-- What comes is new: whatever is owned of what was there, R tells of it. -/
def PostF (m : Mo) (R : Mo → Value → Prop) (e : Ending) (w' : World) : Prop := ∃ v, e = .returned v ∧ Fr [] m.w w' ∧ ∀ Lr, (∀ b ∈ Lr, b < m.w.heap.size) → R ⟨Lr, w'⟩ v
theorem PostF.post {m : Mo} {R : Mo → Value → Prop} {e : Ending} {w' : World} (hm : m.okm) (h : PostF m R e w') : Post m R e w' :=
  let ⟨v, h1, h2, h3⟩ := h; ⟨v, h1, h2, h3 m.L hm⟩

def Mo.ints (m : Mo) (v : Value) (kd : IntKind) (xs : List Int) : Prop :=
  ∃ a c, v = .slice (Base.up a 0) xs.length c ∧ xs.length ≤ c ∧ (∀ ad : Addr, a = some ad → ad.spot = none) ∧ m.row a (xs.map (.int kd))
theorem Base.up_up (b : Base) : Base.up (Base.up b 0) 0 = Base.up b 0 := by cases b <;> rfl
theorem Mo.ints.mono {m m' : Mo} {v : Value} {kd : IntKind} {xs : List Int} (h : m.ints v kd xs) (l : m.Le m') : m'.ints v kd xs :=
  let ⟨a, c, h1, h2, h3, h4⟩ := h; ⟨a, c, h1, h2, h3, h4.mono l⟩

theorem Rel.bds {C : Cx} {l : List Base} {σ : Store} {M : Mo} {w : World} (h : Rel C l σ M w) : ∀ b ∈ owns l σ ++ C.L0, b < w.heap.size := by
  intro b hb
  rcases List.mem_append.1 hb with hb | hb
  · obtain ⟨i, a, o, h1, h2, h3, h4⟩ := mem_owns.1 hb
    rw [← h4]
    exact h.lt i a o h1 h2 (.inl h3)
  · exact Nat.lt_of_lt_of_le (h.bd b hb) h.ent.size

/-- The moment after a call. -/
theorem Rel.after {C : Cx} {l : List Base} {σ : Store} {M : Mo} {w w' : World} (h : Rel C l σ M w) (hf : Fr [] w w') :
    M.Le ⟨owns l σ ++ C.L0, w'⟩ ∧ Rel C l σ ⟨owns l σ ++ C.L0, w'⟩ w' := by
  have h' := h.step hf
  refine ⟨h.le2.trans (hf.le _), h'.later (Fr.refl _ _) (fun b hb => List.mem_append.2 (.inr hb)) fun i b o h1 h2 h3 => .inl (List.mem_append.2 (.inl (mem_owns.2 ⟨i, b, o, h1, h2, h3, rfl⟩)))⟩

theorem call_ {C : Cx} {g : FuncId} {args : List AV} {σ : Store} {M : Mo} {k : VK} {R : Mo → Value → Prop} (hb : hasBody C.P g = true)
    (h : ∀ l w, Rel C l σ M w → Calls C.P g (concL l args).toArray w (Post ⟨owns l σ ++ C.L0, w⟩ R)) (k' : ∀ M' v, M.Le M' → R M' v → k (.v v) σ M') : CallK C g args σ M k :=
  ⟨hb, fun l w hr _ => (h l w hr).mono fun e w' ⟨v, h1, h2, h3⟩ => by
    subst h1
    obtain ⟨hle, hr'⟩ := hr.after h2
    exact ⟨[], .v v, σ, _, by simp [conc], trivial, by simpa using hr', k' _ v hle h3⟩⟩

/-- A call with values alone. -/
theorem callv_ {C : Cx} {g : FuncId} {vs : List Value} {σ : Store} {M : Mo} {k : VK} {R : Mo → Value → Prop} (hb : hasBody C.P g = true)
    (h : ∀ m, M.Le m → m.okm → Calls C.P g vs.toArray m.w (Post m R)) (k' : ∀ M' v, M.Le M' → R M' v → k (.v v) σ M') : CallK C g (vs.map .v) σ M k :=
  call_ hb (fun l w hr => by rw [concL_map_v]; exact h ⟨_, w⟩ hr.le2 hr.bds) k'

/-- A call whose result is new; what is own may be read by it. -/
theorem callf_ {C : Cx} {g : FuncId} {args : List AV} {σ : Store} {M : Mo} {k : VK} {R : Mo → Value → Prop} (hb : hasBody C.P g = true)
    (h : ∀ l w, Rel C l σ M w → Calls C.P g (concL l args).toArray w (PostF ⟨C.L0, w⟩ R)) (k' : ∀ M' v, M.Le M' → R M' v → k (.v v) σ M') : CallK C g args σ M k :=
  call_ hb (fun l w hr => (h l w hr).mono fun _ _ ⟨v, h1, h2, h3⟩ => ⟨v, h1, h2, h3 _ hr.bds⟩) k'

/-- A row that is only read comes in. -/
theorem Rel.imp {C : Cx} {l : List Base} {σ : Store} {M : Mo} {w : World} (h : Rel C l σ M w) (a : Option Addr) (c : Cells) (hk : c.ok l.length) (hs : ∀ ad : Addr, a = some ad → ad.spot = none)
    (hrow : Mo.row ⟨owns l σ ++ C.L0, w⟩ a (c.conc l)) : Rel C (l ++ [a]) (σ ++ [⟨none, c⟩]) M w := by
  have hlen := Cells.conc_length l c
  refine h.snoc a ⟨none, c⟩ ?_ hk (fun ad e ho => by cases ho) (fun ad e hl => ?_) (fun ad e hl i b o hb ho hlo hor => ?_)
  · simp only [ObR]
    rcases hrow with hrow | ⟨b, o, rfl, hrow⟩
    · left; rw [← hlen, hrow]; rfl
    · exact .inr ⟨_, rfl, rfl, fun i x hx => (hrow i x hx).2⟩
  all_goals
    have hne : c.len ≠ 0 := by
      rcases hl with hl | hl
      · cases hl
      · exact hl
    rcases hrow with hrow | ⟨bb, oo, rfl, hrow⟩
    · rw [hrow] at hlen; exact absurd hlen.symm hne
    · simp at e
      subst e
      have h0 := hrow 0 _ (List.getElem?_eq_getElem (by omega))
      have hn := h0.1
      simp only [List.mem_append, not_or] at hn
      first
        | exact hn.2
        | (intro he
           rcases hor with hor | hor
           · cases hor
           · exact hn.1 (mem_owns.2 ⟨i, b, o, hb, ho, hor, he⟩))

/-- A call that gives a row of numbers. -/
theorem calli_ {C : Cx} {g : FuncId} {args : List AV} {σ : Store} {M : Mo} {k : VK} {kd : IntKind} {I : List Int → Prop} (hb : hasBody C.P g = true)
    (h : ∀ l w, Rel C l σ M w → Calls C.P g (concL l args).toArray w (Post ⟨owns l σ ++ C.L0, w⟩ fun m v => ∃ xs, I xs ∧ m.ints v kd xs))
    (k' : ∀ M' c xs, M.Le M' → I xs → xs.length ≤ c → k (.ls σ.length 0 xs.length c) (σ ++ [⟨none, .ints kd xs⟩]) M') : CallK C g args σ M k :=
  ⟨hb, fun l w hr _ => (h l w hr).mono fun e w' ⟨v, h1, h2, xs, hI, a, c, h3, h4, h5, h6⟩ => by
    subst h1
    subst h3
    obtain ⟨hle, hr'⟩ := hr.after h2
    refine ⟨[a], .ls σ.length 0 xs.length c, _, _, ?_, ?_, hr'.imp a (.ints kd xs) trivial h5 h6, k' _ c xs hle hI h4⟩
    · rw [← hr.len]
      simp only [conc, List.getD, List.getElem?_append_right (Nat.le_refl _), Nat.sub_self]
      rfl
    · simp [AV.ok, hr.len]⟩

/-- A row that comes in, for a moment of a call. -/
theorem Rel.row_ro {C : Cx} {l : List Base} {σ : Store} {M : Mo} {w : World} (h : Rel C l σ M w) {id : Nat} {c : Cells} (ho : σ[id]? = some ⟨none, c⟩) (off n : Nat) :
    Mo.row ⟨owns l σ ++ C.L0, w⟩ (Base.up (l.getD id none) off) (((c.conc l).drop off).take n) := by
  by_cases hz : c.len = 0
  · left
    have : c.conc l = [] := List.eq_nil_of_length_eq_zero (by rw [Cells.conc_length]; exact hz)
    simp [this]
  · obtain ⟨ad, e1, e2, e3⟩ := h.reads ho hz
    right
    refine ⟨ad.block, ad.off + off, by rw [e1]; rfl, fun i x hx => ⟨?_, ?_⟩⟩
    · have hid : id < l.length := by rw [h.len]; exact (List.getElem?_eq_some_iff.1 ho).1
      have hl : l[id]? = some (some ad) := by
        rw [List.getElem?_eq_getElem hid]
        simpa [List.getD, List.getElem?_eq_getElem hid] using e1
      simp only [List.mem_append, not_or]
      refine ⟨fun hm => ?_, h.out id ad _ hl ho (.inr hz)⟩
      obtain ⟨j, b, o, g1, g2, g3, g4⟩ := mem_owns.1 hm
      have hne : j ≠ id := fun e => by subst e; rw [ho] at g2; simp at g2; subst g2; cases g3
      exact h.dis j id b ad o _ hne g1 hl g2 ho g3 (.inr hz) g4
    · rw [List.getElem?_take] at hx
      split at hx
      · rw [List.getElem?_drop] at hx
        have := e3 _ _ hx
        rw [← Nat.add_assoc] at this
        exact this
      · cases hx
theorem Rel.ints_ro {C : Cx} {l : List Base} {σ : Store} {M : Mo} {w : World} (h : Rel C l σ M w) {id : Nat} {kd : IntKind} {xs : List Int} (ho : σ[id]? = some ⟨none, .ints kd xs⟩) {c : Nat} (hc : xs.length ≤ c) :
    Mo.ints ⟨owns l σ ++ C.L0, w⟩ (conc l (.ls id 0 xs.length c)) kd xs := by
  refine ⟨Base.up (l.getD id none) 0, c, by rw [Base.up_up]; rfl, hc, fun ad hh => ?_, ?_⟩
  · unfold Base.up at hh
    cases hq : l.getD id none with
    | none => rw [hq] at hh; cases hh
    | some q => rw [hq] at hh; simp at hh; subst hh; rfl
  · have := h.row_ro ho 0 xs.length
    simp only [Cells.conc, List.drop_zero] at this
    rwa [List.take_of_length_le (by simp)] at this
/-- What is own, read by a call whose result is new. -/
theorem Rel.ints_own {C : Cx} {l : List Base} {σ : Store} {M : Mo} {w : World} (h : Rel C l σ M w) {id : Nat} {t : TypeId × Nat} {kd : IntKind} {xs : List Int} (ho : σ[id]? = some ⟨some t, .ints kd xs⟩) {c : Nat} (hc : xs.length ≤ c) :
    Mo.ints ⟨C.L0, w⟩ (conc l (.ls id 0 xs.length c)) kd xs := by
  refine ⟨Base.up (l.getD id none) 0, c, by rw [Base.up_up]; rfl, hc, fun ad' hh => ?_, ?_⟩
  · unfold Base.up at hh
    cases hq : l.getD id none with
    | none => rw [hq] at hh; cases hh
    | some q => rw [hq] at hh; simp at hh; subst hh; rfl
  · by_cases hx : xs = []
    · left; simp [hx]
    · obtain ⟨ad, e1, e2, e3⟩ := h.reads ho (by simp only [Cells.len]; exact fun h0 => hx (List.eq_nil_of_length_eq_zero h0))
      have hid : id < l.length := by rw [h.len]; exact (List.getElem?_eq_some_iff.1 ho).1
      have hl : l[id]? = some (some ad) := by
        rw [List.getElem?_eq_getElem hid]
        simpa [List.getD, List.getElem?_eq_getElem hid] using e1
      right
      refine ⟨ad.block, ad.off + 0, by rw [e1]; rfl, fun i x hx => ⟨h.out id ad _ hl ho (.inl rfl), ?_⟩⟩
      exact e3 i x hx

/-- A row of numbers that is the call's own: nil, or a block from its head on. -/
def Mo.own (m : Mo) (base : Nat) (e : TypeId) (v : Value) (kd : IntKind) (xs : List Int) : Prop :=
  (v = .slice none 0 0 ∧ xs = []) ∨ ∃ g c arr, v = .slice (some ⟨g, 0, none⟩) xs.length c ∧ base ≤ g ∧ m.w.heap[g]? = some (.cells arr e (0, 0)) ∧ arr.size = c ∧ xs.length ≤ c ∧ arr.toList.take xs.length = xs.map (.int kd)

/-- A row that is the call's own comes in. -/
theorem callo_ {C : Cx} {g : FuncId} {args : List AV} {σ : Store} {M : Mo} {k : VK} {kd : IntKind} {e : TypeId} {I : List Int → Prop} (hb : hasBody C.P g = true)
    (h : ∀ l w, Rel C l σ M w → Calls C.P g (concL l args).toArray w (fun en w' => ∃ v xs, en = .returned v ∧ Fr [] w w' ∧ I xs ∧ Mo.own ⟨[], w'⟩ w.heap.size e v kd xs))
    (k' : ∀ M' c xs, M.Le M' → I xs → xs.length ≤ c → k (.ls σ.length 0 xs.length c) (σ ++ [⟨some (e, c), .ints kd xs⟩]) M') : CallK C g args σ M k :=
  ⟨hb, fun l w hr _ => (h l w hr).mono fun en w' ⟨v, xs, h1, h2, hI, h3⟩ => by
    subst h1
    obtain ⟨hle, hr'⟩ := hr.after h2
    rcases h3 with ⟨rfl, rfl⟩ | ⟨g, c, arr, rfl, hg, hh, hs, hc, ht⟩
    · refine ⟨[none], .ls σ.length 0 0 0, _, _, ?_, ?_, hr'.snoc none ⟨some (e, 0), .ints kd []⟩ (.inl ⟨rfl, rfl, rfl⟩) trivial (fun a e => by cases e) (fun a e => by cases e) (fun a e => by cases e), k' _ 0 [] hle hI (Nat.le_refl _)⟩
      · simp [conc, ← hr.len, Base.up]
      · simp [AV.ok, hr.len]
    · have hle2 : M.Le ⟨g :: (owns l σ ++ C.L0), w'⟩ := ⟨hle.size, fun b hb hn => by
        obtain ⟨e1, e2⟩ := hle.keep b hb hn
        refine ⟨e1, fun hx => ?_⟩
        rcases List.mem_cons.1 hx with hx | hx
        · have := hr.fr.size; omega
        · exact e2 hx⟩
      have hr2 : Rel C l σ ⟨g :: (owns l σ ++ C.L0), w'⟩ w' := hr'.later (Fr.refl _ _) (fun b hb => List.mem_cons_of_mem _ (List.mem_append.2 (.inr hb)))
        fun i b o h1 h2 h3 => .inl (List.mem_cons_of_mem _ (List.mem_append.2 (.inl (mem_owns.2 ⟨i, b, o, h1, h2, h3, rfl⟩))))
      refine ⟨[some ⟨g, 0, none⟩], .ls σ.length 0 xs.length c, _, _, ?_, ?_, hr2.snoc (some ⟨g, 0, none⟩) ⟨some (e, c), .ints kd xs⟩ (.inr ⟨g, arr, rfl, hh, hs, ht⟩) trivial ?_ ?_ ?_, k' _ c xs hle2 hI hc⟩
      · simp [conc, ← hr.len, Base.up]
      · simp [AV.ok, hr.len]
      · intro a e1 _
        simp at e1; subst e1
        exact ⟨.inl (List.mem_cons_self ..), .inr (Nat.le_trans hr.ent.size hg)⟩
      · intro a e1 _ hx
        simp at e1; subst e1
        have := hr.bd _ hx
        have := hr.ent.size
        simp at *
        omega
      · intro a e1 _ i b o hb' ho' hl _
        simp at e1; subst e1
        have := hr.lt i b o hb' ho' hl
        simp
        omega⟩

/-- Rows that are only read, at the entry. -/
def RoOK (m : Mo) : List Base → Store → Prop
  | [], [] => True
  | a :: l, o :: σ => (o.own = none ∧ (∀ ad : Addr, a = some ad → ad.spot = none) ∧ o.c.ok 0 ∧ m.row a (o.c.conc [])) ∧ RoOK m l σ
  | _, _ => False
theorem RoOK.get {m : Mo} : ∀ {l : List Base} {σ : Store}, RoOK m l σ → l.length = σ.length ∧ ∀ (i : Nat) (a : Base) (o : Ob), l[i]? = some a → σ[i]? = some o → o.own = none ∧ (∀ ad : Addr, a = some ad → ad.spot = none) ∧ o.c.ok 0 ∧ m.row a (o.c.conc [])
  | [], [], _ => ⟨rfl, fun i a o h => by simp at h⟩
  | a :: l, o :: σ, h => by
    obtain ⟨h1, h2⟩ := RoOK.get h.2
    refine ⟨by simp [h1], fun i b p hb hp => ?_⟩
    cases i with
    | zero => simp at hb hp; subst hb; subst hp; exact h.1
    | succ i => exact h2 i b p (by simpa using hb) (by simpa using hp)

/-- The entry, with rows that are only read. -/
theorem enter2_ {P : Program} {f : FuncId} (fn : Func) (c : Code) (N : Nat) (l0 : List Base) (σ0 : Store) (avs : List AV) {args : Array Value} {M : Mo} {R : Ending → World → Prop} (hf : P.funcs[f]? = some fn) (hb : fn.body = some c) (hN : N = avs.length + (fn.ntmps - avs.length))
    (hL : M.okm) (hargs : args = (concL l0 avs).toArray) (hok : okL l0.length avs) (hro : RoOK M l0 σ0)
    (h : evC ⟨P, N, [], M.w, M.L⟩ c (retK ⟨P, N, [], M.w, M.L⟩ fn.results.toList R) (argsE 0 avs) σ0 M) : Calls P f args M.w R := by
  subst hargs
  obtain ⟨hlen, hget⟩ := hro.get
  refine calls_of_wp hf hb ?_
  refine (evC_sound c h).out _ retK_sound l0 _ _ ⟨?_, rfl, fun t v hv => ?_⟩ ⟨hlen, hL, Fr.refl _ _, Fr.refl _ _, fun _ h => h, fun i b o h1 h2 => ?_, fun i b o h1 h2 h3 => ?_, fun i b o h1 h2 h3 => ?_, fun i j b b' o o' _ h1 _ h2 _ h3 _ => ?_, fun i b h1 => by cases h1⟩
  · simp [hN, concL_length]
  · obtain ⟨h1, h2⟩ := argsE_get 0 _ 0 t v hv
    simp only [Nat.sub_zero] at h2
    have hlt : t < avs.length := (List.getElem?_eq_some_iff.1 h2).1
    refine ⟨?_, okL_get hok h2⟩
    rw [Array.getElem?_append_left (by simpa [concL_length] using hlt)]
    simp [concL_get, h2]
  · obtain ⟨g1, g2, g3, g4⟩ := hget i b o h1 h2
    have e0 : o.c.conc l0 = o.c.conc [] := by simpa using Cells.conc_append [] l0 o.c g3
    refine ⟨?_, g3.mono (Nat.zero_le _)⟩
    unfold ObR
    rw [g1]
    simp only
    rcases g4 with g4 | ⟨bb, oo, rfl, g4⟩
    · left; rw [← Cells.conc_length [], g4]; rfl
    · right
      rw [e0]
      exact ⟨_, rfl, rfl, fun i x hx => (g4 i x hx).2⟩
  · rw [(hget i _ o h1 h2).1] at h3; cases h3
  · obtain ⟨g1, g2, g3, g4⟩ := hget i _ o h1 h2
    rcases h3 with h3 | h3
    · rw [g1] at h3; cases h3
    · rcases g4 with g4 | ⟨bb, oo, e, g4⟩
      · have := Cells.conc_length [] o.c
        rw [g4] at this
        exact absurd this.symm h3
      · simp at e; subst e
        exact (g4 0 _ (List.getElem?_eq_getElem (by rw [Cells.conc_length]; omega))).1
  · rw [(hget i _ o h1 h2).1] at h3; cases h3

/-! ### Wraps -/
theorem wrap_i64 (n : Int) : IntKind.i64.wrap n = (n + 9223372036854775808) % 18446744073709551616 - 9223372036854775808 := by
  have h1 : (2 : Int) ^ IntKind.i64.bits = 18446744073709551616 := by decide
  have h2 : (2 : Int) ^ (IntKind.i64.bits - 1) = 9223372036854775808 := by decide
  unfold IntKind.wrap
  rw [h1, h2]
  simp only [IntKind.signed, Bool.true_and, decide_eq_true_eq]
  split <;> omega
theorem wrap_i32 (n : Int) : IntKind.i32.wrap n = (n + 2147483648) % 4294967296 - 2147483648 := by
  have h1 : (2 : Int) ^ IntKind.i32.bits = 4294967296 := by decide
  have h2 : (2 : Int) ^ (IntKind.i32.bits - 1) = 2147483648 := by decide
  unfold IntKind.wrap
  rw [h1, h2]
  simp only [IntKind.signed, Bool.true_and, decide_eq_true_eq]
  split <;> omega
theorem wrap_u8 (n : Int) : IntKind.u8.wrap n = n % 256 := by
  have h1 : (2 : Int) ^ IntKind.u8.bits = 256 := by decide
  unfold IntKind.wrap
  rw [h1]
  simp [IntKind.signed]
theorem wrap_u16 (n : Int) : IntKind.u16.wrap n = n % 65536 := by
  have h1 : (2 : Int) ^ IntKind.u16.bits = 65536 := by decide
  unfold IntKind.wrap
  rw [h1]
  simp [IntKind.signed]
theorem wrap_u32 (n : Int) : IntKind.u32.wrap n = n % 4294967296 := by
  have h1 : (2 : Int) ^ IntKind.u32.bits = 4294967296 := by decide
  unfold IntKind.wrap
  rw [h1]
  simp [IntKind.signed]
theorem wrap_u64 (n : Int) : IntKind.u64.wrap n = n % 18446744073709551616 := by
  have h1 : (2 : Int) ^ IntKind.u64.bits = 18446744073709551616 := by decide
  unfold IntKind.wrap
  rw [h1]
  simp [IntKind.signed]
theorem wrap_in (n : Int) (h : -9223372036854775808 ≤ n) (h' : n ≤ 9223372036854775807) : IntKind.i64.wrap n = n := by rw [wrap_i64]; omega

/-! ### A make of numbers -/

theorem make_ints {C : Cx} {t : TypeId} {n : Int} {k1 k2 : IntKind} {σ : Store} {M : Mo} {k : VK} (e : TypeId) (i : TypeInfo) (kd : IntKind) (hu : C.P.underlying t = some (.slice e)) (hi : C.P.info? e = some i) (hz : i.zero = some (.int kd 0)) (hsz : i.size = 1)
    (h0 : 0 ≤ n) (h1 : i.bytes * n ≤ 281474976710656) (h2 : n ≤ 9223372036854775807)
    (h : k (.ls σ.length 0 n.toNat n.toNat) (σ ++ [⟨some (e, n.toNat), .ints kd (List.replicate n.toNat 0)⟩]) M) : MakeK C t (.v (.int k1 n)) (.v (.int k2 n)) σ M k :=
  ⟨fun l w hr => by
    have hw : IntKind.i64.wrap n = n := wrap_in n (by omega) h2
    have hnew := hr.new e (Array.replicate n.toNat (.int kd 0)) (.ints kd (List.replicate n.toNat 0)) (by simp [Cells.conc]) trivial
    rw [Array.size_replicate] at hnew
    refine ⟨_, [some ⟨w.heap.size, 0, none⟩], .ls σ.length 0 n.toNat n.toNat, _, M, ?_, hnew, ?_, h⟩
    · simp only [conc]
      unfold Instr.makeSlice
      rw [Sem.run_bind, run_underlying hu, Result.andThen_ok]
      simp only [asInt, asIntOf, Sem.run_bind, Sem.run_pure, Result.andThen_ok, run_typeInfo_some hi, hw]
      have hnt : (n.toNat : Int) = n := Int.toNat_of_nonneg h0
      have hc : ¬ ((decide (n < 0) || decide ((i.bytes : Int) * n > 2 ^ 48)) || decide (n < 0) || decide (n > n)) = true := by
        simp only [Bool.or_eq_true, decide_eq_true_eq]
        omega
      rw [if_neg hc]
      simp only [Sem.run_bind]
      have hroom : (askRoom (n.toNat * i.bytes)).run C.P w = .ok () w := by
        unfold askRoom
        split <;> rfl
      rw [hroom]
      simp only [Result.andThen_ok, sizeOf, run_typeInfo_some hi, Sem.run_bind, Sem.run_pure, hsz, Nat.mul_one]
      have hrep : ∀ zz : Array Value, (zz = #[.int kd 0] ∨ n.toNat = 0) → (Array.range n.toNat).map (fun j => zz[j % zz.size]!) = Array.replicate n.toNat (.int kd 0) := by
        intro zz hzz
        apply Array.ext'
        apply List.ext_getElem?
        intro j
        rcases hzz with rfl | h0'
        · by_cases hj : j < n.toNat
          · simp [hj, Nat.mod_one]
          · rw [List.getElem?_eq_none (by simp; omega), List.getElem?_eq_none (by simp; omega)]
        · rw [h0']; simp
      by_cases hn : n.toNat = 0
      · rw [if_pos hn]
        simp only [Sem.run_pure, Result.andThen_ok, Sem.run_bind, hrep #[] (.inr hn), newRow_run]
        simp [Base.up, ← hr.len]
      · rw [if_neg hn]
        simp only [Sem.run_bind, run_zeroValue_some hi hz, Result.andThen_ok, Sem.run_pure, Value.cells, hrep #[.int kd 0] (.inl rfl), newRow_run]
        simp [Base.up, ← hr.len]
    · simp [AV.ok, hr.len]⟩

end Go.Gw

namespace Go.Gw
open Go Go.RowKit

/-! ### Ends -/

theorem fin_own {C : Cx} {σ : Store} {M : Mo} {id : Nat} {t : TypeId × Nat} {kd : IntKind} {zs : List Int} {n c : Nat} {I : List Int → Prop} (hmu : C.mu = []) (ho : σ[id]? = some ⟨some t, .ints kd zs⟩) (hn : n = zs.length) (hc : n ≤ c) (hI : I zs) :
    FinK C (PostF ⟨C.L0, C.w0⟩ fun m v => ∃ zs, I zs ∧ m.ints v kd zs) (.ls id 0 n c) σ M :=
  ⟨fun l w hr _ => by
    subst hn
    refine ⟨_, rfl, by simpa [hmu] using hr.ent, fun Lr hL => ⟨zs, hI, ?_⟩⟩
    obtain ⟨a, c', h1, h2, h3, h4⟩ := hr.ints_own ho hc
    refine ⟨a, c', h1, h2, h3, ?_⟩
    rcases h4 with h4 | ⟨b, o, ha, h4⟩
    · exact .inl h4
    · by_cases hz : zs = []
      · left; simp [hz]
      right
      refine ⟨b, o, ha, fun i x hx => ⟨fun hb => ?_, (h4 i x hx).2⟩⟩
      have hid : id < l.length := by rw [hr.len]; exact (List.getElem?_eq_some_iff.1 ho).1
      obtain ⟨ad, e1, e2, e3⟩ := hr.reads ho (by simp only [Cells.len]; exact fun h0 => hz (List.eq_nil_of_length_eq_zero h0))
      have hl : l[id]? = some (some ad) := by
        rw [List.getElem?_eq_getElem hid]
        simpa [List.getD, List.getElem?_eq_getElem hid] using e1
      have hown := (hr.own id ad _ hl ho rfl).2
      rw [hmu] at hown
      have hge : C.w0.heap.size ≤ ad.block := by
        rcases hown with h | h
        · cases h
        · exact h
      have hbb : b = ad.block := by
        simp only [conc, e1, Base.up, Option.map_some] at h1
        rw [ha] at h1
        simp only [Option.map_some] at h1
        injection h1 with h1
        injection h1 with h1
        injection h1 with h1
        exact h1.symm
      have := hL b hb
      simp only at this
      omega⟩

/-- A value that leads nowhere. -/
theorem fin_val {C : Cx} {σ : Store} {M : Mo} {v : Value} {R : Mo → Value → Prop} (hmu : C.mu = []) (h : ∀ m, M.Le m → R m v) : FinK C (Post ⟨C.L0, C.w0⟩ R) (.v v) σ M :=
  ⟨fun _ _ hr _ => ⟨v, rfl, by simpa [hmu] using hr.ent, h _ hr.le⟩⟩

theorem SubE.refl' (e : Env) : SubE [] e := trivial
/-- Numbers in a slot. -/
theorem avi {k : IntKind} {a b : Int} (h : a = b) : AV.v (.int k a) = AV.v (.int k b) := by rw [h]
theorem some_nrm {k : IntKind} {a b : Int} (h : a = b) : some (AV.v (.int k a)) = some (AV.v (.int k b)) := by rw [h]

theorem ix_ {p q K : Prop} (h : p) (h2 : q) (k : K) : p ∧ q ∧ (q ∧ K) := ⟨h, h2, h2, k⟩

end Go.Gw
