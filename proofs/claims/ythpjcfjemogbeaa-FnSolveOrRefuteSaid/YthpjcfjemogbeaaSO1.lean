/- M2, part A: an abstract memory (blocks by number, values over them) and how it stands to the model's world. No program in sight. -/
import Derived.Below
import Derived.Calls
import Derived.Laws.World
import Derived.Orders
import Derived.KernelRfl
import Derived.ChangeKeysEq
import Derived.MapKept
import Derived.Laws.StructEq
import Derived.Laws.Append
import Derived.Lib.Overlaps
import Derived.Laws.Externs
import Derived.Laws.MakeOwn
set_option linter.unusedVariables false
set_option linter.unusedSimpArgs false
set_option maxRecDepth 10000
set_option maxHeartbeats 4000000
namespace Go.M2
open Go.RowKit (Below)
abbrev AA := Option (Nat × Nat)
inductive AV where
  | junk
  | bool (b : Bool)
  | int (k : IntKind) (n : Int)
  | str (s : ByteArray)
  | ptr (A : AA)
  | sl (A : AA) (len cap : Nat) (ex : Bool) (k : Nat)
  | emp
  | map (r : Option Nat)
  | fn (f : Nat) (caps : List AV)
  | nilFn
  | agg (l : List AV)
  | tup (l : List AV)
instance : Inhabited AV := ⟨.junk⟩
structure BI where
  blk : Nat
  off : Nat
  sz : Nat
  rw : Bool
def AA.b (A : AA) : Nat := match A with | some p => p.1 | none => 0
def AA.o (A : AA) : Nat := match A with | some p => p.2 | none => 0
@[simp] theorem AA.b_some (b o : Nat) : AA.b (some (b, o)) = b := rfl
@[simp] theorem AA.o_some (b o : Nat) : AA.o (some (b, o)) = o := rfl
def rA (ρ : Nat → BI) : AA → Option Addr
  | none => none
  | some (b, o) => some ⟨(ρ b).blk, (ρ b).off + o, none⟩
inductive VR (N : Nat) (ρ : Nat → BI) : AV → Value → Prop where
  | junk (v : Value) : VR N ρ .junk v
  | bool (b : Bool) : VR N ρ (.bool b) (.bool b)
  | int (k : IntKind) (n : Int) : VR N ρ (.int k n) (.int k n)
  | str (s : ByteArray) : VR N ρ (.str s) (.string s)
  | ptr (A : AA) : (∀ b o, A = some (b, o) → b < N) → VR N ρ (.ptr A) (.pointer (rA ρ A))
  | slN (k : Nat) : VR N ρ (.sl none 0 0 true k) (.slice none 0 0)
  | sl (b o len cap : Nat) (ex : Bool) (k cap' : Nat) : b < N → len ≤ cap → cap ≤ cap' → (ex = true → cap' = cap) →
      ((ρ b).rw = true → o + cap' * k ≤ (ρ b).sz) → VR N ρ (.sl (some (b, o)) len cap ex k) (.slice (rA ρ (some (b, o))) len cap')
  | emp (A : Option Addr) : VR N ρ .emp (.slice A 0 0)
  | mapN : VR N ρ (.map none) (.map none)
  | map (b : Nat) : b < N → VR N ρ (.map (some b)) (.map (some (ρ b).blk))
  | fn (f : Nat) (caps : List AV) (a : Array Value) : caps.length = a.size → (∀ (i : Nat) (x : AV) (v : Value), caps[i]? = some x → a[i]? = some v → VR N ρ x v) →
      VR N ρ (.fn f caps) (.func (.func f) #[] a)
  | nilFn : VR N ρ .nilFn .nilFunc
  | agg (l : List AV) (a : Array Value) : l.length = a.size → (∀ (i : Nat) (x : AV) (v : Value), l[i]? = some x → a[i]? = some v → VR N ρ x v) → VR N ρ (.agg l) (.agg a)
  | tup (l : List AV) (a : Array Value) : l.length = a.size → (∀ (i : Nat) (x : AV) (v : Value), l[i]? = some x → a[i]? = some v → VR N ρ x v) → VR N ρ (.tup l) (.tuple a)
def VRL (N : Nat) (ρ : Nat → BI) (l : List AV) (a : List Value) : Prop :=
  l.length = a.length ∧ ∀ (i : Nat) (x : AV) (v : Value), l[i]? = some x → a[i]? = some v → VR N ρ x v
def Agree (N : Nat) (ρ ρ' : Nat → BI) : Prop := ∀ b, b < N → ρ' b = ρ b
theorem Agree.refl (N : Nat) (ρ : Nat → BI) : Agree N ρ ρ := fun _ _ => rfl
theorem Agree.trans {N N' : Nat} {ρ ρ' ρ'' : Nat → BI} (h : Agree N ρ ρ') (h' : Agree N' ρ' ρ'') (hN : N ≤ N') : Agree N ρ ρ'' :=
  fun b hb => (h' b (by omega)).trans (h b hb)
theorem rA_agree {N : Nat} {ρ ρ' : Nat → BI} (hρ : Agree N ρ ρ') {A : AA} (h : ∀ b o, A = some (b, o) → b < N) : rA ρ' A = rA ρ A := by
  cases A with
  | none => rfl
  | some p => obtain ⟨b, o⟩ := p; simp only [rA, hρ b (h b o rfl)]
theorem VR.mono {N N' : Nat} {ρ ρ' : Nat → BI} (hN : N ≤ N') (hρ : Agree N ρ ρ') {x : AV} {v : Value} (h : VR N ρ x v) : VR N' ρ' x v := by
  induction h with
  | junk v => exact .junk v
  | bool b => exact .bool b
  | int k n => exact .int k n
  | str s => exact .str s
  | ptr A hA => rw [← rA_agree hρ hA]; exact .ptr A fun b o e => Nat.lt_of_lt_of_le (hA b o e) hN
  | slN k => exact .slN k
  | emp A => exact .emp A
  | sl b o len cap ex k cap' hb h1 h2 h3 h4 =>
    have e := hρ b hb
    have e2 : rA ρ' (some (b, o)) = rA ρ (some (b, o)) := by simp only [rA, e]
    rw [← e2]
    exact .sl b o len cap ex k cap' (Nat.lt_of_lt_of_le hb hN) h1 h2 h3 (by rw [e]; exact h4)
  | mapN => exact .mapN
  | map b hb => rw [← hρ b hb]; exact .map b (Nat.lt_of_lt_of_le hb hN)
  | fn f caps a hl _ ih => exact .fn f caps a hl ih
  | nilFn => exact .nilFn
  | agg l a hl _ ih => exact .agg l a hl ih
  | tup l a hl _ ih => exact .tup l a hl ih
theorem VRL.mono {N N' : Nat} {ρ ρ' : Nat → BI} (hN : N ≤ N') (hρ : Agree N ρ ρ') {l : List AV} {a : List Value} (h : VRL N ρ l a) : VRL N' ρ' l a :=
  ⟨h.1, fun i x v hx hv => (h.2 i x v hx hv).mono hN hρ⟩
theorem VRL.nil (N : Nat) (ρ : Nat → BI) : VRL N ρ [] [] := ⟨rfl, fun i x v h => by simp at h⟩
theorem VRL.cons {N : Nat} {ρ : Nat → BI} {x : AV} {v : Value} {l : List AV} {a : List Value} (h : VR N ρ x v) (t : VRL N ρ l a) : VRL N ρ (x :: l) (v :: a) := by
  refine ⟨by simp [t.1], fun i y u hy hu => ?_⟩
  cases i with
  | zero => simp at hy hu; subst hy hu; exact h
  | succ i => simp at hy hu; exact t.2 i y u hy hu
theorem VRL.append {N : Nat} {ρ : Nat → BI} {l l' : List AV} {a a' : List Value} (h : VRL N ρ l a) (t : VRL N ρ l' a') : VRL N ρ (l ++ l') (a ++ a') := by
  refine ⟨by simp [h.1, t.1], fun i y u hy hu => ?_⟩
  rw [List.getElem?_append] at hy hu
  rw [← h.1] at hu
  split at hy
  · rename_i hlt; rw [if_pos hlt] at hu; exact h.2 i y u hy hu
  · rename_i hlt; rw [if_neg hlt] at hu; exact t.2 _ y u hy hu
theorem VRL.uncons {N : Nat} {ρ : Nat → BI} {x : AV} {l : List AV} {a : List Value} (h : VRL N ρ (x :: l) a) : ∃ v t, a = v :: t ∧ VR N ρ x v ∧ VRL N ρ l t := by
  cases a with
  | nil => have := h.1; simp at this
  | cons v t =>
    refine ⟨v, t, rfl, h.2 0 x v rfl rfl, by have := h.1; simpa using this, fun i y u hy hu => h.2 (i + 1) y u (by simpa using hy) (by simpa using hu)⟩
theorem VRL.unnil {N : Nat} {ρ : Nat → BI} {a : List Value} (h : VRL N ρ [] a) : a = [] := by
  have := h.1; simp at this; exact List.eq_nil_of_length_eq_zero this.symm
theorem VRL.take {N : Nat} {ρ : Nat → BI} {l : List AV} {a : List Value} (h : VRL N ρ l a) (n : Nat) : VRL N ρ (l.take n) (a.take n) := by
  refine ⟨by simp [h.1], fun i y u hy hu => ?_⟩
  rw [List.getElem?_take] at hy hu
  split at hy
  · rename_i hlt; rw [if_pos hlt] at hu; exact h.2 i y u hy hu
  · cases hy
theorem VRL.drop {N : Nat} {ρ : Nat → BI} {l : List AV} {a : List Value} (h : VRL N ρ l a) (n : Nat) : VRL N ρ (l.drop n) (a.drop n) := by
  refine ⟨by simp [h.1], fun i y u hy hu => ?_⟩
  rw [List.getElem?_drop] at hy hu
  exact h.2 _ y u hy hu
inductive Blk where
  | cells (c : List AV) (rw : Bool)
  | map (es : List (AV × AV))
  | dead
structure Heap where
  size : Nat
  blk : Nat → Blk
namespace Heap
def cellsAt (H : Heap) (b : Nat) : Option (List AV) := if b < H.size then match H.blk b with | .cells c _ => some c | _ => none else none
def get (H : Heap) (b o : Nat) : Option AV := (H.cellsAt b).bind (·[o]?)
def isRw (H : Heap) (b : Nat) : Bool := if b < H.size then match H.blk b with | .cells _ rw => rw | .map _ => true | .dead => false else false
def put (H : Heap) (x : Blk) : Heap := ⟨H.size + 1, fun b => if b = H.size then x else H.blk b⟩
def alloc (H : Heap) (c : List AV) : Heap := H.put (.cells c true)
def upd (H : Heap) (b : Nat) (x : Blk) : Heap := ⟨H.size, fun b' => if b' = b then x else H.blk b'⟩
def kill (H : Heap) (b : Nat) : Heap := H.upd b .dead
def set (H : Heap) (b o : Nat) (v : AV) : Heap := match H.blk b with
  | .cells c rw => H.upd b (.cells (c.set o v) rw)
  | _ => H
end Heap
def Ext (H H' : Heap) : Prop := H.size ≤ H'.size ∧ ∀ b, b < H.size → H'.blk b = H.blk b
theorem Ext.refl (H : Heap) : Ext H H := ⟨Nat.le_refl _, fun _ _ => rfl⟩
theorem Ext.trans {a b c : Heap} (h : Ext a b) (k : Ext b c) : Ext a c :=
  ⟨Nat.le_trans h.1 k.1, fun i hi => (k.2 i (Nat.lt_of_lt_of_le hi h.1)).trans (h.2 i hi)⟩
theorem Ext.put (H : Heap) (x : Blk) : Ext H (H.put x) := ⟨Nat.le_succ _, fun b hb => by simp [Heap.put, Nat.ne_of_lt hb]⟩
theorem Ext.alloc (H : Heap) (c : List AV) : Ext H (H.alloc c) := Ext.put H _
theorem Ext.upd {H H' : Heap} (h : Ext H H') {b : Nat} (hb : H.size ≤ b) (x : Blk) : Ext H (H'.upd b x) :=
  ⟨h.1, fun i hi => by simp only [Heap.upd]; rw [if_neg (by omega)]; exact h.2 i hi⟩
theorem Ext.set {H H' : Heap} (h : Ext H H') {b : Nat} (hb : H.size ≤ b) (o : Nat) (v : AV) : Ext H (H'.set b o v) := by
  unfold Heap.set
  split
  · exact h.upd hb _
  · exact h
theorem Ext.kill {H H' : Heap} (h : Ext H H') {b : Nat} (hb : H.size ≤ b) : Ext H (H'.kill b) := h.upd hb _
theorem Heap.cellsAt_lt {H : Heap} {b : Nat} {c : List AV} (h : H.cellsAt b = some c) : b < H.size := by
  unfold Heap.cellsAt at h; split at h
  · assumption
  · cases h
theorem Heap.cellsAt_blk {H : Heap} {b : Nat} {c : List AV} (h : H.cellsAt b = some c) : ∃ rw, H.blk b = .cells c rw := by
  unfold Heap.cellsAt at h; split at h
  · split at h
    · rename_i c' rw e; cases h; exact ⟨rw, e⟩
    · cases h
  · cases h
theorem Heap.get_lt {H : Heap} {b o : Nat} {x : AV} (h : H.get b o = some x) : b < H.size := by
  simp only [Heap.get, Option.bind_eq_some_iff] at h
  obtain ⟨c, hc, _⟩ := h
  exact cellsAt_lt hc
theorem Ext.cellsAt {H H' : Heap} (h : Ext H H') {b : Nat} {c : List AV} (hc : H.cellsAt b = some c) : H'.cellsAt b = some c := by
  have hlt := Heap.cellsAt_lt hc
  unfold Heap.cellsAt at hc ⊢
  rw [if_pos hlt] at hc
  rw [if_pos (Nat.lt_of_lt_of_le hlt h.1), h.2 b hlt]; exact hc
theorem Ext.get {H H' : Heap} (h : Ext H H') {b o : Nat} {x : AV} (hx : H.get b o = some x) : H'.get b o = some x := by
  simp only [Heap.get, Option.bind_eq_some_iff] at hx ⊢
  obtain ⟨c, hc, hy⟩ := hx
  exact ⟨c, h.cellsAt hc, hy⟩
theorem Ext.isRw {H H' : Heap} (h : Ext H H') {b : Nat} (hc : H.isRw b = true) : H'.isRw b = true := by
  unfold Heap.isRw at hc ⊢
  by_cases hlt : b < H.size
  · rw [if_pos hlt] at hc; rw [if_pos (Nat.lt_of_lt_of_le hlt h.1), h.2 b hlt]; exact hc
  · rw [if_neg hlt] at hc; cases hc
def TabOk (w0 : World) : Prop := True
structure HI (w0 : World) (ρ : Nat → BI) (H : Heap) (w : World) : Prop where
  below : Below w0.heap.size w0 w
  bound : ∀ b, b < H.size → (ρ b).blk < w.heap.size
  ro : ∀ b c, b < H.size → H.blk b = .cells c false → (ρ b).blk < w0.heap.size
  rw : ∀ b c r, b < H.size → H.blk b = .cells c r → (ρ b).rw = r
  cell : ∀ b c r, b < H.size → H.blk b = .cells c r → ∀ j x, c[j]? = some x → ∃ v, w.cell? ⟨(ρ b).blk, (ρ b).off + j, none⟩ = some v ∧ VR H.size ρ x v
  own : ∀ b c, b < H.size → H.blk b = .cells c true → w0.heap.size ≤ (ρ b).blk ∧ c.length ≤ (ρ b).sz ∧
    ∃ cs t, w.heap[(ρ b).blk]? = some (.cells cs t (0, 0)) ∧ cs.size = (ρ b).off + (ρ b).sz
  map : ∀ b es, b < H.size → H.blk b = .map es → w0.heap.size ≤ (ρ b).blk ∧ ∃ (rs : List MapEntry) (clk : Nat), w.heap[(ρ b).blk]? = some (.map rs.toArray clk) ∧
    es.length = rs.length ∧ ∀ (i : Nat) (e : AV × AV) (r : MapEntry), es[i]? = some e → rs[i]? = some r → VR H.size ρ e.1 r.key ∧ VR H.size ρ e.2 r.val
  inj : ∀ b b', b < H.size → b' < H.size → b ≠ b' → H.isRw b = true → (H.blk b' = .dead ∨ (ρ b).blk ≠ (ρ b').blk)
  tab : TabOk w0
structure Evol (ρ : Nat → BI) (H : Heap) (w : World) (ρ' : Nat → BI) (H' : Heap) (w' : World) : Prop where
  size : H.size ≤ H'.size
  agree : Agree H.size ρ ρ'
  wsize : w.heap.size ≤ w'.heap.size
  keep : ∀ i, i < w.heap.size → (∀ b, b < H.size → H.isRw b = true → (ρ b).blk ≠ i) → w'.heap[i]? = w.heap[i]?
  img : ∀ b, b < H'.size → H'.isRw b = true → w.heap.size ≤ (ρ' b).blk ∨ ∃ b0, b0 < H.size ∧ H.isRw b0 = true ∧ (ρ b0).blk = (ρ' b).blk
  mono : w.drawn ≤ w'.drawn
theorem Evol.refl (ρ : Nat → BI) (H : Heap) (w : World) : Evol ρ H w ρ H w :=
  ⟨Nat.le_refl _, Agree.refl _ _, Nat.le_refl _, fun _ _ _ => rfl, fun b hb hr => .inr ⟨b, hb, hr, rfl⟩, Nat.le_refl _⟩
theorem Evol.trans {ρ ρ' ρ'' : Nat → BI} {H H' H'' : Heap} {w w' w'' : World} (h : Evol ρ H w ρ' H' w') (k : Evol ρ' H' w' ρ'' H'' w'') : Evol ρ H w ρ'' H'' w'' where
  size := Nat.le_trans h.size k.size
  agree := h.agree.trans k.agree h.size
  wsize := Nat.le_trans h.wsize k.wsize
  mono := Nat.le_trans h.mono k.mono
  keep i hi hn := by
    rw [k.keep i (Nat.lt_of_lt_of_le hi h.wsize) ?_, h.keep i hi hn]
    intro b hb hr e
    rcases h.img b hb hr with h1 | ⟨b0, h0, h1, h2⟩
    · omega
    · exact hn b0 h0 h1 (h2.trans e)
  img b hb hr := by
    rcases k.img b hb hr with h1 | ⟨b0, h0, h1, h2⟩
    · exact .inl (Nat.le_trans h.wsize h1)
    · rcases h.img b0 h0 h1 with h3 | ⟨b1, h3, h4, h5⟩
      · exact .inl (by omega)
      · exact .inr ⟨b1, h3, h4, h5.trans h2⟩
theorem HI.drawn {w0 w : World} {ρ : Nat → BI} {H : Heap} (h : HI w0 ρ H w) (n : Nat) : HI w0 ρ H { w with drawn := n } where
  below := ⟨h.below.os, h.below.tape, h.below.output, h.below.size, h.below.block⟩
  bound := h.bound
  ro := h.ro
  rw := h.rw
  cell := h.cell
  own := h.own
  map := h.map
  inj := h.inj
  tab := h.tab
theorem Evol.drawn (ρ : Nat → BI) (H : Heap) (w : World) (n : Nat) (hn : w.drawn ≤ n := by exact Nat.le_add_right _ _) : Evol ρ H w ρ H { w with drawn := n } :=
  ⟨Nat.le_refl _, Agree.refl _ _, Nat.le_refl _, fun _ _ _ => rfl, fun b hb hr => .inr ⟨b, hb, hr, rfl⟩, hn⟩
theorem HI.get {w0 w : World} {ρ : Nat → BI} {H : Heap} (h : HI w0 ρ H w) {b o : Nat} {x : AV} (hx : H.get b o = some x) :
    ∃ v, w.cell? ⟨(ρ b).blk, (ρ b).off + o, none⟩ = some v ∧ VR H.size ρ x v := by
  have hlt := Heap.get_lt hx
  simp only [Heap.get, Option.bind_eq_some_iff] at hx
  obtain ⟨c, hc, hy⟩ := hx
  obtain ⟨r, hr⟩ := Heap.cellsAt_blk hc
  exact h.cell b c r hlt hr o x hy
end Go.M2

namespace Go.M2
open Go.RowKit (Below)
theorem cell?_of_heap {w w' : World} {a : Addr} (h : w'.heap[a.block]? = w.heap[a.block]?) : w'.cell? a = w.cell? a := by
  unfold World.cell?; rw [h]
theorem HI.isRw_cells {H : Heap} {b : Nat} {c : List AV} {r : Bool} (hb : b < H.size) (h : H.blk b = .cells c r) : H.isRw b = r := by
  unfold Heap.isRw; rw [if_pos hb, h]
theorem HI.isRw_map {H : Heap} {b : Nat} {es} (hb : b < H.size) (h : H.blk b = .map es) : H.isRw b = true := by
  unfold Heap.isRw; rw [if_pos hb, h]
def updB (ρ : Nat → BI) (n : Nat) (x : BI) : Nat → BI := fun b => if b = n then x else ρ b
theorem updB_same (ρ : Nat → BI) (n : Nat) (x : BI) : updB ρ n x n = x := by simp [updB]
theorem updB_agree (ρ : Nat → BI) (n : Nat) (x : BI) : Agree n ρ (updB ρ n x) := fun b hb => by simp [updB, Nat.ne_of_lt hb]
theorem Heap.put_blk_new (H : Heap) (x : Blk) : (H.put x).blk H.size = x := by simp [Heap.put]
theorem Heap.put_blk_old (H : Heap) (x : Blk) {b : Nat} (hb : b < H.size) : (H.put x).blk b = H.blk b := by simp [Heap.put, Nat.ne_of_lt hb]
theorem Heap.put_isRw_old (H : Heap) (x : Blk) {b : Nat} (hb : b < H.size) : (H.put x).isRw b = H.isRw b := by
  unfold Heap.isRw; rw [if_pos hb, if_pos (by show b < H.size + 1; omega), Heap.put_blk_old H x hb]
theorem HI.alloc {w0 w : World} {ρ : Nat → BI} {H : Heap} (h : HI w0 ρ H w) (c : List AV) (cs : Array Value) (t : TypeId)
    (hl : c.length ≤ cs.size) (hc : ∀ (j : Nat) (x : AV) (v : Value), c[j]? = some x → cs[j]? = some v → VR H.size ρ x v) :
    HI w0 (updB ρ H.size ⟨w.heap.size, 0, cs.size, true⟩) (H.alloc c) (w.alloc (.cells cs t)) ∧
    Evol ρ H w (updB ρ H.size ⟨w.heap.size, 0, cs.size, true⟩) (H.alloc c) (w.alloc (.cells cs t)) := by
  have hag := updB_agree ρ H.size ⟨w.heap.size, 0, cs.size, true⟩
  have hold : ∀ i, i < w.heap.size → (w.alloc (.cells cs t)).heap[i]? = w.heap[i]? := fun i hi => Below.heap_alloc _ _ _ hi
  have hnew : (w.alloc (.cells cs t)).heap[w.heap.size]? = some (.cells cs t (0, 0)) := by
    show (w.heap.push _)[w.heap.size]? = _
    simp
  constructor
  · refine ⟨h.below.alloc h.below.size _, ?_, ?_, ?_, ?_, ?_, ?_, ?_, h.tab⟩
    · intro b hb
      by_cases hbn : b = H.size
      · subst hbn; rw [updB_same]; simp
      · have hlt : b < H.size := by have : b < H.size + 1 := hb; omega
        rw [hag b hlt]; have := h.bound b hlt; simp; omega
    · intro b c' hb hblk
      by_cases hbn : b = H.size
      · subst hbn
        rw [Heap.alloc, Heap.put_blk_new] at hblk
        cases hblk
      · have hlt : b < H.size := by have : b < H.size + 1 := hb; omega
        rw [Heap.alloc, Heap.put_blk_old _ _ hlt] at hblk
        rw [hag b hlt]; exact h.ro b c' hlt hblk
    · intro b c' r hb hblk
      by_cases hbn : b = H.size
      · subst hbn
        rw [Heap.alloc, Heap.put_blk_new] at hblk
        cases hblk; simp [updB]
      · have hlt : b < H.size := by have : b < H.size + 1 := hb; omega
        rw [Heap.alloc, Heap.put_blk_old _ _ hlt] at hblk
        rw [hag b hlt]; exact h.rw b c' r hlt hblk
    · intro b c' r hb hblk j x hx
      by_cases hbn : b = H.size
      · subst hbn
        rw [Heap.alloc, Heap.put_blk_new] at hblk
        cases hblk
        have hj : j < c.length := by
          rcases Nat.lt_or_ge j c.length with h | h
          · exact h
          · rw [List.getElem?_eq_none h] at hx; cases hx
        rw [updB_same]
        refine ⟨cs[j], ?_, (hc j x _ hx (Array.getElem?_eq_getElem (by omega))).mono (Nat.le_succ _) hag⟩
        show World.cell? _ ⟨w.heap.size, 0 + j, none⟩ = _
        rw [Nat.zero_add, World.cell?_alloc_new, Array.getElem?_eq_getElem (by omega)]
      · have hlt : b < H.size := by have : b < H.size + 1 := hb; omega
        rw [Heap.alloc, Heap.put_blk_old _ _ hlt] at hblk
        rw [hag b hlt]
        obtain ⟨v, hv, hr⟩ := h.cell b c' r hlt hblk j x hx
        exact ⟨v, (World.cell?_alloc_lt _ _ _ (World.block_lt_of_cell? w _ hv)).trans hv, hr.mono (Nat.le_succ _) hag⟩
    · intro b c' hb hblk
      by_cases hbn : b = H.size
      · subst hbn
        rw [Heap.alloc, Heap.put_blk_new] at hblk
        cases hblk
        rw [updB_same]
        exact ⟨h.below.size, hl, cs, t, hnew, by simp⟩
      · have hlt : b < H.size := by have : b < H.size + 1 := hb; omega
        rw [Heap.alloc, Heap.put_blk_old _ _ hlt] at hblk
        rw [hag b hlt]
        obtain ⟨h1, h2, cs', t', h3, h4⟩ := h.own b c' hlt hblk
        exact ⟨h1, h2, cs', t', (hold _ (Array.getElem?_eq_some_iff.1 h3).1).trans h3, h4⟩
    · intro b es hb hblk
      by_cases hbn : b = H.size
      · subst hbn
        rw [Heap.alloc, Heap.put_blk_new] at hblk
        cases hblk
      · have hlt : b < H.size := by have : b < H.size + 1 := hb; omega
        rw [Heap.alloc, Heap.put_blk_old _ _ hlt] at hblk
        rw [hag b hlt]
        obtain ⟨h1, rs, clk, h3, h4, h5⟩ := h.map b es hlt hblk
        exact ⟨h1, rs, clk, (hold _ (Array.getElem?_eq_some_iff.1 h3).1).trans h3, h4, fun i e r he hr => ⟨(h5 i e r he hr).1.mono (Nat.le_succ _) hag, (h5 i e r he hr).2.mono (Nat.le_succ _) hag⟩⟩
    · intro b b' hb hb' hne hr
      by_cases hbn : b = H.size
      · subst hbn
        have hlt : b' < H.size := by have : b' < H.size + 1 := hb'; omega
        have := h.bound b' hlt
        rw [updB_same, hag b' hlt]
        exact .inr (by show w.heap.size ≠ _; omega)
      · have hlt : b < H.size := by have : b < H.size + 1 := hb; omega
        have hr' : H.isRw b = true := by rw [← Heap.put_isRw_old H (.cells c true) hlt]; exact hr
        have hbd := h.bound b hlt
        by_cases hbn' : b' = H.size
        · subst hbn'
          rw [updB_same, hag b hlt]
          exact .inr (by show _ ≠ w.heap.size; omega)
        · have hlt' : b' < H.size := by have : b' < H.size + 1 := hb'; omega
          rw [hag b hlt, hag b' hlt', Heap.alloc, Heap.put_blk_old _ _ hlt']
          exact h.inj b b' hlt hlt' hne hr'
  · refine ⟨Nat.le_succ _, hag, by simp, fun i hi _ => hold i hi, fun b hb hr => ?_, Nat.le_refl _⟩
    by_cases hbn : b = H.size
    · subst hbn; rw [updB_same]; exact .inl (Nat.le_refl _)
    · have hlt : b < H.size := by have : b < H.size + 1 := hb; omega
      refine .inr ⟨b, hlt, ?_, by rw [hag b hlt]⟩
      rw [← Heap.put_isRw_old H (.cells c true) hlt]; exact hr
theorem heap_setCell_same {w : World} {a : Addr} {cs : Array Value} {t : TypeId} {v : Value} (ha : a.spot = none) (h : w.heap[a.block]? = some (.cells cs t (0, 0))) :
    (w.setCell a v).heap[a.block]? = some (.cells (cs.setIfInBounds a.off v) t (0, 0)) := by
  simp [World.setCell, Array.getElem?_modify, h, ha]
theorem Heap.upd_blk_same (H : Heap) (b : Nat) (x : Blk) : (H.upd b x).blk b = x := by simp [Heap.upd]
theorem Heap.upd_blk_ne (H : Heap) {b b' : Nat} (x : Blk) (h : b' ≠ b) : (H.upd b x).blk b' = H.blk b' := by simp [Heap.upd, h]
theorem Heap.upd_isRw_ne (H : Heap) {b b' : Nat} (x : Blk) (h : b' ≠ b) : (H.upd b x).isRw b' = H.isRw b' := by
  unfold Heap.isRw; rw [Heap.upd_blk_ne H x h]; rfl
theorem HI.write {w0 w : World} {ρ : Nat → BI} {H : Heap} (h : HI w0 ρ H w) {b : Nat} {c : List AV} (hb : b < H.size) (hblk : H.blk b = .cells c true)
    (o : Nat) (ho : o < (ρ b).sz) (c' : List AV) (hl : c'.length ≤ (ρ b).sz) (v : Value)
    (hc : ∀ j y, c'[j]? = some y → j ≠ o → c[j]? = some y) (hx : ∀ y, c'[o]? = some y → VR H.size ρ y v) :
    (∃ u, w.cell? ⟨(ρ b).blk, (ρ b).off + o, none⟩ = some u) ∧ w.frozen? ⟨(ρ b).blk, (ρ b).off + o, none⟩ = false ∧
    HI w0 ρ (H.upd b (.cells c' true)) (w.setCell ⟨(ρ b).blk, (ρ b).off + o, none⟩ v) ∧
    Evol ρ H w ρ (H.upd b (.cells c' true)) (w.setCell ⟨(ρ b).blk, (ρ b).off + o, none⟩ v) := by
  obtain ⟨hB, hlen, cs, t, hheap, hsz⟩ := h.own b c hb hblk
  have hin : (ρ b).off + o < cs.size := by omega
  have hcell : w.cell? ⟨(ρ b).blk, (ρ b).off + o, none⟩ = some cs[(ρ b).off + o] := by
    simp [World.cell?, hheap, hin]
  have hheap' := heap_setCell_same (a := ⟨(ρ b).blk, (ρ b).off + o, none⟩) (v := v) rfl hheap
  have hoth : ∀ i, i ≠ (ρ b).blk → (w.setCell ⟨(ρ b).blk, (ρ b).off + o, none⟩ v).heap[i]? = w.heap[i]? := fun i hi => Below.heap_setCell _ _ _ _ hi
  have hrwb : H.isRw b = true := HI.isRw_cells hb hblk
  have hne : ∀ b', b' < H.size → b' ≠ b → H.blk b' ≠ .dead → (ρ b').blk ≠ (ρ b).blk := by
    intro b' hb' hn hd e
    rcases h.inj b b' hb hb' (fun e => hn e.symm) hrwb with h1 | h1
    · exact hd h1
    · exact h1 e.symm
  refine ⟨⟨_, hcell⟩, ?_, ⟨?_, ?_, ?_, ?_, ?_, ?_, ?_, ?_, h.tab⟩, ⟨Nat.le_refl _, Agree.refl _ _, by simp, ?_, ?_, Nat.le_refl _⟩⟩
  · simp [World.frozen?, hheap]
  · exact h.below.setCell (by simpa using hB) v
  · intro b' hb'; simpa using h.bound b' hb'
  · intro b' c1 hb' hblk'
    by_cases e : b' = b
    · subst e; rw [Heap.upd_blk_same] at hblk'; cases hblk'
    · rw [Heap.upd_blk_ne _ _ e] at hblk'; exact h.ro b' c1 hb' hblk'
  · intro b' c1 r hb' hblk'
    by_cases e : b' = b
    · subst e; rw [Heap.upd_blk_same] at hblk'; cases hblk'; exact h.rw b' c true hb hblk
    · rw [Heap.upd_blk_ne _ _ e] at hblk'; exact h.rw b' c1 r hb' hblk'
  · intro b' c1 r hb' hblk' j y hy
    by_cases e : b' = b
    · subst e; rw [Heap.upd_blk_same] at hblk'; cases hblk'
      by_cases ej : j = o
      · subst ej
        exact ⟨v, World.cell?_setCell_same _ _ _ hcell, hx y hy⟩
      · obtain ⟨u, hu, hr⟩ := h.cell b' c true hb hblk j y (hc j y hy ej)
        refine ⟨u, (World.cell?_setCell_other _ _ _ _ ?_).trans hu, hr⟩
        intro e; injection e with _ e2; omega
    · rw [Heap.upd_blk_ne _ _ e] at hblk'
      obtain ⟨u, hu, hr⟩ := h.cell b' c1 r hb' hblk' j y hy
      refine ⟨u, (World.cell?_setCell_other _ _ _ _ ?_).trans hu, hr⟩
      intro e2; injection e2 with e3 _
      exact hne b' hb' e (by rw [hblk']; simp) e3.symm
  · intro b' c1 hb' hblk'
    by_cases e : b' = b
    · subst e; rw [Heap.upd_blk_same] at hblk'; cases hblk'
      exact ⟨hB, hl, _, t, hheap', by simpa using hsz⟩
    · rw [Heap.upd_blk_ne _ _ e] at hblk'
      obtain ⟨h1, h2, cs', t', h3, h4⟩ := h.own b' c1 hb' hblk'
      exact ⟨h1, h2, cs', t', (hoth _ (hne b' hb' e (by rw [hblk']; simp))).trans h3, h4⟩
  · intro b' es hb' hblk'
    by_cases e : b' = b
    · subst e; rw [Heap.upd_blk_same] at hblk'; cases hblk'
    · rw [Heap.upd_blk_ne _ _ e] at hblk'
      obtain ⟨h1, rs, clk, h3, h4⟩ := h.map b' es hb' hblk'
      exact ⟨h1, rs, clk, (hoth _ (hne b' hb' e (by rw [hblk']; simp))).trans h3, h4⟩
  · intro b1 b2 h1 h2 hn hr
    have hr' : H.isRw b1 = true := by
      by_cases e : b1 = b
      · subst e; exact hrwb
      · rw [Heap.upd_isRw_ne _ _ e] at hr; exact hr
    rcases h.inj b1 b2 h1 h2 hn hr' with h3 | h3
    · by_cases e : b2 = b
      · subst e; rw [hblk] at h3; cases h3
      · exact .inl ((Heap.upd_blk_ne _ _ e).trans h3)
    · exact .inr h3
  · intro i hi hn
    exact hoth i (fun e => hn b hb hrwb e.symm)
  · intro b' hb' hr
    refine .inr ⟨b', hb', ?_, rfl⟩
    by_cases e : b' = b
    · subst e; exact hrwb
    · rw [Heap.upd_isRw_ne _ _ e] at hr; exact hr
theorem HI.set {w0 w : World} {ρ : Nat → BI} {H : Heap} (h : HI w0 ρ H w) {b o : Nat} {x : AV} (hb : H.isRw b = true) (hx0 : H.get b o = some x) (y : AV) (v : Value) (hv : VR H.size ρ y v) :
    (∃ u, w.cell? ⟨(ρ b).blk, (ρ b).off + o, none⟩ = some u) ∧ w.frozen? ⟨(ρ b).blk, (ρ b).off + o, none⟩ = false ∧
    HI w0 ρ (H.set b o y) (w.setCell ⟨(ρ b).blk, (ρ b).off + o, none⟩ v) ∧ Evol ρ H w ρ (H.set b o y) (w.setCell ⟨(ρ b).blk, (ρ b).off + o, none⟩ v) := by
  have hlt := Heap.get_lt hx0
  simp only [Heap.get, Option.bind_eq_some_iff] at hx0
  obtain ⟨c, hc, hy⟩ := hx0
  obtain ⟨r, hr⟩ := Heap.cellsAt_blk hc
  have : r = true := by rw [HI.isRw_cells hlt hr] at hb; exact hb
  subst this
  have ho : o < c.length := by
    rcases Nat.lt_or_ge o c.length with h | h
    · exact h
    · rw [List.getElem?_eq_none h] at hy; cases hy
  have hlen := (h.own b c hlt hr).2.1
  have e : H.set b o y = H.upd b (.cells (c.set o y) true) := by unfold Heap.set; rw [hr]
  rw [e]
  refine h.write hlt hr o (by omega) (c.set o y) (by simpa using hlen) v (fun j z hz hj => ?_) (fun z hz => ?_)
  · rw [List.getElem?_set_ne (by omega)] at hz; exact hz
  · rw [List.getElem?_set_self (by omega)] at hz; cases hz; exact hv
theorem HI.kill {w0 w : World} {ρ : Nat → BI} {H : Heap} (h : HI w0 ρ H w) (b : Nat) : HI w0 ρ (H.kill b) w := by
  have key : ∀ b' c r, (H.kill b).blk b' = .cells c r → H.blk b' = .cells c r := by
    intro b' c r e
    by_cases eb : b' = b
    · subst eb; rw [Heap.kill, Heap.upd_blk_same] at e; cases e
    · rwa [Heap.kill, Heap.upd_blk_ne _ _ eb] at e
  have keym : ∀ b' es, (H.kill b).blk b' = .map es → H.blk b' = .map es := by
    intro b' es e
    by_cases eb : b' = b
    · subst eb; rw [Heap.kill, Heap.upd_blk_same] at e; cases e
    · rwa [Heap.kill, Heap.upd_blk_ne _ _ eb] at e
  refine ⟨h.below, h.bound, fun b' c hb e => h.ro b' c hb (key _ _ _ e), fun b' c r hb e => h.rw b' c r hb (key _ _ _ e), fun b' c r hb e => h.cell b' c r hb (key _ _ _ e), fun b' c hb e => h.own b' c hb (key _ _ _ e), fun b' es hb e => h.map b' es hb (keym _ _ e), ?_, h.tab⟩
  intro b1 b2 h1 h2 hn hr
  by_cases e2 : b2 = b
  · subst e2; exact .inl (Heap.upd_blk_same _ _ _)
  · by_cases e1 : b1 = b
    · subst e1; unfold Heap.isRw at hr; rw [if_pos h1, Heap.kill, Heap.upd_blk_same] at hr; cases hr
    · rw [Heap.kill, Heap.upd_isRw_ne _ _ e1] at hr
      rcases h.inj b1 b2 h1 h2 hn hr with h3 | h3
      · exact .inl ((Heap.upd_blk_ne _ _ e2).trans h3)
      · exact .inr h3
theorem Evol.kill (ρ : Nat → BI) (H : Heap) (w : World) (b : Nat) : Evol ρ H w ρ (H.kill b) w :=
  ⟨Nat.le_refl _, Agree.refl _ _, Nat.le_refl _, fun _ _ _ => rfl, fun b' hb' hr => .inr ⟨b', hb', by
    by_cases e : b' = b
    · subst e; unfold Heap.isRw at hr; rw [if_pos hb', Heap.kill, Heap.upd_blk_same] at hr; cases hr
    · rwa [Heap.kill, Heap.upd_isRw_ne _ _ e] at hr, rfl⟩, Nat.le_refl _⟩
theorem HI.alias {w0 w : World} {ρ : Nat → BI} {H : Heap} (h : HI w0 ρ H w) {b : Nat} {c : List AV} (hb : b < H.size) (hblk : H.blk b = .cells c true)
    (o : Nat) (c1 : List AV) (ho : o ≤ (ρ b).sz) (hl : o + c1.length ≤ (ρ b).sz) (hc : ∀ j y, c1[j]? = some y → c[o + j]? = some y) :
    HI w0 (updB ρ H.size ⟨(ρ b).blk, (ρ b).off + o, (ρ b).sz - o, true⟩) ((H.kill b).alloc c1) w ∧
    Evol ρ H w (updB ρ H.size ⟨(ρ b).blk, (ρ b).off + o, (ρ b).sz - o, true⟩) ((H.kill b).alloc c1) w := by
  have hag := updB_agree ρ H.size ⟨(ρ b).blk, (ρ b).off + o, (ρ b).sz - o, true⟩
  have hs : (H.kill b).size = H.size := rfl
  obtain ⟨hB, hlen, cs, t, hheap, hsz⟩ := h.own b c hb hblk
  have hrwb : H.isRw b = true := HI.isRw_cells hb hblk
  have hk := h.kill b
  have hold : ∀ b', b' < H.size → ((H.kill b).alloc c1).blk b' = (H.kill b).blk b' := fun b' hb' => Heap.put_blk_old _ _ hb'
  have hnew : ((H.kill b).alloc c1).blk H.size = .cells c1 true := Heap.put_blk_new (H.kill b) _
  have split : ∀ b', b' < ((H.kill b).alloc c1).size → b' = H.size ∨ b' < H.size := by
    intro b' hb'; have : b' < H.size + 1 := hb'; omega
  refine ⟨⟨h.below, ?_, ?_, ?_, ?_, ?_, ?_, ?_, h.tab⟩, ⟨Nat.le_succ _, hag, Nat.le_refl _, fun _ _ _ => rfl, ?_, Nat.le_refl _⟩⟩
  · intro b' hb'
    rcases split b' hb' with e | hlt
    · subst e; rw [updB_same]; exact h.bound b hb
    · rw [hag b' hlt]; exact h.bound b' hlt
  · intro b' c' hb' e
    rcases split b' hb' with e1 | hlt
    · subst e1; rw [hnew] at e; cases e
    · rw [hold b' hlt] at e; rw [hag b' hlt]; exact hk.ro b' c' hlt e
  · intro b' c' r hb' e
    rcases split b' hb' with e1 | hlt
    · subst e1; rw [hnew] at e; cases e; rw [updB_same]
    · rw [hold b' hlt] at e; rw [hag b' hlt]; exact hk.rw b' c' r hlt e
  · intro b' c' r hb' e j y hy
    rcases split b' hb' with e1 | hlt
    · subst e1; rw [hnew] at e; cases e; rw [updB_same]
      obtain ⟨v, hv, hr⟩ := h.cell b c true hb hblk (o + j) y (hc j y hy)
      exact ⟨v, by rw [Nat.add_assoc]; exact hv, hr.mono (Nat.le_succ _) hag⟩
    · rw [hold b' hlt] at e; rw [hag b' hlt]
      obtain ⟨v, hv, hr⟩ := hk.cell b' c' r hlt e j y hy
      exact ⟨v, hv, hr.mono (Nat.le_succ _) hag⟩
  · intro b' c' hb' e
    rcases split b' hb' with e1 | hlt
    · subst e1; rw [hnew] at e; cases e; rw [updB_same]
      exact ⟨hB, by show c1.length ≤ (ρ b).sz - o; omega, cs, t, hheap, by show cs.size = (ρ b).off + o + ((ρ b).sz - o); omega⟩
    · rw [hold b' hlt] at e; rw [hag b' hlt]; exact hk.own b' c' hlt e
  · intro b' es hb' e
    rcases split b' hb' with e1 | hlt
    · subst e1; rw [hnew] at e; cases e
    · rw [hold b' hlt] at e; rw [hag b' hlt]
      obtain ⟨h1, rs, clk, h3, h4, h5⟩ := hk.map b' es hlt e
      exact ⟨h1, rs, clk, h3, h4, fun i e r he hr => ⟨(h5 i e r he hr).1.mono (Nat.le_succ _) hag, (h5 i e r he hr).2.mono (Nat.le_succ _) hag⟩⟩
  · intro b1 b2 h1 h2 hn hr
    rcases split b1 h1 with e1 | hlt1
    · subst e1
      rcases split b2 h2 with e2 | hlt2
      · exact absurd e2.symm hn
      · rw [updB_same, hag b2 hlt2, hold b2 hlt2]
        by_cases e : b2 = b
        · subst e; exact .inl (Heap.upd_blk_same _ _ _)
        · rcases h.inj b b2 hb hlt2 (fun x => e x.symm) hrwb with h3 | h3
          · exact .inl ((Heap.upd_blk_ne _ _ e).trans h3)
          · exact .inr h3
    · have hr' : (H.kill b).isRw b1 = true := by rw [← Heap.put_isRw_old (H.kill b) (.cells c1 true) hlt1]; exact hr
      rcases split b2 h2 with e2 | hlt2
      · subst e2
        rw [updB_same, hag b1 hlt1]
        have e : b1 ≠ b := by
          intro e; subst e; unfold Heap.isRw at hr'; rw [hs, if_pos hlt1, Heap.kill, Heap.upd_blk_same] at hr'; cases hr'
        have hr2 : H.isRw b1 = true := by rwa [Heap.kill, Heap.upd_isRw_ne _ _ e] at hr'
        rcases h.inj b1 b hlt1 hb e hr2 with h3 | h3
        · rw [hblk] at h3; cases h3
        · exact .inr h3
      · rw [hag b1 hlt1, hag b2 hlt2, hold b2 hlt2]; exact hk.inj b1 b2 hlt1 hlt2 hn hr'
  · intro b' hb' hr
    rcases split b' hb' with e1 | hlt
    · subst e1; rw [updB_same]; exact .inr ⟨b, hb, hrwb, rfl⟩
    · have hr' : (H.kill b).isRw b' = true := by rw [← Heap.put_isRw_old (H.kill b) (.cells c1 true) hlt]; exact hr
      rw [hag b' hlt]
      rcases (Evol.kill ρ H w b).img b' hlt hr' with h3 | h3
      · exact .inl h3
      · exact .inr h3
theorem HI.grow {w0 w : World} {ρ : Nat → BI} {H : Heap} (h : HI w0 ρ H w) (o : Obj) : HI w0 ρ H (w.alloc o) := by
  have hold : ∀ i, i < w.heap.size → (w.alloc o).heap[i]? = w.heap[i]? := fun i hi => Below.heap_alloc _ _ _ hi
  refine ⟨h.below.alloc h.below.size _, fun b hb => by have := h.bound b hb; simp; omega, h.ro, h.rw, ?_, ?_, ?_, h.inj, h.tab⟩
  · intro b c r hb e j x hx
    obtain ⟨v, hv, hr⟩ := h.cell b c r hb e j x hx
    exact ⟨v, (World.cell?_alloc_lt _ _ _ (World.block_lt_of_cell? w _ hv)).trans hv, hr⟩
  · intro b c hb e
    obtain ⟨h1, h2, cs, t, h3, h4⟩ := h.own b c hb e
    exact ⟨h1, h2, cs, t, (hold _ (Array.getElem?_eq_some_iff.1 h3).1).trans h3, h4⟩
  · intro b es hb e
    obtain ⟨h1, rs, clk, h3, h4⟩ := h.map b es hb e
    exact ⟨h1, rs, clk, (hold _ (Array.getElem?_eq_some_iff.1 h3).1).trans h3, h4⟩
theorem Evol.grow (ρ : Nat → BI) (H : Heap) (w : World) (o : Obj) : Evol ρ H w ρ H (w.alloc o) :=
  ⟨Nat.le_refl _, Agree.refl _ _, by simp, fun i hi _ => Below.heap_alloc _ _ _ hi, fun b hb hr => .inr ⟨b, hb, hr, rfl⟩, Nat.le_refl _⟩
theorem HI.adopt {w0 w : World} {ρ : Nat → BI} {H : Heap} (h : HI w0 ρ H w) (c : List AV) (n : Nat) (cs : Array Value) (t : TypeId) (h0 : w0.heap.size ≤ n) (hn : w.heap[n]? = some (.cells cs t (0, 0)))
    (hl : c.length ≤ cs.size) (hc : ∀ (j : Nat) (x : AV) (v : Value), c[j]? = some x → cs[j]? = some v → VR H.size ρ x v) (hf : ∀ b, b < H.size → H.isRw b = true → (ρ b).blk ≠ n) :
    HI w0 (updB ρ H.size ⟨n, 0, cs.size, true⟩) (H.alloc c) w ∧ Agree H.size ρ (updB ρ H.size ⟨n, 0, cs.size, true⟩) := by
  have hag := updB_agree ρ H.size ⟨n, 0, cs.size, true⟩
  have hnlt : n < w.heap.size := (Array.getElem?_eq_some_iff.1 hn).1
  have hold : ∀ b', b' < H.size → (H.alloc c).blk b' = H.blk b' := fun b' hb' => Heap.put_blk_old _ _ hb'
  have hnew : (H.alloc c).blk H.size = .cells c true := Heap.put_blk_new H _
  have split : ∀ b', b' < (H.alloc c).size → b' = H.size ∨ b' < H.size := by
    intro b' hb'; have : b' < H.size + 1 := hb'; omega
  have hfree : ∀ b', b' < H.size → H.blk b' = .dead ∨ (ρ b').blk ≠ n := by
    intro b' hb'
    cases hbb : H.blk b' with
    | dead => exact .inl rfl
    | map es => exact .inr (hf b' hb' (HI.isRw_map hb' hbb))
    | cells c' r =>
      cases r with
      | true => exact .inr (hf b' hb' (HI.isRw_cells hb' hbb))
      | false => have := h.ro b' c' hb' hbb; exact .inr (by omega)
  refine ⟨⟨h.below, ?_, ?_, ?_, ?_, ?_, ?_, ?_, h.tab⟩, hag⟩
  · intro b' hb'
    rcases split b' hb' with e | hlt
    · subst e; rw [updB_same]; exact hnlt
    · rw [hag b' hlt]; exact h.bound b' hlt
  · intro b' c' hb' e
    rcases split b' hb' with e1 | hlt
    · subst e1; rw [hnew] at e; cases e
    · rw [hold b' hlt] at e; rw [hag b' hlt]; exact h.ro b' c' hlt e
  · intro b' c' r hb' e
    rcases split b' hb' with e1 | hlt
    · subst e1; rw [hnew] at e; cases e; rw [updB_same]
    · rw [hold b' hlt] at e; rw [hag b' hlt]; exact h.rw b' c' r hlt e
  · intro b' c' r hb' e j y hy
    rcases split b' hb' with e1 | hlt
    · subst e1; rw [hnew] at e; cases e; rw [updB_same]
      have hj : j < c.length := by
        rcases Nat.lt_or_ge j c.length with h | h
        · exact h
        · rw [List.getElem?_eq_none h] at hy; cases hy
      have hv : cs[j]? = some cs[j] := Array.getElem?_eq_getElem (by omega)
      exact ⟨cs[j], by simp [World.cell?, hn, show j < cs.size by omega], (hc j y _ hy hv).mono (Nat.le_succ _) hag⟩
    · rw [hold b' hlt] at e; rw [hag b' hlt]
      obtain ⟨v, hv, hr⟩ := h.cell b' c' r hlt e j y hy
      exact ⟨v, hv, hr.mono (Nat.le_succ _) hag⟩
  · intro b' c' hb' e
    rcases split b' hb' with e1 | hlt
    · subst e1; rw [hnew] at e; cases e; rw [updB_same]
      exact ⟨h0, hl, cs, t, hn, by simp⟩
    · rw [hold b' hlt] at e; rw [hag b' hlt]; exact h.own b' c' hlt e
  · intro b' es hb' e
    rcases split b' hb' with e1 | hlt
    · subst e1; rw [hnew] at e; cases e
    · rw [hold b' hlt] at e; rw [hag b' hlt]
      obtain ⟨h1, rs, clk, h3, h4, h5⟩ := h.map b' es hlt e
      exact ⟨h1, rs, clk, h3, h4, fun i e r he hr => ⟨(h5 i e r he hr).1.mono (Nat.le_succ _) hag, (h5 i e r he hr).2.mono (Nat.le_succ _) hag⟩⟩
  · intro b1 b2 h1 h2 hne hr
    rcases split b1 h1 with e1 | hlt1
    · subst e1
      rcases split b2 h2 with e2 | hlt2
      · exact absurd e2.symm hne
      · rw [updB_same, hag b2 hlt2, hold b2 hlt2]
        rcases hfree b2 hlt2 with h3 | h3
        · exact .inl h3
        · exact .inr fun e => h3 e.symm
    · have hr' : H.isRw b1 = true := by rw [← Heap.put_isRw_old H (.cells c true) hlt1]; exact hr
      rcases split b2 h2 with e2 | hlt2
      · subst e2; rw [updB_same, hag b1 hlt1]; exact .inr (hf b1 hlt1 hr')
      · rw [hag b1 hlt1, hag b2 hlt2, hold b2 hlt2]; exact h.inj b1 b2 hlt1 hlt2 hne hr'
end Go.M2

namespace Go.M2
abbrev Env := Nat → AV
def upd (e : Env) (d : Nat) (v : AV) : Env := fun n => if n = d then v else e n
def putE (e : Env) : Option Nat → AV → Env
  | none, _ => e
  | some d, v => upd e d v
inductive X where
  | t (n : Nat)
  | c (v : AV)
def X.ev (e : Env) : X → AV
  | .t n => e n
  | .c v => v
def X.tmps : X → List Nat
  | .t n => [n]
  | .c _ => []
inductive NK where
  | sl
  | ptr
  | map
  | fn
inductive KT where
  | i
  | s
  | l (n : Nat)
inductive IOp where
  | mv (x : X)
  | pick (c a b : X)
  | bin (op : BinOp) (x y : X)
  | beq (neg : Bool) (x y : X)
  | eqn (neg : Bool) (k : NK) (x : X)
  | eqs (kt : KT) (neg : Bool) (x y : X)
  | un (op : UnOp) (x : X)
  | nilck (x : X)
  | faddr (x : X) (off : Nat)
  | fld (x : X) (off n : Nat) (ag : Bool)
  | iaddr (x i : X) (sz : Nat)
  | aaddr (x i : X) (len sz : Nat)
  | sidx (x i : X)
  | aidx (x i : X) (len sz : Nat) (ag : Bool)
  | ext (x : X) (i : Nat)
  | len (x : X)
  | slen (x : X)
  | cap (x : X)
  | mnx (mx : Bool) (x y : X)
  | slc (sz : Nat) (x : X) (lo hi mx : Option X)
  | sslc (x : X) (lo hi : Option X)
  | mkfn (f : Nat) (caps : List X)
  | bld (z : List AV) (parts : List (Nat × Nat × X))
  | cvi (k : IntKind) (x : X)
  | load (x : X) (n : Nat) (ag : Bool)
  | alloc (z : List AV)
  | box (x : X)
  | bslc (sz len : Nat) (z : List AV) (parts : List (Nat × X))
  | mks (z : List AV) (by_ : Nat) (l : X)
  | mkc (z : List AV) (by_ : Nat) (l c : X)
  | ovl (x y : X)
  | slcd (sz : Nat) (x : X)
  | bslo (sz len : Nat) (z : List AV) (parts : List (Nat × X))
  | bad
  | store (x : X) (n : Nat) (v : X)
  | app (sz by_ : Nat) (s x : X)
  | appz (z : List AV) (by_ : Nat) (s l : X)
  | copy (sz : Nat) (d s : X)
  | clear (z : List AV) (x : X)
  | mkmap
  | lookup (kt : KT) (z : AV) (ok : Bool) (x k : X)
  | mapset (kt : KT) (x k v : X)
  | mlen (x : X)
  | call (f : Nat) (args : List X)
  | callv (x : X) (args : List X)
structure GOp where
  dst : Option Nat
  op : IOp
  g : Option (Nat × Bool)
inductive IR where
  | skip
  | ops (l : List GOp)
  | dops (l : List GOp) (s : List (Nat × List Nat))
  | kops (l : List (GOp × Option (List Nat)))
  | kd (l : List GOp) (s : List (Nat × List Nat)) (k : List Nat)
  | seq (a b : IR)
  | cond (c : X) (a b : IR)
  | block (id : Nat) (a : IR)
  | loop (a : IR)
  | exit (id : Nat)
  | ret
inductive RV where
  | t (n : Nat)
  | c (a n : Nat) (ag : Bool)
structure IFn where
  nparams : Nat
  ntmps : Nat
  res : List RV
  body : IR
def av1 : Value → Option AV
  | .bool b => some (.bool b)
  | .int k n => some (.int k n)
  | .string s => some (.str s)
  | .pointer none => some (.ptr none)
  | .slice none 0 0 => some (.sl none 0 0 true 0)
  | .map none => some (.map none)
  | .nilFunc => some .nilFn
  | _ => none
def avs (l : List Value) : Option (List AV) := match l with
  | [] => some []
  | v :: t => match av1 v, avs t with
    | some x, some y => some (x :: y)
    | _, _ => none
def avOf : Value → Option AV
  | .agg a => (avs a.toList).map .agg
  | v => av1 v
def cX : Operand → Option X
  | .tmp t => some (.t t)
  | .const v => (avOf v).map .c
  | .func f => some (.c (.fn f []))
  | .global _ => none
def cXs (l : List Operand) : Option (List X) := match l with
  | [] => some []
  | v :: t => match cX v, cXs t with
    | some x, some y => some (x :: y)
    | _, _ => none
def cXo : Option Operand → Option (Option X)
  | none => some none
  | some x => (cX x).map some
def szOf (P : Program) (t : TypeId) : Option Nat := (P.info? t).map (·.size)
def byOf (P : Program) (t : TypeId) : Option Nat := (P.info? t).map (·.bytes)
def zeroOf (P : Program) (t : TypeId) : Option (List AV) := match P.info? t with
  | some i => match i.zero with
    | some v => avs v.cells.toList
    | none => none
  | none => none
def agOf (P : Program) (t : TypeId) : Option Bool := match P.underlying t with
  | some (.struct _) | some (.array _ _) => some true
  | some _ => some false
  | none => none
def nilKind : Operand → Option TypeDesc → Option NK
  | .const (.slice none 0 0), some (.slice _) => some .sl
  | .const (.pointer none), some (.pointer _) => some .ptr
  | .const (.map none), some (.map _ _) => some .map
  | .const .nilFunc, some (.func _ _ _) => some .fn
  | _, _ => none
def placesOf (P : Program) (fs : Array Field) : Option (List (Nat × Nat)) := fs.toList.mapM fun f => (P.info? f.type).map fun i => (f.offset, i.size)
def cPartsS (P : Program) (fs : Array Field) : List (Nat × Operand) → Option (List (Nat × Nat × X))
  | [] => some []
  | (i, x) :: t => match fs[i]?, cX x, cPartsS P fs t with
    | some f, some y, some r => match szOf P f.type with
      | some n => some ((f.offset, n, y) :: r)
      | none => none
    | _, _, _ => none
def cPartsL : List (Nat × Operand) → Option (List (Nat × X))
  | [] => some []
  | (i, x) :: t => match cX x, cPartsL t with
    | some y, some r => some ((i, y) :: r)
    | _, _ => none
def intT (P : Program) (t : TypeId) : Bool := match P.underlying t with
  | some (.int .i64) => true
  | _ => false
def fieldsI (P : Program) : Nat → List Field → Bool
  | _, [] => true
  | i, f :: t => decide (f.name ≠ "_") && intT P f.type && f.offset == i && fieldsI P (i + 1) t
def ktOf (P : Program) (t : TypeId) : Option KT := match P.underlying t with
  | some (.int .i64) => some .i
  | some .string => some .s
  | some (.struct fs) => if fieldsI P 0 fs.toList && !P.stoodInHeld t then some (.l fs.size) else none
  | some (.array n e) => if intT P e && szOf P e == some 1 then some (.l n) else none
  | _ => none
def zero1 (P : Program) (t : TypeId) : Option AV := match P.info? t with
  | some i => match i.zero with
    | some v => av1 v
    | none => none
  | none => none
def cBuiltin (P : Program) (b : Builtin) (args : List Operand) (ts : List TypeId) : Option IOp :=
  match b, args, ts with
  | .len, [x], [t] => match P.underlying t, cX x with
    | some (.slice _), some y => some (.len y)
    | some .string, some y => some (.slen y)
    | some (.map _ _), some y => some (.mlen y)
    | _, _ => none
  | .cap, [x], [t] => match P.underlying t, cX x with
    | some (.slice _), some y => some (.cap y)
    | _, _ => none
  | .max, [x, y], _ => match cX x, cX y with
    | some x, some y => some (.mnx true x y)
    | _, _ => none
  | .min, [x, y], _ => match cX x, cX y with
    | some x, some y => some (.mnx false x y)
    | _, _ => none
  | .append, [s, x], [t, u] => match P.underlying t, cX s, cX x, P.underlying u with
    | some (.slice e), some s, some x, some (.slice _) => match szOf P e, byOf P e, zeroOf P e with
      | some n, some by_, some z => if z.length = n ∧ 0 < n then some (.app n by_ s x) else none
      | _, _, _ => none
    | some (.slice e), some s, some x, some (.int _) => match zeroOf P e, byOf P e, szOf P e with
      | some z, some by_, some n => if z.length = n ∧ 0 < n then some (.appz z by_ s x) else none
      | _, _, _ => none
    | _, _, _, _ => none
  | .copy, [d, s], [t, u] => match P.underlying t, cX d, cX s, P.underlying u with
    | some (.slice e), some d, some s, some (.slice _) => (szOf P e).map fun n => .copy n d s
    | _, _, _, _ => none
  | .clear, [x], [t] => match P.underlying t, cX x with
    | some (.slice e), some x => match zeroOf P e, szOf P e with
      | some z, some n => if z.length = n then some (.clear z x) else none
      | _, _ => none
    | _, _ => none
  | _, _, _ => none
def sameX : X → X → Bool
  | .t a, .t b => a == b
  | .c (.int .i64 a), .c (.int .i64 b) => a == b
  | _, _ => false
def dropK (lo hi mx : Option X) : Bool := match lo, hi, mx with
  | some (.c (.int .i64 1)), none, none => true
  | _, _, _ => false
theorem dropK_iff {lo hi mx : Option X} (h : dropK lo hi mx = true) : lo = some (.c (.int .i64 1)) ∧ hi = none ∧ mx = none := by
  unfold dropK at h
  split at h
  · exact ⟨rfl, rfl, rfl⟩
  · cases h
def ovlOf (P : Program) (f : FuncId) : Bool := match P.funcs[f]? with
  | some fn => fn.body.isNone && fn.name == "slices.overlaps[[]int]" && fn.origin == "slices.overlaps" && (match fn.params.toList, fn.resultTypes.toList with
    | [t, u], [_] => t == u && (match P.underlying t with
      | some (.slice e) => (szOf P e).isSome
      | _ => false)
    | _, _ => false)
  | none => false
def cOp (P : Program) : Op → Option IOp
  | .move x | .assign x => (cX x).map .mv
  | .pick c a b => match cX c, cX a, cX b with
    | some c, some a, some b => some (.pick c a b)
    | _, _, _ => none
  | .alloc t => (zeroOf P t).map .alloc
  | .box _ x => (cX x).map .box
  | .build t parts => match P.underlying t, zeroOf P t with
    | some (.struct fs), some z => if (placesOf P fs).isSome then (cPartsS P fs parts.toList).map (.bld z) else none
    | _, _ => none
  | .buildSlice t len parts => match P.underlying t with
    | some (.slice e) => match szOf P e, zeroOf P e, cPartsL parts.toList with
      | some n, some z, some ps => if len * n ≤ 65536 ∧ z.length = n ∧ 0 < n then some (.bslc n len z ps) else none
      | _, _, _ => none
    | _ => none
  | .load t x => match szOf P t, agOf P t, cX x with
    | some n, some ag, some y => if ag || n == 1 then some (.load y n ag) else none
    | _, _, _ => none
  | .store t x v => match szOf P t, cX x, cX v with
    | some n, some x, some v => some (.store x n v)
    | _, _, _ => none
  | .nilCheck x => (cX x).map .nilck
  | .binOp op t x y _ => match nilKind y (P.underlying t) with
    | some k => match op, cX x with
      | .eql, some x => some (.eqn false k x)
      | .neq, some x => some (.eqn true k x)
      | _, _ => none
    | none => match P.underlying t, cX x, cX y with
      | some .bool, some x, some y => match op with
        | .eql => some (.beq false x y)
        | .neq => some (.beq true x y)
        | _ => none
      | some (.int _), some x, some y => some (.bin op x y)
      | some .string, some x, some y => some (.bin op x y)
      | _, some x, some y => match ktOf P t with
        | some (.l n) => if P.eqGuardType P.depth t then none else match op with
          | .eql => some (.eqs (.l n) false x y)
          | .neq => some (.eqs (.l n) true x y)
          | _ => none
        | _ => none
      | _, _, _ => none
  | .unOp op _ x => (cX x).map (.un op)
  | .convert s d x => match P.underlying s, P.underlying d, cX x with
    | some (.int _), some (.int k), some x => some (.cvi k x)
    | _, _, _ => none
  | .makeFunc fn first caps => match fn with
    | .func f => if first.size = 0 then (cXs caps.toList).map (.mkfn f) else none
    | _ => none
  | .makeSlice t l c => match P.underlying t, cX l, cX c with
    | some (.slice e), some x, some y => match zeroOf P e, byOf P e, szOf P e with
      | some z, some by_, some n => if z.length = n ∧ 0 < n then (if sameX x y = true then some (.mks z by_ x) else some (.mkc z by_ x y)) else none
      | _, _, _ => none
    | _, _, _ => none
  | .slice t x lo hi mx => match P.underlying t, cX x, cXo lo, cXo hi, cXo mx with
    | some (.slice e), some x, some lo, some hi, some mx => (szOf P e).map fun n => if dropK lo hi mx = true then .slcd n x else .slc n x lo hi mx
    | some .string, some x, some lo, some hi, some none => some (.sslc x lo hi)
    | _, _, _, _, _ => none
  | .fieldAddr t x f => match P.underlying t, cX x with
    | some (.struct fs), some x => match fs[f]? with
      | some f => match szOf P f.type with
        | some n => if n = 0 then none else some (.faddr x f.offset)
        | none => none
      | none => none
    | _, _ => none
  | .field t x f => match P.underlying t, cX x with
    | some (.struct fs), some x => match fs[f]? with
      | some f => match szOf P f.type, agOf P f.type with
        | some n, some ag => some (.fld x f.offset n ag)
        | _, _ => none
      | none => none
    | _, _ => none
  | .indexAddr t x i => match P.underlying t, cX x, cX i with
    | some (.slice e), some x, some i => (szOf P e).map fun n => .iaddr x i n
    | some (.array len e), some x, some i => (szOf P e).map fun n => .aaddr x i len n
    | _, _, _ => none
  | .index t x i => match P.underlying t, cX x, cX i with
    | some .string, some x, some i => some (.sidx x i)
    | some (.array len e), some x, some i => match szOf P e, agOf P e with
      | some n, some ag => some (.aidx x i len n ag)
      | _, _ => none
    | _, _, _ => none
  | .extract x i => (cX x).map fun x => .ext x i
  | .call { callee := .value (.func f), args, .. } => if ovlOf P f then (match args.toList with
    | [x, y] => match cX x, cX y with
      | some x, some y => some (.ovl x y)
      | _, _ => none
    | _ => none) else (cXs args.toList).map (.call f)
  | .call { callee := .value x, args, .. } => match cX x, cXs args.toList with
    | some x, some a => some (.callv x a)
    | _, _ => none
  | .call { callee := .builtin b, args, argTypes } => cBuiltin P b args.toList argTypes.toList
  | .makeMap t r => match r, P.underlying t with
    | none, some (.map _ _) => some .mkmap
    | _, _ => none
  | .lookup t x k ok => match P.underlying t, cX x, cX k with
    | some (.map kt et), some x, some k => match ktOf P kt, zero1 P et with
      | some q, some z => some (.lookup q z ok x k)
      | _, _ => none
    | _, _, _ => none
  | .mapUpdate t x k v => match P.underlying t, cX x, cX k, cX v with
    | some (.map kt _), some x, some k, some v => (ktOf P kt).map fun q => .mapset q x k v
    | _, _, _, _ => none
  | .makeInterface _ _ => some .bad
  | .panic _ => some .bad
  | _ => none
def ordI : IOp → IOp
  | .bslc a b z p => .bslo a b z p
  | q => q
def isLit : Op → Bool
  | .buildSlice .. => true
  | _ => false
def nest (ops : Array Oper) : IOp → Bool
  | .bslc _ _ _ p => p.any fun y => match y.2 with
    | .t t => ops.toList.any fun o => o.dst == some t && isLit o.op
    | _ => false
  | _ => false
def cOpG (P : Program) (ops : Array Oper) (o : Oper) : Option IOp := (cOp P o.op).map fun q => if (o.guard.isSome || nest ops q) = true then ordI q else q
def cGuard (ops : Array Oper) : Option (Nat × Bool) → Option (Option (Nat × Bool))
  | none => some none
  | some (j, want) => match (ops[j]?).bind (·.dst) with
    | some t => some (some (t, want))
    | none => none
def dstOk (nt : Nat) : Option Nat → Bool
  | none => true
  | some d => decide (d < nt)
def cG (P : Program) (nt : Nat) (ops : Array Oper) (o : Oper) : Option GOp :=
  match cOpG P ops o, cGuard ops o.guard, dstOk nt o.dst with
  | some p, some g, true => some ⟨o.dst, p, g⟩
  | _, _, _ => none
def cGs (P : Program) (nt : Nat) (ops : Array Oper) : List Oper → Option (List GOp)
  | [] => some []
  | o :: t => match cG P nt ops o, cGs P nt ops t with
    | some g, some r => some (g :: r)
    | _, _ => none
def IOp.quiet : IOp → Bool
  | .alloc _ | .box _ | .bslc .. | .mks .. | .mkc .. | .ovl .. | .slcd .. | .bslo .. | .bad | .store .. | .app .. | .appz .. | .copy .. | .clear .. | .mkmap | .mapset .. | .call .. | .callv .. => false
  | _ => true
def IOp.reads : IOp → Bool
  | .load .. | .lookup .. | .mlen .. => true
  | _ => false
def IOp.isAlloc : IOp → Bool
  | .alloc _ | .bslc .. | .mks .. => true
  | _ => false
def IOp.needs : IOp → Bool
  | .bslc .. | .mks .. => true
  | _ => false
def xsT (l : List X) : List Nat := l.flatMap X.tmps
def xoT : Option X → List Nat
  | none => []
  | some x => x.tmps
def IOp.tmps : IOp → List Nat
  | .mv x | .eqn _ _ x | .un _ x | .nilck x | .faddr x _ | .fld x .. | .ext x _ | .len x | .slen x | .cap x | .cvi _ x | .load x .. | .box x | .clear _ x | .mlen x => x.tmps
  | .pick a b c => a.tmps ++ b.tmps ++ c.tmps
  | .bin _ x y | .beq _ x y | .eqs _ _ x y | .iaddr x y _ | .aaddr x y .. | .sidx x y | .aidx x y .. | .mnx _ x y | .store x _ y | .app _ _ x y | .appz _ _ x y | .copy _ x y | .lookup _ _ _ x y => x.tmps ++ y.tmps
  | .slc _ x a b c => x.tmps ++ xoT a ++ xoT b ++ xoT c
  | .sslc x a b => x.tmps ++ xoT a ++ xoT b
  | .mkfn _ l => xsT l
  | .bld _ ps => xsT (ps.map (·.2.2))
  | .alloc _ | .mkmap => []
  | .bslc _ _ _ ps => xsT (ps.map (·.2))
  | .mks _ _ l => l.tmps
  | .mkc _ _ l c => l.tmps ++ c.tmps
  | .ovl x y => x.tmps ++ y.tmps
  | .slcd _ x => x.tmps
  | .bslo _ _ _ ps => xsT (ps.map (·.2))
  | .bad => []
  | .mapset _ x k v => x.tmps ++ k.tmps ++ v.tmps
  | .call _ a => xsT a
  | .callv x a => x.tmps ++ xsT a
def GOp.names (g : GOp) : List Nat := g.op.tmps ++ (match g.g with | some (t, _) => [t] | none => [])
def isBef (bf : Array Nat) (i j : Nat) : Bool := (bf.getD j 0).testBit i
def rng (n : Nat) : List Nat := List.range n
def ovr (bf : Array Nat) (gl : List GOp) (j : Nat) : Bool := match (gl[j]?).bind (·.dst) with
  | none => false
  | some t => (rng gl.length).any fun k => match gl[k]? with
    | some g => if k = j then g.names.contains t else (g.dst == some t || (g.names.contains t && !isBef bf j k))
    | none => false
def gAt (gl : List GOp) (i : Nat) : GOp := gl.getD i ⟨none, .mkmap, none⟩
def alOk (bf : Array Nat) (gl : List GOp) (i : Nat) : Bool := (rng gl.length).all fun k => match (gAt gl k).dst with
  | some t => !((gAt gl i).names.contains t) || (isBef bf k i && !(gAt gl k).op.isAlloc)
  | none => true
def drawAt (ops : Array Oper) (bf : Array Nat) (gl : List GOp) (pre : List Nat) (i : Nat) (rs post : List Nat) : Bool :=
  let g := gAt gl i
  let bar := (!g.op.quiet && !g.op.isAlloc) || ovr bf gl i
  (match ops[i]? with
   | some o => o.after.all fun e => !Region.binds .any e || pre.contains e.on
   | none => false) &&
  (!bar || post.all fun j => (gAt gl j).op.isAlloc || isBef bf i j) &&
  (!g.op.isAlloc || (g.g.isNone && g.dst.isSome && !ovr bf gl i && alOk bf gl i && post.all fun j => (gAt gl j).op.isAlloc || isBef bf i j)) &&
  (!ovr bf gl i || pre.all fun j => isBef bf j i) &&
  (!g.op.quiet || g.dst.isSome) &&
  ((g.op.quiet || g.op.isAlloc) || pre.all fun j => !(gAt gl j).op.reads || isBef bf j i || rs.contains j) &&
  ((g.op.quiet || g.op.isAlloc) || post.all fun j => !(gAt gl j).op.needs || isBef bf i j || rs.contains j)
def drawGo (ops : Array Oper) (bf : Array Nat) (gl : List GOp) : List Nat → List (Nat × List Nat) → Bool
  | _, [] => true
  | pre, (i, rs) :: t => drawAt ops bf gl pre i rs (t.map (·.1)) && !pre.contains i && drawGo ops bf gl (i :: pre) t
def drawOk (ops : Array Oper) (gl : List GOp) (s : List (Nat × List Nat)) : Bool :=
  s.length == ops.size && gl.length == ops.size && (s.all fun p => decide (p.1 < ops.size)) && drawGo ops (Region.before ops) gl [] s
abbrev Sch := List (Nat × List (Nat × List Nat) × List (Option (List Nat)))
def schOf (sch : Sch) (id : Nat) : List (Nat × List Nat) := match sch with
  | [] => []
  | (i, s, _) :: t => if i = id then s else schOf t id
def kpOf (sch : Sch) (id : Nat) : List (Option (List Nat)) := match sch with
  | [] => []
  | (i, _, k) :: t => if i = id then k else kpOf t id
def annG : List GOp → List (Option (List Nat)) → List (GOp × Option (List Nat))
  | [], _ => []
  | g :: t, [] => (g, none) :: annG t []
  | g :: t, k :: r => (g, k) :: annG t r
def comp (P : Program) (nt : Nat) (sch : Sch) : Code → Option IR
  | .skip => some .skip
  | .label _ => some .skip
  | .scope a => comp P nt sch a
  | .region id ops false => (cGs P nt ops ops.toList).map fun gl => match kpOf sch id with
    | [] => .ops gl
    | k => .kops (annG gl k)
  | .region id ops true => match cGs P nt ops ops.toList with
    | some gl => if drawOk ops gl (schOf sch id) then (match kpOf sch id with
      | some k :: _ => some (.kd gl (schOf sch id) k)
      | _ => some (.dops gl (schOf sch id))) else none
    | none => none
  | .seq a b => match comp P nt sch a, comp P nt sch b with
    | some x, some y => some (.seq x y)
    | _, _ => none
  | .cond c a b => match cX c, comp P nt sch a, comp P nt sch b with
    | some c, some x, some y => some (.cond c x y)
    | _, _, _ => none
  | .block id a => (comp P nt sch a).map (.block id)
  | .loop a => (comp P nt sch a).map .loop
  | .exit id => some (.exit id)
  | .ret => some .ret
  | _ => none
def cRes (P : Program) : List ResultVar → Option (List RV)
  | [] => some []
  | .tmp t :: r => (cRes P r).map (RV.t t :: ·)
  | .cell a t :: r => match szOf P t, agOf P t, cRes P r with
    | some n, some ag, some l => if ag || n == 1 then some (.c a n ag :: l) else none
    | _, _, _ => none
def compFn (P : Program) (sch : Sch) (fn : Func) : Option IFn :=
  match fn.body, cRes P fn.results.toList with
  | some c, some rs => match comp P fn.ntmps sch c with
    | some b => if fn.params.size + fn.nfree ≤ fn.ntmps then some ⟨fn.params.size + fn.nfree, fn.ntmps, rs, b⟩ else none
    | none => none
  | _, _ => none
def intBin (op : BinOp) (k : IntKind) (a b : Int) : Option AV := match op with
  | .add => some (.int k (k.wrap (a + b)))
  | .sub => some (.int k (k.wrap (a - b)))
  | .mul => some (.int k (k.wrap (a * b)))
  | .quo => if b = 0 then none else some (.int k (k.wrap (a.tdiv b)))
  | .rem => if b = 0 then none else some (.int k (a.tmod b))
  | .and => some (.int k (k.wrap (BitVec.ofInt k.bits a &&& BitVec.ofInt k.bits b).toNat))
  | .or => some (.int k (k.wrap (BitVec.ofInt k.bits a ||| BitVec.ofInt k.bits b).toNat))
  | .xor => some (.int k (k.wrap (BitVec.ofInt k.bits a ^^^ BitVec.ofInt k.bits b).toNat))
  | .andNot => some (.int k (k.wrap (BitVec.ofInt k.bits a &&& ~~~(BitVec.ofInt k.bits b)).toNat))
  | .eql => some (.bool (a == b))
  | .neq => some (.bool (a != b))
  | .lss => some (.bool (decide (a < b)))
  | .leq => some (.bool (decide (a ≤ b)))
  | .gtr => some (.bool (decide (a > b)))
  | .geq => some (.bool (decide (a ≥ b)))
  | _ => none
def shF (op : BinOp) (k : IntKind) (a b : Int) : Option AV :=
  if b < 0 then none else match op with
  | .shl => some (.int k (k.wrap (a * 2 ^ (min b.toNat k.bits))))
  | .shr => some (.int k (a.fdiv (2 ^ (min b.toNat k.bits))))
  | _ => none
def isSh : BinOp → Bool
  | .shl | .shr => true
  | _ => false
def strBin (op : BinOp) (a b : ByteArray) : Option AV := match op with
  | .add => if a.size + b.size ≤ 4611686018427387904 then some (.str (a ++ b)) else none
  | .eql => some (.bool (a.toList == b.toList))
  | .neq => some (.bool (!(a.toList == b.toList)))
  | _ => none
def binF (op : BinOp) : AV → AV → Option AV
  | .int k a, .int k' b => if isSh op then shF op k a b else if k = k' then intBin op k a b else none
  | .str a, .str b => strBin op a b
  | _, _ => none
def beqF (neg : Bool) : AV → AV → Option AV
  | .bool a, .bool b => some (.bool (if neg then !(a == b) else a == b))
  | _, _ => none
def isNilF : NK → AV → Option Bool
  | .sl, .sl none _ _ _ _ => some true
  | .sl, .sl (some _) _ _ _ _ => some false
  | .ptr, .ptr none => some true
  | .ptr, .ptr (some _) => some false
  | .map, .map none => some true
  | .map, .map (some _) => some false
  | .fn, .nilFn => some true
  | .fn, .fn _ _ => some false
  | _, _ => none
def unF (op : UnOp) : AV → Option AV
  | .int k n => match op with
    | .neg => some (.int k (k.wrap (0 - n)))
    | .xor => some (.int k (k.wrap (BitVec.ofInt k.bits (if k.signed then -1 else k.max) ^^^ BitVec.ofInt k.bits n).toNat))
    | _ => none
  | .bool b => match op with
    | .not => some (.bool (!b))
    | _ => none
  | _ => none
def nilckF : AV → Option AV
  | .ptr (some p) => some (.ptr (some p))
  | _ => none
def ptrOff (n : Nat) : AV → Option AV
  | .ptr (some (b, o)) => some (.ptr (some (b, o + n)))
  | _ => none
def partF (off n : Nat) (ag : Bool) : AV → Option AV
  | .agg l => if ag then (if off + n ≤ l.length then some (.agg ((l.drop off).take n)) else none) else l[off]?
  | _ => none
def iaddrF (sz : Nat) : AV → AV → Option AV
  | .sl A n _ _ _, .int _ i => if 0 ≤ i ∧ i < (n : Int) then some (.ptr (some (A.b, A.o + i.toNat * sz))) else none
  | _, _ => none
def aaddrF (len sz : Nat) : AV → AV → Option AV
  | .ptr (some (b, o)), .int _ i => if 0 ≤ i ∧ i < (len : Int) then some (.ptr (some (b, o + i.toNat * sz))) else none
  | _, _ => none
def sidxF : AV → AV → Option AV
  | .str s, .int _ i => if 0 ≤ i then (s[i.toNat]?).map fun b => .int .u8 b.toNat else none
  | _, _ => none
def aidxF (len sz : Nat) (ag : Bool) (x : AV) : AV → Option AV
  | .int _ i => if 0 ≤ i ∧ i < (len : Int) then partF (i.toNat * sz) sz ag x else none
  | _ => none
def extF (i : Nat) : AV → Option AV
  | .tup l => l[i]?
  | _ => none
def lenF : AV → Option AV
  | .sl _ n _ _ _ => some (.int .i64 n)
  | .emp => some (.int .i64 0)
  | _ => none
def slenF : AV → Option AV
  | .str s => some (.int .i64 s.size)
  | _ => none
def capF : AV → Option AV
  | .sl _ _ c true _ => some (.int .i64 c)
  | _ => none
def mnxF (mx : Bool) : AV → AV → Option AV
  | .int k a, .int k' b => if k = k' then some (.int k (if mx then (if b > a then b else a) else (if b < a then b else a))) else none
  | _, _ => none
def natIn (v : AV) (m : Nat) : Option Nat := match v with
  | .int _ i => if 0 ≤ i ∧ i ≤ (m : Int) then some i.toNat else none
  | _ => none
def bnds (n c : Nat) (lo hi mx : Option AV) : Option (Nat × Nat × Nat) :=
  match (match mx with | some v => natIn v c | none => some c) with
  | none => none
  | some m => match (match hi with | some v => natIn v m | none => if mx.isSome then none else some n) with
    | none => none
    | some h => match (match lo with | some v => natIn v h | none => some 0) with
      | none => none
      | some l => some (l, h, m)
def slcF (sz : Nat) (lo hi mx : Option AV) : AV → Option AV
  | .sl A n c ex k => match bnds n c lo hi mx with
    | some (l, h, m) => if (m = l ∧ (mx.isNone ∧ ex = false)) ∨ (k ≠ sz ∧ l ≠ 0) then none else some (.sl (if m = l then A else some (A.b, A.o + l * sz)) (h - l) (m - l) (ex || mx.isSome) k)
    | none => none
  | _ => none
def sslcF (lo hi : Option AV) : AV → Option AV
  | .str s => match bnds s.size s.size lo hi none with
    | some (l, h, _) => some (.str (s.extract l h))
    | none => none
  | _ => none
def cellsOf : AV → Option (List AV)
  | .agg l => some l
  | .junk | .tup _ => none
  | v => some [v]
def setAt (z : List AV) (off : Nat) : List AV → List AV
  | [] => z
  | x :: t => setAt (z.set off x) (off + 1) t
def bldF (e : Env) (z : List AV) : List (Nat × Nat × X) → Option (List AV)
  | [] => some z
  | (off, n, x) :: t => match cellsOf (x.ev e) with
    | some c => if c.length = n ∧ off + n ≤ z.length then bldF e (setAt z off c) t else none
    | none => none
def cviF (k : IntKind) : AV → Option AV
  | .int _ n => some (.int k (k.wrap n))
  | _ => none
def loadN (H : Heap) (b o : Nat) : Nat → Option (List AV)
  | 0 => some []
  | n + 1 => match H.get b o, loadN H b (o + 1) n with
    | some x, some l => some (x :: l)
    | _, _ => none
def loadF (H : Heap) (n : Nat) (ag : Bool) : AV → Option AV
  | .ptr (some (b, o)) => if ag then (loadN H b o n).map .agg else H.get b o
  | _ => none
def pickF (c a b : AV) : Option AV := match c with
  | .bool t => some (if t then a else b)
  | _ => none
def ints : List AV → Option (List Int)
  | [] => some []
  | .int .i64 n :: t => (ints t).map (n :: ·)
  | _ => none
def keyF : KT → AV → AV → Option Bool
  | .i, .int .i64 a, .int .i64 b => some (decide (a = b))
  | .s, .str a, .str b => some (decide (a = b))
  | .l n, .agg a, .agg b => match ints a, ints b with
    | some x, some y => if x.length = n ∧ y.length = n then some (decide (x = y)) else none
    | _, _ => none
  | _, _, _ => none
def eqsF (kt : KT) (neg : Bool) (x y : AV) : Option AV := (keyF kt x y).map fun b => .bool (if neg then !b else b)
def findM (kt : KT) (k : AV) : List (AV × AV) → Option (Option AV)
  | [] => some none
  | (a, v) :: t => match keyF kt k a with
    | some true => some (some v)
    | some false => findM kt k t
    | none => none
def setM (kt : KT) (k v : AV) : List (AV × AV) → Option (List (AV × AV))
  | [] => some [(k, v)]
  | (a, u) :: t => match keyF kt k a with
    | some true => some ((k, v) :: t)
    | some false => (setM kt k v t).map ((a, u) :: ·)
    | none => none
def lookM (kt : KT) (z : AV) (ok : Bool) (k : AV) (es : Option (List (AV × AV))) : Option AV := match keyF kt k k, es with
  | some _, some es => match findM kt k es with
    | some (some v) => some (if ok then .tup [v, .bool true] else v)
    | some none => some (if ok then .tup [z, .bool false] else z)
    | none => none
  | _, _ => none
def Heap.mapAt (H : Heap) (b : Nat) : Option (List (AV × AV)) := if b < H.size then match H.blk b with | .map es => some es | _ => none else none
def lookF (H : Heap) (kt : KT) (z : AV) (ok : Bool) (x k : AV) : Option AV := match x with
  | .map none => lookM kt z ok k (some [])
  | .map (some b) => lookM kt z ok k (H.mapAt b)
  | _ => none
def mlenF (H : Heap) (x : AV) : Option AV := match x with
  | .map none => some (.int .i64 0)
  | .map (some b) => (H.mapAt b).map fun es => .int .i64 es.length
  | _ => none
def qop (o : IOp) (e : Env) (H : Heap) : Option AV := match o with
  | .mv x => some (x.ev e)
  | .pick c a b => pickF (c.ev e) (a.ev e) (b.ev e)
  | .bin op x y => binF op (x.ev e) (y.ev e)
  | .beq neg x y => beqF neg (x.ev e) (y.ev e)
  | .eqn neg k x => (isNilF k (x.ev e)).map fun b => .bool (if neg then !b else b)
  | .un op x => unF op (x.ev e)
  | .nilck x => nilckF (x.ev e)
  | .faddr x off => ptrOff off (x.ev e)
  | .fld x off n ag => partF off n ag (x.ev e)
  | .iaddr x i sz => iaddrF sz (x.ev e) (i.ev e)
  | .aaddr x i len sz => aaddrF len sz (x.ev e) (i.ev e)
  | .sidx x i => sidxF (x.ev e) (i.ev e)
  | .aidx x i len sz ag => aidxF len sz ag (x.ev e) (i.ev e)
  | .ext x i => extF i (x.ev e)
  | .len x => lenF (x.ev e)
  | .slen x => slenF (x.ev e)
  | .cap x => capF (x.ev e)
  | .mnx mx x y => mnxF mx (x.ev e) (y.ev e)
  | .slc sz x lo hi mx => slcF sz (lo.map (X.ev e)) (hi.map (X.ev e)) (mx.map (X.ev e)) (x.ev e)
  | .sslc x lo hi => sslcF (lo.map (X.ev e)) (hi.map (X.ev e)) (x.ev e)
  | .mkfn f caps => some (.fn f (caps.map (X.ev e)))
  | .bld z ps => (bldF e z ps).map .agg
  | .cvi k x => cviF k (x.ev e)
  | .load x n ag => loadF H n ag (x.ev e)
  | .eqs kt neg x y => eqsF kt neg (x.ev e) (y.ev e)
  | .lookup kt z ok x k => lookF H kt z ok (x.ev e) (k.ev e)
  | .mlen x => mlenF H (x.ev e)
  | _ => none
end Go.M2

namespace Go.M2
open Go.RowKit (Below)
theorem add_plain (g j n : Nat) : (⟨g, j, none⟩ : Addr).add n = ⟨g, j + n, none⟩ := by unfold Addr.add; split <;> simp_all
theorem run_isAgg {P : Program} {w : World} {t : TypeId} {b : Bool} (h : agOf P t = some b) : (isAgg t).run P w = .ok b w := by
  unfold agOf at h
  cases hu : P.underlying t with
  | none => rw [hu] at h; cases h
  | some d => rw [hu] at h; cases d <;> simp at h <;> subst h <;> simp [isAgg, run_underlying hu]
theorem szOf_info {P : Program} {t : TypeId} {n : Nat} (h : szOf P t = some n) : ∃ i, P.info? t = some i ∧ i.size = n := by
  unfold szOf at h; cases hi : P.info? t with
  | none => rw [hi] at h; cases h
  | some i => rw [hi] at h; simp at h; exact ⟨i, rfl, h⟩
theorem run_szOf {P : Program} {w : World} {t : TypeId} {n : Nat} (h : szOf P t = some n) : (sizeOf t).run P w = .ok n w := by
  obtain ⟨i, hi, rfl⟩ := szOf_info h
  simp [sizeOf, run_typeInfo w hi]
theorem run_load {P : Program} {w : World} {a : Addr} {v : Value} (h : w.cell? a = some v) : (load a).run P w = .ok v w := by
  simp [load, Sem.run, h]
theorem run_loadCellsFrom {P : Program} {w : World} (b o : Nat) : ∀ (n i : Nat) (acc : Array Value) (vs : List Value), vs.length = n →
    (∀ j v, vs[j]? = some v → w.cell? ⟨b, o + i + j, none⟩ = some v) → (loadCellsFrom ⟨b, o, none⟩ i n acc).run P w = .ok (acc ++ vs.toArray) w
  | 0, i, acc, vs, hl, _ => by
    have : vs = [] := List.eq_nil_of_length_eq_zero hl
    subst this; simp [loadCellsFrom]
  | n + 1, i, acc, vs, hl, h => by
    cases vs with
    | nil => simp at hl
    | cons v t =>
      have h0 : w.cell? ⟨b, o + i, none⟩ = some v := by have := h 0 v rfl; simpa using this
      have ih := run_loadCellsFrom (P := P) (w := w) b o n (i + 1) (acc.push v) t (by simpa using hl) (fun j u hu => by
        have := h (j + 1) u (by simpa using hu)
        rwa [show o + (i + 1) + j = o + i + (j + 1) from by omega])
      simp only [loadCellsFrom, Sem.run_bind, add_plain, run_load h0, Result.andThen_ok, ih, Nat.add_zero]
      simp
theorem run_loadCells {P : Program} {w : World} (b o : Nat) (vs : List Value) (h : ∀ j v, vs[j]? = some v → w.cell? ⟨b, o + j, none⟩ = some v) :
    (loadCells ⟨b, o, none⟩ vs.length).run P w = .ok vs.toArray w := by
  have := run_loadCellsFrom (P := P) (w := w) b o vs.length 0 #[] vs rfl (by simpa using h)
  simpa [loadCells] using this
theorem HI.loadN {w0 w : World} {ρ : Nat → BI} {H : Heap} (h : HI w0 ρ H w) {b : Nat} : ∀ (n o : Nat) (l : List AV), M2.loadN H b o n = some l →
    ∃ vs : List Value, vs.length = n ∧ VRL H.size ρ l vs ∧ ∀ j v, vs[j]? = some v → w.cell? ⟨(ρ b).blk, (ρ b).off + o + j, none⟩ = some v
  | 0, o, l, e => by simp [M2.loadN] at e; subst e; exact ⟨[], rfl, VRL.nil _ _, by simp⟩
  | n + 1, o, l, e => by
    simp only [M2.loadN] at e
    split at e
    · rename_i x l' h1 h2
      cases e
      obtain ⟨v, hv, hr⟩ := h.get h1
      obtain ⟨vs, hl, hrs, hc⟩ := HI.loadN h n (o + 1) l' h2
      refine ⟨v :: vs, by simp [hl], .cons hr hrs, fun j u hu => ?_⟩
      cases j with
      | zero => simp at hu; subst hu; exact hv
      | succ j =>
        have := hc j u (by simpa using hu)
        rwa [show (ρ b).off + o + (j + 1) = (ρ b).off + (o + 1) + j from by omega]
    · cases e
theorem av1_VR {v : Value} {x : AV} (h : av1 v = some x) (N : Nat) (ρ : Nat → BI) : VR N ρ x v := by
  cases v with
  | bool b => simp [av1] at h; subst h; exact .bool b
  | int k n => simp [av1] at h; subst h; exact .int k n
  | string s => simp [av1] at h; subst h; exact .str s
  | pointer a =>
    cases a with
    | none => simp [av1] at h; subst h; exact VR.ptr none (fun b o e => by cases e)
    | some a => simp [av1] at h
  | slice a n c =>
    cases a with
    | some a => simp [av1] at h
    | none =>
      cases n with
      | succ n => simp [av1] at h
      | zero =>
        cases c with
        | succ c => simp [av1] at h
        | zero => simp [av1] at h; subst h; exact .slN 0
  | map r =>
    cases r with
    | none => simp [av1] at h; subst h; exact .mapN
    | some r => simp [av1] at h
  | nilFunc => simp [av1] at h; subst h; exact .nilFn
  | _ => simp [av1] at h
theorem avs_VRL : ∀ {l : List Value} {x : List AV} (h : avs l = some x) (N : Nat) (ρ : Nat → BI), VRL N ρ x l
  | [], x, h, N, ρ => by simp [avs] at h; subst h; exact VRL.nil _ _
  | v :: t, x, h, N, ρ => by
    simp only [avs] at h
    split at h
    · rename_i y z h1 h2; cases h; exact .cons (av1_VR h1 N ρ) (avs_VRL h2 N ρ)
    · cases h
theorem VRL.agg {N : Nat} {ρ : Nat → BI} {l : List AV} {a : Array Value} (h : VRL N ρ l a.toList) : VR N ρ (.agg l) (.agg a) :=
  .agg l a (by simpa using h.1) (fun i x v hx hv => h.2 i x v hx (by simpa using hv))
theorem avOf_VR {v : Value} {x : AV} (h : avOf v = some x) (N : Nat) (ρ : Nat → BI) : VR N ρ x v := by
  unfold avOf at h
  split at h
  · rename_i a
    cases ha : avs a.toList with
    | none => rw [ha] at h; cases h
    | some l => rw [ha] at h; simp at h; subst h; exact (avs_VRL ha N ρ).agg
  · exact av1_VR h N ρ
def OpsR (N : Nat) (ρ : Nat → BI) (ts : List Nat) (e : Env) (a : Act) : Prop := ∀ t ∈ ts, VR N ρ (e t) (a.tmps.getD t undef)
theorem OpsR.sub {N : Nat} {ρ : Nat → BI} {ts ts' : List Nat} {e : Env} {a : Act} (h : OpsR N ρ ts e a) (hs : ∀ t ∈ ts', t ∈ ts) : OpsR N ρ ts' e a :=
  fun t ht => h t (hs t ht)
theorem OpsR.left {N : Nat} {ρ : Nat → BI} {ts us : List Nat} {e : Env} {a : Act} (h : OpsR N ρ (ts ++ us) e a) : OpsR N ρ ts e a := h.sub fun t ht => List.mem_append_left _ ht
theorem OpsR.right {N : Nat} {ρ : Nat → BI} {ts us : List Nat} {e : Env} {a : Act} (h : OpsR N ρ (ts ++ us) e a) : OpsR N ρ us e a := h.sub fun t ht => List.mem_append_right _ ht
theorem cX_VR {N : Nat} {ρ : Nat → BI} {x : Operand} {y : X} {e : Env} {a : Act} (h : cX x = some y) (ho : OpsR N ρ y.tmps e a) : VR N ρ (y.ev e) (a.eval x) := by
  cases x with
  | tmp t => simp [cX] at h; subst h; exact ho t (by simp [X.tmps])
  | const v =>
    simp only [cX] at h
    cases hv : avOf v with
    | none => rw [hv] at h; cases h
    | some c => rw [hv] at h; simp at h; subst h; exact avOf_VR hv N ρ
  | func f => simp [cX] at h; subst h; exact .fn f [] #[] rfl (by simp)
  | global g => simp [cX] at h
theorem cXs_VRL {N : Nat} {ρ : Nat → BI} : ∀ {l : List Operand} {ys : List X} {e : Env} {a : Act} (h : cXs l = some ys) (ho : OpsR N ρ (xsT ys) e a),
    VRL N ρ (ys.map (X.ev e)) (l.map a.eval)
  | [], ys, e, a, h, ho => by simp [cXs] at h; subst h; exact VRL.nil _ _
  | x :: t, ys, e, a, h, ho => by
    simp only [cXs] at h
    split at h
    · rename_i y z h1 h2
      cases h
      have ho' : OpsR N ρ (y.tmps ++ xsT z) e a := by simpa [xsT] using ho
      exact .cons (cX_VR h1 ho'.left) (cXs_VRL h2 ho'.right)
    · cases h
theorem VR.oneCell {N : Nat} {ρ : Nat → BI} {x : AV} {v : Value} {c : List AV} (h : VR N ρ x v) (hc : cellsOf x = some c) : VRL N ρ c v.cells.toList := by
  cases h with
  | junk v => simp [cellsOf] at hc
  | tup l a _ _ => simp [cellsOf] at hc
  | agg l a hl hr => simp [cellsOf] at hc; subst hc; exact ⟨by simpa [Value.cells] using hl, fun i x v hx hv => hr i x v hx (by simpa [Value.cells] using hv)⟩
  | bool b => simp [cellsOf] at hc; subst hc; exact .cons (.bool b) (.nil _ _)
  | int k n => simp [cellsOf] at hc; subst hc; exact .cons (.int k n) (.nil _ _)
  | str s => simp [cellsOf] at hc; subst hc; exact .cons (.str s) (.nil _ _)
  | ptr A hA => simp [cellsOf] at hc; subst hc; exact .cons (.ptr A hA) (.nil _ _)
  | slN k => simp [cellsOf] at hc; subst hc; exact .cons (.slN k) (.nil _ _)
  | emp A => simp [cellsOf] at hc; subst hc; exact .cons (.emp A) (.nil _ _)
  | sl b o len cap ex k cap' h1 h2 h3 h4 h5 => simp [cellsOf] at hc; subst hc; exact .cons (.sl b o len cap ex k cap' h1 h2 h3 h4 h5) (.nil _ _)
  | mapN => simp [cellsOf] at hc; subst hc; exact .cons .mapN (.nil _ _)
  | map b hb => simp [cellsOf] at hc; subst hc; exact .cons (.map b hb) (.nil _ _)
  | fn f caps a hl hr => simp [cellsOf] at hc; subst hc; exact .cons (.fn f caps a hl hr) (.nil _ _)
  | nilFn => simp [cellsOf] at hc; subst hc; exact .cons .nilFn (.nil _ _)
def Gives (P : Program) (op : Op) (a : Act) (w : World) (u : Value) : Prop := ∀ dst ty pos af gd, (execOp a.eval ⟨dst, op, ty, pos, af, gd⟩).run P w = .ok (.value u) w
section
variable {P : Program} {N : Nat} {ρ : Nat → BI} {e : Env} {a : Act} {w : World}
theorem natIn_run {v : AV} {u : Value} {m n m' : Nat} (hv : VR N ρ v u) (h : natIn v m = some n) (hm : m ≤ m') (code : BoundsCode) : (Instr.sliceBound u m' code).run P w = .ok n w ∧ n ≤ m := by
  cases hv with
  | int k i =>
    simp only [natIn] at h
    split at h
    · rename_i hi; cases h
      refine ⟨?_, by omega⟩
      have : 0 ≤ i ∧ i ≤ (m' : Int) := ⟨hi.1, by omega⟩
      simp [Instr.sliceBound, asIntOf, this]
    · cases h
  | _ => simp [natIn] at h
def rvS : AV → Value
  | .int k n => .int k n
  | .bool b => .bool b
  | .str s => .string s
  | _ => undef
theorem run_bin {op : BinOp} {t : TypeId} {x y : AV} {u v : Value} {r : AV} {X Y : Operand} (hx : VR N ρ x u) (hy : VR N ρ y v) (h : binF op x y = some r) :
    (do eqGuard op t X Y u v; binOp op t u v : Sem Value).run P w = .ok (rvS r) w ∧ VR N ρ r (rvS r) := by
  cases hx with
  | int k i =>
    cases hy with
    | int k' j =>
      simp only [binF] at h
      by_cases hs : isSh op = true
      · rw [if_pos hs] at h
        unfold shF at h
        split at h
        · cases h
        · rename_i hj
          cases op <;> simp [isSh] at hs <;> simp at h <;> subst h <;> exact ⟨by simp [eqGuard, binOp, Op.shift, hj, rvS], .int _ _⟩
      · rw [if_neg hs] at h
        split at h
        · rename_i hk; subst hk
          cases op <;> simp [isSh] at hs <;> simp [intBin] at h <;>
            first
            | (subst h; exact ⟨by simp [eqGuard, binOp, Op.intArith, Op.intBits, Op.intCmp, rvS], by constructor⟩)
            | (obtain ⟨h0, h⟩ := h; subst h; exact ⟨by simp [eqGuard, binOp, Op.intDiv, h0, rvS], by constructor⟩)
        · cases h
    | _ => simp [binF] at h
  | str s =>
    cases hy with
    | str s' =>
      simp only [binF] at h
      cases op <;> simp [strBin] at h
      · obtain ⟨h1, h⟩ := h; subst h
        have : ¬ (((s.size + s'.size : Nat) : Int) > IntKind.i64.max) := by simp [IntKind.max, IntKind.signed, IntKind.bits]; omega
        exact ⟨by simp only [eqGuard, binOp, Op.stringOp, if_neg this]; simp [rvS], .str _⟩
      · subst h; exact ⟨by simp [eqGuard, binOp, Op.stringOp, rvS], .bool _⟩
      · subst h; exact ⟨by simp [eqGuard, binOp, Op.stringOp, rvS], .bool _⟩
    | _ => simp [binF] at h
  | _ => simp [binF] at h
theorem run_equal_bool (t : TypeId) (a b : Bool) (ht : P.underlying t = some .bool) : (Op.equal t (.bool a) (.bool b)).run P w = .ok (a == b) w := by
  have : ∀ d, (Op.equalIn (d + 1) t (.bool a) (.bool b)).run P w = .ok (a == b) w := fun d => by simp [Op.equalIn, run_underlying ht]
  exact this 9999
theorem run_equal_slN (t d0 : TypeId) (A : Option Addr) (n c : Nat) (ht : P.underlying t = some (.slice d0)) : (Op.equal t (.slice A n c) (.slice none 0 0)).run P w = .ok A.isNone w := by
  have : ∀ d, (Op.equalIn (d + 1) t (.slice A n c) (.slice none 0 0)).run P w = .ok A.isNone w := fun d => by cases A <;> simp [Op.equalIn, run_underlying ht]
  exact this 9999
theorem run_equal_ptrN (t d0 : TypeId) (A : Option Addr) (ht : P.underlying t = some (.pointer d0)) : (Op.equal t (.pointer A) (.pointer none)).run P w = .ok A.isNone w := by
  have : ∀ d, (Op.equalIn (d + 1) t (.pointer A) (.pointer none)).run P w = .ok A.isNone w := fun d => by cases A <;> simp [Op.equalIn, run_underlying ht]
  exact this 9999
theorem run_equal_mapN (t d0 d1 : TypeId) (A : Option Nat) (ht : P.underlying t = some (.map d0 d1)) : (Op.equal t (.map A) (.map none)).run P w = .ok A.isNone w := by
  have : ∀ d, (Op.equalIn (d + 1) t (.map A) (.map none)).run P w = .ok A.isNone w := fun d => by cases A <;> simp [Op.equalIn, run_underlying ht]
  exact this 9999
theorem run_equal_fnN (t : TypeId) {d0 d1 : Array TypeId} {d2 : Bool} (ht : P.underlying t = some (.func d0 d1 d2)) : (Op.equal t .nilFunc .nilFunc).run P w = .ok true w := by
  have : ∀ d, (Op.equalIn (d + 1) t .nilFunc .nilFunc).run P w = .ok true w := fun d => by simp [Op.equalIn, run_underlying ht]
  exact this 9999
theorem run_equal_fn (t : TypeId) {d0 d1 : Array TypeId} {d2 : Bool} (f : Fn) (x y : Array Value) (ht : P.underlying t = some (.func d0 d1 d2)) : (Op.equal t (.func f x y) .nilFunc).run P w = .ok false w := by
  have : ∀ d, (Op.equalIn (d + 1) t (.func f x y) .nilFunc).run P w = .ok false w := fun d => by simp [Op.equalIn, run_underlying ht]
  exact this 9999
theorem run_eqop {neg : Bool} {t : TypeId} {u v : Value} {X Y : Operand} {b : Bool} (h : (Op.equal t u v).run P w = .ok b w)
    (hg : ∀ op, (eqGuard op t X Y u v).run P w = .ok () w)
    (hb : binOp .eql t u v = (do pure (.bool (← Op.equal t u v)) : Sem Value) ∧ binOp .neq t u v = (do pure (.bool (!(← Op.equal t u v))) : Sem Value)) :
    (do eqGuard (if neg then .neq else .eql) t X Y u v; binOp (if neg then .neq else .eql) t u v : Sem Value).run P w = .ok (.bool (if neg then !b else b)) w := by
  cases neg
  · simp only [Bool.false_eq_true, if_false, Sem.run_bind, hg, Result.andThen_ok, hb.1, h, Sem.run_pure]
  · simp only [if_true, Sem.run_bind, hg, Result.andThen_ok, hb.2, h, Sem.run_pure]
theorem run_beq {neg : Bool} {t : TypeId} {x y : AV} {u v : Value} {r : AV} {X Y : Operand} (hx : VR N ρ x u) (hy : VR N ρ y v) (h : beqF neg x y = some r)
    (ht : P.underlying t = some .bool) : ∃ z, (do eqGuard (if neg then .neq else .eql) t X Y u v; binOp (if neg then .neq else .eql) t u v : Sem Value).run P w = .ok z w ∧ VR N ρ r z := by
  cases hx with
  | bool b =>
    cases hy with
    | bool b' =>
      simp [beqF] at h; subst h
      exact ⟨_, run_eqop (run_equal_bool t b b' ht) (fun op => by cases op <;> simp [eqGuard]) ⟨rfl, rfl⟩, .bool _⟩
    | _ => simp [beqF] at h
  | _ => simp [beqF] at h
theorem run_eqn {neg : Bool} {t : TypeId} {x : AV} {u : Value} {b : Bool} {X Y : Operand} {k : NK} (hx : VR N ρ x u) (h : isNilF k x = some b)
    (hk : nilKind Y (P.underlying t) = some k) :
    ∃ z, (do eqGuard (if neg then .neq else .eql) t X Y u (a.eval Y); binOp (if neg then .neq else .eql) t u (a.eval Y) : Sem Value).run P w = .ok z w ∧ VR N ρ (.bool (if neg then !b else b)) z := by
  unfold nilKind at hk
  split at hk
  · rename_i d hu; cases hk
    cases hx <;> simp [isNilF] at h
    · subst h; exact ⟨_, run_eqop (run_equal_slN t d none 0 0 hu) (fun op => by cases op <;> simp [eqGuard, Act.eval]) ⟨rfl, rfl⟩, .bool _⟩
    · subst h; exact ⟨_, run_eqop (run_equal_slN t d _ _ _ hu) (fun op => by cases op <;> simp [eqGuard, Act.eval]) ⟨rfl, rfl⟩, .bool _⟩
  · rename_i d hu; cases hk
    cases hx with
    | ptr A hA =>
      cases A with
      | none => simp [isNilF] at h; subst h; exact ⟨_, run_eqop (run_equal_ptrN t d none hu) (fun op => by cases op <;> simp [eqGuard, Act.eval, rA]) ⟨rfl, rfl⟩, .bool _⟩
      | some p => obtain ⟨b', o'⟩ := p; simp [isNilF] at h; subst h; exact ⟨_, run_eqop (run_equal_ptrN t d _ hu) (fun op => by cases op <;> simp [eqGuard, Act.eval, rA]) ⟨rfl, rfl⟩, .bool _⟩
    | _ => simp [isNilF] at h
  · rename_i d d' hu; cases hk
    cases hx <;> simp [isNilF] at h
    all_goals (subst h; exact ⟨_, run_eqop (run_equal_mapN t d d' _ hu) (fun op => by cases op <;> simp [eqGuard, Act.eval]) ⟨rfl, rfl⟩, .bool _⟩)
  · rename_i d d' d'' hu; cases hk
    cases hx <;> simp [isNilF] at h
    · subst h; exact ⟨_, run_eqop (run_equal_fn t _ _ _ hu) (fun op => by cases op <;> simp [eqGuard, Act.eval]) ⟨rfl, rfl⟩, .bool _⟩
    · subst h; exact ⟨_, run_eqop (run_equal_fnN t hu) (fun op => by cases op <;> simp [eqGuard, Act.eval]) ⟨rfl, rfl⟩, .bool _⟩
  · cases hk
theorem run_un {op : UnOp} {x : AV} {u : Value} {r : AV} (hx : VR N ρ x u) (h : unF op x = some r) : ∃ z, (Op.unary op u).run P w = .ok z w ∧ VR N ρ r z := by
  cases hx with
  | int k n =>
    cases op <;> simp [unF] at h
    · subst h; exact ⟨_, by simp [Op.unary, Op.intArith], .int _ _⟩
    · subst h; exact ⟨_, by simp [Op.unary, Op.intBits], .int _ _⟩
  | bool b =>
    cases op <;> simp [unF] at h
    subst h; exact ⟨_, by simp [Op.unary], .bool _⟩
  | _ => simp [unF] at h
theorem run_part {t : TypeId} {off n : Nat} {ag : Bool} {x : AV} {cs : Array Value} {r : AV} (hx : VR N ρ x (.agg cs)) (hn : szOf P t = some n) (hg : agOf P t = some ag)
    (h : partF off n ag x = some r) : ∃ z, (part t cs off).run P w = .ok z w ∧ VR N ρ r z := by
  cases hx with
  | junk v => simp [partF] at h
  | agg l a hl hr =>
    simp only [partF] at h
    cases ag with
    | true =>
      simp only [if_true] at h
      split at h
      · rename_i hle; cases h
        refine ⟨.agg (cs.extract off (off + n)), by simp [part, run_isAgg hg, run_szOf hn], .agg _ _ ?_ ?_⟩
        · simp; omega
        · intro i y v hy hv
          rw [List.getElem?_take] at hy
          split at hy
          · rename_i hi
            rw [List.getElem?_drop] at hy
            rw [Array.getElem?_extract] at hv
            split at hv
            · exact hr _ y v hy hv
            · cases hv
          · cases hy
      · cases h
    | false =>
      simp only [Bool.false_eq_true, if_false] at h
      have hlt : off < l.length := by
        rcases Nat.lt_or_ge off l.length with h' | h'
        · exact h'
        · rw [List.getElem?_eq_none h'] at h; cases h
      have hc : cs[off]? = some cs[off] := Array.getElem?_eq_getElem (by omega)
      exact ⟨cs[off], by simp [part, run_isAgg hg, hc], hr off r _ h hc⟩
theorem cells_load {w0 : World} {H : Heap} (hi : HI w0 ρ H w) {t : TypeId} {n : Nat} {ag : Bool} {x r : AV} {u : Value} (hx : VR H.size ρ x u) (hn : szOf P t = some n) (hg : agOf P t = some ag)
    (h : loadF H n ag x = some r) : ∃ z, (Instr.loadAt t u).run P w = .ok z w ∧ VR H.size ρ r z := by
  cases hx with
  | ptr A hA =>
    cases A with
    | none => simp [loadF] at h
    | some p =>
      obtain ⟨b, o⟩ := p
      simp only [loadF] at h
      cases ag with
      | true =>
        simp only [if_true, Option.map_eq_some_iff] at h
        obtain ⟨l, hl, rfl⟩ := h
        obtain ⟨vs, hlen, hr, hc⟩ := hi.loadN n o l hl
        subst hlen
        refine ⟨.agg vs.toArray, ?_, VRL.agg (by simpa using hr)⟩
        simp [Instr.loadAt, Instr.sureAddr, loadVar, rA, run_isAgg hg, run_szOf hn, run_loadCells _ _ vs hc]
      | false =>
        simp only [Bool.false_eq_true, if_false] at h
        obtain ⟨v, hv, hr⟩ := hi.get h
        exact ⟨v, by simp only [Instr.loadAt, Instr.sureAddr, loadVar, rA, Sem.run_bind, Sem.run_pure, Result.andThen_ok, run_isAgg hg, Bool.false_eq_true, if_false, run_load hv], hr⟩
  | _ => simp [loadF] at h
def OR (N : Nat) (ρ : Nat → BI) : Option AV → Option Value → Prop
  | none, none => True
  | some x, some v => VR N ρ x v
  | _, _ => False
theorem run_bnds {isS : Bool} {n c c' : Nat} {lo hi mx : Option AV} {lo' hi' mx' : Option Value} {l h m : Nat} (hl : OR N ρ lo lo') (hh : OR N ρ hi hi') (hm : OR N ρ mx mx')
    (hc : c ≤ c') (hnc : n ≤ c) (hb : bnds n c lo hi mx = some (l, h, m)) :
    (Instr.sliceBounds isS n c' lo' hi' mx').run P w = .ok (l, h, if mx.isSome then m else c') w ∧ l ≤ h ∧ h ≤ m ∧ m ≤ c ∧ (mx = none → m = c) := by
  unfold bnds at hb
  cases mx with
  | none =>
    cases mx' with
    | some v => exact hm.elim
    | none =>
      simp only [Option.isSome_none, Bool.false_eq_true, if_false] at hb ⊢
      cases hi with
      | none =>
        cases hi' with
        | some v => exact hh.elim
        | none =>
          simp only at hb
          cases lo with
          | none =>
            cases lo' with
            | some v => exact hl.elim
            | none => simp at hb; obtain ⟨rfl, rfl, rfl⟩ := hb; exact ⟨by simp [Instr.sliceBounds], by omega, by omega, by omega, fun _ => rfl⟩
          | some x =>
            cases lo' with
            | none => exact hl.elim
            | some v =>
              simp only at hb
              cases hx : natIn x n with
              | none => rw [hx] at hb; cases hb
              | some k =>
                rw [hx] at hb; simp at hb; obtain ⟨rfl, rfl, rfl⟩ := hb
                have h1 := natIn_run (P := P) (w := w) hl hx (Nat.le_refl _)
                exact ⟨by simp [Instr.sliceBounds, (h1 _).1], (h1 .index).2, by omega, by omega, fun _ => rfl⟩
      | some x =>
        cases hi' with
        | none => exact hh.elim
        | some v =>
          simp only at hb
          cases hx : natIn x c with
          | none => rw [hx] at hb; cases hb
          | some k =>
            rw [hx] at hb; simp only at hb
            have h1 := natIn_run (P := P) (w := w) hh hx hc
            cases lo with
            | none =>
              cases lo' with
              | some v => exact hl.elim
              | none => simp at hb; obtain ⟨rfl, rfl, rfl⟩ := hb; exact ⟨by simp [Instr.sliceBounds, (h1 _).1], by omega, (h1 .index).2, by omega, fun _ => rfl⟩
            | some y =>
              cases lo' with
              | none => exact hl.elim
              | some u =>
                simp only at hb
                cases hy : natIn y k with
                | none => rw [hy] at hb; cases hb
                | some j =>
                  rw [hy] at hb; simp at hb; obtain ⟨rfl, rfl, rfl⟩ := hb
                  have h2 := natIn_run (P := P) (w := w) hl hy (Nat.le_refl _)
                  exact ⟨by simp [Instr.sliceBounds, (h1 _).1, (h2 _).1], (h2 .index).2, (h1 .index).2, by omega, fun _ => rfl⟩
  | some z =>
    cases mx' with
    | none => exact hm.elim
    | some q =>
      simp only [Option.isSome_some, if_true] at hb ⊢
      cases hz : natIn z c with
      | none => rw [hz] at hb; cases hb
      | some m' =>
        rw [hz] at hb; simp only at hb
        have h0 := natIn_run (P := P) (w := w) hm hz hc
        cases hi with
        | none => simp at hb
        | some x =>
          cases hi' with
          | none => exact hh.elim
          | some v =>
            simp only at hb
            cases hx : natIn x m' with
            | none => rw [hx] at hb; cases hb
            | some k =>
              rw [hx] at hb; simp only at hb
              have h1 := natIn_run (P := P) (w := w) hh hx (Nat.le_refl _)
              cases lo with
              | none =>
                cases lo' with
                | some v => exact hl.elim
                | none => simp at hb; obtain ⟨rfl, rfl, rfl⟩ := hb; exact ⟨by simp [Instr.sliceBounds, (h0 _).1, (h1 _).1], by omega, (h1 .index).2, (h0 .index).2, by simp⟩
              | some y =>
                cases lo' with
                | none => exact hl.elim
                | some u =>
                  simp only at hb
                  cases hy : natIn y k with
                  | none => rw [hy] at hb; cases hb
                  | some j =>
                    rw [hy] at hb; simp at hb; obtain ⟨rfl, rfl, rfl⟩ := hb
                    have h2 := natIn_run (P := P) (w := w) hl hy (Nat.le_refl _)
                    exact ⟨by simp [Instr.sliceBounds, (h0 _).1, (h1 _).1, (h2 _).1], (h2 .index).2, (h1 .index).2, (h0 .index).2, by simp⟩
theorem slcF_bnds {sz : Nat} {lo hi mx : Option AV} {A : AA} {n c : Nat} {ex : Bool} {k : Nat} {r : AV} (h : slcF sz lo hi mx (.sl A n c ex k) = some r) :
    ∃ l h m, bnds n c lo hi mx = some (l, h, m) ∧ ¬ ((m = l ∧ (mx.isNone ∧ ex = false)) ∨ (k ≠ sz ∧ l ≠ 0)) ∧ r = .sl (if m = l then A else some (A.b, A.o + l * sz)) (h - l) (m - l) (ex || mx.isSome) k := by
  simp only [slcF] at h
  split at h
  · rename_i l hh m hb
    split at h
    · cases h
    · rename_i hn
      cases h
      exact ⟨l, hh, m, hb, hn, rfl⟩
  · cases h
theorem run_slc {sz : Nat} {x r : AV} {u : Value} {lo hi mx : Option AV} {lo' hi' mx' : Option Value} {t e0 : TypeId} (hu : P.underlying t = some (.slice e0)) (hs : szOf P e0 = some sz)
    (hx : VR N ρ x u) (hl : OR N ρ lo lo') (hh : OR N ρ hi hi') (hm : OR N ρ mx mx')
    (h : slcF sz lo hi mx x = some r) : ∃ z, (Instr.sliceAt t u lo' hi' mx').run P w = .ok z w ∧ VR N ρ r z := by
  cases hx with
  | slN k =>
    obtain ⟨l, h', m, hb, hn, rfl⟩ := slcF_bnds h
    clear h
    obtain ⟨hr, h1, h2, h3, h4⟩ := run_bnds (P := P) (w := w) (isS := true) hl hh hm (Nat.le_refl 0) (Nat.le_refl 0) hb
    have : m = 0 := by omega
    have : l = 0 := by omega
    have : h' = 0 := by omega
    subst_vars
    refine ⟨.slice none 0 0, ?_, by simp; exact .slN k⟩
    simp only [Instr.sliceAt, Instr.slice, Sem.run_bind, run_underlying hu, Result.andThen_ok, hr, run_szOf hs, Sem.run_pure]
    cases mx <;> simp
  | sl b o len cap ex k cap' hb1 hb2 hb3 hb4 hb5 =>
    obtain ⟨l, h', m, hb, hn, rfl⟩ := slcF_bnds h
    clear h
    obtain ⟨hr, h1, h2, h3, h4⟩ := run_bnds (P := P) (w := w) (isS := true) hl hh hm hb3 hb2 hb
    have hrun : (Instr.sliceAt t (.slice (rA ρ (some (b, o))) len cap') lo' hi' mx').run P w = .ok (.slice (if (if mx.isSome then m else cap') = l then rA ρ (some (b, o)) else (rA ρ (some (b, o))).map (·.add (l * sz))) (h' - l) ((if mx.isSome then m else cap') - l)) w := by
      simp only [Instr.sliceAt, Instr.slice, Sem.run_bind, run_underlying hu, Result.andThen_ok, hr, run_szOf hs, Sem.run_pure]
    refine ⟨_, hrun, ?_⟩
    have hme : (if mx.isSome then m else cap') = l ↔ m = l := by
      cases mx with
      | some q => simp
      | none =>
        simp only [Option.isSome_none, Bool.false_eq_true, if_false]
        have := h4 rfl
        constructor
        · intro e; omega
        · intro e
          have hex : ex = true := by
            cases ex with
            | true => rfl
            | false => exact absurd (.inl ⟨e, by simp⟩) hn
          have := hb4 hex; omega
    have hcap : m - l ≤ (if mx.isSome then m else cap') - l := by
      cases mx with
      | some q => simp
      | none => simp only [Option.isSome_none, Bool.false_eq_true, if_false]; omega
    have hex' : (ex || mx.isSome) = true → (if mx.isSome then m else cap') - l = m - l := by
      cases mx with
      | some q => simp
      | none => simp only [Option.isSome_none, Bool.false_eq_true, if_false, Bool.or_false]; intro e; have := hb4 e; have := h4 rfl; omega
    have hbk : (ρ b).rw = true → ∀ o2, o2 = o + (if m = l then 0 else l * sz) → o2 + ((if mx.isSome then m else cap') - l) * k ≤ (ρ b).sz := by
      intro hr o2 ho2
      have h5 := hb5 hr
      have hle : (if mx.isSome then m else cap') ≤ cap' := by cases mx <;> simp; omega
      by_cases e : m = l
      · rw [if_pos e] at ho2
        subst ho2
        have e2 := hme.2 e
        rw [e2, Nat.sub_self, Nat.zero_mul]; omega
      · rw [if_neg e] at ho2
        rcases Nat.eq_zero_or_pos l with l0 | l0
        · subst l0; rw [Nat.zero_mul] at ho2; subst ho2
          have := Nat.mul_le_mul_right k hle
          simp only [Nat.sub_zero]; omega
        · have hk : k = sz := by
            rcases Nat.decEq k sz with hk | hk
            · exact absurd (.inr ⟨hk, by omega⟩) hn
            · exact hk
          subst hk ho2
          have hlm : l ≤ (if mx.isSome then m else cap') := by cases mx <;> simp <;> omega
          have e3 : l * k + ((if mx.isSome then m else cap') - l) * k = (if mx.isSome then m else cap') * k := by rw [← Nat.add_mul]; congr 1; omega
          have := Nat.mul_le_mul_right k hle
          omega
    by_cases e : m = l
    · rw [if_pos e, if_pos (hme.2 e)]
      refine .sl b o _ _ _ k _ hb1 (by omega) hcap hex' (fun hr => ?_)
      have := hbk hr o (by rw [if_pos e]; rfl); exact this
    · rw [if_neg e, if_neg (fun e2 => e (hme.1 e2))]
      have ea : (rA ρ (some (b, o))).map (·.add (l * sz)) = rA ρ (some (b, o + l * sz)) := by simp [rA, add_plain, Nat.add_assoc]
      rw [ea]
      refine .sl b (o + l * sz) _ _ _ k _ hb1 (by omega) hcap hex' (fun hr => ?_)
      exact hbk hr _ (by rw [if_neg e])
  | _ => simp [slcF] at h
theorem run_sslc {x r : AV} {u : Value} {lo hi : Option AV} {lo' hi' : Option Value} {t : TypeId} (hu : P.underlying t = some .string)
    (hx : VR N ρ x u) (hl : OR N ρ lo lo') (hh : OR N ρ hi hi')
    (h : sslcF lo hi x = some r) : ∃ z, (Instr.sliceAt t u lo' hi' none).run P w = .ok z w ∧ VR N ρ r z := by
  cases hx with
  | str s =>
    simp only [sslcF] at h
    split at h
    · rename_i l h' m hb
      cases h
      obtain ⟨hr, _⟩ := run_bnds (P := P) (w := w) (isS := false) (mx := none) (mx' := none) hl hh trivial (Nat.le_refl _) (Nat.le_refl _) hb
      exact ⟨_, by simp only [Instr.sliceAt, Instr.slice, Sem.run_bind, run_underlying hu, Result.andThen_ok, hr, Sem.run_pure, Option.isSome_none, Bool.false_eq_true, if_false], .str _⟩
    · cases h
  | _ => simp [sslcF] at h
end
end Go.M2

namespace Go.M2
open Go.RowKit (Below)
section
variable {P : Program} {N : Nat} {ρ : Nat → BI} {w : World}
theorem intT_iff {t : TypeId} (h : intT P t = true) : P.underlying t = some (.int .i64) := by
  unfold intT at h
  split at h
  · assumption
  · cases h
theorem VRL.ints {N : Nat} {ρ : Nat → BI} : ∀ {l : List AV} {x : List Int} {a : List Value}, M2.ints l = some x → VRL N ρ l a → a = x.map (.int .i64 ·)
  | [], x, a, h, hv => by
    simp only [M2.ints, Option.some.injEq] at h; subst h
    rw [hv.unnil]; rfl
  | .int .i64 n :: t, x, a, h, hv => by
    simp only [M2.ints, Option.map_eq_some_iff] at h
    obtain ⟨y, hy, rfl⟩ := h
    obtain ⟨v, a', rfl, h1, h2⟩ := hv.uncons
    cases h1
    rw [VRL.ints hy h2]; rfl
theorem VR.agg_inv {l : List AV} {v : Value} (h : VR N ρ (.agg l) v) : ∃ a : Array Value, v = .agg a ∧ VRL N ρ l a.toList := by
  cases h with
  | agg l a h1 h2 => exact ⟨a, rfl, by simpa using h1, fun i x v hx hv => h2 i x v hx (by simpa using hv)⟩
theorem run_equalInt {d : Nat} {t : TypeId} {a b : Int} (ht : P.underlying t = some (.int .i64)) : (Op.equalIn (d + 1) t (.int .i64 a) (.int .i64 b)).run P w = .ok (decide (a = b)) w := by
  rw [run_equalIn_int w d t .i64 .i64 a b ht]
  rfl
theorem run_partInt {t : TypeId} (ht : P.underlying t = some (.int .i64)) {cs : Array Value} {off : Nat} {v : Value} (h : cs[off]? = some v) : (part t cs off).run P w = .ok v w := by
  simp [part, isAgg, run_underlying ht, h]
theorem decide_drop {x y : List Int} {i : Nat} (hx : i < x.length) (hy : i < y.length) : decide (x.drop i = y.drop i) = (decide (x[i] = y[i]) && decide (x.drop (i + 1) = y.drop (i + 1))) := by
  rw [List.drop_eq_getElem_cons hx, List.drop_eq_getElem_cons hy, Bool.eq_iff_iff]
  simp only [decide_eq_true_eq, Bool.and_eq_true, List.cons.injEq]
theorem run_eqFieldsI {d : Nat} {x y : List Int} : ∀ {fs : List Field} {i : Nat}, fieldsI P i fs = true → x.length = i + fs.length → y.length = i + fs.length →
    (Op.eqFields (d + 1) (x.map (Value.int .i64 ·)).toArray (y.map (Value.int .i64 ·)).toArray fs).run P w = .ok (decide (x.drop i = y.drop i)) w
  | [], i, _, hx, hy => by
    rw [List.drop_eq_nil_of_le (by simp at hx; omega), List.drop_eq_nil_of_le (by simp at hy; omega)]
    simp [Op.eqFields]
  | f :: t, i, h, hx, hy => by
    simp only [fieldsI, Bool.and_eq_true, decide_eq_true_eq, beq_iff_eq] at h
    obtain ⟨⟨⟨h1, h2⟩, h3⟩, h4⟩ := h
    simp only [List.length_cons] at hx hy
    have ht := intT_iff h2
    have px : (part f.type (x.map (Value.int .i64 ·)).toArray f.offset).run P w = .ok (.int .i64 x[i]) w := run_partInt ht (by rw [h3]; simp [show i < x.length by omega])
    have py : (part f.type (y.map (Value.int .i64 ·)).toArray f.offset).run P w = .ok (.int .i64 y[i]) w := run_partInt ht (by rw [h3]; simp [show i < y.length by omega])
    have ih := run_eqFieldsI (d := d) (x := x) (y := y) h4 (by omega) (by omega)
    rw [Op.eqFields, if_pos h1]
    simp only [Sem.run_bind, px, py, Result.andThen_ok, run_equalInt ht]
    rw [decide_drop (by omega) (by omega)]
    by_cases he : x[i] = y[i]
    · simp [he, ih]
    · simp [he]
theorem run_eqArr {d n : Nat} {t e : TypeId} {x y : List Int} (ht : P.underlying t = some (.array n e)) (he : intT P e = true) (hs : szOf P e = some 1) (hx : x.length = n) (hy : y.length = n) :
    (Op.equalIn (d + 2) t (.agg (x.map (Value.int .i64 ·)).toArray) (.agg (y.map (Value.int .i64 ·)).toArray)).run P w = .ok (decide (x = y)) w := by
  have hte := intT_iff he
  rw [Op.equalIn]
  simp only [Sem.run_bind, run_underlying ht, Result.andThen_ok, run_szOf hs, Nat.mul_one]
  simp only [Std.Legacy.Range.forIn_eq_forIn_range', Std.Legacy.Range.size, Nat.sub_zero, Nat.add_one_sub_one, Nat.div_one]
  have key : ∀ (m i : Nat), i + m = n → (do
      let r ← forIn (List.range' i m) ((none : Option Bool), ()) fun (j : Nat) (_ : Option Bool × Unit) => do
        if (!(← Op.equalIn (d + 1) e (← part e (x.map (Value.int .i64 ·)).toArray j) (← part e (y.map (Value.int .i64 ·)).toArray j))) = true then pure (ForInStep.done (some false, ()))
        else pure (ForInStep.yield (none, ()))
      match r.1 with
        | some a => pure a
        | none => pure true : Sem Bool).run P w = .ok (decide (x.drop i = y.drop i)) w := by
    intro m
    induction m with
    | zero =>
      intro i hi
      rw [List.drop_eq_nil_of_le (by omega), List.drop_eq_nil_of_le (by omega)]
      simp
    | succ m ih =>
      intro i hi
      have px : (part e (x.map (Value.int .i64 ·)).toArray i).run P w = .ok (.int .i64 x[i]) w := run_partInt hte (by simp [show i < x.length by omega])
      have py : (part e (y.map (Value.int .i64 ·)).toArray i).run P w = .ok (.int .i64 y[i]) w := run_partInt hte (by simp [show i < y.length by omega])
      have := ih (i + 1) (by omega)
      simp only [List.range'_succ, List.forIn_cons, Sem.run_bind, px, py, Result.andThen_ok, run_equalInt hte] at this ⊢
      rw [decide_drop (by omega) (by omega)]
      by_cases he : x[i] = y[i]
      · simpa [he] using this
      · simp [he]
  have h := key n 0 (by omega)
  simp at h ⊢
  rw [← h]
  congr 1
  funext a w'
  rcases a with ⟨_ | _, _⟩ <;> rfl
theorem ktOf_l {t : TypeId} {n : Nat} (h : ktOf P t = some (.l n)) : (∃ fs, P.underlying t = some (.struct fs) ∧ fieldsI P 0 fs.toList = true ∧ P.stoodInHeld t = false ∧ fs.size = n) ∨ ∃ e, P.underlying t = some (.array n e) ∧ intT P e = true ∧ szOf P e = some 1 := by
  unfold ktOf at h
  split at h
  · cases h
  · cases h
  · rename_i fs hu
    split at h
    · rename_i hc
      cases h
      simp only [Bool.and_eq_true, Bool.not_eq_true'] at hc
      exact .inl ⟨fs, hu, hc.1, hc.2, rfl⟩
    · cases h
  · rename_i m e hu
    split at h
    · rename_i hc
      cases h
      simp only [Bool.and_eq_true, beq_iff_eq] at hc
      exact .inr ⟨e, hu, hc.1, hc.2⟩
    · cases h
  · cases h
theorem ktOf_i {t : TypeId} (h : ktOf P t = some .i) : P.underlying t = some (.int .i64) := by
  unfold ktOf at h
  split at h
  · assumption
  · cases h
  · split at h <;> cases h
  · split at h <;> cases h
  · cases h
theorem ktOf_s {t : TypeId} (h : ktOf P t = some .s) : P.underlying t = some .string := by
  unfold ktOf at h
  split at h
  · cases h
  · assumption
  · split at h <;> cases h
  · split at h <;> cases h
  · cases h
inductive KV : KT → AV → Value → Prop where
  | i (n : Int) : KV .i (.int .i64 n) (.int .i64 n)
  | s (b : ByteArray) : KV .s (.str b) (.string b)
  | l (l : List AV) (x : List Int) (h : M2.ints l = some x) : KV (.l x.length) (.agg l) (.agg (x.map (Value.int .i64 ·)).toArray)
theorem keyF_l {n : Nat} {a b : List AV} {r : Bool} (h : keyF (.l n) (.agg a) (.agg b) = some r) : ∃ x y, M2.ints a = some x ∧ M2.ints b = some y ∧ x.length = n ∧ y.length = n ∧ r = decide (x = y) := by
  simp only [keyF] at h
  split at h
  · rename_i x y hx hy
    split at h
    · rename_i hl; cases h; exact ⟨x, y, hx, hy, hl.1, hl.2, rfl⟩
    · cases h
  · cases h
theorem keyF_KV {kt : KT} {x y : AV} {r : Bool} {u v : Value} (h : keyF kt x y = some r) (hx : VR N ρ x u) (hy : VR N ρ y v) : KV kt x u ∧ KV kt y v := by
  cases kt with
  | i =>
    cases hx <;> cases hy <;> simp only [keyF] at h <;> try cases h
    rename_i k a k' b
    cases k <;> cases k' <;> simp only [keyF] at h <;> first | exact ⟨.i _, .i _⟩ | cases h
  | s =>
    cases hx <;> cases hy <;> simp only [keyF] at h <;> try cases h
    exact ⟨.s _, .s _⟩
  | l n =>
    match x, y, hx, hy, h with
    | .agg la, .agg lb, hx, hy, h =>
      obtain ⟨xa, xb, h1, h2, rfl, h4, _⟩ := keyF_l h
      obtain ⟨a, rfl, ha⟩ := hx.agg_inv
      obtain ⟨b, rfl, hb⟩ := hy.agg_inv
      have e1 := VRL.ints h1 ha
      have e2 := VRL.ints h2 hb
      refine ⟨?_, ?_⟩
      · have := KV.l la xa h1
        rwa [show (xa.map (Value.int .i64 ·)).toArray = a by rw [← e1]] at this
      · have := KV.l lb xb h2
        rw [h4] at this
        rwa [show (xb.map (Value.int .i64 ·)).toArray = b by rw [← e2]] at this
theorem KV.det {kt : KT} {x : AV} {u v : Value} (h : KV kt x u) (hv : VR N ρ x v) : v = u := by
  cases h with
  | i n => cases hv; rfl
  | s b => cases hv; rfl
  | l l x h =>
    obtain ⟨a, rfl, ha⟩ := hv.agg_inv
    rw [← VRL.ints h ha]
theorem KV.same {kt : KT} {x y : AV} {u v : Value} (h : keyF kt x y = some true) (hx : KV kt x u) (hy : KV kt y v) : v = u := by
  cases hx with
  | i n =>
    cases hy with
    | i m => simp only [keyF, Option.some.injEq, decide_eq_true_eq] at h; rw [h]
  | s a =>
    cases hy with
    | s b => simp only [keyF, Option.some.injEq, decide_eq_true_eq] at h; rw [h]
  | l la xa ha =>
    generalize hn : xa.length = n at *
    cases hy with
    | l lb xb hb =>
      obtain ⟨x', y', h1, h2, h3, h4, h5⟩ := keyF_l h
      rw [ha] at h1; rw [hb] at h2
      cases h1; cases h2
      have := of_decide_eq_true h5.symm
      rw [this]
theorem KV.bits {kt : KT} {x : AV} {u : Value} (h : KV kt x u) : Instr.sameBits 10000 u u = true := by
  have : ∀ n, Instr.sameBits (n + 1) u u = true := fun n => by
    cases h with
    | i n => simp [Instr.sameBits]
    | s b => simp [Instr.sameBits, Go.MapKept.bytes_beq]
    | l l x h =>
      simp only [Instr.sameBits, beq_self_eq_true, Bool.true_and, List.all_eq_true]
      intro p hp
      obtain ⟨i, hi, e⟩ := List.getElem_of_mem hp
      rw [List.getElem_zip] at e
      rw [← e]
      simp [Instr.sameBits]
  exact this 9999
theorem run_equalK {d : Nat} {t : TypeId} {kt : KT} {x y : AV} {r : Bool} {u v : Value} (ht : ktOf P t = some kt) (h : keyF kt x y = some r) (hx : KV kt x u) (hy : KV kt y v) :
    (Op.equalIn (d + 2) t u v).run P w = .ok r w := by
  cases hx with
  | i n =>
    cases hy with
    | i m => simp only [keyF, Option.some.injEq] at h; subst h; exact run_equalInt (ktOf_i ht)
  | s a =>
    cases hy with
    | s b =>
      simp only [keyF, Option.some.injEq] at h; subst h
      rw [run_equalIn_string w (d + 1) t a b (ktOf_s ht)]
      congr 1
      rw [Bool.eq_iff_iff]
      simp only [beq_iff_eq, decide_eq_true_eq, ByteArray.toList_eq]
      constructor
      · intro e; cases a; cases b; simp_all [Array.toList_inj]
      · intro e; rw [e]
  | l la xa ha =>
    generalize hn : xa.length = n at *
    cases hy with
    | l lb xb hb =>
      obtain ⟨x', y', h1, h2, h3, h4, rfl⟩ := keyF_l h
      rw [ha] at h1; rw [hb] at h2
      cases h1; cases h2
      rcases ktOf_l ht with ⟨fs, hu, h5, h6, h7⟩ | ⟨e, hu, h5, h6⟩
      · have hfo : P.fieldsOf t = fs := by simp [Program.fieldsOf, hu]
        rw [run_equalIn_struct w (d + 1) t _ _ (by rw [hfo]; exact hu) h6, hfo]
        have := run_eqFieldsI (d := d) (w := w) (x := xa) (y := xb) h5 (by simp; omega) (by simp; omega)
        simpa using this
      · exact run_eqArr hu h5 h6 h3 rfl
theorem run_checkFieldsI {em : Bool} {d : Nat} {x : List Int} : ∀ {fs : List Field} {i : Nat}, fieldsI P i fs = true → x.length = i + fs.length →
    (forIn fs PUnit.unit fun (f : Field) (_ : PUnit) => do
      if f.name ≠ "_" then
        Instr.checkKey em (d + 1) f.type (← part f.type (x.map (Value.int .i64 ·)).toArray f.offset)
        pure (ForInStep.yield PUnit.unit)
      else pure (ForInStep.yield PUnit.unit) : Sem PUnit).run P w = .ok PUnit.unit w
  | [], i, _, _ => by simp
  | f :: t, i, h, hx => by
    simp only [fieldsI, Bool.and_eq_true, decide_eq_true_eq, beq_iff_eq] at h
    obtain ⟨⟨⟨h1, h2⟩, h3⟩, h4⟩ := h
    simp only [List.length_cons] at hx
    have ht := intT_iff h2
    have px : (part f.type (x.map (Value.int .i64 ·)).toArray f.offset).run P w = .ok (.int .i64 x[i]) w := run_partInt ht (by rw [h3]; simp [show i < x.length by omega])
    have hck : (Instr.checkKey em (d + 1) f.type (.int .i64 x[i])).run P w = .ok () w := by simp [Instr.checkKey, run_underlying ht]
    have ih := run_checkFieldsI (em := em) (d := d) (x := x) h4 (by omega)
    simp only [List.forIn_cons, h1, ne_eq, not_false_eq_true, if_true, Sem.run_bind, px, Result.andThen_ok, hck, Sem.run_pure]
    exact ih
theorem run_checkN {em : Bool} {d : Nat} {t : TypeId} {kt : KT} {x : AV} {u : Value} (ht : ktOf P t = some kt) (hx : KV kt x u) : (Instr.checkKey em (d + 1 + 1) t u).run P w = .ok () w := by
  cases hx with
  | i n => simp [Instr.checkKey, run_underlying (ktOf_i ht)]
  | s b => simp [Instr.checkKey, run_underlying (ktOf_s ht)]
  | l la xa ha =>
    rcases ktOf_l ht with ⟨fs, hu, h5, h6, h7⟩ | ⟨e, hu, h5, h6⟩
    · rw [Instr.checkKey]
      simp only [Sem.run_bind, run_underlying hu, Result.andThen_ok]
      rw [← Array.forIn_toList]
      have := run_checkFieldsI (em := em) (d := d) (w := w) (x := xa) h5 (by simp; omega)
      refine (congrArg (fun r => Result.andThen r _) this).trans ?_
      simp
    · rw [Instr.checkKey]
      have hte := intT_iff h5
      simp only [Sem.run_bind, run_underlying hu, Result.andThen_ok]
      simp only [Std.Legacy.Range.forIn_eq_forIn_range', Std.Legacy.Range.size, Nat.sub_zero, Nat.add_one_sub_one, Nat.div_one]
      have key : ∀ (m i : Nat), i + m = xa.length → (forIn (List.range' i m) PUnit.unit fun (j : Nat) (_ : PUnit) => do
          Instr.checkKey em (d + 1) e (← part e (xa.map (Value.int .i64 ·)).toArray (j * (← sizeOf e)))
          pure (ForInStep.yield PUnit.unit) : Sem PUnit).run P w = .ok PUnit.unit w := by
        intro m
        induction m with
        | zero => intro i hi; simp
        | succ m ih =>
          intro i hi
          have px : (part e (xa.map (Value.int .i64 ·)).toArray i).run P w = .ok (.int .i64 xa[i]) w := run_partInt hte (by simp [show i < xa.length by omega])
          have hck : (Instr.checkKey em (d + 1) e (.int .i64 xa[i])).run P w = .ok () w := by simp [Instr.checkKey, run_underlying hte]
          have := ih (i + 1) (by omega)
          simp only [List.range'_succ, List.forIn_cons, Sem.run_bind, run_szOf h6, Result.andThen_ok, Nat.mul_one, px, hck, Sem.run_pure] at this ⊢
          exact this
      have := key xa.length 0 (by omega)
      refine (congrArg (fun r => Result.andThen r _) this).trans ?_
      simp
theorem run_checkK {em : Bool} {t : TypeId} {kt : KT} {x : AV} {u : Value} (ht : ktOf P t = some kt) (hx : KV kt x u) : (Instr.checkKey em 10000 t u).run P w = .ok () w := run_checkN (d := 9998) ht hx
def MR (N : Nat) (ρ : Nat → BI) (es : List (AV × AV)) (rs : List MapEntry) : Prop := es.length = rs.length ∧ ∀ (i : Nat) (e : AV × AV) (r : MapEntry), es[i]? = some e → rs[i]? = some r → VR N ρ e.1 r.key ∧ VR N ρ e.2 r.val
theorem MR.uncons {e : AV × AV} {es : List (AV × AV)} {rs : List MapEntry} (h : MR N ρ (e :: es) rs) : ∃ r t, rs = r :: t ∧ VR N ρ e.1 r.key ∧ VR N ρ e.2 r.val ∧ MR N ρ es t := by
  cases rs with
  | nil => have := h.1; simp at this
  | cons r t => exact ⟨r, t, rfl, (h.2 0 e r rfl rfl).1, (h.2 0 e r rfl rfl).2, by have := h.1; simpa using this, fun i e r he hr => h.2 (i + 1) e r (by simpa using he) (by simpa using hr)⟩
theorem MR.nil : MR N ρ [] [] := ⟨rfl, fun i e r h => by simp at h⟩
theorem MR.cons {e : AV × AV} {r : MapEntry} {es : List (AV × AV)} {rs : List MapEntry} (h1 : VR N ρ e.1 r.key) (h2 : VR N ρ e.2 r.val) (h : MR N ρ es rs) : MR N ρ (e :: es) (r :: rs) := by
  refine ⟨by simp [h.1], fun i e' r' he hr => ?_⟩
  cases i with
  | zero => simp at he hr; subst he hr; exact ⟨h1, h2⟩
  | succ i => simp at he hr; exact h.2 i e' r' he hr
theorem run_find {t : TypeId} {kt : KT} {k : AV} {u : Value} (ht : ktOf P t = some kt) (hk : KV kt k u) : ∀ {es : List (AV × AV)} {rs : List MapEntry} {o : Option AV} (i : Nat), MR N ρ es rs → findM kt k es = some o →
    ∃ a : Option (Nat × Value), (Instr.findAsking t u rs i).run P w = .ok a w ∧ (∀ d, P.underlying t = some d → Instr.findNow d u rs i = some a ∨ Instr.findNow d u rs i = none) ∧
      match o with
      | none => a = none ∧ ∀ v', setM kt k v' es = some (es ++ [(k, v')])
      | some v => ∃ j z, a = some (i + j, z) ∧ VR N ρ v z ∧ (∃ r, rs[j]? = some r ∧ r.key = u) ∧ ∀ v', setM kt k v' es = some (es.set j (k, v'))
  | [], rs, o, i, hm, hf => by
    simp only [findM, Option.some.injEq] at hf; subst hf
    have hrs : rs = [] := by have := hm.1; simp at this; exact List.eq_nil_of_length_eq_zero this.symm
    subst hrs
    exact ⟨none, by simp [Instr.findAsking], fun d _ => .inl rfl, rfl, fun v' => rfl⟩
  | (a, v) :: es, rs, o, i, hm, hf => by
    obtain ⟨r, tl, rfl, h1, h2, h3⟩ := hm.uncons
    simp only at h1 h2
    simp only [findM] at hf
    cases hkf : keyF kt k a with
    | none => rw [hkf] at hf; cases hf
    | some b =>
      rw [hkf] at hf
      have hka : KV kt a r.key := by
        have hku : VR N ρ k u := by
          cases hk with
          | i n => exact .int _ _
          | s b => exact .str _
          | l l x h =>
            exact VRL.agg (by
              have : ∀ {l : List AV} {x : List Int}, M2.ints l = some x → VRL N ρ l (x.map (Value.int .i64 ·)) := by
                intro l
                induction l with
                | nil => intro x h; simp only [M2.ints, Option.some.injEq] at h; subst h; exact VRL.nil _ _
                | cons y l ih =>
                  intro x h
                  match y, h with
                  | .int .i64 n, h =>
                    simp only [M2.ints, Option.map_eq_some_iff] at h
                    obtain ⟨z, hz, rfl⟩ := h
                    exact .cons (.int _ _) (ih hz)
              simpa using this h)
        exact (keyF_KV hkf hku h1).2
      have heq := run_equalK (d := 9998) (w := w) ht hkf hk hka
      have heq' : (Op.equal t u r.key).run P w = .ok b w := heq
      have hnow : ∀ d, P.underlying t = some d → Instr.sameNow d u r.key = some b ∨ Instr.sameNow d u r.key = none := by
        intro d hd
        generalize r.key = rk at hka
        cases hk with
        | i n =>
          cases hka with
          | i m =>
            rw [ktOf_i ht] at hd; cases hd
            simp only [keyF, Option.some.injEq] at hkf
            left; simp only [Instr.sameNow]; rw [← hkf]; rfl
        | s x =>
          cases hka with
          | s y =>
            rw [ktOf_s ht] at hd; cases hd
            simp only [keyF, Option.some.injEq] at hkf
            left; simp only [Instr.sameNow]; rw [← hkf, beq_toListBytes]
            congr 1
            rw [Bool.eq_iff_iff]
            simp only [beq_iff_eq, decide_eq_true_eq, ByteArray.toList_eq]
            constructor
            · intro e; cases x; cases y; simp_all [Array.toList_inj]
            · intro e; rw [e]
        | l l x h =>
          right
          rcases ktOf_l ht with ⟨fs, hu, _⟩ | ⟨e, hu, _⟩ <;> (rw [hu] at hd; cases hd; rfl)
      cases b with
      | true =>
        cases hf
        refine ⟨some (i, r.val), by simp [Instr.findAsking, heq'], fun d hd => ?_, 0, r.val, rfl, h2, ⟨r, rfl, KV.same hkf hk hka⟩, fun v' => by simp [setM, hkf]⟩
        rcases hnow d hd with h | h
        · left; simp [Instr.findNow, h]
        · right; simp [Instr.findNow, h]
      | false =>
        obtain ⟨a', q1, q2, q3⟩ := run_find ht hk (i + 1) h3 hf
        refine ⟨a', by simp [Instr.findAsking, heq', q1], fun d hd => ?_, ?_⟩
        · rcases hnow d hd with h | h
          · simp only [Instr.findNow, h]; exact q2 d hd
          · right; simp [Instr.findNow, h]
        · cases o with
          | none => exact ⟨q3.1, fun v' => by simp [setM, hkf, q3.2 v']⟩
          | some v =>
            obtain ⟨j, z, h4, h5, h6, h7⟩ := q3
            exact ⟨j + 1, z, by rw [h4]; congr 2; omega, h5, h6, fun v' => by simp [setM, hkf, h7 v']⟩
theorem run_findK {t : TypeId} {kt : KT} {k : AV} {u : Value} {es : List (AV × AV)} {rs : List MapEntry} {o : Option AV} (ht : ktOf P t = some kt) (hk : KV kt k u) (hm : MR N ρ es rs) (hf : findM kt k es = some o) :
    ∃ a : Option (Nat × Value), (Instr.findKey t u rs).run P w = .ok a w ∧ match o with
      | none => a = none ∧ ∀ v', setM kt k v' es = some (es ++ [(k, v')])
      | some v => ∃ j z, a = some (j, z) ∧ VR N ρ v z ∧ (∃ r, rs[j]? = some r ∧ r.key = u) ∧ ∀ v', setM kt k v' es = some (es.set j (k, v')) := by
  obtain ⟨a, h1, h2, h3⟩ := run_find (w := w) ht hk 0 hm hf
  obtain ⟨d, hd⟩ : ∃ d, P.underlying t = some d := by
    cases hu : P.underlying t with
    | none => simp [ktOf, hu] at ht
    | some d => exact ⟨d, rfl⟩
  refine ⟨a, ?_, ?_⟩
  · unfold Instr.findKey
    simp only [Sem.run_bind, run_underlying hd, Result.andThen_ok]
    rcases h2 d hd with h | h
    · rw [h]; simp
    · rw [h]; exact h1
  · cases o with
    | none => exact h3
    | some v => obtain ⟨j, z, h4, h5⟩ := h3; exact ⟨j, z, by rw [h4, Nat.zero_add], h5⟩
theorem zero1_run {t : TypeId} {z : AV} (h : zero1 P t = some z) : ∃ v, (zeroValue t).run P w = .ok v w ∧ VR N ρ z v := by
  unfold zero1 at h
  split at h
  · rename_i i hi
    split at h
    · rename_i v hv
      exact ⟨v, by simp [zeroValue, run_typeInfo w hi, hv], av1_VR h N ρ⟩
    · cases h
  · cases h
theorem lookM_run {kt' et : TypeId} {kt : KT} {z k r : AV} {ok : Bool} {u : Value} {es : List (AV × AV)} {rs : Array MapEntry} (ht : ktOf P kt' = some kt) (hz : zero1 P et = some z)
    (hk : VR N ρ k u) (hm : MR N ρ es rs.toList) (h : lookM kt z ok k (some es) = some r) :
    ∃ v, (do
      Instr.checkKey rs.isEmpty 10000 kt' u
      let (v, is) ← match ← Instr.findKey kt' u rs.toList with
        | some (_, v) => pure (v, true)
        | none => pure (← zeroValue et, false)
      pure (if ok then .tuple #[v, .bool is] else v) : Sem Value).run P w = .ok v w ∧ VR N ρ r v := by
  unfold lookM at h
  split at h
  · rename_i b es' hkk hes
    cases hes
    have hku := (keyF_KV hkk hk hk).1
    obtain ⟨zv, hz1, hz2⟩ := zero1_run (N := N) (ρ := ρ) (w := w) hz
    cases hf : findM kt k es with
    | none => rw [hf] at h; cases h
    | some o =>
      rw [hf] at h
      obtain ⟨a, q1, q2⟩ := run_findK (w := w) ht hku hm hf
      have tup : ∀ {x : AV} {v : Value} {c : Bool}, VR N ρ x v → VR N ρ (.tup [x, .bool c]) (.tuple #[v, .bool c]) := fun {x v c} hx => .tup _ _ rfl fun i y y' hy hy' => by
        match i, hy, hy' with
        | 0, hy, hy' => simp at hy hy'; subst hy hy'; exact hx
        | 1, hy, hy' => simp at hy hy'; subst hy hy'; exact .bool _
      cases o with
      | none =>
        simp only at q2 h
        obtain ⟨rfl, _⟩ := q2
        cases ok
        · simp only [Bool.false_eq_true, if_false, Option.some.injEq] at h; subst h
          exact ⟨zv, by simp [run_checkK ht hku, q1, hz1], hz2⟩
        · simp only [if_true, Option.some.injEq] at h; subst h
          exact ⟨.tuple #[zv, .bool false], by simp [run_checkK ht hku, q1, hz1], tup hz2⟩
      | some v =>
        obtain ⟨j, v', rfl, q3, _⟩ := q2
        simp only at h
        cases ok
        · simp only [Bool.false_eq_true, if_false, Option.some.injEq] at h; subst h
          exact ⟨v', by simp [run_checkK ht hku, q1], q3⟩
        · simp only [if_true, Option.some.injEq] at h; subst h
          exact ⟨.tuple #[v', .bool true], by simp [run_checkK ht hku, q1], tup q3⟩
  · cases h
end
end Go.M2

namespace Go.M2
open Go.RowKit (Below)
section
variable {P : Program} {ρ : Nat → BI} {e : Env} {a : Act} {w : World}
theorem map_some' {α β : Type} {f : α → β} {o : Option α} {b : β} (h : o.map f = some b) : ∃ x, o = some x ∧ f x = b := by
  cases o with
  | none => cases h
  | some x => exact ⟨x, rfl, by simpa using h⟩
theorem cXo_OR {N : Nat} {x : Option Operand} {y : Option X} (h : cXo x = some y) (ho : OpsR N ρ (xoT y) e a) : OR N ρ (y.map (X.ev e)) (x.map a.eval) := by
  cases x with
  | none => simp [cXo] at h; subst h; trivial
  | some x =>
    simp only [cXo] at h
    obtain ⟨z, hz, rfl⟩ := map_some' h
    exact cX_VR hz ho
theorem setAt_length : ∀ (c : List AV) (z : List AV) (off : Nat), (setAt z off c).length = z.length
  | [], z, off => rfl
  | x :: t, z, off => by simp [setAt, setAt_length t]
theorem set_VRL {N : Nat} {z : List AV} {zs : Array Value} {i : Nat} {x : AV} {v : Value} (h : VRL N ρ z zs.toList) (hx : VR N ρ x v) : VRL N ρ (z.set i x) (zs.setIfInBounds i v).toList := by
  refine ⟨by simpa using h.1, fun j y u hy hu => ?_⟩
  rw [Array.getElem?_toList] at hu
  by_cases e : i = j
  · subst e
    rw [List.getElem?_set_self'] at hy
    rw [Array.getElem?_setIfInBounds_self] at hu
    split at hu
    · cases hu
      cases hz : z[i]? with
      | none => rw [hz] at hy; cases hy
      | some y0 => rw [hz] at hy; simp at hy; subst hy; exact hx
    · cases hu
  · rw [List.getElem?_set_ne e] at hy
    rw [Array.getElem?_setIfInBounds_ne e] at hu
    exact h.2 j y u hy (by rw [Array.getElem?_toList]; exact hu)
theorem setAt_VRL {N : Nat} (o : Nat) : ∀ (c : List AV) (vs : List Value) (z : List AV) (zs : Array Value) (k : Nat), VRL N ρ z zs.toList → VRL N ρ c vs →
    VRL N ρ (setAt z (o + k) c) ((vs.zipIdx k).foldl (fun cs (x : Value × Nat) => cs.setIfInBounds (o + x.2) x.1) zs).toList
  | [], vs, z, zs, k, hz, hc => by have := hc.unnil; subst this; exact hz
  | x :: t, vs, z, zs, k, hz, hc => by
    obtain ⟨v, vt, rfl, hx, ht⟩ := hc.uncons
    simp only [List.zipIdx_cons, List.foldl_cons, setAt]
    have := setAt_VRL o t vt (z.set (o + k) x) (zs.setIfInBounds (o + k) v) (k + 1) (set_VRL hz hx) ht
    rwa [show o + (k + 1) = o + k + 1 from by omega] at this
theorem fill_cons (place : Nat → Option (Nat × Nat)) (cells : Array Value) (i : Nat) (v : Value) (rest : List (Nat × Value)) {off size : Nat} (hp : place i = some (off, size))
    (hs : v.cells.size = size) (ho : off + size ≤ cells.size) :
    Instr.fill place cells ((i, v) :: rest) = Instr.fill place ((v.cells.toList.zipIdx).foldl (fun cs (x : Value × Nat) => cs.setIfInBounds (off + x.2) x.1) cells) rest := by
  have h1 : ¬ (v.cells.size ≠ size || decide (off + v.cells.size > cells.size)) = true := by simp [hs]; omega
  simp only [Instr.fill, hp, if_neg h1]
  congr 1
  rw [← Array.foldl_toList]
  simp
theorem bldF_fill {N : Nat} (place : Nat → Option (Nat × Nat)) (fs : Array Field) (hpl : ∀ i f n, fs[i]? = some f → szOf P f.type = some n → place i = some (f.offset, n)) :
    ∀ (ps : List (Nat × Operand)) (qs : List (Nat × Nat × X)) (z l : List AV) (zs : Array Value), cPartsS P fs ps = some qs → OpsR N ρ (xsT (qs.map (·.2.2))) e a → bldF e z qs = some l →
    VRL N ρ z zs.toList → ∃ cs, Instr.fill place zs (ps.map fun p => (p.1, a.eval p.2)) = some cs ∧ VRL N ρ l cs.toList
  | [], qs, z, l, zs, hq, ho, hl, hz => by
    simp [cPartsS] at hq; subst hq
    simp [bldF] at hl; subst hl
    exact ⟨zs, rfl, hz⟩
  | (i, x) :: t, qs, z, l, zs, hq, ho, hl, hz => by
    simp only [cPartsS] at hq
    split at hq
    · rename_i f y r hf hy hr
      split at hq
      · rename_i n hn
        cases hq
        simp only [bldF] at hl
        split at hl
        · rename_i c hc
          split at hl
          · rename_i hcond
            have ho' : OpsR N ρ (y.tmps ++ xsT (r.map (·.2.2))) e a := by simpa [xsT] using ho
            have hv := cX_VR hy ho'.left
            have hvc := hv.oneCell hc
            have hsz : (a.eval x).cells.size = n := by have := hvc.1; simp at this; omega
            have hzl : z.length = zs.size := by simpa using hz.1
            have hz' := setAt_VRL f.offset c _ z zs 0 hz hvc
            obtain ⟨cs, h1, h2⟩ := bldF_fill place fs hpl t r _ l _ hr ho'.right hl hz'
            refine ⟨cs, ?_, h2⟩
            rw [List.map_cons, fill_cons place zs i _ _ (hpl i f n hf hn) hsz (by omega)]
            exact h1
          · cases hl
        · cases hl
      · cases hq
    · cases hq
theorem places_at (P : Program) : ∀ (fs : List Field) (ps : List (Nat × Nat)), fs.mapM (fun (f : Field) => (P.info? f.type).map fun i => (f.offset, i.size)) = some ps →
    ∀ (i : Nat) (f : Field) (n : Nat), fs[i]? = some f → szOf P f.type = some n → ps[i]? = some (f.offset, n)
  | [], ps, h, i, f, n, hf, hn => by simp at hf
  | g :: t, ps, h, i, f, n, hf, hn => by
    simp only [List.mapM_cons, Option.bind_eq_bind, Option.pure_def, Option.bind_eq_some_iff] at h
    obtain ⟨p, hp, r, hr, he⟩ := h
    cases he
    cases i with
    | zero =>
      simp at hf; subst hf
      obtain ⟨j, hj, rfl⟩ := szOf_info hn
      rw [hj] at hp; simpa using hp.symm
    | succ i => simpa using places_at P t r hr i f n (by simpa using hf) hn
theorem zeroOf_info {N : Nat} {t : TypeId} {z : List AV} (h : zeroOf P t = some z) : ∃ i v, P.info? t = some i ∧ i.zero = some v ∧ VRL N ρ z v.cells.toList := by
  unfold zeroOf at h
  split at h
  · rename_i i hi
    split at h
    · rename_i v hv
      exact ⟨i, v, hi, hv, avs_VRL h _ _⟩
    · cases h
  · cases h
theorem run_zero {t : TypeId} {i : TypeInfo} {v : Value} (hi : P.info? t = some i) (hv : i.zero = some v) : (zeroValue t).run P w = .ok v w := by
  simp [zeroValue, run_typeInfo w hi, hv]
theorem pick_run {N : Nat} {c x y r : AV} {cu xu yu : Value} (hc : VR N ρ c cu) (hx : VR N ρ x xu) (hy : VR N ρ y yu) (h : pickF c x y = some r) :
    ∃ b, cu = .bool b ∧ VR N ρ r (if b then xu else yu) := by
  cases hc with
  | bool b => simp [pickF] at h; subst h; exact ⟨b, rfl, by cases b <;> simp [hx, hy]⟩
  | _ => simp [pickF] at h
theorem nilck_run {N : Nat} {x r : AV} {u : Value} (hx : VR N ρ x u) (h : nilckF x = some r) : VR N ρ r u ∧ ∃ A, u = .pointer (some A) := by
  cases hx with
  | ptr A hA =>
    cases A with
    | none => simp [nilckF] at h
    | some p => simp [nilckF] at h; subst h; exact ⟨.ptr _ hA, _, rfl⟩
  | _ => simp [nilckF] at h
theorem gives_of {op : Op} {u : Value} {s : Sem Value} (h : ∀ dst ty pos af gd, execOp a.eval ⟨dst, op, ty, pos, af, gd⟩ = (do pure (.value (← s)))) (hs : s.run P w = .ok u w) : Gives P op a w u := by
  intro dst ty pos af gd
  rw [h]
  simp [hs]
theorem un_ptr_run {N n : Nat} {x r : AV} {u : Value} (hx : VR N ρ x u) (h : ptrOff n x = some r) : ∃ b o, u = .pointer (some ⟨b, o, none⟩) ∧ VR N ρ r (.pointer (some ⟨b, o + n, none⟩)) := by
  cases hx with
  | ptr A hA =>
    cases A with
    | none => simp [ptrOff] at h
    | some p =>
      obtain ⟨b, o⟩ := p
      simp [ptrOff] at h; subst h
      have := VR.ptr (N := N) (ρ := ρ) (some (b, o + n)) (fun b' o' e => by cases e; exact hA b o rfl)
      exact ⟨(ρ b).blk, (ρ b).off + o, rfl, by simpa [rA, Nat.add_assoc] using this⟩
  | _ => simp [ptrOff] at h
theorem iaddr_run {N sz : Nat} {x i r : AV} {u v : Value} (hx : VR N ρ x u) (hi : VR N ρ i v) (h : iaddrF sz x i = some r) :
    ∃ b o n c k j, u = .slice (some ⟨b, o, none⟩) n c ∧ v = .int k j ∧ (0 ≤ j ∧ j < (n : Int)) ∧ VR N ρ r (.pointer (some ⟨b, o + j.toNat * sz, none⟩)) := by
  cases hx with
  | slN k =>
    cases hi with
    | int k' j =>
      simp only [iaddrF] at h
      split at h
      · rename_i hc; omega
      · cases h
    | _ => simp [iaddrF] at h
  | sl b o len cap ex k cap' hb h1 h2 h3 h4 =>
    cases hi with
    | int k' j =>
      simp only [iaddrF] at h
      split at h
      · rename_i hc
        cases h
        have := VR.ptr (N := N) (ρ := ρ) (some (b, o + j.toNat * sz)) (fun b' o' e => by cases e; exact hb)
        exact ⟨(ρ b).blk, (ρ b).off + o, len, cap', k', j, rfl, rfl, hc, by simpa [rA, Nat.add_assoc] using this⟩
      · cases h
    | _ => simp [iaddrF] at h
  | _ => simp [iaddrF] at h
theorem aaddr_run {N len sz : Nat} {x i r : AV} {u v : Value} (hx : VR N ρ x u) (hi : VR N ρ i v) (h : aaddrF len sz x i = some r) :
    ∃ b o k j, u = .pointer (some ⟨b, o, none⟩) ∧ v = .int k j ∧ (0 ≤ j ∧ j < (len : Int)) ∧ VR N ρ r (.pointer (some ⟨b, o + j.toNat * sz, none⟩)) := by
  cases hx with
  | ptr A hA =>
    cases A with
    | none => simp [aaddrF] at h
    | some p =>
      obtain ⟨b, o⟩ := p
      cases hi with
      | int k' j =>
        simp only [aaddrF] at h
        split at h
        · rename_i hc
          cases h
          have := VR.ptr (N := N) (ρ := ρ) (some (b, o + j.toNat * sz)) (fun b' o' e => by cases e; exact hA b o rfl)
          exact ⟨(ρ b).blk, (ρ b).off + o, k', j, rfl, rfl, hc, by simpa [rA, Nat.add_assoc] using this⟩
        · cases h
      | _ => simp [aaddrF] at h
  | _ => simp [aaddrF] at h
theorem sidx_run {N : Nat} {x i r : AV} {u v : Value} (hx : VR N ρ x u) (hi : VR N ρ i v) (h : sidxF x i = some r) :
    ∃ s k j b, u = .string s ∧ v = .int k j ∧ (if 0 ≤ j then s[j.toNat]? else none) = some b ∧ r = .int .u8 (UInt8.toNat b) := by
  cases hx with
  | str s =>
    cases hi with
    | int k j =>
      simp only [sidxF] at h
      split at h
      · rename_i hj
        obtain ⟨b, hb, rfl⟩ := map_some' h
        exact ⟨s, k, j, b, rfl, rfl, by rw [if_pos hj]; exact hb, rfl⟩
      · cases h
    | _ => simp [sidxF] at h
  | _ => simp [sidxF] at h
theorem aidx_run {N len sz : Nat} {ag : Bool} {x i r : AV} {v : Value} (hi : VR N ρ i v) (h : aidxF len sz ag x i = some r) :
    ∃ k j, v = .int k j ∧ (0 ≤ j ∧ j < (len : Int)) ∧ partF (j.toNat * sz) sz ag x = some r := by
  cases hi with
  | int k j =>
    simp only [aidxF] at h
    split at h
    · rename_i hc; exact ⟨k, j, rfl, hc, h⟩
    · cases h
  | _ => simp [aidxF] at h
theorem part_agg {N off n : Nat} {ag : Bool} {x r : AV} {u : Value} (hx : VR N ρ x u) (h : partF off n ag x = some r) : ∃ cs, u = .agg cs := by
  cases hx with
  | agg l a hl hr => exact ⟨a, rfl⟩
  | _ => simp [partF] at h
theorem ext_run {N i : Nat} {x r : AV} {u : Value} (hx : VR N ρ x u) (h : extF i x = some r) : ∃ vs v, u = .tuple vs ∧ vs[i]? = some v ∧ VR N ρ r v := by
  cases hx with
  | tup l a hl hr =>
    simp only [extF] at h
    have hlt : i < l.length := by
      rcases Nat.lt_or_ge i l.length with h' | h'
      · exact h'
      · rw [List.getElem?_eq_none h'] at h; cases h
    have hv : a[i]? = some a[i] := Array.getElem?_eq_getElem (by omega)
    exact ⟨a, a[i], rfl, hv, hr i r _ h hv⟩
  | _ => simp [extF] at h
theorem len_run {N : Nat} {x r : AV} {u : Value} (hx : VR N ρ x u) (h : lenF x = some r) : ∃ A n c, u = .slice A n c ∧ r = .int .i64 n := by
  cases hx with
  | slN k => simp [lenF] at h; subst h; exact ⟨none, 0, 0, rfl, rfl⟩
  | emp A => simp [lenF] at h; subst h; exact ⟨A, 0, 0, rfl, rfl⟩
  | sl b o len cap ex k cap' _ _ _ _ _ => simp [lenF] at h; subst h; exact ⟨_, len, cap', rfl, rfl⟩
  | _ => simp [lenF] at h
theorem slen_run {N : Nat} {x r : AV} {u : Value} (hx : VR N ρ x u) (h : slenF x = some r) : ∃ s, u = .string s ∧ r = .int .i64 s.size := by
  cases hx with
  | str s => simp [slenF] at h; subst h; exact ⟨s, rfl, rfl⟩
  | _ => simp [slenF] at h
theorem cap_run {N : Nat} {x r : AV} {u : Value} (hx : VR N ρ x u) (h : capF x = some r) : ∃ A n c, u = .slice A n c ∧ r = .int .i64 c := by
  cases hx with
  | slN k => simp [capF] at h; subst h; exact ⟨none, 0, 0, rfl, rfl⟩
  | sl b o len cap ex k cap' h1 h2 h3 h4 h5 =>
    cases ex with
    | false => simp [capF] at h
    | true => simp [capF] at h; subst h; have := h4 rfl; subst this; exact ⟨_, len, cap', rfl, rfl⟩
  | _ => simp [capF] at h
theorem mnx_run {N : Nat} {mx : Bool} {x y r : AV} {u v : Value} (hx : VR N ρ x u) (hy : VR N ρ y v) (h : mnxF mx x y = some r) :
    ∃ k a b, u = .int k a ∧ v = .int k b ∧ r = .int k (if mx then (if b > a then b else a) else (if b < a then b else a)) := by
  cases hx with
  | int k a =>
    cases hy with
    | int k' b =>
      simp only [mnxF] at h
      split at h
      · rename_i e; subst e; cases h; exact ⟨k, a, b, rfl, rfl, rfl⟩
      · cases h
    | _ => simp [mnxF] at h
  | _ => simp [mnxF] at h
theorem cvi_run {N : Nat} {k : IntKind} {x r : AV} {u : Value} (hx : VR N ρ x u) (h : cviF k x = some r) : ∃ k' n, u = .int k' n ∧ r = .int k (k.wrap n) := by
  cases hx with
  | int k' n => simp [cviF] at h; subst h; exact ⟨k', n, rfl, rfl⟩
  | _ => simp [cviF] at h
theorem mlen_run {w0 : World} {H : Heap} (hi : HI w0 ρ H w) {x r : AV} {u : Value} (hx : VR H.size ρ x u) (h : mlenF H x = some r) :
    ∃ n : Nat, r = .int .i64 n ∧ ((u = .map none ∧ n = 0) ∨ ∃ b rs clk, u = .map (some b) ∧ w.heap[b]? = some (.map rs clk) ∧ rs.size = n) := by
  cases hx with
  | mapN => simp only [mlenF, Option.some.injEq] at h; exact ⟨0, h.symm, .inl ⟨rfl, rfl⟩⟩
  | map b hb =>
    simp only [mlenF, Heap.mapAt, hb, if_true, Option.map_eq_some_iff] at h
    obtain ⟨es, hes, rfl⟩ := h
    split at hes
    · rename_i es' hblk
      cases hes
      obtain ⟨_, rs, clk, h1, h2, _⟩ := hi.map b es hb hblk
      exact ⟨es.length, rfl, .inr ⟨_, _, clk, rfl, h1, by simpa using h2.symm⟩⟩
    · cases hes
  | _ => simp [mlenF] at h
theorem look_run {w0 : World} {H : Heap} (hi : HI w0 ρ H w) {t kt' et : TypeId} {kt : KT} {z x k r : AV} {ok : Bool} {u v : Value} (hu : P.underlying t = some (.map kt' et)) (ht : ktOf P kt' = some kt) (hz : zero1 P et = some z)
    (hx : VR H.size ρ x u) (hk : VR H.size ρ k v) (h : lookF H kt z ok x k = some r) : ∃ y, (Instr.lookup t u v ok).run P w = .ok y w ∧ VR H.size ρ r y := by
  cases hx with
  | mapN =>
    simp only [lookF] at h
    obtain ⟨y, h1, h2⟩ := lookM_run (P := P) (w := w) (rs := #[]) ht hz hk MR.nil h
    refine ⟨y, ?_, h2⟩
    simp only [Instr.lookup, Sem.run_bind, run_underlying hu, Result.andThen_ok, Sem.run_pure] at h1 ⊢
    exact h1
  | map b hb =>
    simp only [lookF] at h
    cases hes : H.mapAt b with
    | none =>
      rw [hes] at h
      unfold lookM at h
      split at h
      · rename_i h1; cases h1
      · cases h
    | some es =>
      rw [hes] at h
      simp only [Heap.mapAt, hb, if_true] at hes
      split at hes
      · rename_i es' hblk
        cases hes
        obtain ⟨_, rs, clk, q1, q2, q3⟩ := hi.map b es hb hblk
        obtain ⟨y, h1, h2⟩ := lookM_run (P := P) (w := w) (rs := rs.toArray) ht hz hk ⟨by simpa using q2, fun i e r he hr => q3 i e r he (by simpa using hr)⟩ h
        refine ⟨y, ?_, h2⟩
        simp only [Instr.lookup, Sem.run_bind, run_underlying hu, Result.andThen_ok, Sem.run_pure, Go.MapKept.run_getObj_map q1] at h1 ⊢
        exact h1
      · cases hes
  | _ => simp [lookF] at h
theorem run_eqs {neg : Bool} {t : TypeId} {n : Nat} {x y : AV} {u v : Value} {r : AV} {X Y : Operand} {N : Nat} (hx : VR N ρ x u) (hy : VR N ρ y v) (h : eqsF (.l n) neg x y = some r) (ht : ktOf P t = some (.l n)) (hg : P.eqGuardType P.depth t = false) :
    ∃ z, (do eqGuard (if neg then .neq else .eql) t X Y u v; binOp (if neg then .neq else .eql) t u v : Sem Value).run P w = .ok z w ∧ VR N ρ r z := by
  simp only [eqsF] at h
  obtain ⟨b, hb, rfl⟩ := map_some' h
  obtain ⟨h1, h2⟩ := keyF_KV hb hx hy
  have heq : (Op.equal t u v).run P w = .ok b w := run_equalK (d := 9998) (w := w) ht hb h1 h2
  have hag : ∃ a c, u = .agg a ∧ v = .agg c := by
    generalize hq : KT.l n = q at h1 h2
    cases h1 with
    | i => cases hq
    | s => cases hq
    | l l x h => 
      generalize hq2 : KT.l x.length = q2 at h2
      cases h2 with
      | i => cases hq2
      | s => cases hq2
      | l => exact ⟨_, _, rfl, rfl⟩
  obtain ⟨a, c, rfl, rfl⟩ := hag
  have hp : (program).run P w = .ok P w := rfl
  exact ⟨_, run_eqop heq (fun op => by cases op <;> simp [eqGuard, hp, hg]) ⟨rfl, rfl⟩, .bool _⟩
theorem builtin_sound {w0 : World} {H : Heap} (hi : HI w0 ρ H w) {b : Builtin} {args : Array Operand} {ts : Array TypeId} {q : IOp} (hc : cBuiltin P b args.toList ts.toList = some q) (hq : q.quiet = true) 
    (ho : OpsR H.size ρ q.tmps e a) {v : AV} (hv : qop q e H = some v) : ∃ u, Gives P (.call { callee := .builtin b, args := args, argTypes := ts }) a w u ∧ VR H.size ρ v u := by
  obtain ⟨args⟩ := args
  obtain ⟨ts⟩ := ts
  unfold cBuiltin at hc
  split at hc
  · rename_i x t hal htl
    simp only at hal htl; subst hal htl
    split at hc
    · rename_i d y hu hy
      cases hc
      obtain ⟨A, n, c, hu', rfl⟩ := len_run (cX_VR hy ho) hv
      exact ⟨_, fun _ _ _ _ _ => by simp [execOp, resolve, invoke, builtin, Builtin.len_, run_underlying hu, hu', goInt], .int _ _⟩
    · rename_i y hu hy
      cases hc
      obtain ⟨s, hu', rfl⟩ := slen_run (cX_VR hy ho) hv
      exact ⟨_, fun _ _ _ _ _ => by simp [execOp, resolve, invoke, builtin, Builtin.len_, run_underlying hu, hu', goInt], .int _ _⟩
    · rename_i d1 d2 y hu hy
      cases hc
      obtain ⟨n, rfl, h1 | ⟨b, rs, clk, h1, h2, h3⟩⟩ := mlen_run hi (cX_VR hy ho) hv
      · obtain ⟨h1, rfl⟩ := h1
        exact ⟨_, fun _ _ _ _ _ => by simp [execOp, resolve, invoke, builtin, Builtin.len_, run_underlying hu, h1, goInt], .int _ _⟩
      · subst h3
        exact ⟨_, fun _ _ _ _ _ => by simp [execOp, resolve, invoke, builtin, Builtin.len_, run_underlying hu, h1, goInt, Go.MapKept.run_getObj_map h2], .int _ _⟩
    · cases hc
  · rename_i x t hal htl
    simp only at hal htl; subst hal htl
    split at hc
    · rename_i d y hu hy
      cases hc
      obtain ⟨A, n, c, hu', rfl⟩ := cap_run (cX_VR hy ho) hv
      exact ⟨_, fun _ _ _ _ _ => by simp [execOp, resolve, invoke, builtin, Builtin.cap_, run_underlying hu, hu', goInt], .int _ _⟩
    · cases hc
  · rename_i x y hal
    simp only at hal; subst hal
    split at hc
    · rename_i x' y' hx hy
      cases hc
      obtain ⟨k, i, j, h1, h2, rfl⟩ := mnx_run (cX_VR hx ho.left) (cX_VR hy ho.right) hv
      exact ⟨_, fun _ _ _ _ _ => by simp [execOp, resolve, invoke, builtin, Builtin.max_, Builtin.max2, h1, h2], .int _ _⟩
    · cases hc
  · rename_i x y hal
    simp only at hal; subst hal
    split at hc
    · rename_i x' y' hx hy
      cases hc
      obtain ⟨k, i, j, h1, h2, rfl⟩ := mnx_run (cX_VR hx ho.left) (cX_VR hy ho.right) hv
      exact ⟨_, fun _ _ _ _ _ => by simp [execOp, resolve, invoke, builtin, Builtin.min_, Builtin.min2, h1, h2], .int _ _⟩
    · cases hc
  · split at hc
    · split at hc
      · split at hc
        · cases hc; cases hq
        · cases hc
      · cases hc
    · split at hc
      · split at hc
        · cases hc; cases hq
        · cases hc
      · cases hc
    · cases hc
  · split at hc
    · obtain ⟨n, _, rfl⟩ := map_some' hc; cases hq
    · cases hc
  · split at hc
    · split at hc
      · split at hc
        · cases hc; cases hq
        · cases hc
      · cases hc
    · cases hc
  · cases hc
theorem qop_sound {w0 : World} {H : Heap} (hi : HI w0 ρ H w) {o : Op} {q : IOp} (hc : cOp P o = some q) (hq : q.quiet = true) (ho : OpsR H.size ρ q.tmps e a)
    {v : AV} (hv : qop q e H = some v) : ∃ u, Gives P o a w u ∧ VR H.size ρ v u := by
  cases o with
  | move x =>
    simp only [cOp] at hc
    obtain ⟨y, hy, rfl⟩ := map_some' hc
    simp [qop] at hv; subst hv
    exact ⟨_, fun _ _ _ _ _ => by simp [execOp], cX_VR hy ho⟩
  | assign x =>
    simp only [cOp] at hc
    obtain ⟨y, hy, rfl⟩ := map_some' hc
    simp [qop] at hv; subst hv
    exact ⟨_, fun _ _ _ _ _ => by simp [execOp], cX_VR hy ho⟩
  | pick c x y =>
    simp only [cOp] at hc
    split at hc
    · rename_i c' x' y' h1 h2 h3
      cases hc
      obtain ⟨b, hb, hr⟩ := pick_run (cX_VR h1 (ho.left.left)) (cX_VR h2 (ho.left.right)) (cX_VR h3 ho.right) hv
      exact ⟨_, fun _ _ _ _ _ => by simp [execOp, hb, asBool], hr⟩
    · cases hc
  | alloc t => simp only [cOp] at hc; obtain ⟨y, hy, rfl⟩ := map_some' hc; cases hq
  | box t x => simp only [cOp] at hc; obtain ⟨y, hy, rfl⟩ := map_some' hc; cases hq
  | build t parts =>
    simp only [cOp] at hc
    split at hc
    · rename_i fs z hu hz
      split at hc
      · rename_i hpl
        obtain ⟨qs, hqs, rfl⟩ := map_some' hc
        obtain ⟨ps, hps⟩ := Option.isSome_iff_exists.1 hpl
        simp only [qop] at hv
        obtain ⟨l, hl, rfl⟩ := map_some' hv
        obtain ⟨it, zv, hit, hzv, hzz⟩ := zeroOf_info (P := P) (ρ := ρ) (N := H.size) hz
        obtain ⟨cs, h1, h2⟩ := bldF_fill (N := H.size) (P := P) (ρ := ρ) (e := e) (a := a) (fun i => ps.toArray[i]?) fs (fun i f n hf hn => by
          rw [List.getElem?_toArray]; exact places_at P fs.toList ps hps i f n (by simpa using hf) hn) parts.toList qs z l zv.cells hqs ho hl hzz
        refine ⟨.agg cs, gives_of (s := Instr.build t (parts.map fun (i, x) => (i, a.eval x))) (fun _ _ _ _ _ => rfl) (run_build w t _ cs ?_), h2.agg⟩
        unfold placesOf at hps
        simp only [Program.built, hit, hu, hzv, hps]
        simpa using h1
      · cases hc
    · cases hc
  | buildSlice t len parts =>
    simp only [cOp] at hc
    split at hc
    · split at hc
      · split at hc
        · cases hc; cases hq
        · cases hc
      · cases hc
    · cases hc
  | load t x =>
    simp only [cOp] at hc
    split at hc
    · rename_i n ag y hn hg hy
      split at hc
      · cases hc
        obtain ⟨z, hz, hr⟩ := cells_load (P := P) hi (cX_VR hy ho) hn hg hv
        exact ⟨z, gives_of (s := Instr.loadAt t (a.eval x)) (fun _ _ _ _ _ => rfl) hz, hr⟩
      · cases hc
    · cases hc
  | store t x y =>
    simp only [cOp] at hc
    split at hc
    · cases hc; cases hq
    · cases hc
  | nilCheck x =>
    simp only [cOp] at hc
    obtain ⟨y, hy, rfl⟩ := map_some' hc
    obtain ⟨hr, A, hu⟩ := nilck_run (cX_VR hy ho) hv
    refine ⟨_, fun _ _ _ _ _ => ?_, hr⟩
    simp [execOp, hu]
  | binOp op t x y t' =>
    simp only [cOp] at hc
    split at hc
    · rename_i k hk
      split at hc
      · rename_i z hz
        cases hc
        simp only [qop] at hv
        obtain ⟨b, hb, rfl⟩ := map_some' hv
        obtain ⟨z', h1, h2⟩ := run_eqn (P := P) (w := w) (neg := false) (X := x) (a := a) (cX_VR hz ho) hb hk
        exact ⟨z', gives_of (s := do eqGuard .eql t x y (a.eval x) (a.eval y); binOp .eql t (a.eval x) (a.eval y)) (fun _ _ _ _ _ => rfl) h1, h2⟩
      · rename_i z hz
        cases hc
        simp only [qop] at hv
        obtain ⟨b, hb, rfl⟩ := map_some' hv
        obtain ⟨z', h1, h2⟩ := run_eqn (P := P) (w := w) (neg := true) (X := x) (a := a) (cX_VR hz ho) hb hk
        exact ⟨z', gives_of (s := do eqGuard .neq t x y (a.eval x) (a.eval y); binOp .neq t (a.eval x) (a.eval y)) (fun _ _ _ _ _ => rfl) h1, h2⟩
      · cases hc
    · split at hc
      · rename_i x' y' ht hx hy
        split at hc
        · cases hc
          obtain ⟨z', h1, h2⟩ := run_beq (P := P) (w := w) (neg := false) (X := x) (Y := y) (cX_VR hx ho.left) (cX_VR hy ho.right) hv ht
          exact ⟨z', gives_of (s := do eqGuard .eql t x y (a.eval x) (a.eval y); binOp .eql t (a.eval x) (a.eval y)) (fun _ _ _ _ _ => rfl) h1, h2⟩
        · cases hc
          obtain ⟨z', h1, h2⟩ := run_beq (P := P) (w := w) (neg := true) (X := x) (Y := y) (cX_VR hx ho.left) (cX_VR hy ho.right) hv ht
          exact ⟨z', gives_of (s := do eqGuard .neq t x y (a.eval x) (a.eval y); binOp .neq t (a.eval x) (a.eval y)) (fun _ _ _ _ _ => rfl) h1, h2⟩
        · cases hc
      · rename_i x' y' hx hy
        cases hc
        obtain ⟨h1, h2⟩ := run_bin (P := P) (w := w) (t := t) (X := x) (Y := y) (cX_VR hx ho.left) (cX_VR hy ho.right) hv
        exact ⟨_, gives_of (s := do eqGuard op t x y (a.eval x) (a.eval y); binOp op t (a.eval x) (a.eval y)) (fun _ _ _ _ _ => rfl) h1, h2⟩
      · rename_i x' y' hx hy
        cases hc
        obtain ⟨h1, h2⟩ := run_bin (P := P) (w := w) (t := t) (X := x) (Y := y) (cX_VR hx ho.left) (cX_VR hy ho.right) hv
        exact ⟨_, gives_of (s := do eqGuard op t x y (a.eval x) (a.eval y); binOp op t (a.eval x) (a.eval y)) (fun _ _ _ _ _ => rfl) h1, h2⟩
      · rename_i x' y' hx hy n1 n2 n3
        split at hc
        · rename_i n hkt
          split at hc
          · cases hc
          · rename_i hge
            have hge : P.eqGuardType P.depth t = false := by simpa using hge
            split at hc
            · cases hc
              obtain ⟨z', h1, h2⟩ := run_eqs (P := P) (w := w) (neg := false) (X := x) (Y := y) (cX_VR hx ho.left) (cX_VR hy ho.right) hv hkt hge
              exact ⟨z', gives_of (s := do eqGuard .eql t x y (a.eval x) (a.eval y); binOp .eql t (a.eval x) (a.eval y)) (fun _ _ _ _ _ => rfl) h1, h2⟩
            · cases hc
              obtain ⟨z', h1, h2⟩ := run_eqs (P := P) (w := w) (neg := true) (X := x) (Y := y) (cX_VR hx ho.left) (cX_VR hy ho.right) hv hkt hge
              exact ⟨z', gives_of (s := do eqGuard .neq t x y (a.eval x) (a.eval y); binOp .neq t (a.eval x) (a.eval y)) (fun _ _ _ _ _ => rfl) h1, h2⟩
            · cases hc
        · cases hc
      · cases hc
  | unOp op t x =>
    simp only [cOp] at hc
    obtain ⟨y, hy, rfl⟩ := map_some' hc
    obtain ⟨z, hz, hr⟩ := run_un (P := P) (w := w) (cX_VR hy ho) hv
    exact ⟨z, gives_of (s := Op.unary op (a.eval x)) (fun _ _ _ _ _ => rfl) hz, hr⟩
  | convert s d x =>
    simp only [cOp] at hc
    split at hc
    · rename_i k1 k y hs hd hy
      cases hc
      obtain ⟨k', n, hu, rfl⟩ := cvi_run (cX_VR hy ho) hv
      exact ⟨_, gives_of (s := convert s d (a.eval x)) (fun _ _ _ _ _ => rfl) (by simp [convert, run_underlying hs, run_underlying hd, hu, Conv.intToInt]), .int _ _⟩
    · cases hc
  | makeFunc fn first caps =>
    simp only [cOp] at hc
    split at hc
    · rename_i f
      split at hc
      · rename_i hf
        obtain ⟨ys, hys, rfl⟩ := map_some' hc
        simp [qop] at hv; subst hv
        have hl := cXs_VRL hys ho
        have hfe : first = #[] := Array.eq_empty_of_size_eq_zero hf
        subst hfe
        refine ⟨.func (.func f) #[] (caps.map a.eval), gives_of (s := Instr.makeFunc (.func f) (#[].map a.eval) (caps.map a.eval)) (fun _ _ _ _ _ => rfl) (by simp [Instr.makeFunc]), ?_⟩
        refine .fn f _ _ ?_ ?_
        · have := hl.1; simpa using this
        · intro i x v hx hv
          exact hl.2 i x v (by simpa using hx) (by simpa using hv)
      · cases hc
    · cases hc
  | makeSlice t l c =>
    simp only [cOp] at hc
    split at hc
    · split at hc
      · split at hc
        · split at hc
          · cases hc; cases hq
          · cases hc; cases hq
        · cases hc
      · cases hc
    · cases hc
  | slice t x lo hi' mx =>
    simp only [cOp] at hc
    split at hc
    · rename_i e0 y lo' hi'' mx' hu hx hlo hhi hmx
      obtain ⟨n, hn, rfl⟩ := map_some' hc
      have hd : ¬ dropK lo' hi'' mx' = true := fun hd => by rw [if_pos hd] at hq; cases hq
      rw [if_neg hd] at hq ho hv
      obtain ⟨z, hz, hr⟩ := run_slc (P := P) (w := w) hu hn (cX_VR hx ho.left.left.left) (cXo_OR hlo ho.left.left.right) (cXo_OR hhi ho.left.right) (cXo_OR hmx ho.right) hv
      exact ⟨z, gives_of (s := Instr.sliceAt t (a.eval x) (lo.map a.eval) (hi'.map a.eval) (mx.map a.eval)) (fun _ _ _ _ _ => rfl) hz, hr⟩
    · rename_i y lo' hi'' hu hx hlo hhi hmx
      cases hc
      cases mx with
      | some m => simp [cXo] at hmx
      | none =>
        obtain ⟨z, hz, hr⟩ := run_sslc (P := P) (w := w) hu (cX_VR hx ho.left.left) (cXo_OR hlo ho.left.right) (cXo_OR hhi ho.right) hv
        exact ⟨z, gives_of (s := Instr.sliceAt t (a.eval x) (lo.map a.eval) (hi'.map a.eval) none) (fun _ _ _ _ _ => rfl) hz, hr⟩
    · cases hc
  | fieldAddr t x f =>
    simp only [cOp] at hc
    split at hc
    · rename_i fs y hu hy
      split at hc
      · rename_i fl hf
        split at hc
        · rename_i n hn
          split at hc
          · cases hc
          · rename_i hn0
            cases hc
            obtain ⟨b, o, hux, hr⟩ := un_ptr_run (cX_VR hy ho) hv
            refine ⟨_, gives_of (s := Instr.fieldAt t (a.eval x) f) (fun _ _ _ _ _ => rfl) ?_, hr⟩
            simp [Instr.fieldAt, run_underlying hu, hf, hux, Instr.sureAddr, fieldPlace, run_szOf hn, hn0, add_plain]
        · cases hc
      · cases hc
    · cases hc
  | field t x f =>
    simp only [cOp] at hc
    split at hc
    · rename_i fs y hu hy
      split at hc
      · rename_i fl hf
        split at hc
        · rename_i n ag hn hg
          cases hc
          have hx := cX_VR hy ho
          obtain ⟨cs, hcs⟩ := part_agg hx hv
          rw [hcs] at hx
          obtain ⟨z, hz, hr⟩ := run_part (P := P) (w := w) hx hn hg hv
          refine ⟨z, gives_of (s := Instr.field t (a.eval x) f) (fun _ _ _ _ _ => rfl) ?_, hr⟩
          simp [Instr.field, run_underlying hu, hf, hcs, asAgg, hz]
        · cases hc
      · cases hc
    · cases hc
  | indexAddr t x i =>
    simp only [cOp] at hc
    split at hc
    · rename_i e0 y j hu hy hj
      obtain ⟨n, hn, rfl⟩ := map_some' hc
      obtain ⟨b, o, len, c, k, m, h1, h2, h3, hr⟩ := iaddr_run (cX_VR hy ho.left) (cX_VR hj ho.right) hv
      refine ⟨_, gives_of (s := Instr.indexAt t (a.eval x) (a.eval i)) (fun _ _ _ _ _ => rfl) ?_, hr⟩
      simp [Instr.indexAt, h1, h2, asIntOf, run_underlying hu, run_szOf hn, h3, add_plain]
    · rename_i len e0 y j hu hy hj
      obtain ⟨n, hn, rfl⟩ := map_some' hc
      obtain ⟨b, o, k, m, h1, h2, h3, hr⟩ := aaddr_run (cX_VR hy ho.left) (cX_VR hj ho.right) hv
      refine ⟨_, gives_of (s := Instr.indexAt t (a.eval x) (a.eval i)) (fun _ _ _ _ _ => rfl) ?_, hr⟩
      simp [Instr.indexAt, h1, h2, asIntOf, run_underlying hu, run_szOf hn, h3, add_plain, Instr.sureAddr]
    · cases hc
  | index t x i =>
    simp only [cOp] at hc
    split at hc
    · rename_i y j hu hy hj
      cases hc
      obtain ⟨s, k, m, b, h1, h2, h3, rfl⟩ := sidx_run (cX_VR hy ho.left) (cX_VR hj ho.right) hv
      refine ⟨.int .u8 b.toNat, gives_of (s := Instr.index t (a.eval x) (a.eval i)) (fun _ _ _ _ _ => rfl) ?_, .int _ _⟩
      simp [Instr.index, h1, h2, asIntOf, run_underlying hu, h3]
    · rename_i len e0 y j hu hy hj
      split at hc
      · rename_i n ag hn hg
        cases hc
        have hx := cX_VR hy ho.left
        obtain ⟨k, m, h2, h3, hp⟩ := aidx_run (cX_VR hj ho.right) hv
        obtain ⟨cs, hcs⟩ := part_agg hx hp
        rw [hcs] at hx
        obtain ⟨z, hz, hr⟩ := run_part (P := P) (w := w) hx hn hg hp
        refine ⟨z, gives_of (s := Instr.index t (a.eval x) (a.eval i)) (fun _ _ _ _ _ => rfl) ?_, hr⟩
        simp [Instr.index, hcs, h2, asIntOf, run_underlying hu, run_szOf hn, h3, hz]
      · cases hc
    · cases hc
  | extract x i =>
    simp only [cOp] at hc
    obtain ⟨y, hy, rfl⟩ := map_some' hc
    obtain ⟨vs, z, h1, h2, hr⟩ := ext_run (cX_VR hy ho) hv
    exact ⟨z, gives_of (s := Instr.extract (a.eval x) i) (fun _ _ _ _ _ => rfl) (by simp [Instr.extract, h1, h2]), hr⟩
  | call c =>
    obtain ⟨callee, args, ts⟩ := c
    cases callee with
    | invoke r m => simp [cOp] at hc
    | builtin b =>
      simp only [cOp] at hc
      exact builtin_sound hi hc hq ho hv
    | value x =>
      cases x with
      | func f =>
        simp only [cOp] at hc
        split at hc
        · split at hc
          · split at hc
            · cases hc; cases hq
            · cases hc
          · cases hc
        · obtain ⟨ys, _, rfl⟩ := map_some' hc; cases hq
      | tmp x => simp only [cOp] at hc; split at hc <;> first | (cases hc; cases hq; done) | (cases hc; done)
      | const x => simp only [cOp] at hc; split at hc <;> first | (cases hc; cases hq; done) | (cases hc; done)
      | global x => simp only [cOp] at hc; split at hc <;> first | (cases hc; cases hq; done) | (cases hc; done)
  | makeMap t r =>
    simp only [cOp] at hc
    split at hc
    · cases hc; cases hq
    · cases hc
  | lookup t x k ok =>
    simp only [cOp] at hc
    split at hc
    · rename_i kt et x' k' hu hx hk
      split at hc
      · rename_i q z hkt hz
        cases hc
        obtain ⟨y, h1, h2⟩ := look_run (P := P) hi hu hkt hz (cX_VR hx ho.left) (cX_VR hk ho.right) hv
        exact ⟨y, gives_of (s := Instr.lookup t (a.eval x) (a.eval k) ok) (fun _ _ _ _ _ => rfl) h1, h2⟩
      · cases hc
    · cases hc
  | mapUpdate t x k v =>
    simp only [cOp] at hc
    split at hc
    · obtain ⟨q, _, rfl⟩ := map_some' hc; cases hq
    · cases hc
  | makeInterface ty x => simp only [cOp] at hc; cases hc; cases hq
  | panic x => simp only [cOp] at hc; cases hc; cases hq
  | _ => simp [cOp] at hc
end
end Go.M2

namespace Go.M2
open Go.RowKit (Below)
def callable (P : Program) (f : FuncId) : Bool := match P.funcs[f]? with
  | some fn => fn.body.isSome && !(fn.name == "runtime.NumGoroutine")
  | none => false
def ACall (P : Program) (f : FuncId) (args : List AV) (H : Heap) (R : AV → Heap → Prop) : Prop :=
  callable P f = true ∧ ∀ w0 ρ w (vs : List Value), HI w0 ρ H w → VRL H.size ρ args vs → Calls P f vs.toArray w (fun e w' =>
    ∃ r H' ρ' v, e = .returned v ∧ VR H'.size ρ' r v ∧ Evol ρ H w ρ' H' w' ∧ HI w0 ρ' H' w' ∧ R r H')
theorem ACall.mono {P : Program} {f : FuncId} {args : List AV} {H : Heap} {R R' : AV → Heap → Prop} (h : ACall P f args H R) (hr : ∀ r H', R r H' → R' r H') : ACall P f args H R' :=
  ⟨h.1, fun w0 ρ w vs hi hv => (h.2 w0 ρ w vs hi hv).mono fun e w' ⟨r, H', ρ', v, h1, h2, h3, h4, h5⟩ => ⟨r, H', ρ', v, h1, h2, h3, h4, hr _ _ h5⟩⟩
def Heap.rwCells (H : Heap) (b : Nat) : Option (List AV) := if b < H.size then match H.blk b with | .cells c true => some c | _ => none else none
theorem Heap.rwCells_blk {H : Heap} {b : Nat} {c : List AV} (h : H.rwCells b = some c) : b < H.size ∧ H.blk b = .cells c true := by
  unfold Heap.rwCells at h
  split at h
  · rename_i hb
    split at h
    · rename_i c' e; cases h; exact ⟨hb, e⟩
    · cases h
  · cases h
def oneA : AV → Bool
  | .junk | .agg _ | .tup _ => false
  | _ => true
def mostCells : Nat := 1099511627776
def bslF (e : Env) (sz : Nat) (z : List AV) : List (Nat × X) → Option (List AV)
  | [] => some z
  | (i, x) :: t => match cellsOf (x.ev e) with
    | some c => if c.length = sz ∧ i * sz + sz ≤ z.length then bslF e sz (setAt z (i * sz) c) t else none
    | none => none
def zeros (z : List AV) : Nat → List AV
  | 0 => []
  | n + 1 => z ++ zeros z n
def appP (sz by_ : Nat) (s x : AV) (H : Heap) (K : AV → Heap → Prop) : Prop := match s, x with
  | .sl A n c ex k, .sl A' m _ _ _ => match loadN H A'.b A'.o (m * sz) with
    | none => False
    | some new => if m = 0 then K s H else
      if n + m ≤ c then match H.rwCells A.b with
        | none => False
        | some cs => k = sz ∧ new.all oneA = true ∧ A.o + (n + m) * sz ≤ cs.length ∧ K (.sl A (n + m) c ex k) (H.upd A.b (.cells (setAt cs (A.o + n * sz) new) true))
      else (n + m) * by_ ≤ mostCells ∧ n + m ≤ mostCells ∧ (if ex then match loadN H A.b A.o (n * sz) with
        | none => False
        | some old => K (.sl (some (H.size, 0)) (n + m) (n + m) false sz) (H.alloc (old ++ new))
      else match H.rwCells A.b with
        | none => False
        | some cs => A.isSome = true ∧ k = sz ∧ new.all oneA = true ∧ A.o + n * sz ≤ cs.length ∧ K (.sl (some (H.size, 0)) (n + m) (n + m) false sz) ((H.kill A.b).alloc ((cs.drop A.o).take (n * sz) ++ new)))
  | _, _ => False
def copyP (sz : Nat) (d s : AV) (H : Heap) (K : AV → Heap → Prop) : Prop := match d, s with
  | .sl A n _ _ _, .sl A' m _ _ _ => match loadN H A'.b A'.o (min m n * sz) with
    | none => False
    | some new => if min m n * sz = 0 then K (.int .i64 ((min m n : Nat) : Int)) H else match H.rwCells A.b with
      | none => False
      | some cs => new.all oneA = true ∧ A.o + min m n * sz ≤ cs.length ∧ K (.int .i64 ((min m n : Nat) : Int)) (H.upd A.b (.cells (setAt cs A.o new) true))
  | _, _ => False
def clearP (z : List AV) (x : AV) (H : Heap) (K : AV → Heap → Prop) : Prop := match x with
  | .sl A n _ _ _ => if n = 0 then K .junk H else match H.rwCells A.b with
    | none => False
    | some cs => z.all oneA = true ∧ A.o + n * z.length ≤ cs.length ∧ K .junk (H.upd A.b (.cells (setAt cs A.o (zeros z n)) true))
  | _ => False
def storeP (n : Nat) (p v : AV) (H : Heap) (K : AV → Heap → Prop) : Prop := match p, cellsOf v with
  | .ptr (some (b, o)), some c => match H.rwCells b with
    | none => False
    | some cs => c.length = n ∧ c.all oneA = true ∧ o + n ≤ cs.length ∧ K .junk (H.upd b (.cells (setAt cs o c) true))
  | _, _ => False
def mksP (z : List AV) (by_ : Nat) (l : AV) (H : Heap) (K : AV → Heap → Prop) : Prop := match l with
  | .int .i64 n => 0 ≤ n ∧ n.toNat * by_ ≤ mostCells ∧ n.toNat ≤ mostCells ∧ K (.sl (some (H.size, 0)) n.toNat n.toNat true z.length) (H.alloc (zeros z n.toNat))
  | _ => False
def mkcP (z : List AV) (by_ : Nat) (l c : AV) (H : Heap) (K : AV → Heap → Prop) : Prop := match l, c with
  | .int .i64 n, .int .i64 m => 0 ≤ n ∧ n ≤ m ∧ m.toNat * by_ ≤ mostCells ∧ m.toNat ≤ mostCells ∧ K (.sl (some (H.size, 0)) n.toNat m.toNat true z.length) (H.alloc (zeros z m.toNat))
  | _, _ => False
def appzP (z : List AV) (by_ : Nat) (s l : AV) (H : Heap) (K : AV → Heap → Prop) : Prop := match s, l with
  | .sl A n c true k, .int .i64 m => 0 < m ∧ c < n + m.toNat ∧ (n + m.toNat) * by_ ≤ mostCells ∧ n + m.toNat ≤ mostCells ∧ (match loadN H A.b A.o (n * z.length) with
    | none => False
    | some old => K (.sl (some (H.size, 0)) (n + m.toNat) (n + m.toNat) false z.length) (H.alloc (old ++ zeros z m.toNat)))
  | _, _ => False
def slcdP (sz : Nat) (x : AV) (H : Heap) (K : AV → Heap → Prop) : Prop := match x with
  | .sl A n c ex k => k = sz ∧ 1 ≤ n ∧ n ≤ c ∧ (if c = 1 ∧ ex = false then K (.sl A 0 0 true k) H ∧ K (.sl (some (A.b, A.o + sz)) 0 0 false k) H
    else K (.sl (if c = 1 then A else some (A.b, A.o + sz)) (n - 1) (c - 1) ex k) H)
  | _ => False
def ovlP (x y : AV) (H : Heap) (K : AV → Heap → Prop) : Prop := match x, y with
  | .sl (some (b1, _)) _ _ _ _, .sl (some (b2, _)) _ _ _ _ => b1 ≠ b2 ∧ (H.rwCells b1).isSome ∧ (∃ v l, H.rwCells b2 = some (v :: l)) ∧ K (.bool false) H
  | _, _ => False
def boxP (x : AV) (H : Heap) (K : AV → Heap → Prop) : Prop := match cellsOf x with
  | some c => K (.ptr (some (H.size, 0))) (H.alloc c)
  | none => False
def bslcP (sz len : Nat) (c : Option (List AV)) (H : Heap) (K : AV → Heap → Prop) : Prop := match c with
  | some c => K (.sl (some (H.size, 0)) len len true sz) (H.alloc c)
  | none => False
def callvP (P : Program) (x : AV) (args : List AV) (H : Heap) (K : AV → Heap → Prop) : Prop := match x with
  | .fn f caps => ACall P f (args ++ caps) H K
  | _ => False
def mapsetP (kt : KT) (x k v : AV) (H : Heap) (K : AV → Heap → Prop) : Prop := match x with
  | .map (some b) => match H.mapAt b, keyF kt k k with
    | some es, some _ => match setM kt k v es with
      | some es' => K .junk (H.upd b (.map es'))
      | none => False
    | _, _ => False
  | _ => False
def optP (o : Option AV) (H : Heap) (K : AV → Heap → Prop) : Prop := match o with
  | some v => K v H
  | none => False
def stepL (P : Program) (o : IOp) (e : Env) (H : Heap) (K : AV → Heap → Prop) : Prop := match o with
  | .alloc z => K (.ptr (some (H.size, 0))) (H.alloc z)
  | .box x => boxP (x.ev e) H K
  | .bslc sz len z ps => bslcP sz len (bslF e sz (zeros z len) ps) H K
  | .mks z by_ l => mksP z by_ (l.ev e) H K
  | .mkc z by_ l c => mkcP z by_ (l.ev e) (c.ev e) H K
  | .ovl x y => ovlP (x.ev e) (y.ev e) H K
  | .slcd sz x => slcdP sz (x.ev e) H K
  | .bslo sz len z ps => bslcP sz len (bslF e sz (zeros z len) ps) H K
  | .bad => False
  | .store x n v => storeP n (x.ev e) (v.ev e) H K
  | .app sz by_ s x => appP sz by_ (s.ev e) (x.ev e) H K
  | .appz z by_ s l => appzP z by_ (s.ev e) (l.ev e) H K
  | .copy sz d s => copyP sz (d.ev e) (s.ev e) H K
  | .clear z x => clearP z (x.ev e) H K
  | .mkmap => K (.map (some H.size)) (H.put (.map []))
  | .mapset kt x k v => mapsetP kt (x.ev e) (k.ev e) (v.ev e) H K
  | .call f args => ACall P f (args.map (X.ev e)) H K
  | .callv x args => callvP P (x.ev e) (args.map (X.ev e)) H K
  | o => optP (qop o e H) H K
def gWant (g : Option (Nat × Bool)) (e : Env) (A B : Prop) : Prop := match g with
  | none => A
  | some (t, want) => match e t with
    | .bool b => if b = want then A else B
    | .tup [] => B
    | _ => False
def wpL (P : Program) : List GOp → (Env → Heap → Prop) → Env → Heap → Prop
  | [], K, e, H => K e H
  | g :: t, K, e, H => gWant g.g e (stepL P g.op e H fun v H' => wpL P t K (putE e g.dst v) H') (wpL P t K (putE e g.dst (.tup [])) H)
def gq (g : GOp) (e : Env) (H : Heap) : Option AV := match g.g with
  | none => qop g.op e H
  | some (t, want) => match e t with
    | .bool b => if b = want then qop g.op e H else some (.tup [])
    | .tup [] => some (.tup [])
    | _ => none
def chkAll (gl : List GOp) (rs : List Nat) (e : Env) (H : Heap) : Prop := match rs with
  | [] => True
  | j :: t => (if (gAt gl j).op.quiet then (match (gAt gl j).dst with | some d => gq (gAt gl j) e H = some (e d) | none => True) else True) ∧ chkAll gl t e H
def mksC (z : List AV) (by_ : Nat) : AV → Option (List AV)
  | .int .i64 n => if 0 ≤ n ∧ n.toNat * by_ ≤ mostCells ∧ n.toNat ≤ mostCells then some (zeros z n.toNat) else none
  | _ => none
def alc (e : Env) : IOp → Option (List AV)
  | .alloc z => some z
  | .bslc sz len z ps => bslF e sz (zeros z len) ps
  | .mks z by_ l => mksC z by_ (l.ev e)
  | _ => none
def lenA : AV → Nat
  | .int _ n => n.toNat
  | _ => 0
def alr (e : Env) (n : Nat) : IOp → AV
  | .bslc sz len _ _ => .sl (some (n, 0)) len len true sz
  | .mks z _ l => .sl (some (n, 0)) (lenA (l.ev e)) (lenA (l.ev e)) true z.length
  | _ => .ptr (some (n, 0))
def preAll (gl : List GOp) (rs : List Nat) (e : Env) : Prop := match rs with
  | [] => True
  | j :: t => (if (gAt gl j).op.quiet then True else (alc e (gAt gl j).op).isSome = true) ∧ preAll gl t e
def wpD (P : Program) (gl : List GOp) : List (Nat × List Nat) → (Env → Heap → Prop) → Env → Heap → Prop
  | [], K, e, H => K e H
  | (i, rs) :: t, K, e, H => preAll gl rs e ∧ gWant (gAt gl i).g e
      (stepL P (gAt gl i).op e H fun v H' => chkAll gl rs (putE e (gAt gl i).dst v) H' ∧ wpD P gl t K (putE e (gAt gl i).dst v) H')
      (wpD P gl t K (putE e (gAt gl i).dst (.tup [])) H)
def keepA (k : List Nat) (e : Env) : Env := match k with
  | [] => fun _ => .junk
  | s :: t => upd (keepA t e) s (e s)
def kpA (k : Option (List Nat)) (e : Env) : Env := match k with
  | none => e
  | some l => keepA l e
def wpKA (P : Program) : List (GOp × Option (List Nat)) → (Env → Heap → Prop) → Env → Heap → Prop
  | [], K, e, H => K e H
  | (g, k) :: t, K, e, H => gWant g.g e (stepL P g.op e H fun v H' => wpKA P t K (kpA k (putE e g.dst v)) H') (wpKA P t K (kpA k (putE e g.dst (.tup []))) H)
inductive EX where
  | normal
  | exit (id : Nat)
  | ret
abbrev Post := EX → Env → Heap → Prop
def thenQ (K : Env → Heap → Prop) (Q : Post) : Post
  | .normal, e, H => K e H
  | x, e, H => Q x e H
def blockQ (id : Nat) (Q : Post) : Post
  | .exit i, e, H => if i = id then Q .normal e H else Q (.exit i) e H
  | x, e, H => Q x e H
def condP (v : AV) (A B : Prop) : Prop := match v with
  | .bool b => if b then A else B
  | _ => False
def wp (P : Program) : IR → Post → Env → Heap → Prop
  | .skip, Q, e, H => Q .normal e H
  | .ops l, Q, e, H => wpL P l (Q .normal) e H
  | .dops l s, Q, e, H => wpD P l s (Q .normal) e H
  | .kops l, Q, e, H => wpKA P l (Q .normal) e H
  | .kd l s k, Q, e, H => wpD P l s (fun e' H' => Q .normal (keepA k e') H') e H
  | .seq a b, Q, e, H => wp P a (thenQ (wp P b Q) Q) e H
  | .cond c a b, Q, e, H => condP (c.ev e) (wp P a Q e H) (wp P b Q e H)
  | .block id a, Q, e, H => wp P a (blockQ id Q) e H
  | .loop a, Q, e, H => ∃ (I : Env → Heap → Prop) (μ : Env → Heap → Nat), I e H ∧ ∀ e H, I e H → wp P a (thenQ (fun e' H' => I e' H' ∧ μ e' H' < μ e H) Q) e H
  | .exit id, Q, e, H => Q (.exit id) e H
  | .ret, Q, e, H => Q .ret e H
def resV (e : Env) (H : Heap) : RV → Option AV
  | .t n => some (e n)
  | .c a n ag => loadF H n ag (e a)
def resVs (e : Env) (H : Heap) : List RV → Option (List AV)
  | [] => some []
  | r :: t => match resV e H r, resVs e H t with
    | some x, some l => some (x :: l)
    | _, _ => none
def retV (rs : List RV) (e : Env) (H : Heap) : Option AV := match resVs e H rs with
  | some [x] => some x
  | some l => some (.tup l)
  | none => none
def retP (rs : List RV) (R : AV → Heap → Prop) (e : Env) (H : Heap) : Prop := optP (retV rs e H) H R
def postQ (rs : List RV) (R : AV → Heap → Prop) : Post
  | .normal, e, H => retP rs R e H
  | .ret, e, H => retP rs R e H
  | .exit _, _, _ => False
def env0 (args : List AV) : Env := fun n => args.getD n .junk
end Go.M2

namespace Go.M2
open Go.RowKit (Below)
section
variable {P : Program} {ρ : Nat → BI} {e : Env} {a : Act} {w w0 : World} {H : Heap}
theorem VR.one {N : Nat} {x : AV} {v : Value} (h : VR N ρ x v) (ho : oneA x = true) : v.oneCell' = true := by
  cases h <;> first | rfl | cases ho
theorem run_store1 {b o : Nat} {v : Value} (hc : ∃ u, w.cell? ⟨b, o, none⟩ = some u) (hf : w.frozen? ⟨b, o, none⟩ = false) (h1 : v.oneCell' = true) :
    (store ⟨b, o, none⟩ v).run P w = .ok () (w.setCell ⟨b, o, none⟩ v) := by
  obtain ⟨u, hu⟩ := hc
  cases v <;> simp [store, Sem.run, hu, hf] at h1 ⊢
  all_goals simp [Value.oneCell'] at h1
theorem Heap.upd_upd (H : Heap) (b : Nat) (x y : Blk) : (H.upd b x).upd b y = H.upd b y := by
  unfold Heap.upd
  simp only [Heap.mk.injEq, true_and]
  funext b'
  split <;> rfl
theorem HI.stores {b : Nat} : ∀ (c : List AV) (vs : List Value) (cs : List AV) (s i : Nat) (H : Heap) (w : World), HI w0 ρ H w → b < H.size → H.blk b = .cells cs true →
    VRL H.size ρ c vs → c.all oneA = true → s + i + c.length ≤ cs.length →
    ∃ w', (storeCells ⟨(ρ b).blk, (ρ b).off + s, none⟩ vs i).run P w = .ok () w' ∧ HI w0 ρ (H.upd b (.cells (setAt cs (s + i) c) true)) w' ∧
      Evol ρ H w ρ (H.upd b (.cells (setAt cs (s + i) c) true)) w'
  | [], vs, cs, s, i, H, w, hi, hb, hblk, hv, ho, hl => by
    have := hv.unnil; subst this
    have e : H.upd b (.cells (setAt cs (s + i) []) true) = H := by
      simp only [setAt]
      unfold Heap.upd
      cases H with
      | mk n f =>
        simp only [Heap.mk.injEq, true_and]
        funext b'
        split
        · rename_i e; subst e; exact hblk.symm
        · rfl
    rw [e]
    exact ⟨w, rfl, hi, Evol.refl _ _ _⟩
  | x :: t, vs, cs, s, i, H, w, hi, hb, hblk, hv, ho, hl => by
    obtain ⟨v, vt, rfl, hx, ht⟩ := hv.uncons
    simp only [List.all_cons, Bool.and_eq_true] at ho
    simp only [List.length_cons] at hl
    have hsz := (hi.own b cs hb hblk).2.1
    obtain ⟨h1, h2, h3, h4⟩ := hi.write hb hblk (s + i) (by omega) (cs.set (s + i) x) (by simpa using hsz) v
      (fun j y hy hj => by rw [List.getElem?_set_ne (by omega)] at hy; exact hy)
      (fun y hy => by rw [List.getElem?_set_self (by omega)] at hy; cases hy; exact hx)
    have hst := run_store1 (P := P) (v := v) h1 h2 (hx.one ho.1)
    obtain ⟨w', h5, h6, h7⟩ := HI.stores t vt (cs.set (s + i) x) s (i + 1) _ _ h3 hb (Heap.upd_blk_same _ _ _) ht ho.2 (by simp; omega)
    rw [Heap.upd_upd] at h6 h7
    refine ⟨w', ?_, h6, h4.trans h7⟩
    simp only [storeCells, Sem.run_bind, add_plain, Nat.add_assoc]
    rw [show (ρ b).off + (s + i) = (ρ b).off + (s + i) from rfl, hst, Result.andThen_ok]
    exact h5
theorem HI.pushes {b : Nat} : ∀ (c : List AV) (vs : List Value) (cs : List AV) (s i : Nat) (H : Heap) (w : World), HI w0 ρ H w → b < H.size → H.blk b = .cells cs true →
    VRL H.size ρ c vs → c.all oneA = true → s + i = cs.length → cs.length + c.length ≤ (ρ b).sz →
    ∃ w', (storeCells ⟨(ρ b).blk, (ρ b).off + s, none⟩ vs i).run P w = .ok () w' ∧ HI w0 ρ (H.upd b (.cells (cs ++ c) true)) w' ∧
      Evol ρ H w ρ (H.upd b (.cells (cs ++ c) true)) w'
  | [], vs, cs, s, i, H, w, hi, hb, hblk, hv, ho, hs, hl => by
    have := hv.unnil; subst this
    have e : H.upd b (.cells (cs ++ []) true) = H := by
      rw [List.append_nil]
      unfold Heap.upd
      cases H with
      | mk n f =>
        simp only [Heap.mk.injEq, true_and]
        funext b'
        split
        · rename_i e; subst e; exact hblk.symm
        · rfl
    rw [e]
    exact ⟨w, rfl, hi, Evol.refl _ _ _⟩
  | x :: t, vs, cs, s, i, H, w, hi, hb, hblk, hv, ho, hs, hl => by
    obtain ⟨v, vt, rfl, hx, ht⟩ := hv.uncons
    simp only [List.all_cons, Bool.and_eq_true] at ho
    simp only [List.length_cons] at hl
    obtain ⟨h1, h2, h3, h4⟩ := hi.write hb hblk (s + i) (by omega) (cs ++ [x]) (by simp; omega) v
      (fun j y hy hj => by
        rw [List.getElem?_append] at hy
        split at hy
        · exact hy
        · rename_i hjl
          have : j - cs.length ≠ 0 := by omega
          rw [List.getElem?_eq_none (by simp; omega)] at hy; cases hy)
      (fun y hy => by rw [hs, List.getElem?_append_right (Nat.le_refl _)] at hy; simp at hy; subst hy; exact hx)
    have hst := run_store1 (P := P) (v := v) h1 h2 (hx.one ho.1)
    obtain ⟨w', h5, h6, h7⟩ := HI.pushes t vt (cs ++ [x]) s (i + 1) _ _ h3 hb (Heap.upd_blk_same _ _ _) ht ho.2 (by simp; omega) (by simp; omega)
    rw [Heap.upd_upd, List.append_assoc] at h6 h7
    refine ⟨w', ?_, h6, h4.trans h7⟩
    simp only [storeCells, Sem.run_bind, add_plain, Nat.add_assoc]
    rw [hst, Result.andThen_ok]
    exact h5
end
end Go.M2

namespace Go.M2
open Go.RowKit (Below)
section
variable {P : Program} {ρ : Nat → BI} {e : Env} {a : Act} {w w0 : World} {H : Heap}
theorem run_newRow (t : TypeId) (cs : Array Value) : (newRow t cs).run P w = .ok ⟨w.heap.size, 0, none⟩ (w.alloc (.cells cs t)) := rfl
theorem ptr_new (ρ : Nat → BI) (H : Heap) (w : World) (n : Nat) (c : List AV) : VR (H.alloc c).size (updB ρ H.size ⟨w.heap.size, 0, n, true⟩) (.ptr (some (H.size, 0))) (.pointer (some ⟨w.heap.size, 0, none⟩)) := by
  have := VR.ptr (N := (H.alloc c).size) (ρ := updB ρ H.size ⟨w.heap.size, 0, n, true⟩) (some (H.size, 0)) (fun b o e => by cases e; exact Nat.lt_succ_self _)
  simpa [rA, updB_same] using this
theorem sl_new (ρ : Nat → BI) (H : Heap) (w : World) (n : Nat) (c : List AV) (len cap cap' k : Nat) (ex : Bool) (h1 : len ≤ cap) (h2 : cap ≤ cap') (h3 : ex = true → cap' = cap) (h4 : cap' * k ≤ n) :
    VR (H.alloc c).size (updB ρ H.size ⟨w.heap.size, 0, n, true⟩) (.sl (some (H.size, 0)) len cap ex k) (.slice (some ⟨w.heap.size, 0, none⟩) len cap') := by
  have := VR.sl (N := (H.alloc c).size) (ρ := updB ρ H.size ⟨w.heap.size, 0, n, true⟩) H.size 0 len cap ex k cap' (Nat.lt_succ_self _) h1 h2 h3 (fun _ => by rw [updB_same]; simpa using h4)
  simpa [rA, updB_same] using this
def Does (P : Program) (op : Op) (a : Act) (w : World) (u : Value) (w' : World) : Prop :=
  ∀ dst ty pos af gd, (execOp a.eval ⟨dst, op, ty, pos, af, gd⟩).run P w = .ok (.value u) w' ∨ ((execOp a.eval ⟨dst, op, ty, pos, af, gd⟩).run P w = .ok .skip w' ∧ u = undef)
def Stepped (P : Program) (op : Op) (a : Act) (w0 w : World) (ρ : Nat → BI) (H : Heap) (K : AV → Heap → Prop) : Prop :=
  ∃ u w' v H' ρ', Does P op a w u w' ∧ VR H'.size ρ' v u ∧ Evol ρ H w ρ' H' w' ∧ HI w0 ρ' H' w' ∧ K v H'
theorem does_of {op : Op} {u : Value} {w' : World} {s : Sem Value} (h : ∀ dst ty pos af gd, execOp a.eval ⟨dst, op, ty, pos, af, gd⟩ = (do pure (.value (← s)))) (hs : s.run P w = .ok u w') : Does P op a w u w' := by
  intro dst ty pos af gd
  rw [h]
  exact .inl (by simp [hs])
theorem zeros_all (z : List AV) (h : z.all oneA = true) : ∀ n, (zeros z n).all oneA = true
  | 0 => rfl
  | n + 1 => by simp only [zeros, List.all_append, h, zeros_all z h n, Bool.and_self]
theorem zeros_length (z : List AV) : ∀ n, (zeros z n).length = n * z.length
  | 0 => by simp [zeros]
  | n + 1 => by simp [zeros, zeros_length z n, Nat.add_mul]; omega
theorem zeros_getElem (z : List AV) (hz : 0 < z.length) : ∀ (n i : Nat), i < n * z.length → (zeros z n)[i]? = z[i % z.length]?
  | 0, i, h => by simp at h
  | n + 1, i, h => by
    simp only [zeros]
    rw [List.getElem?_append]
    split
    · rename_i hi; rw [Nat.mod_eq_of_lt hi]
    · rename_i hi
      have h' : i < n * z.length + z.length := by rw [Nat.succ_mul] at h; exact h
      rw [zeros_getElem z hz n (i - z.length) (by omega)]
      congr 1
      exact (Nat.mod_eq_sub_mod (by omega)).symm
theorem zeros_VRL {N : Nat} {z : List AV} {zc : Array Value} {n len : Nat} (hz : VRL N ρ z zc.toList) (hn : z.length = n) (h0 : 0 < n) :
    VRL N ρ (zeros z len) ((Array.range (len * n)).map (zc[· % zc.size]!)).toList := by
  have hs : zc.size = n := by have := hz.1; simp at this; omega
  refine ⟨by simp [zeros_length, hn], fun i x v hx hv => ?_⟩
  have hi : i < len * z.length := by
    rcases Nat.lt_or_ge i (len * z.length) with h | h
    · exact h
    · rw [List.getElem?_eq_none (by rw [zeros_length]; exact h)] at hx; cases hx
  rw [zeros_getElem z (by omega) len i hi] at hx
  rw [hn] at hi hx
  have hm : i % n < zc.size := by rw [hs]; exact Nat.mod_lt _ h0
  refine hz.2 (i % n) x v hx ?_
  rw [Array.getElem?_toList, Array.getElem?_eq_getElem hm]
  rw [Array.getElem?_toList] at hv
  simp [hi] at hv
  rw [← hv, hs]
  simp [hm]
theorem bslF_length {sz : Nat} : ∀ (qs : List (Nat × X)) (z l : List AV), bslF e sz z qs = some l → l.length = z.length
  | [], z, l, h => by simp [bslF] at h; subst h; rfl
  | (i, x) :: t, z, l, h => by
    simp only [bslF] at h
    split at h
    · split at h
      · rw [bslF_length t _ l h, setAt_length]
      · cases h
    · cases h
theorem bslF_fill {N : Nat} {sz : Nat} : ∀ (ps : List (Nat × Operand)) (qs : List (Nat × X)) (z l : List AV) (zs : Array Value), cPartsL ps = some qs → OpsR N ρ (xsT (qs.map (·.2))) e a → bslF e sz z qs = some l →
    VRL N ρ z zs.toList → ∃ cs, Instr.fill (fun i => some (i * sz, sz)) zs (ps.map fun p => (p.1, a.eval p.2)) = some cs ∧ VRL N ρ l cs.toList
  | [], qs, z, l, zs, hq, ho, hl, hz => by
    simp [cPartsL] at hq; subst hq
    simp [bslF] at hl; subst hl
    exact ⟨zs, rfl, hz⟩
  | (i, x) :: t, qs, z, l, zs, hq, ho, hl, hz => by
    simp only [cPartsL] at hq
    split at hq
    · rename_i y r hy hr
      cases hq
      simp only [bslF] at hl
      split at hl
      · rename_i c hc
        split at hl
        · rename_i hcond
          have ho' : OpsR N ρ (y.tmps ++ xsT (r.map (·.2))) e a := by simpa [xsT] using ho
          have hv := cX_VR hy ho'.left
          have hvc := hv.oneCell hc
          have hsz : (a.eval x).cells.size = sz := by have := hvc.1; simp at this; omega
          have hzl : z.length = zs.size := by simpa using hz.1
          have hz' := setAt_VRL (i * sz) c _ z zs 0 hz hvc
          obtain ⟨cs, h1, h2⟩ := bslF_fill t r _ l _ hr ho'.right hl hz'
          refine ⟨cs, ?_, h2⟩
          rw [List.map_cons, fill_cons _ zs i _ _ (off := i * sz) (size := sz) rfl hsz (by omega)]
          exact h1
        · cases hl
      · cases hl
    · cases hq
theorem alloc_step {t : TypeId} {z : List AV} {K : AV → Heap → Prop} (hi : HI w0 ρ H w) (hz : zeroOf P t = some z) (h : K (.ptr (some (H.size, 0))) (H.alloc z)) : Stepped P (.alloc t) a w0 w ρ H K := by
  obtain ⟨it, zv, hit, hzv, hzz⟩ := zeroOf_info (P := P) (ρ := ρ) (N := H.size) hz
  obtain ⟨h1, h2⟩ := hi.alloc z zv.cells t (by have := hzz.1; simp at this; omega) (fun j x v hx hv => hzz.2 j x v hx (by simpa using hv))
  refine ⟨_, _, _, _, _, does_of (s := Instr.alloc t true (.tuple #[])) (fun _ _ _ _ _ => rfl) ?_, ptr_new ρ H w _ z, h2, h1, h⟩
  simp [Instr.alloc, run_zero hit hzv, newVar, run_newRow]
theorem box_step {t : TypeId} {x : Operand} {y : X} {K : AV → Heap → Prop} (hi : HI w0 ρ H w) (hy : cX x = some y) (ho : OpsR H.size ρ y.tmps e a) (h : boxP (y.ev e) H K) : Stepped P (.box t x) a w0 w ρ H K := by
  unfold boxP at h
  split at h
  · rename_i c hc
    have hv := (cX_VR hy ho).oneCell hc
    obtain ⟨h1, h2⟩ := hi.alloc c (a.eval x).cells t (by have := hv.1; simp at this; omega) (fun j x v hx hv' => hv.2 j x v hx (by simpa using hv'))
    refine ⟨_, _, _, _, _, does_of (s := Instr.box t (a.eval x)) (fun _ _ _ _ _ => rfl) ?_, ptr_new ρ H w _ c, h2, h1, h⟩
    simp [Instr.box, newVar, run_newRow]
  · exact h.elim
theorem bslc_step {t e0 : TypeId} {len n : Nat} {parts : Array (Nat × Operand)} {ps : List (Nat × X)} {z : List AV} {K : AV → Heap → Prop} (hi : HI w0 ρ H w) (hu : P.underlying t = some (.slice e0))
    (hn : szOf P e0 = some n) (hz : zeroOf P e0 = some z) (hps : cPartsL parts.toList = some ps) (hc : len * n ≤ 65536 ∧ z.length = n ∧ 0 < n) (ho : OpsR H.size ρ (xsT (ps.map (·.2))) e a)
    (h : bslcP n len (bslF e n (zeros z len) ps) H K) : Stepped P (.buildSlice t len parts) a w0 w ρ H K := by
  unfold bslcP at h
  split at h
  · rename_i c hcc
    obtain ⟨it, zv, hit, hzv, hzz⟩ := zeroOf_info (P := P) (ρ := ρ) (N := H.size) hz
    have hzs : zv.cells.size = n := by have := hzz.1; simp at this; omega
    obtain ⟨cs, h1, h2⟩ := bslF_fill (N := H.size) (ρ := ρ) (e := e) (a := a) parts.toList ps (zeros z len) c _ hps ho hcc (zeros_VRL hzz hc.2.1 hc.2.2)
    have hcl : c.length = cs.size := by simpa using h2.1
    have hlen : cs.size = len * n := by rw [← hcl, bslF_length ps _ c hcc, zeros_length, hc.2.1]
    obtain ⟨h3, h4⟩ := hi.alloc c cs e0 (by omega) (fun j x v hx hv => h2.2 j x v hx (by simpa using hv))
    have h16 : ¬ (len * n > 2 ^ 24) := by have := hc.1; omega
    have hrun : ∀ ps' : Array (Nat × Value), ps'.toList = parts.toList.map (fun p => (p.1, a.eval p.2)) → (Instr.buildSlice t len ps').run P w = .ok (.slice (some ⟨w.heap.size, 0, none⟩) len len) (w.alloc (.cells cs e0)) := by
      intro ps' hps'
      have h1' : Instr.fill (fun i => some (i * n, n)) ((Array.range (len * n)).map (zv.cells[· % zv.cells.size]!)) ps'.toList = some cs := by rw [hps']; exact h1
      by_cases h00 : len * n = 0
      · have e1 : (Array.range (len * n)).map (fun x => (#[] : Array Value)[x % (#[] : Array Value).size]!) = (Array.range (len * n)).map (zv.cells[· % zv.cells.size]!) := by rw [h00]; simp
        simp only [Instr.buildSlice, Sem.run_bind, run_underlying hu, Result.andThen_ok, run_szOf hn, if_neg h16, if_pos h00, Sem.run_pure, e1, h1', run_newRow]
      · simp only [Instr.buildSlice, Sem.run_bind, run_underlying hu, Result.andThen_ok, run_szOf hn, if_neg h16, if_neg h00, Sem.run_pure, run_zero hit hzv, h1', run_newRow]
    refine ⟨_, _, _, _, _, fun _ _ _ _ _ => .inl ?_, sl_new ρ H w _ c len len len n true (Nat.le_refl _) (Nat.le_refl _) (fun _ => rfl) (by omega), h4, h3, h⟩
    have hr2 := hrun (parts.map fun x => (x.1, a.eval x.2)) (by simp)
    simp only [execOp, Sem.run_bind]
    rw [hr2]; simp
  · exact h.elim
theorem sameX_eval {l c : Operand} {x y : X} (hx : cX l = some x) (hy : cX c = some y) (hs : sameX x y = true) : a.eval c = a.eval l := by
  cases x with
  | t i =>
    cases y with
    | c v => simp [sameX] at hs
    | t j =>
      simp [sameX] at hs; subst hs
      have key : ∀ o : Operand, cX o = some (.t i) → o = .tmp i := by
        intro o h
        cases o with
        | tmp k => simp [cX] at h; subst h; rfl
        | const v => simp only [cX] at h; obtain ⟨z, _, h2⟩ := map_some' h; cases h2
        | func f => simp [cX] at h
        | global g => simp [cX] at h
      rw [key l hx, key c hy]
  | c v =>
    cases y with
    | t j => cases v <;> simp [sameX] at hs
    | c u =>
      cases v <;> cases u <;> simp [sameX] at hs
      rename_i k i k' j
      have : k = .i64 ∧ k' = .i64 ∧ i = j := by
        cases k <;> cases k' <;> simp at hs <;> simp [hs]
      obtain ⟨rfl, rfl, rfl⟩ := this
      have key : ∀ o : Operand, cX o = some (.c (.int .i64 i)) → o = .const (.int .i64 i) := by
        intro o h
        cases o with
        | tmp k => simp [cX] at h
        | const v =>
          simp only [cX] at h; obtain ⟨z, h1, h2⟩ := map_some' h; cases h2
          have := avOf_VR h1 0 (fun _ => ⟨0, 0, 0, false⟩)
          cases this; rfl
        | func f => simp [cX] at h
        | global g => simp [cX] at h
      rw [key l hx, key c hy]
theorem mks_step {t e0 : TypeId} {n by_ : Nat} {l c : Operand} {x y : X} {z : List AV} {K : AV → Heap → Prop} (hi : HI w0 ρ H w) (hu : P.underlying t = some (.slice e0))
    (hn : szOf P e0 = some n) (hz : zeroOf P e0 = some z) (hby : byOf P e0 = some by_) (hx : cX l = some x) (hy : cX c = some y) (hc : sameX x y = true ∧ z.length = n ∧ 0 < n) (ho : OpsR H.size ρ x.tmps e a)
    (h : mksP z by_ (x.ev e) H K) : Stepped P (.makeSlice t l c) a w0 w ρ H K := by
  have hlv := cX_VR hx ho
  have hcl := sameX_eval (a := a) hx hy hc.1
  unfold mksP at h
  split at h
  · rename_i m hm
    rw [hm] at hlv
    obtain ⟨h0, h1, h2, hk⟩ := h
    obtain ⟨it, zv, hit, hzv, hzz⟩ := zeroOf_info (P := P) (ρ := ρ) (N := H.size) hz
    have hb : it.bytes = by_ := by unfold byOf at hby; rw [hit] at hby; simpa using hby
    have hs : it.size = n := by obtain ⟨j, hj, rfl⟩ := szOf_info hn; rw [hit] at hj; cases hj; rfl
    have hv := zeros_VRL (len := m.toNat) hzz hc.2.1 hc.2.2
    obtain ⟨h3, h4⟩ := hi.alloc (zeros z m.toNat) (madeCells zv.cells (m.toNat * n)) e0 (by rw [zeros_length, hc.2.1, size_madeCells]; omega) (fun j x v hx hv' => hv.2 j x v hx (by rw [Array.getElem?_toList]; exact hv'))
    have hu' : a.eval l = .int .i64 m := by
      generalize a.eval l = q at hlv
      cases hlv; rfl
    refine ⟨_, _, _, _, _, does_of (s := Instr.makeSlice t (a.eval l) (a.eval c)) (fun _ _ _ _ _ => rfl) ?_, sl_new ρ H w _ _ m.toNat m.toNat m.toNat z.length true (Nat.le_refl _) (Nat.le_refl _) (fun _ => rfl) (by rw [hc.2.1, size_madeCells]; exact Nat.le_refl _), h4, h3, hk⟩
    rw [hcl, hu']
    unfold mostCells at h1 h2
    have hb' : (it.bytes : Int) * m ≤ 281474976710656 := by
      rw [hb]
      obtain ⟨k, rfl⟩ := Int.eq_ofNat_of_zero_le h0
      simp only [Int.toNat_natCast] at h1 h2
      have : ((by_ : Int) * (k : Int)) = ((k * by_ : Nat) : Int) := by push_cast; rw [Int.mul_comm]
      rw [this]; omega
    have := run_make (P := P) (w := w) t e0 it zv hu hit hzv .i64 .i64 m m h0 (Int.le_refl _) hb' (by omega)
    rw [hs] at this
    exact this
  · exact h.elim
theorem mkc_step {t e0 : TypeId} {n by_ : Nat} {l c : Operand} {x y : X} {z : List AV} {K : AV → Heap → Prop} (hi : HI w0 ρ H w) (hu : P.underlying t = some (.slice e0))
    (hn : szOf P e0 = some n) (hz : zeroOf P e0 = some z) (hby : byOf P e0 = some by_) (hx : cX l = some x) (hy : cX c = some y) (hc : z.length = n ∧ 0 < n) (ho : OpsR H.size ρ (x.tmps ++ y.tmps) e a)
    (h : mkcP z by_ (x.ev e) (y.ev e) H K) : Stepped P (.makeSlice t l c) a w0 w ρ H K := by
  have hlv := cX_VR hx ho.left
  have hcv := cX_VR hy ho.right
  unfold mkcP at h
  split at h
  · rename_i m m2 hm hm2
    rw [hm] at hlv
    rw [hm2] at hcv
    obtain ⟨h0, hle, h1, h2, hk⟩ := h
    obtain ⟨it, zv, hit, hzv, hzz⟩ := zeroOf_info (P := P) (ρ := ρ) (N := H.size) hz
    have hb : it.bytes = by_ := by unfold byOf at hby; rw [hit] at hby; simpa using hby
    have hs : it.size = n := by obtain ⟨j, hj, rfl⟩ := szOf_info hn; rw [hit] at hj; cases hj; rfl
    have hv := zeros_VRL (len := m2.toNat) hzz hc.1 hc.2
    obtain ⟨h3, h4⟩ := hi.alloc (zeros z m2.toNat) (madeCells zv.cells (m2.toNat * n)) e0 (by rw [zeros_length, hc.1, size_madeCells]; omega) (fun j x v hx hv' => hv.2 j x v hx (by rw [Array.getElem?_toList]; exact hv'))
    have hu' : a.eval l = .int .i64 m := by
      generalize a.eval l = q at hlv
      cases hlv; rfl
    have hu2 : a.eval c = .int .i64 m2 := by
      generalize a.eval c = q at hcv
      cases hcv; rfl
    refine ⟨_, _, _, _, _, does_of (s := Instr.makeSlice t (a.eval l) (a.eval c)) (fun _ _ _ _ _ => rfl) ?_, sl_new ρ H w _ _ m.toNat m2.toNat m2.toNat z.length true (by omega) (Nat.le_refl _) (fun _ => rfl) (by rw [hc.1, size_madeCells]; exact Nat.le_refl _), h4, h3, hk⟩
    rw [hu', hu2]
    unfold mostCells at h1 h2
    have hb' : (it.bytes : Int) * m2 ≤ 281474976710656 := by
      rw [hb]
      obtain ⟨k, rfl⟩ := Int.eq_ofNat_of_zero_le (show 0 ≤ m2 by omega)
      simp only [Int.toNat_natCast] at h1 h2
      have : ((by_ : Int) * (k : Int)) = ((k * by_ : Nat) : Int) := by push_cast; rw [Int.mul_comm]
      rw [this]; omega
    have := run_make (P := P) (w := w) t e0 it zv hu hit hzv .i64 .i64 m m2 h0 hle hb' (by omega)
    rw [hs] at this
    exact this
  · exact h.elim
theorem find_ovl {fn : Func} (h1 : fn.name = "slices.overlaps[[]int]") (h2 : fn.origin = "slices.overlaps") : Extern.find fn = some (Extern.SlicesOverlaps.overlaps fn.params fn.resultTypes) ∧ (Extern.findNext fn).isNone = true := by
  cases fn
  simp only at h1 h2
  subst h1 h2
  exact ⟨by kernel_rfl, by kernel_rfl⟩
theorem ovl_step {f : FuncId} {x y : Operand} {x' y' : X} {ts : Array TypeId} {K : AV → Heap → Prop} (hi : HI w0 ρ H w) (hf : ovlOf P f = true) (hx : cX x = some x') (hy : cX y = some y') (ho : OpsR H.size ρ (x'.tmps ++ y'.tmps) e a)
    (h : ovlP (x'.ev e) (y'.ev e) H K) : Stepped P (.call { callee := .value (.func f), args := #[x, y], argTypes := ts }) a w0 w ρ H K := by
  have hxv := cX_VR hx ho.left
  have hyv := cX_VR hy ho.right
  unfold ovlP at h
  split at h
  · rename_i b1 o1 n1 c1 e1 k1 b2 o2 n2 c2 e2 k2 q1 q2
    rw [q1] at hxv
    rw [q2] at hyv
    obtain ⟨hne, h1, ⟨v2, l2, h2⟩, hk⟩ := h
    obtain ⟨l1, h1⟩ := Option.isSome_iff_exists.1 h1
    obtain ⟨hb1, hk1⟩ := Heap.rwCells_blk h1
    obtain ⟨hb2, hk2⟩ := Heap.rwCells_blk h2
    obtain ⟨_, s1, cs1, t1, w1, z1⟩ := hi.own b1 l1 hb1 hk1
    obtain ⟨_, s2, cs2, t2, w2, z2⟩ := hi.own b2 _ hb2 hk2
    simp only [List.length_cons] at s2
    have hblk : (ρ b1).blk ≠ (ρ b2).blk := by
      rcases hi.inj b1 b2 hb1 hb2 hne (HI.isRw_cells hb1 hk1) with h3 | h3
      · rw [hk2] at h3; cases h3
      · exact h3
    unfold ovlOf at hf
    split at hf
    · rename_i fn hfn
      simp only [Bool.and_eq_true, beq_iff_eq] at hf
      obtain ⟨⟨⟨hb, hnm⟩, hor⟩, hp⟩ := hf
      split at hp
      · rename_i t u r hps hrs
        simp only [Bool.and_eq_true, beq_iff_eq] at hp
        obtain ⟨rfl, hp⟩ := hp
        have hps' : fn.params = #[t, t] := by cases hq : fn.params; rw [hq] at hps; simp only at hps; rw [hps]
        have hrs' : fn.resultTypes = #[r] := by cases hq : fn.resultTypes; rw [hq] at hrs; simp only at hrs; rw [hrs]
        split at hp
        · rename_i e0 hu
          obtain ⟨sz, hsz⟩ := Option.isSome_iff_exists.1 hp
          obtain ⟨hfd, hfn2⟩ := find_ovl hnm hor
          have hxe : ∃ la ca, a.eval x = .slice (some ⟨(ρ b1).blk, (ρ b1).off + o1, none⟩) la ca := by
            generalize a.eval x = q at hxv
            cases hxv; exact ⟨_, _, rfl⟩
          have hye : ∃ la ca, a.eval y = .slice (some ⟨(ρ b2).blk, (ρ b2).off + o2, none⟩) la ca := by
            generalize a.eval y = q at hyv
            cases hyv; exact ⟨_, _, rfl⟩
          obtain ⟨la, ca, hxe⟩ := hxe
          obtain ⟨lb, cb, hye⟩ := hye
          have hrun := Lib.run_overlaps_apart (P := P) w t r e0 hu sz (fun w => run_szOf hsz) ⟨(ρ b1).blk, (ρ b1).off + o1, none⟩ ⟨(ρ b2).blk, (ρ b2).off + o2, none⟩ la ca lb cb hblk t1 t2 cs1.size cs2.size
            (by simp [World.shape?, w1]) (by simp [World.shape?, w2]) (by omega) (by simp [World.frozen?, w1]) (by simp [World.frozen?, w1])
          rw [hps', hrs'] at hfd
          have hcf : (callFunc f #[a.eval x, a.eval y]).run P w = .ok (.value (.bool false)) w := by
            rw [run_callFunc_extern hfn (by rw [hnm]; decide) hb (by simpa using hfn2) hfd, hxe, hye, hrun]
            rfl
          refine ⟨.bool false, w, .bool false, H, ρ, fun d t p f' g => .inl ?_, .bool _, Evol.refl _ _ _, hi, hk⟩
          simp only [execOp, resolve, Act.eval, Deferred.ofValue, Sem.run_bind, Sem.run_pure, Result.andThen_ok, invoke]
          simpa using hcf
        · cases hp
      · cases hp
    · cases hf
  · exact h.elim
theorem slcd_step {t e0 : TypeId} {n : Nat} {x : Operand} {x' : X} {lo hi' mx : Option Operand} {K : AV → Heap → Prop} (hi : HI w0 ρ H w) (hu : P.underlying t = some (.slice e0)) (hn : szOf P e0 = some n)
    (hx : cX x = some x') (hlo : cXo lo = some (some (.c (.int .i64 1)))) (hhi : cXo hi' = some none) (hmx : cXo mx = some none) (ho : OpsR H.size ρ x'.tmps e a)
    (h : slcdP n (x'.ev e) H K) : Stepped P (.slice t x lo hi' mx) a w0 w ρ H K := by
  have hxv := cX_VR hx ho
  have hl := cXo_OR (N := H.size) (ρ := ρ) (e := e) (a := a) hlo (fun t ht => by simp [xoT, X.tmps] at ht)
  have hh := cXo_OR (N := H.size) (ρ := ρ) (e := e) (a := a) hhi (fun t ht => by simp [xoT] at ht)
  have hm := cXo_OR (N := H.size) (ρ := ρ) (e := e) (a := a) hmx (fun t ht => by simp [xoT] at ht)
  simp only [Option.map_some, Option.map_none] at hl hh hm
  have hev : (X.c (.int .i64 1)).ev e = .int .i64 1 := rfl
  rw [hev] at hl
  have fin : ∀ u v, (Instr.sliceAt t (a.eval x) (lo.map a.eval) (hi'.map a.eval) (mx.map a.eval)).run P w = .ok u w → VR H.size ρ v u → K v H → Stepped P (.slice t x lo hi' mx) a w0 w ρ H K := fun u v h1 h2 h3 =>
    ⟨u, w, v, H, ρ, fun d ty p f g => .inl ((gives_of (s := Instr.sliceAt t (a.eval x) (lo.map a.eval) (hi'.map a.eval) (mx.map a.eval)) (fun _ _ _ _ _ => rfl) h1) d ty p f g), h2, Evol.refl _ _ _, hi, h3⟩
  unfold slcdP at h
  split at h
  · rename_i A len cap ex k hxe
    obtain ⟨rfl, h1, h2, h3⟩ := h
    have hb : bnds len cap (some (.int .i64 1)) none none = some (1, len, cap) := by
      simp only [bnds, Option.isSome_none, Bool.false_eq_true, if_false, natIn]
      have : (1 : Int) ≤ (len : Int) := by omega
      simp [this]
    rw [hxe] at hxv
    split at h3
    · rename_i hce
      obtain ⟨rfl, rfl⟩ := hce
      obtain ⟨ha, hb'⟩ := h3
      generalize hae : a.eval x = u at hxv
      cases hxv with
      | sl b o _ _ _ k cap' hb1 hb2 hb3 hb4 hb5 =>
        obtain ⟨hr, q1, q2, q3, q4⟩ := run_bnds (P := P) (w := w) (isS := true) hl hh hm hb3 hb2 hb
        have hrun : (Instr.sliceAt t (.slice (rA ρ (some (b, o))) len cap') (lo.map a.eval) (hi'.map a.eval) (mx.map a.eval)).run P w = .ok (.slice (if cap' = 1 then rA ρ (some (b, o)) else (rA ρ (some (b, o))).map (·.add (1 * k))) (len - 1) (cap' - 1)) w := by
          simp only [Instr.sliceAt, Instr.slice, Sem.run_bind, run_underlying hu, Result.andThen_ok, hr, run_szOf hn, Sem.run_pure, Option.isSome_none, Bool.false_eq_true, if_false]
        rw [← hae] at hrun
        have hl1 : len - 1 = 0 := by omega
        rw [hl1] at hrun
        by_cases e1 : cap' = 1
        · rw [if_pos e1] at hrun
          refine fin _ _ hrun ?_ ha
          subst e1
          exact .sl b o 0 0 true k 0 hb1 (by omega) (by omega) (fun _ => rfl) (fun hr => by have := hb5 hr; omega)
        · rw [if_neg e1] at hrun
          refine fin _ _ hrun ?_ hb'
          have ea : (rA ρ (some (b, o))).map (·.add (1 * k)) = rA ρ (some (b, o + k)) := by simp [rA, add_plain, Nat.add_assoc]
          rw [ea]
          refine .sl b (o + k) 0 0 false k (cap' - 1) hb1 (by omega) (by omega) (fun h => by cases h) (fun hr => ?_)
          have := hb5 hr
          have e3 : k + (cap' - 1) * k = cap' * k := by
            obtain ⟨c, rfl⟩ : ∃ c, cap' = c + 1 := ⟨cap' - 1, by omega⟩
            rw [Nat.add_sub_cancel, Nat.succ_mul]; omega
          omega
    · rename_i hce
      have hs : slcF k (some (.int .i64 1)) none none (.sl A len cap ex k) = some (.sl (if cap = 1 then A else some (A.b, A.o + 1 * k)) (len - 1) (cap - 1) ex k) := by
        simp only [slcF, hb, Option.isNone_none, Option.isSome_none, Bool.or_false, true_and]
        rw [if_neg]
        rintro (⟨h5, h6⟩ | ⟨h5, _⟩)
        · exact hce ⟨h5, h6⟩
        · exact h5 rfl
      obtain ⟨z, hz, hr⟩ := run_slc (P := P) (w := w) hu hn hxv hl hh hm hs
      rw [Nat.one_mul] at hr
      exact fin z _ hz hr h3
  · exact h.elim
theorem Stepped.skip {op : Op} {w' : World} {H' : Heap} {K : AV → Heap → Prop} (h : ∀ dst ty pos af gd, (execOp a.eval ⟨dst, op, ty, pos, af, gd⟩).run P w = .ok .skip w')
    (h2 : Evol ρ H w ρ H' w') (h3 : HI w0 ρ H' w') (hk : K .junk H') : Stepped P op a w0 w ρ H K :=
  ⟨undef, w', .junk, H', ρ, fun d t p f g => .inr ⟨h d t p f g, rfl⟩, .junk _, h2, h3, hk⟩
theorem store_step {t : TypeId} {n : Nat} {x v : Operand} {y u : X} {K : AV → Heap → Prop} (hi : HI w0 ρ H w) (hn : szOf P t = some n) (hx : cX x = some y) (hv : cX v = some u)
    (ho : OpsR H.size ρ (y.tmps ++ u.tmps) e a) (h : storeP n (y.ev e) (u.ev e) H K) : Stepped P (.store t x v) a w0 w ρ H K := by
  have h1 := cX_VR hx ho.left
  have h2 := cX_VR hv ho.right
  unfold storeP at h
  split at h
  · rename_i b o c hp hc
    split at h
    · exact h.elim
    · rename_i cs hcs
      obtain ⟨hlen, hone, hbd, hk⟩ := h
      obtain ⟨hb, hblk⟩ := Heap.rwCells_blk hcs
      rw [hp] at h1
      have hvc := h2.oneCell hc
      have hxe : a.eval x = .pointer (some ⟨(ρ b).blk, (ρ b).off + o, none⟩) := by
        generalize a.eval x = q at h1
        cases h1; rfl
      obtain ⟨w', h3, h4, h5⟩ := HI.stores (P := P) c (a.eval v).cells.toList cs o 0 H w hi hb hblk hvc hone (by omega)
      refine Stepped.skip (w' := w') (fun _ _ _ _ _ => ?_) h5 h4 hk
      have hsz : ¬ ((a.eval v).cells.size ≠ n) := by have := hvc.1; simp at this ⊢; omega
      simp only [execOp, Instr.storeAt, hxe, Instr.sureAddr, storeVar, Sem.run_bind, Sem.run_pure, Result.andThen_ok, run_szOf hn, if_neg hsz, h3]
  · exact h.elim
theorem clear_step {t e0 : TypeId} {n : Nat} {x : Operand} {y : X} {z : List AV} {K : AV → Heap → Prop} (hi : HI w0 ρ H w) (hu : P.underlying t = some (.slice e0)) (hz : zeroOf P e0 = some z)
    (hn : szOf P e0 = some n) (hzn : z.length = n) (hx : cX x = some y) (ho : OpsR H.size ρ y.tmps e a) (h : clearP z (y.ev e) H K) :
    Stepped P (.call { callee := .builtin .clear, args := #[x], argTypes := #[t] }) a w0 w ρ H K := by
  have h1 := cX_VR hx ho
  unfold clearP at h
  split at h
  · rename_i A m c ex k hA
    rw [hA] at h1
    obtain ⟨it, zv, hit, hzv, hzz⟩ := zeroOf_info (P := P) (ρ := ρ) (N := H.size) hz
    by_cases hm : m = 0
    · rw [if_pos hm] at h
      subst hm
      have hxe : ∃ A' c', a.eval x = .slice A' 0 c' := by
        generalize a.eval x = q at h1
        cases h1 <;> exact ⟨_, _, rfl⟩
      obtain ⟨A', c', hxe⟩ := hxe
      refine ⟨.tuple #[], w, .junk, H, ρ, fun _ _ _ _ _ => .inl ?_, .junk _, Evol.refl _ _ _, hi, h⟩
      cases A' <;> simp [execOp, resolve, invoke, builtin, Builtin.clear_, run_underlying hu, hxe]
    · rw [if_neg hm] at h
      split at h
      · exact h.elim
      · rename_i cs hcs
        obtain ⟨hone, hbd, hk⟩ := h
        obtain ⟨hb, hblk⟩ := Heap.rwCells_blk hcs
        cases A with
        | none =>
          generalize a.eval x = q at h1
          cases h1; exact absurd rfl hm
        | some p =>
          obtain ⟨b, o⟩ := p
          simp only [AA.b_some, AA.o_some] at *
          have hxe : ∃ c', a.eval x = .slice (some ⟨(ρ b).blk, (ρ b).off + o, none⟩) m c' := by
            generalize a.eval x = q at h1
            cases h1; exact ⟨_, rfl⟩
          obtain ⟨c', hxe⟩ := hxe
          have hzr : VRL H.size ρ (zeros z m) (Builtin.zeroCells zv.cells m).toList := by
            have hzs : zv.cells.size = z.length := by have := hzz.1; simp at this; omega
            rcases Nat.eq_zero_or_pos z.length with h0 | h0
            · refine ⟨by simp [zeros_length, Builtin.zeroCells, hzs], fun i x v hx hv => ?_⟩
              rw [List.getElem?_eq_none (by rw [zeros_length, h0]; simp)] at hx; cases hx
            · have := zeros_VRL (len := m) hzz rfl h0
              rw [← hzs] at this
              exact this
          obtain ⟨w', h3, h4, h5⟩ := HI.stores (P := P) (zeros z m) _ cs o 0 H w hi hb hblk hzr (zeros_all z hone m) (by rw [zeros_length]; omega)
          refine ⟨.tuple #[], w', .junk, _, ρ, fun _ _ _ _ _ => .inl ?_, .junk _, h5, h4, hk⟩
          obtain ⟨m', rfl⟩ : ∃ m', m = m' + 1 := ⟨m - 1, by omega⟩
          simp [execOp, resolve, invoke, builtin, Builtin.clear_, run_underlying hu, hxe, run_zero hit hzv, h3]
  · exact h.elim
theorem sl_form {N : Nat} {A : AA} {n c : Nat} {ex : Bool} {k : Nat} {u : Value} (h : VR N ρ (.sl A n c ex k) u) :
    ∃ c', u = .slice (rA ρ A) n c' ∧ n ≤ c ∧ c ≤ c' ∧ (ex = true → c' = c) ∧ (A = none → n = 0 ∧ c = 0 ∧ c' = 0) ∧ (∀ b o, A = some (b, o) → b < N ∧ ((ρ b).rw = true → o + c' * k ≤ (ρ b).sz)) := by
  cases h with
  | slN k => exact ⟨0, rfl, Nat.le_refl _, Nat.le_refl _, fun _ => rfl, fun _ => ⟨rfl, rfl, rfl⟩, fun b o e => by cases e⟩
  | sl b o len cap ex k cap' h1 h2 h3 h4 h5 => exact ⟨cap', rfl, h2, h3, h4, fun e => by (cases e), fun b' o' e => by cases e; exact ⟨h1, h5⟩⟩
theorem run_firstCells {A : AA} {size n m c : Nat} {l : List AV} (hi : HI w0 ρ H w) (hA : A = none → n = 0) (h : loadN H A.b A.o (n * size) = some l) :
    ∃ vs : List Value, (Builtin.firstCells size n (.slice (rA ρ A) m c)).run P w = .ok vs.toArray w ∧ vs.length = n * size ∧ VRL H.size ρ l vs := by
  cases A with
  | none =>
    have := hA rfl; subst this
    rw [Nat.zero_mul] at h
    simp [loadN] at h; subst h
    exact ⟨[], by simp [Builtin.firstCells, rA], by simp, VRL.nil _ _⟩
  | some p =>
    obtain ⟨b, o⟩ := p
    obtain ⟨vs, h1, h2, h3⟩ := hi.loadN (n * size) o l h
    refine ⟨vs, ?_, h1, h2⟩
    simp only [Builtin.firstCells, rA]
    rw [← h1]
    exact run_loadCells _ _ vs h3
theorem copy_step {t u0 e0 : TypeId} {u1 : TypeId} {n : Nat} {d s : Operand} {y z : X} {K : AV → Heap → Prop} (hi : HI w0 ρ H w) (hu : P.underlying t = some (.slice e0))
    (hn : szOf P e0 = some n) (hx : cX d = some y) (hs : cX s = some z) (ho : OpsR H.size ρ (y.tmps ++ z.tmps) e a) (h : copyP n (y.ev e) (z.ev e) H K) :
    Stepped P (.call { callee := .builtin .copy, args := #[d, s], argTypes := #[t, u0] }) a w0 w ρ H K := by
  have h1 := cX_VR hx ho.left
  have h2 := cX_VR hs ho.right
  unfold copyP at h
  split at h
  · rename_i A m c ex k A' m' c' ex' k' hA hA'
    rw [hA] at h1
    rw [hA'] at h2
    obtain ⟨r, hr, _, _, _, hr0, hrb⟩ := sl_form h1
    obtain ⟨r', hr', _, _, _, hr0', hrb'⟩ := sl_form h2
    split at h
    · exact h.elim
    · rename_i new hnew
      obtain ⟨vs, hv1, hv2, hv3⟩ := run_firstCells (P := P) (c := r') (m := m') hi (fun e => by have := hr0' e; omega) hnew
      have hmin : Nat.min m' m = min m' m := rfl
      by_cases h0 : min m' m * n = 0
      · rw [if_pos h0] at h
        have : vs = [] := List.eq_nil_of_length_eq_zero (by omega)
        subst this
        refine ⟨_, w, _, H, ρ, fun _ _ _ _ _ => .inl ?_, .int _ _, Evol.refl _ _ _, hi, h⟩
        cases hre : rA ρ A <;> simp [execOp, resolve, invoke, builtin, Builtin.copy_, run_underlying hu, hr, hr', Builtin.lenOf, run_szOf hn, hmin, hv1, goInt, hre, storeCells]
      · rw [if_neg h0] at h
        split at h
        · exact h.elim
        · rename_i cs hcs
          obtain ⟨hone, hbd, hk⟩ := h
          obtain ⟨hb, hblk⟩ := Heap.rwCells_blk hcs
          cases A with
          | none => have := (hr0 rfl).1; subst this; simp at h0
          | some p =>
            obtain ⟨b, o⟩ := p
            simp only [AA.b_some, AA.o_some] at *
            obtain ⟨w', h3, h4, h5⟩ := HI.stores (P := P) new vs cs o 0 H w hi hb hblk hv3 hone (by have := hv3.1; omega)
            refine ⟨_, w', _, _, ρ, fun _ _ _ _ _ => .inl ?_, .int _ _, h5, h4, hk⟩
            have h3' : (storeCells ⟨(ρ b).blk, (ρ b).off + o, none⟩ vs.toArray.toList 0).run P w = .ok () w' := h3
            simp only [rA] at hr
            simp [execOp, resolve, invoke, builtin, Builtin.copy_, run_underlying hu, hr, hr', Builtin.lenOf, run_szOf hn, hmin, hv1, goInt, h3]
  · exact h.elim
theorem run_app_in {t u0 e0 ty : TypeId} {sz sLen sCap n : Nat} {ad : Addr} {x : Value} {vs : List Value} {w' : World} (hu : P.underlying t = some (.slice e0)) (hu0 : ∃ e1, P.underlying u0 = some (.slice e1))
    (hn : szOf P e0 = some sz) (hl : (Builtin.lenOf x).run P w = .ok n w) (hf : (Builtin.firstCells sz n x).run P w = .ok vs.toArray w) (hle : sLen + n ≤ sCap)
    (hst : (storeCells (ad.add (sLen * sz)) vs 0).run P w = .ok () w') :
    (Builtin.append_ #[t, u0] ty #[.slice (some ad) sLen sCap, x]).run P w = .ok (.slice (some ad) (sLen + n) sCap) w' := by
  obtain ⟨e1, hu0⟩ := hu0
  simp [Builtin.append_, run_underlying hu, run_underlying hu0, run_szOf hn, hl, hle, hf, hst]
theorem run_app_out {t u0 e0 ty : TypeId} {sz sLen sCap n : Nat} {base : Option Addr} {x : Value} {vs os : List Value} {it : TypeInfo} {zv : Value} (hu : P.underlying t = some (.slice e0)) (hu0 : ∃ e1, P.underlying u0 = some (.slice e1))
    (hit : P.info? e0 = some it) (hzv : it.zero = some zv) (hn : szOf P e0 = some sz) (hl : (Builtin.lenOf x).run P w = .ok n w)
    (hf : (Builtin.firstCells sz n x).run P w.drew = .ok vs.toArray w.drew) (hfo : (Builtin.firstCells sz sLen (.slice base sLen sCap)).run P w.drew = .ok os.toArray w.drew) (hle : ¬ sLen + n ≤ sCap)
    (h63 : sLen + n ≤ mostCells) (hby : (sLen + n) * it.bytes ≤ mostCells) :
    ∃ newCap, sLen + n ≤ newCap ∧ (Builtin.append_ #[t, u0] ty #[.slice base sLen sCap, x]).run P w =
      .ok (.slice (some ⟨w.heap.size, 0, none⟩) (sLen + n) newCap) (w.drew.alloc (.cells (os.toArray ++ vs.toArray ++ Builtin.zeroCells zv.cells (newCap - (sLen + n))) e0)) := by
  obtain ⟨e1, hu0⟩ := hu0
  refine ⟨grownCap w (sLen + n) sCap e0, grownCap_ge w _ _ _, ?_⟩
  unfold mostCells at h63 hby
  have h2 : ¬ (Builtin.nextslicecap (sLen + n) sCap * it.bytes > 2 ^ 48) := by
    have h3 := nextslicecap_le (need := sLen + n) (old := sCap) (by omega)
    have h4 := Nat.mul_le_mul_right it.bytes h3
    have h5 : 2 * (sLen + n) * it.bytes = 2 * ((sLen + n) * it.bytes) := Nat.mul_assoc _ _ _
    have : (2 : Nat) ^ 48 = 281474976710656 := by decide
    omega
  have h63' : ¬ (9223372036854775807 < ((sLen : Int) + (n : Int))) := by omega
  have h48' : ¬ (281474976710656 < Builtin.nextslicecap (sLen + n) sCap * it.bytes) := by
    have : (2 : Nat) ^ 48 = 281474976710656 := by decide
    omega
  have hsz : it.size = sz := by obtain ⟨j, hj, rfl⟩ := szOf_info hn; rw [hit] at hj; cases hj; rfl
  subst hsz
  simp [Builtin.append_, run_underlying hu, run_underlying hu0, sizeOf, typeInfo, zeroValue, hit, hzv, hl, hle, h63', h48', Question.forced, hf, hfo, newRow, grownCap]
  congr 2
  apply Array.ext'
  simp [List.append_assoc]
theorem app_step {t u0 e0 : TypeId} {n by_ : Nat} {s x : Operand} {y z : X} {zz : List AV} {K : AV → Heap → Prop} (hi : HI w0 ρ H w) (hu : P.underlying t = some (.slice e0)) (hu0 : ∃ e1, P.underlying u0 = some (.slice e1))
    (hn : szOf P e0 = some n) (hby : byOf P e0 = some by_) (hz : zeroOf P e0 = some zz) (hzn : zz.length = n ∧ 0 < n) (hs : cX s = some y) (hx : cX x = some z) (ho : OpsR H.size ρ (y.tmps ++ z.tmps) e a) (h : appP n by_ (y.ev e) (z.ev e) H K) :
    Stepped P (.call { callee := .builtin .append, args := #[s, x], argTypes := #[t, u0] }) a w0 w ρ H K := by
  have h1 := cX_VR hs ho.left
  have h2 := cX_VR hx ho.right
  obtain ⟨it, zv, hit, hzv, hzz⟩ := zeroOf_info (P := P) (ρ := ρ) (N := H.size) hz
  have hb : it.bytes = by_ := by unfold byOf at hby; rw [hit] at hby; simpa using hby
  have hzs : zv.cells.size = n := by have := hzz.1; simp at this; omega
  have exec : ∀ (u : Value) (w' : World), (Builtin.append_ #[t, u0] 0 #[a.eval s, a.eval x]).run P w = .ok u w' → (∀ ty, (Builtin.append_ #[t, u0] ty #[a.eval s, a.eval x]).run P w = .ok u w') →
      Does P (.call { callee := .builtin .append, args := #[s, x], argTypes := #[t, u0] }) a w u w' := by
    intro u w' _ hr d ty p f g
    refine .inl ?_
    simp [execOp, resolve, invoke, builtin, hr]
  have exec' : ∀ (u : Value) (w' : World), (∀ ty, (Builtin.append_ #[t, u0] ty #[a.eval s, a.eval x]).run P w = .ok u w') →
      Does P (.call { callee := .builtin .append, args := #[s, x], argTypes := #[t, u0] }) a w u w' := fun u w' hr => exec u w' (hr 0) hr
  unfold appP at h
  split at h
  · rename_i A m c ex k A' m' c' ex' k' hA hA'
    rw [hA] at h1
    rw [hA'] at h2
    obtain ⟨r, hr, hmc, hcr, hexr, hr0, hrb⟩ := sl_form h1
    obtain ⟨r', hr', _, _, _, hr0', hrb'⟩ := sl_form h2
    split at h
    · exact h.elim
    · rename_i new hnew
      obtain ⟨vs, hv1, hv2, hv3⟩ := run_firstCells (P := P) (c := r') (m := m') hi (fun e => (hr0' e).1) hnew
      have hlen : (Builtin.lenOf (.slice (rA ρ A') m' r')).run P w = .ok m' w := by simp [Builtin.lenOf]
      by_cases hm0 : m' = 0
      · rw [if_pos hm0] at h
        subst hm0
        have : vs = [] := List.eq_nil_of_length_eq_zero (by omega)
        subst this
        rw [hA] at h
        refine ⟨a.eval s, w, _, H, ρ, exec' _ _ (fun ty => ?_), by rw [hr] at h1 ⊢; exact h1, Evol.refl _ _ _, hi, h⟩
        rw [hr, hr']
        obtain ⟨e1, hu0⟩ := hu0
        cases hra : rA ρ A with
        | none => simp [Builtin.append_, run_underlying hu, run_underlying hu0, run_szOf hn, hlen, Builtin.lenOf, hv1, show m ≤ r by omega]
        | some ad => simp [Builtin.append_, run_underlying hu, run_underlying hu0, run_szOf hn, hlen, Builtin.lenOf, hv1, show m ≤ r by omega, storeCells]
      · rw [if_neg hm0] at h
        -- where there is room
        have room : ∀ (b o : Nat) (H1 : Heap) (ρ1 : Nat → BI) (N1 : Nat), A = some (b, o) → m + m' ≤ r → ∀ w',
            (storeCells ⟨(ρ b).blk, (ρ b).off + (o + m * n), none⟩ vs 0).run P w = .ok () w' →
            ∀ ty, (Builtin.append_ #[t, u0] ty #[a.eval s, a.eval x]).run P w = .ok (.slice (rA ρ A) (m + m') r) w' := by
          intro b o H1 ρ1 N1 hAe hle w' hst ty
          subst hAe
          rw [hr, hr']
          have := run_app_in (P := P) (w := w) (ty := ty) (ad := ⟨(ρ b).blk, (ρ b).off + o, none⟩) (sCap := r) (sLen := m) hu hu0 hn hlen hv1 hle (w' := w') (by rw [add_plain, Nat.add_assoc]; exact hst)
          simpa [rA] using this
        by_cases hin : m + m' ≤ c
        · rw [if_pos hin] at h
          split at h
          · exact h.elim
          · rename_i cs hcs
            obtain ⟨hk, hone, hbd, hK⟩ := h
            subst hk
            obtain ⟨hbl, hblk⟩ := Heap.rwCells_blk hcs
            cases A with
            | none => have := hr0 rfl; omega
            | some p =>
              obtain ⟨b, o⟩ := p
              simp only [AA.b_some, AA.o_some] at *
              obtain ⟨w', h3, h4, h5⟩ := HI.stores (P := P) new vs cs (o + m * k) 0 H w hi hbl hblk hv3 hone (by have := hv3.1; rw [Nat.add_mul] at hbd; omega)
              refine ⟨_, w', _, _, ρ, exec' _ _ (room b o H ρ 0 rfl (by omega) w' h3), ?_, h5, h4, hK⟩
              have hb2 := hrb b o rfl
              exact .sl b o (m + m') c ex k r hb2.1 hin hcr hexr hb2.2
        · rw [if_neg hin] at h
          obtain ⟨hby', hmost, h⟩ := h
          have grow : ∀ (os : List Value), ¬ m + m' ≤ r → (Builtin.firstCells n m (.slice (rA ρ A) m r)).run P w.drew = .ok os.toArray w.drew → os.length = m * n →
              ∀ (oldA : List AV), VRL H.size ρ oldA os → ∀ (H1 : Heap), HI w0 ρ H1 w.drew → H1.size = H.size → Evol ρ H w ρ H1 w.drew →
              K (.sl (some (H1.size, 0)) (m + m') (m + m') false n) (H1.alloc (oldA ++ new)) →
              Stepped P (.call { callee := .builtin .append, args := #[s, x], argTypes := #[t, u0] }) a w0 w ρ H K := by
            intro os hnr hfo hosl oldA hold H1 hi1 hs1 hev hK
            have hv1' : (Builtin.firstCells n m' (.slice (rA ρ A') m' r')).run P w.drew = .ok vs.toArray w.drew := by
              obtain ⟨vs', h3, h4, h5⟩ := run_firstCells (P := P) (c := r') (m := m') (hi.drawn (w.drawn + 1)) (fun e => (hr0' e).1) hnew
              have : vs' = vs := by
                have h6 := hv1
                cases hra : rA ρ A' with
                | none => rw [hra] at h3 h6; simp [Builtin.firstCells] at h3 h6; rw [h3, h6]
                | some ad =>
                  cases hAA : A' with
                  | none => rw [hAA] at hra; simp [rA] at hra
                  | some p =>
                    obtain ⟨b, o⟩ := p
                    have hn1 := hnew
                    rw [hAA] at hn1
                    obtain ⟨v1, q1, q2, q3⟩ := hi.loadN (m' * n) o new hn1
                    rw [hAA] at h6 h3
                    simp only [Builtin.firstCells, rA] at h6 h3
                    have e1 := run_loadCells (P := P) (w := w) (ρ b).blk ((ρ b).off + o) v1 q3
                    have e2 := run_loadCells (P := P) (w := { w with drawn := w.drawn + 1 }) (ρ b).blk ((ρ b).off + o) v1 (fun j v hv => q3 j v hv)
                    rw [q1] at e1 e2
                    rw [h6] at e1
                    rw [h3] at e2
                    injection e1 with e1 _
                    injection e2 with e2 _
                    have e1 := congrArg Array.toList e1
                    have e2 := congrArg Array.toList e2
                    simp at e1 e2
                    rw [e1, e2]
              rw [this] at h3; exact h3
            obtain ⟨nc, hnc, hrun⟩ := run_app_out (P := P) (w := w) (t := t) (u0 := u0) (ty := 0) hu hu0 hit hzv hn hlen hv1' hfo hnr hmost (by rw [hb]; exact hby')
            have hcells : VRL H1.size ρ (oldA ++ new) (os ++ vs) := by rw [hs1]; exact hold.append hv3
            obtain ⟨h3, h4⟩ := hi1.alloc (oldA ++ new) (os.toArray ++ vs.toArray ++ Builtin.zeroCells zv.cells (nc - (m + m'))) e0 (by have := hcells.1; simp at this ⊢; omega)
              (fun j x v hx hv => hcells.2 j x v hx (by
                have hjl : j < (oldA ++ new).length := by
                  rcases Nat.lt_or_ge j (oldA ++ new).length with h | h
                  · exact h
                  · rw [List.getElem?_eq_none h] at hx; cases hx
                have hjl2 : j < (os ++ vs).length := by rw [← hcells.1]; exact hjl
                rw [Array.getElem?_append_left (by simpa using hjl2)] at hv
                simpa using hv))
            have hrun' : ∀ ty, (Builtin.append_ #[t, u0] ty #[a.eval s, a.eval x]).run P w = .ok (.slice (some ⟨w.heap.size, 0, none⟩) (m + m') nc) (w.drew.alloc (.cells (os.toArray ++ vs.toArray ++ Builtin.zeroCells zv.cells (nc - (m + m'))) e0)) := by
              intro ty
              rw [hr, hr']; exact hrun
            have hszz : (Builtin.zeroCells zv.cells (nc - (m + m'))).size = (nc - (m + m')) * n := by simp [Builtin.zeroCells, hzs]
            refine ⟨_, _, _, _, _, exec' _ _ hrun', sl_new ρ H1 w.drew _ _ (m + m') (m + m') nc n false (Nat.le_refl _) hnc (fun e => by cases e) ?_, hev.trans h4, h3, hK⟩
            simp only [Array.size_append, List.size_toArray, hosl, hv2, hszz]
            rw [← Nat.add_mul, ← Nat.add_mul]
            exact Nat.mul_le_mul_right _ (by omega)
          cases ex with
          | true =>
            simp only [if_true] at h
            split at h
            · exact h.elim
            · rename_i old hold
              have hrc := hexr rfl
              obtain ⟨os, q1, q2, q3⟩ := run_firstCells (P := P) (c := r) (m := m) (hi.drawn (w.drawn + 1)) (fun e => (hr0 e).1) hold
              exact grow os (by omega) q1 q2 old q3 H (hi.drawn _) rfl (Evol.drawn _ _ _ _) h
          | false =>
            simp only [Bool.false_eq_true, if_false] at h
            split at h
            · exact h.elim
            · rename_i cs hcs
              obtain ⟨hAs, hk, hone, hbd, hK⟩ := h
              subst hk
              obtain ⟨hbl, hblk⟩ := Heap.rwCells_blk hcs
              cases A with
              | none => cases hAs
              | some p =>
                obtain ⟨b, o⟩ := p
                simp only [AA.b_some, AA.o_some] at *
                have hb2 := hrb b o rfl
                have hsz := (hi.own b cs hbl hblk).2.1
                have hrw : (ρ b).rw = true := hi.rw b cs true hbl hblk
                have hc1 : ∀ j y, ((cs.drop o).take (m * k))[j]? = some y → cs[o + j]? = some y := by
                  intro j y hy
                  rw [List.getElem?_take] at hy
                  split at hy
                  · rw [List.getElem?_drop] at hy; exact hy
                  · cases hy
                have hl1 : ((cs.drop o).take (m * k)).length = m * k := by simp; omega
                by_cases hroom : m + m' ≤ r
                · -- it goes on in its place
                  obtain ⟨h3, h4⟩ := hi.alias hbl hblk o ((cs.drop o).take (m * k)) (by omega) (by rw [hl1]; omega) hc1
                  have hbk := hb2.2 hrw
                  have hmul : (m + m') * k ≤ r * k := Nat.mul_le_mul_right _ hroom
                  rw [Nat.add_mul] at hmul
                  have hN : H.size < ((H.kill b).alloc ((cs.drop o).take (m * k))).size := Nat.lt_succ_self _
                  obtain ⟨w', h5, h6, h7⟩ := HI.pushes (P := P) (b := H.size) new vs ((cs.drop o).take (m * k)) (m * k) 0 _ w h3 hN (Heap.put_blk_new (H.kill b) _)
                    (hv3.mono (Nat.le_succ _) (updB_agree _ _ _)) hone (by rw [hl1]; omega) (by rw [updB_same, hl1]; have := hv3.1; show _ ≤ (ρ b).sz - o; omega)
                  have hHe : (((H.kill b).alloc ((cs.drop o).take (m * k))).upd H.size (.cells ((cs.drop o).take (m * k) ++ new) true)) = (H.kill b).alloc ((cs.drop o).take (m * k) ++ new) := by
                    unfold Heap.alloc Heap.put Heap.upd
                    simp only [Heap.mk.injEq, true_and]
                    funext b'
                    by_cases e : b' = H.size <;> simp [e, Heap.kill, Heap.upd]
                  rw [hHe] at h6 h7
                  refine ⟨_, w', _, _, _, exec' _ _ (room b o H ρ 0 rfl hroom w' ?_), ?_, h4.trans h7, h6, hK⟩
                  · rw [updB_same] at h5
                    simpa [Nat.add_assoc] using h5
                  · have := VR.sl (N := ((H.kill b).alloc ((cs.drop o).take (m * k) ++ new)).size) (ρ := updB ρ H.size ⟨(ρ b).blk, (ρ b).off + o, (ρ b).sz - o, true⟩) H.size 0 (m + m') (m + m') false k r (Nat.lt_succ_self _) (Nat.le_refl _) hroom (fun e => by cases e)
                      (fun _ => by rw [updB_same]; show 0 + r * k ≤ (ρ b).sz - o; omega)
                    simpa [rA, updB_same] using this
                · -- it moves
                  have hold : loadN H b o (m * k) = some ((cs.drop o).take (m * k)) := by
                    have : ∀ (n o : Nat), o + n ≤ cs.length → loadN H b o n = some ((cs.drop o).take n) := by
                      intro n
                      induction n with
                      | zero => intro o _; simp [loadN]
                      | succ n ih =>
                        intro o ho
                        have hg : H.get b o = some cs[o] := by
                          simp only [Heap.get, Heap.cellsAt, if_pos hbl, hblk]
                          simp [List.getElem?_eq_getElem (show o < cs.length by omega)]
                        simp only [loadN, hg, ih (o + 1) (by omega)]
                        congr 1
                        rw [List.drop_eq_getElem_cons (show o < cs.length by omega), List.take_succ_cons]
                    exact this _ _ hbd
                  obtain ⟨os, q1, q2, q3⟩ := run_firstCells (P := P) (c := r) (m := m) (A := some (b, o)) (hi.drawn (w.drawn + 1)) (fun e => by cases e) hold
                  exact grow os hroom q1 q2 _ q3 (H.kill b) ((hi.drawn _).kill b) rfl ((Evol.drawn _ _ _ _).trans (Evol.kill _ _ _ _)) hK
  · exact h.elim
theorem run_app_outz {t tn e0 ty : TypeId} {ku kn : IntKind} {sz sLen sCap n : Nat} {base : Option Addr} {os : List Value} {it : TypeInfo} {zv : Value} (hu : P.underlying t = some (.slice e0)) (hu0 : P.underlying tn = some (.int ku))
    (hit : P.info? e0 = some it) (hzv : it.zero = some zv) (hn : szOf P e0 = some sz) (h0 : 0 < n) (hs : 0 < sz)
    (hfo : (Builtin.firstCells sz sLen (.slice base sLen sCap)).run P w.drew = .ok os.toArray w.drew) (hle : ¬ sLen + n ≤ sCap)
    (h63 : sLen + n ≤ mostCells) (hby : (sLen + n) * it.bytes ≤ mostCells) :
    ∃ newCap, sLen + n ≤ newCap ∧ (Builtin.append_ #[t, tn] ty #[.slice base sLen sCap, .int kn n]).run P w =
      .ok (.slice (some ⟨w.heap.size, 0, none⟩) (sLen + n) newCap) (w.drew.alloc (.cells (os.toArray ++ Builtin.zeroCells zv.cells n ++ Builtin.zeroCells zv.cells (newCap - (sLen + n))) e0)) := by
  refine ⟨grownCap w (sLen + n) sCap e0, grownCap_ge w _ _ _, ?_⟩
  unfold mostCells at h63 hby
  have hsz : it.size = sz := by obtain ⟨j, hj, rfl⟩ := szOf_info hn; rw [hit] at hj; cases hj; rfl
  subst hsz
  have h2 : ¬ (Builtin.nextslicecap (sLen + n) sCap * it.bytes > 2 ^ 48) := by
    have h3 := nextslicecap_le (need := sLen + n) (old := sCap) (by omega)
    have h4 := Nat.mul_le_mul_right it.bytes h3
    have h5 : 2 * (sLen + n) * it.bytes = 2 * ((sLen + n) * it.bytes) := Nat.mul_assoc _ _ _
    have : (2 : Nat) ^ 48 = 281474976710656 := by decide
    omega
  have h63' : ¬ (9223372036854775807 < ((sLen : Int) + (n : Int))) := by omega
  have h48' : ¬ (281474976710656 < Builtin.nextslicecap (sLen + n) sCap * it.bytes) := by
    have : (2 : Nat) ^ 48 = 281474976710656 := by decide
    omega
  have hw : IntKind.i64.wrap (n : Int) = n := by rw [IntKind.wrap_i64]; omega
  have h48i : ¬ (281474976710656 < (n : Int) * (it.bytes : Int)) := by
    rw [← Int.natCast_mul]
    have : n * it.bytes ≤ (sLen + n) * it.bytes := Nat.mul_le_mul_right _ (by omega)
    omega
  have hneg : ¬ ((n : Int) < 0) := by omega
  have hnn : n ≠ 0 := by omega
  have hns : ¬ (n * it.size = 0) := Nat.mul_ne_zero hnn (by omega)
  simp [Builtin.append_, run_underlying hu, run_underlying hu0, sizeOf, typeInfo, zeroValue, hit, hzv, asInt, asIntOf, hw, hnn, hneg, hns, hle, h63', h48', h48i, Question.forced, hfo, newRow, grownCap]
  try (congr 2; apply Array.ext'; simp [List.append_assoc])
theorem appz_step {t u0 e0 : TypeId} {ku : IntKind} {n by_ : Nat} {s x : Operand} {y z : X} {zz : List AV} {K : AV → Heap → Prop} (hi : HI w0 ρ H w) (hu : P.underlying t = some (.slice e0)) (hu0 : P.underlying u0 = some (.int ku))
    (hn : szOf P e0 = some n) (hby : byOf P e0 = some by_) (hz : zeroOf P e0 = some zz) (hzn : zz.length = n ∧ 0 < n) (hs : cX s = some y) (hx : cX x = some z) (ho : OpsR H.size ρ (y.tmps ++ z.tmps) e a) (h : appzP zz by_ (y.ev e) (z.ev e) H K) :
    Stepped P (.call { callee := .builtin .append, args := #[s, x], argTypes := #[t, u0] }) a w0 w ρ H K := by
  have h1 := cX_VR hs ho.left
  have h2 := cX_VR hx ho.right
  obtain ⟨it, zv, hit, hzv, hzz⟩ := zeroOf_info (P := P) (ρ := ρ) (N := H.size) hz
  have hb : it.bytes = by_ := by unfold byOf at hby; rw [hit] at hby; simpa using hby
  have hzs : zv.cells.size = n := by have := hzz.1; simp at this; omega
  have exec : ∀ (u : Value) (w' : World), (∀ ty, (Builtin.append_ #[t, u0] ty #[a.eval s, a.eval x]).run P w = .ok u w') →
      Does P (.call { callee := .builtin .append, args := #[s, x], argTypes := #[t, u0] }) a w u w' := by
    intro u w' hr d ty p f g
    refine .inl ?_
    simp [execOp, resolve, invoke, builtin, hr]
  unfold appzP at h
  split at h
  · rename_i A m c k m' hA hA'
    rw [hA] at h1
    rw [hA'] at h2
    obtain ⟨r, hr, hmc, hcr, hexr, hr0, hrb⟩ := sl_form h1
    have hr' : a.eval x = .int .i64 m' := by generalize a.eval x = q at h2; cases h2; rfl
    obtain ⟨q0, q1, q2, q3, q4⟩ := h
    split at q4
    · exact q4.elim
    · rename_i old hold
      have hrc := hexr rfl
      subst hrc
      rw [hzn.1] at hold
      obtain ⟨os, p1, p2, p3⟩ := run_firstCells (P := P) (c := r) (m := m) (hi.drawn (w.drawn + 1)) (fun e => (hr0 e).1) hold
      obtain ⟨m2, rfl⟩ := Int.eq_ofNat_of_zero_le (show 0 ≤ m' by omega)
      simp only [Int.toNat_natCast] at *
      have run := fun ty => run_app_outz (P := P) (w := w) (t := t) (tn := u0) (ty := ty) (kn := .i64) (n := m2) (sLen := m) (sCap := r) hu hu0 hit hzv hn (by omega) hzn.2 p1 (by omega) q3 (by rw [hb]; exact q2)
      obtain ⟨nc, hnc, hrun⟩ := run 0
      have hzc : VRL H.size ρ (zeros zz m2) (Builtin.zeroCells zv.cells m2).toList := by
        have := zeros_VRL (len := m2) hzz hzn.1 hzn.2
        unfold Builtin.zeroCells
        rw [hzs]; rw [hzs] at this; exact this
      have hcells : VRL H.size ρ (old ++ zeros zz m2) (os ++ (Builtin.zeroCells zv.cells m2).toList) := p3.append hzc
      have hszz : ∀ j, (Builtin.zeroCells zv.cells j).size = j * n := fun j => by simp [Builtin.zeroCells, hzs]
      obtain ⟨h3, h4⟩ := (hi.drawn (w.drawn + 1)).alloc (old ++ zeros zz m2) (os.toArray ++ Builtin.zeroCells zv.cells m2 ++ Builtin.zeroCells zv.cells (nc - (m + m2))) e0 (by have := hcells.1; simp at this ⊢; omega)
        (fun j x v hx hv => hcells.2 j x v hx (by
          have hjl : j < (old ++ zeros zz m2).length := by
            rcases Nat.lt_or_ge j (old ++ zeros zz m2).length with h | h
            · exact h
            · rw [List.getElem?_eq_none h] at hx; cases hx
          have hjl2 : j < (os ++ (Builtin.zeroCells zv.cells m2).toList).length := by rw [← hcells.1]; exact hjl
          rw [Array.getElem?_append_left (by simpa using hjl2)] at hv
          rw [Array.getElem?_append] at hv
          rw [List.getElem?_append]
          simpa using hv))
      have hrun' : ∀ ty, (Builtin.append_ #[t, u0] ty #[a.eval s, a.eval x]).run P w = .ok (.slice (some ⟨w.heap.size, 0, none⟩) (m + m2) nc) (w.drew.alloc (.cells (os.toArray ++ Builtin.zeroCells zv.cells m2 ++ Builtin.zeroCells zv.cells (nc - (m + m2))) e0)) := by
        intro ty
        rw [hr, hr']; exact hrun
      refine ⟨_, _, _, _, _, exec _ _ hrun', sl_new ρ H w.drew _ _ (m + m2) (m + m2) nc zz.length false (Nat.le_refl _) hnc (fun e => by cases e) ?_, (Evol.drawn _ _ _ _).trans h4, h3, q4⟩
      simp only [Array.size_append, List.size_toArray, p2, hszz, hzn.1]
      rw [← Nat.add_mul, ← Nat.add_mul]
      exact Nat.mul_le_mul_right _ (by omega)
  · exact h.elim
end
end Go.M2

namespace Go.M2
open Go.RowKit (Below)
section
variable {P : Program} {ρ : Nat → BI} {e : Env} {a : Act} {w w0 : World} {H : Heap}
theorem HI.mkmap (h : HI w0 ρ H w) : HI w0 (updB ρ H.size ⟨w.heap.size, 0, 0, true⟩) (H.put (.map [])) (w.alloc (.map #[] 0)) ∧
    Evol ρ H w (updB ρ H.size ⟨w.heap.size, 0, 0, true⟩) (H.put (.map [])) (w.alloc (.map #[] 0)) := by
  have hag := updB_agree ρ H.size ⟨w.heap.size, 0, 0, true⟩
  have hold : ∀ i, i < w.heap.size → (w.alloc (.map #[] 0)).heap[i]? = w.heap[i]? := fun i hi => Below.heap_alloc _ _ _ hi
  have hnew : (w.alloc (.map #[] 0)).heap[w.heap.size]? = some (.map #[] 0) := by
    show (w.heap.push _)[w.heap.size]? = _
    simp
  have split : ∀ b, b < (H.put (.map [])).size → b = H.size ∨ b < H.size := fun b hb => by have : b < H.size + 1 := hb; omega
  have hbo : ∀ b, b < H.size → (H.put (.map [])).blk b = H.blk b := fun b hb => Heap.put_blk_old _ _ hb
  have hbn : (H.put (.map [])).blk H.size = .map [] := Heap.put_blk_new _ _
  have hro : ∀ b, b < H.size → (H.put (.map [])).isRw b = H.isRw b := fun b hb => Heap.put_isRw_old H (.map []) hb
  constructor
  · refine ⟨h.below.alloc h.below.size _, ?_, ?_, ?_, ?_, ?_, ?_, ?_, h.tab⟩
    · intro b hb
      rcases split b hb with rfl | hlt
      · rw [updB_same]; simp
      · rw [hag b hlt]; have := h.bound b hlt; simp; omega
    · intro b c' hb hblk
      rcases split b hb with rfl | hlt
      · rw [hbn] at hblk; cases hblk
      · rw [hbo b hlt] at hblk; rw [hag b hlt]; exact h.ro b c' hlt hblk
    · intro b c' r hb hblk
      rcases split b hb with rfl | hlt
      · rw [hbn] at hblk; cases hblk
      · rw [hbo b hlt] at hblk; rw [hag b hlt]; exact h.rw b c' r hlt hblk
    · intro b c' r hb hblk j x hx
      rcases split b hb with rfl | hlt
      · rw [hbn] at hblk; cases hblk
      · rw [hbo b hlt] at hblk; rw [hag b hlt]
        obtain ⟨v, hv, hr⟩ := h.cell b c' r hlt hblk j x hx
        exact ⟨v, (World.cell?_alloc_lt _ _ _ (World.block_lt_of_cell? w _ hv)).trans hv, hr.mono (Nat.le_succ _) hag⟩
    · intro b c' hb hblk
      rcases split b hb with rfl | hlt
      · rw [hbn] at hblk; cases hblk
      · rw [hbo b hlt] at hblk; rw [hag b hlt]
        obtain ⟨h1, h2, cs', t', h3, h4⟩ := h.own b c' hlt hblk
        exact ⟨h1, h2, cs', t', (hold _ (Array.getElem?_eq_some_iff.1 h3).1).trans h3, h4⟩
    · intro b es hb hblk
      rcases split b hb with rfl | hlt
      · rw [hbn] at hblk; cases hblk
        rw [updB_same]
        exact ⟨h.below.size, [], 0, hnew, rfl, fun i e r he => by simp at he⟩
      · rw [hbo b hlt] at hblk; rw [hag b hlt]
        obtain ⟨h1, rs, clk, h3, h4, h5⟩ := h.map b es hlt hblk
        exact ⟨h1, rs, clk, (hold _ (Array.getElem?_eq_some_iff.1 h3).1).trans h3, h4, fun i e r he hr => ⟨(h5 i e r he hr).1.mono (Nat.le_succ _) hag, (h5 i e r he hr).2.mono (Nat.le_succ _) hag⟩⟩
    · intro b b' hb hb' hne hr
      rcases split b hb with rfl | hlt
      · rcases split b' hb' with rfl | hlt'
        · exact absurd rfl hne
        · have := h.bound b' hlt'
          rw [updB_same, hag b' hlt']
          exact .inr (by show w.heap.size ≠ _; omega)
      · have hr' : H.isRw b = true := by rw [← hro b hlt]; exact hr
        have hbd := h.bound b hlt
        rcases split b' hb' with rfl | hlt'
        · rw [updB_same, hag b hlt]
          exact .inr (by show _ ≠ w.heap.size; omega)
        · rw [hag b hlt, hag b' hlt', hbo b' hlt']
          exact h.inj b b' hlt hlt' hne hr'
  · refine ⟨Nat.le_succ _, hag, by simp, fun i hi _ => hold i hi, fun b hb hr => ?_, Nat.le_refl _⟩
    rcases split b hb with rfl | hlt
    · rw [updB_same]; exact .inl (Nat.le_refl _)
    · refine .inr ⟨b, hlt, ?_, by rw [hag b hlt]⟩
      rw [← hro b hlt]; exact hr
theorem HI.remap (h : HI w0 ρ H w) {b : Nat} {es es' : List (AV × AV)} {rs' : List MapEntry} {clk' : Nat} (hb : b < H.size) (hblk : H.blk b = .map es) (hm : MR H.size ρ es' rs') :
    HI w0 ρ (H.upd b (.map es')) { w with heap := w.heap.setIfInBounds (ρ b).blk (.map rs'.toArray clk') } ∧ Evol ρ H w ρ (H.upd b (.map es')) { w with heap := w.heap.setIfInBounds (ρ b).blk (.map rs'.toArray clk') } := by
  obtain ⟨hB, rs, clk, hheap, hl, hent⟩ := h.map b es hb hblk
  have hlt := (Array.getElem?_eq_some_iff.1 hheap).1
  have hrwb : H.isRw b = true := HI.isRw_map hb hblk
  generalize hw' : ({ w with heap := w.heap.setIfInBounds (ρ b).blk (.map rs'.toArray clk') } : World) = w'
  have hsz : w'.heap.size = w.heap.size := by rw [← hw']; simp
  have hsame : w'.heap[(ρ b).blk]? = some (.map rs'.toArray clk') := by rw [← hw']; simp [hlt]
  have hoth : ∀ i, i ≠ (ρ b).blk → w'.heap[i]? = w.heap[i]? := fun i hi => by rw [← hw']; simp only [Array.getElem?_setIfInBounds]; rw [if_neg (fun e => hi e.symm)]
  have hne : ∀ b', b' < H.size → b' ≠ b → H.blk b' ≠ .dead → (ρ b').blk ≠ (ρ b).blk := by
    intro b' hb' hn hd e
    rcases h.inj b b' hb hb' (fun e => hn e.symm) hrwb with h1 | h1
    · exact hd h1
    · exact h1 e.symm
  refine ⟨⟨?_, ?_, ?_, ?_, ?_, ?_, ?_, ?_, h.tab⟩, ⟨Nat.le_refl _, Agree.refl _ _, by omega, ?_, ?_, by rw [← hw']; exact Nat.le_refl _⟩⟩
  · refine ⟨?_, ?_, ?_, by rw [hsz]; exact h.below.size, fun k hk => (hoth k (by omega)).trans (h.below.block k hk)⟩
    · rw [← hw']; exact h.below.os
    · rw [← hw']; exact h.below.tape
    · rw [← hw']; exact h.below.output
  · intro b' hb'; rw [hsz]; exact h.bound b' hb'
  · intro b' c1 hb' hblk'
    by_cases e : b' = b
    · subst e; rw [Heap.upd_blk_same] at hblk'; cases hblk'
    · rw [Heap.upd_blk_ne _ _ e] at hblk'; exact h.ro b' c1 hb' hblk'
  · intro b' c1 r hb' hblk'
    by_cases e : b' = b
    · subst e; rw [Heap.upd_blk_same] at hblk'; cases hblk'
    · rw [Heap.upd_blk_ne _ _ e] at hblk'; exact h.rw b' c1 r hb' hblk'
  · intro b' c1 r hb' hblk' j y hy
    by_cases e : b' = b
    · subst e; rw [Heap.upd_blk_same] at hblk'; cases hblk'
    · rw [Heap.upd_blk_ne _ _ e] at hblk'
      obtain ⟨u, hu, hr⟩ := h.cell b' c1 r hb' hblk' j y hy
      refine ⟨u, (cell?_of_heap ?_).trans hu, hr⟩
      exact hoth _ (hne b' hb' e (by rw [hblk']; simp))
  · intro b' c1 hb' hblk'
    by_cases e : b' = b
    · subst e; rw [Heap.upd_blk_same] at hblk'; cases hblk'
    · rw [Heap.upd_blk_ne _ _ e] at hblk'
      obtain ⟨h1, h2, cs', t', h3, h4⟩ := h.own b' c1 hb' hblk'
      exact ⟨h1, h2, cs', t', (hoth _ (hne b' hb' e (by rw [hblk']; simp))).trans h3, h4⟩
  · intro b' es1 hb' hblk'
    by_cases e : b' = b
    · subst e; rw [Heap.upd_blk_same] at hblk'; cases hblk'
      exact ⟨hB, rs', clk', hsame, hm.1, hm.2⟩
    · rw [Heap.upd_blk_ne _ _ e] at hblk'
      obtain ⟨h1, rs1, clk1, h3, h4⟩ := h.map b' es1 hb' hblk'
      exact ⟨h1, rs1, clk1, (hoth _ (hne b' hb' e (by rw [hblk']; simp))).trans h3, h4⟩
  · intro b1 b2 h1 h2 hn hr
    have hr' : H.isRw b1 = true := by
      by_cases e : b1 = b
      · subst e; exact hrwb
      · rw [Heap.upd_isRw_ne _ _ e] at hr; exact hr
    rcases h.inj b1 b2 h1 h2 hn hr' with h3 | h3
    · by_cases e : b2 = b
      · subst e; rw [hblk] at h3; cases h3
      · exact .inl ((Heap.upd_blk_ne _ _ e).trans h3)
    · exact .inr h3
  · intro i hi hn
    exact hoth i (fun e => hn b hb hrwb e.symm)
  · intro b' hb' hr
    refine .inr ⟨b', hb', ?_, rfl⟩
    by_cases e : b' = b
    · subst e; exact hrwb
    · rw [Heap.upd_isRw_ne _ _ e] at hr; exact hr
theorem mkmap_step {t kt et : TypeId} {K : AV → Heap → Prop} (hi : HI w0 ρ H w) (hu : P.underlying t = some (.map kt et)) (h : K (.map (some H.size)) (H.put (.map []))) : Stepped P (.makeMap t none) a w0 w ρ H K := by
  obtain ⟨h1, h2⟩ := hi.mkmap
  refine ⟨.map (some w.heap.size), _, .map (some H.size), _, _, does_of (s := Instr.makeMap t none) (fun _ _ _ _ _ => rfl) (by simp [Instr.makeMap]), ?_, h2, h1, h⟩
  have := VR.map (N := (H.put (.map [])).size) (ρ := updB ρ H.size ⟨w.heap.size, 0, 0, true⟩) H.size (Nat.lt_succ_self _)
  rwa [updB_same] at this
theorem MR.snoc {N : Nat} {es : List (AV × AV)} {rs : List MapEntry} {k v : AV} {r : MapEntry} (h : MR N ρ es rs) (h1 : VR N ρ k r.key) (h2 : VR N ρ v r.val) : MR N ρ (es ++ [(k, v)]) (rs ++ [r]) := by
  refine ⟨by simp [h.1], fun i e r' he hr => ?_⟩
  rw [List.getElem?_append] at he hr
  rw [h.1] at he
  split at he
  · rename_i hlt; rw [if_pos hlt] at hr; exact h.2 i e r' he hr
  · rename_i hlt; rw [if_neg hlt] at hr
    cases hz : i - rs.length with
    | zero => rw [hz] at he hr; simp at he hr; subst he hr; exact ⟨h1, h2⟩
    | succ n => rw [hz] at he; simp at he
theorem MR.put {N : Nat} {es : List (AV × AV)} {rs : List MapEntry} {k v : AV} {j : Nat} {f : MapEntry → MapEntry} (h : MR N ρ es rs) (hf : ∀ r, VR N ρ k (f r).key ∧ VR N ρ v (f r).val) : MR N ρ (es.set j (k, v)) (rs.modify j f) := by
  refine ⟨by simp [h.1], fun i e r' he hr => ?_⟩
  rw [List.getElem?_modify] at hr
  by_cases hij : j = i
  · subst hij
    simp only [if_true, Option.map_eq_map, Option.map_eq_some_iff] at hr
    obtain ⟨r, hr, rfl⟩ := hr
    have hlt : j < es.length := by rw [h.1]; exact (List.getElem?_eq_some_iff.1 hr).1
    rw [List.getElem?_set_self hlt] at he
    cases he
    exact hf r
  · rw [List.getElem?_set_ne hij] at he
    simp only [if_neg hij, Option.map_eq_map, Option.map_id_fun', id_eq] at hr
    exact h.2 i e r' he hr
theorem mapset_step {t kt' et : TypeId} {kt : KT} {x k v : Operand} {x' k' v' : X} {K : AV → Heap → Prop} (hi : HI w0 ρ H w) (hu : P.underlying t = some (.map kt' et)) (ht : ktOf P kt' = some kt) (hx : cX x = some x') (hk : cX k = some k') (hv : cX v = some v')
    (ho : OpsR H.size ρ (x'.tmps ++ k'.tmps ++ v'.tmps) e a) (h : mapsetP kt (x'.ev e) (k'.ev e) (v'.ev e) H K) : Stepped P (.mapUpdate t x k v) a w0 w ρ H K := by
  have h1 := cX_VR hx ho.left.left
  have h2 := cX_VR hk ho.left.right
  have h3 := cX_VR hv ho.right
  unfold mapsetP at h
  split at h
  · rename_i b hxb
    rw [hxb] at h1
    split at h
    · rename_i es q hes hkk
      split at h
      · rename_i es' hs
        have hmb : ∃ b', H.size > b ∧ b' = (ρ b).blk ∧ a.eval x = .map (some b') := by
          generalize a.eval x = y at h1
          cases h1 with
          | map b hb => exact ⟨_, hb, rfl, rfl⟩
        obtain ⟨_, hb, rfl, hxe⟩ := hmb
        have hblk : H.blk b = .map es := by
          simp only [Heap.mapAt] at hes
          rw [if_pos hb] at hes
          split at hes
          · rename_i es1 e1; cases hes; exact e1
          · cases hes
        have hku := (keyF_KV hkk h2 h2).1
        obtain ⟨hB, rs, clk, q1, q2, q3⟩ := hi.map b es hb hblk
        have hm : MR H.size ρ es rs := ⟨q2, q3⟩
        have hfm : ∃ o, findM kt (k'.ev e) es = some o := by
          have : ∀ (es es' : List (AV × AV)), setM kt (k'.ev e) (v'.ev e) es = some es' → ∃ o, findM kt (k'.ev e) es = some o := by
            intro es
            induction es with
            | nil => intro es' h; exact ⟨_, rfl⟩
            | cons p t ih =>
              intro es' h
              simp only [setM] at h
              simp only [findM]
              split at h
              · exact ⟨_, rfl⟩
              · obtain ⟨t', ht', _⟩ := map_some' h
                exact ih t' ht'
              · cases h
          exact this es es' hs
        obtain ⟨o, hfo⟩ := hfm
        obtain ⟨fa, r1, r2⟩ := run_findK (P := P) (w := w) ht hku hm hfo
        have hck := run_checkK (P := P) (w := w) (em := false) ht hku
        have hst : (Instr.keyThatStays (a.eval k) (a.eval k)).run P w = .ok (a.eval k) w := by simp [Instr.keyThatStays, hku.bits]
        cases o with
        | none =>
          obtain ⟨rfl, r3⟩ := r2
          rw [r3] at hs; cases hs
          obtain ⟨s1, s2⟩ := hi.remap (clk' := clk + 1) hb hblk (hm.snoc (k := k'.ev e) (v := v'.ev e) (r := ⟨a.eval k, a.eval v, clk⟩) h2 h3)
          refine Stepped.skip (w' := _) (fun _ _ _ _ _ => ?_) s2 s1 h
          simp [execOp, Instr.mapUpdate, run_underlying hu, hxe, Go.MapKept.run_getObj_map q1, hck, r1, Go.MapKept.run_setObj_map _ q1]
        | some o =>
          obtain ⟨j, z, rfl, r3, ⟨r, r4, r5⟩, r6⟩ := r2
          rw [r6] at hs; cases hs
          obtain ⟨s1, s2⟩ := hi.remap (clk' := clk) hb hblk (hm.put (j := j) (k := k'.ev e) (v := v'.ev e) (f := fun e => { e with key := a.eval k, val := a.eval v }) fun r => ⟨h2, h3⟩)
          refine Stepped.skip (w' := _) (fun _ _ _ _ _ => ?_) s2 s1 h
          simp [execOp, Instr.mapUpdate, run_underlying hu, hxe, Go.MapKept.run_getObj_map q1, hck, r1, r4, r5, hst, Go.MapKept.run_setObj_map _ q1]
      · exact h.elim
    · exact h.elim
  · exact h.elim
end
end Go.M2

namespace Go.M2
open Go.RowKit (Below)
section
variable {P : Program} {ρ : Nat → BI} {e : Env} {a : Act} {w w0 : World} {H : Heap}
theorem builtin_step {b : Builtin} {args : Array Operand} {ts : Array TypeId} {q : IOp} {K : AV → Heap → Prop} (hi : HI w0 ρ H w) (hc : cBuiltin P b args.toList ts.toList = some q) (hq : q.quiet = false)
    (ho : OpsR H.size ρ q.tmps e a) (h : stepL P q e H K) : Stepped P (.call { callee := .builtin b, args := args, argTypes := ts }) a w0 w ρ H K := by
  obtain ⟨args⟩ := args
  obtain ⟨ts⟩ := ts
  unfold cBuiltin at hc
  split at hc
  · split at hc
    · cases hc; cases hq
    · cases hc; cases hq
    · cases hc; cases hq
    · cases hc
  · split at hc
    · cases hc; cases hq
    · cases hc
  · split at hc
    · cases hc; cases hq
    · cases hc
  · split at hc
    · cases hc; cases hq
    · cases hc
  · rename_i s x t u0 hal htl
    simp only at hal htl; subst hal htl
    split at hc
    · rename_i e0 s' x' e1 hu hs hx hu0
      split at hc
      · rename_i n by_ z hn hby hz
        split at hc
        · rename_i hzn
          cases hc
          exact app_step hi hu ⟨_, hu0⟩ hn hby hz hzn hs hx ho h
        · cases hc
      · cases hc
    · rename_i e0 s' x' ku hu hs hx hu0
      split at hc
      · rename_i z by_ n hz hby hn
        split at hc
        · rename_i hzn
          cases hc
          exact appz_step hi hu hu0 hn hby hz hzn hs hx ho h
        · cases hc
      · cases hc
    · cases hc
  · rename_i d s t u0 hal htl
    simp only at hal htl; subst hal htl
    split at hc
    · rename_i e0 d' s' e1 hu hd hs hu0
      obtain ⟨n, hn, rfl⟩ := map_some' hc
      exact copy_step (u1 := 0) hi hu hn hd hs ho h
    · cases hc
  · rename_i x t hal htl
    simp only at hal htl; subst hal htl
    split at hc
    · rename_i e0 x' hu hx
      split at hc
      · rename_i z n hz hn
        split at hc
        · rename_i hzn
          cases hc
          exact clear_step hi hu hz hn hzn hx ho h
        · cases hc
      · cases hc
    · cases hc
  · cases hc
theorem Gives.stepped {op : Op} {u : Value} {v : AV} {K : AV → Heap → Prop} (hi : HI w0 ρ H w) (h : Gives P op a w u) (hv : VR H.size ρ v u) (hk : K v H) : Stepped P op a w0 w ρ H K :=
  ⟨u, w, v, H, ρ, fun d t p f g => .inl (h d t p f g), hv, Evol.refl _ _ _, hi, hk⟩
theorem run_callFunc {f : FuncId} (h : callable P f = true) (args : Array Value) : (callFunc f args).run P w = .ok (.enter f args) w := by
  unfold callable at h
  split at h
  · rename_i fn hf
    simp only [Bool.and_eq_true, Bool.not_eq_true'] at h
    have hb : fn.body.isNone = false := by cases hbo : fn.body <;> simp [hbo] at h ⊢
    have : (program).run P w = .ok P w := rfl
    simp only [callFunc, Sem.run_bind, this, Result.andThen_ok, hf, h.2, Bool.false_eq_true, if_false, hb, Sem.run_pure]
  · cases h
theorem oper_sound {o : Op} {q : IOp} {K : AV → Heap → Prop} (hi : HI w0 ρ H w) (hc : cOp P o = some q) (ho : OpsR H.size ρ q.tmps e a) (h : stepL P q e H K)
    {dst : Option Tmp} {ty : TypeId} {pos : String} {af : Array Edge} {gd : Option (Nat × Bool)} {next : Act → World → Prop} {Q : Exit → Act → World → Prop}
    (hn : ∀ u w' v H' ρ', VR H'.size ρ' v u → Evol ρ H w ρ' H' w' → HI w0 ρ' H' w' → K v H' → next (a.put dst u) w') : (⟨dst, o, ty, pos, af, gd⟩ : Oper).wp P a w next Q := by
  have fin : Stepped P o a w0 w ρ H K → (⟨dst, o, ty, pos, af, gd⟩ : Oper).wp P a w next Q := by
    rintro ⟨u, w', v, H', ρ', h1, h2, h3, h4, h5⟩
    have := hn u w' v H' ρ' h2 h3 h4 h5
    unfold Oper.wp
    rcases h1 dst ty pos af gd with h6 | ⟨h6, h7⟩
    · rw [h6]; exact this
    · rw [h6]; subst h7; exact this
  by_cases hq : q.quiet = true
  · refine fin ?_
    have : ∃ v, qop q e H = some v ∧ K v H := by
      have h' : optP (qop q e H) H K := by cases q <;> first | exact h | cases hq
      unfold optP at h'
      split at h'
      · rename_i v hv; exact ⟨v, hv, h'⟩
      · exact h'.elim
    obtain ⟨v, hv, hk⟩ := this
    obtain ⟨u, h1, h2⟩ := qop_sound hi hc hq ho hv
    exact h1.stepped hi h2 hk
  · have hq' : q.quiet = false := by simpa using hq
    have hbad : ∀ {α : Prop}, IOp.quiet q = true → α := fun h => absurd h hq
    cases o with
    | move x => simp only [cOp] at hc; obtain ⟨y, _, rfl⟩ := map_some' hc; exact hbad rfl
    | assign x => simp only [cOp] at hc; obtain ⟨y, _, rfl⟩ := map_some' hc; exact hbad rfl
    | pick c x y =>
      simp only [cOp] at hc; split at hc
      · cases hc; exact hbad rfl
      · cases hc
    | alloc t => simp only [cOp] at hc; obtain ⟨z, hz, rfl⟩ := map_some' hc; exact fin (alloc_step hi hz h)
    | box t x => simp only [cOp] at hc; obtain ⟨y, hy, rfl⟩ := map_some' hc; exact fin (box_step hi hy ho h)
    | build t ps =>
      simp only [cOp] at hc; split at hc
      · split at hc
        · obtain ⟨y, _, rfl⟩ := map_some' hc; exact hbad rfl
        · cases hc
      · cases hc
    | buildSlice t len ps =>
      simp only [cOp] at hc
      split at hc
      · rename_i e0 hu
        split at hc
        · rename_i n z qs hn hz hps
          split at hc
          · rename_i hcond
            cases hc
            exact fin (bslc_step hi hu hn hz hps hcond ho h)
          · cases hc
        · cases hc
      · cases hc
    | load t x =>
      simp only [cOp] at hc; split at hc
      · split at hc
        · cases hc; exact hbad rfl
        · cases hc
      · cases hc
    | store t x v =>
      simp only [cOp] at hc; split at hc
      · rename_i n y u hn hx hv
        cases hc
        exact fin (store_step hi hn hx hv ho h)
      · cases hc
    | nilCheck x => simp only [cOp] at hc; obtain ⟨y, _, rfl⟩ := map_some' hc; exact hbad rfl
    | binOp op t x y t' =>
      simp only [cOp] at hc
      split at hc
      · split at hc
        · cases hc; exact hbad rfl
        · cases hc; exact hbad rfl
        · cases hc
      · split at hc
        · split at hc
          · cases hc; exact hbad rfl
          · cases hc; exact hbad rfl
          · cases hc
        · cases hc; exact hbad rfl
        · cases hc; exact hbad rfl
        · split at hc
          · split at hc
            · cases hc
            · split at hc
              · cases hc; exact hbad rfl
              · cases hc; exact hbad rfl
              · cases hc
          · cases hc
        · cases hc
    | unOp op t x => simp only [cOp] at hc; obtain ⟨y, _, rfl⟩ := map_some' hc; exact hbad rfl
    | convert s d x =>
      simp only [cOp] at hc; split at hc
      · cases hc; exact hbad rfl
      · cases hc
    | makeFunc fn fi ca =>
      simp only [cOp] at hc; split at hc
      · split at hc
        · obtain ⟨y, _, rfl⟩ := map_some' hc; exact hbad rfl
        · cases hc
      · cases hc
    | makeSlice t l c =>
      simp only [cOp] at hc
      split at hc
      · rename_i e0 x y hu hx hy
        split at hc
        · rename_i z by_ n hz hby hn
          split at hc
          · rename_i hcond
            split at hc
            · rename_i hs
              cases hc
              exact fin (mks_step hi hu hn hz hby hx hy ⟨hs, hcond⟩ ho h)
            · cases hc
              exact fin (mkc_step hi hu hn hz hby hx hy hcond ho h)
          · cases hc
        · cases hc
      · cases hc
    | slice t x lo hi' mx =>
      simp only [cOp] at hc; split at hc
      · rename_i e0 y lo' hi'' mx' hu hx hlo hhi hmx
        obtain ⟨n, hn, rfl⟩ := map_some' hc
        by_cases hd : dropK lo' hi'' mx' = true
        · rw [if_pos hd] at ho h
          obtain ⟨rfl, rfl, rfl⟩ := dropK_iff hd
          exact fin (slcd_step hi hu hn hx hlo hhi hmx ho h)
        · rw [if_neg hd] at hbad
          exact hbad rfl
      · cases hc; exact hbad rfl
      · cases hc
    | fieldAddr t x f =>
      simp only [cOp] at hc; split at hc
      · split at hc
        · split at hc
          · split at hc
            · cases hc
            · cases hc; exact hbad rfl
          · cases hc
        · cases hc
      · cases hc
    | field t x f =>
      simp only [cOp] at hc; split at hc
      · split at hc
        · split at hc
          · cases hc; exact hbad rfl
          · cases hc
        · cases hc
      · cases hc
    | indexAddr t x i =>
      simp only [cOp] at hc; split at hc
      · obtain ⟨y, _, rfl⟩ := map_some' hc; exact hbad rfl
      · obtain ⟨y, _, rfl⟩ := map_some' hc; exact hbad rfl
      · cases hc
    | index t x i =>
      simp only [cOp] at hc; split at hc
      · cases hc; exact hbad rfl
      · split at hc
        · cases hc; exact hbad rfl
        · cases hc
      · cases hc
    | extract x i => simp only [cOp] at hc; obtain ⟨y, _, rfl⟩ := map_some' hc; exact hbad rfl
    | call c =>
      obtain ⟨callee, args, ts⟩ := c
      cases callee with
      | invoke r m => simp [cOp] at hc
      | builtin b => simp only [cOp] at hc; exact fin (builtin_step hi hc hq' ho h)
      | value x =>
        have key : ∀ (f : FuncId) (caps : Array Value) (cl : List AV) (ys : List X), cXs args.toList = some ys → OpsR H.size ρ (xsT ys) e a → a.eval x = .func (.func f) #[] caps → VRL H.size ρ cl caps.toList →
            ACall P f (ys.map (X.ev e) ++ cl) H K → (⟨dst, .call ⟨.value x, args, ts⟩, ty, pos, af, gd⟩ : Oper).wp P a w next Q := by
          intro f caps cl ys hys hoy hev hcl hcall
          obtain ⟨hcb, hcall⟩ := hcall
          have hargs := cXs_VRL hys hoy
          have := hcall w0 ρ w (args.toList.map a.eval ++ caps.toList) hi (hargs.append hcl)
          have hrun : (execOp a.eval ⟨dst, .call ⟨.value x, args, ts⟩, ty, pos, af, gd⟩).run P w = .ok (.enter f (args.toList.map a.eval ++ caps.toList).toArray) w := by
            simp only [execOp, resolve, hev, Deferred.ofValue, Sem.run_bind, Sem.run_pure, Result.andThen_ok, invoke, run_callFunc hcb]
            congr 2
            simp
          unfold Oper.wp
          rw [hrun, Oper.upon_enter]
          refine this.mono ?_
          rintro en w' ⟨r, H', ρ', v, rfl, h1, h2, h3, h4⟩
          exact hn v w' r H' ρ' h1 h2 h3 h4
        cases x with
        | func f =>
          simp only [cOp] at hc
          split at hc
          · rename_i hov
            split at hc
            · rename_i x y hxy
              split at hc
              · rename_i x' y' hx hy
                cases hc
                obtain ⟨args⟩ := args
                simp only at hxy
                subst hxy
                exact fin (ovl_step hi hov hx hy ho h)
              · cases hc
            · cases hc
          · obtain ⟨ys, hys, rfl⟩ := map_some' hc
            exact key f #[] [] ys hys ho rfl (VRL.nil _ _) (by rw [List.append_nil]; exact h)
        | tmp x =>
          simp only [cOp] at hc
          split at hc
          · rename_i y ys hy hys
            cases hc
            have hv := cX_VR hy ho.left
            simp only [stepL, callvP] at h
            split at h
            · rename_i f caps hf
              rw [hf] at hv
              generalize hev : a.eval (Operand.tmp x) = q at hv
              cases hv with
              | fn _ _ ca hl hr => exact key f ca caps ys hys ho.right hev ⟨by simpa using hl, fun i x v hx hv => hr i x v hx (by simpa using hv)⟩ h
            · exact h.elim
          · cases hc
        | const x =>
          simp only [cOp] at hc
          split at hc
          · rename_i y ys hy hys
            cases hc
            have hv := cX_VR hy ho.left
            simp only [stepL, callvP] at h
            split at h
            · rename_i f caps hf
              rw [hf] at hv
              generalize hev : a.eval (Operand.const x) = q at hv
              cases hv with
              | fn _ _ ca hl hr => exact key f ca caps ys hys ho.right hev ⟨by simpa using hl, fun i x v hx hv => hr i x v hx (by simpa using hv)⟩ h
            · exact h.elim
          · cases hc
        | global g =>
          simp only [cOp] at hc
          split at hc
          · rename_i y ys hy hys; simp [cX] at hy
          · cases hc
    | makeMap t r =>
      simp only [cOp] at hc
      split at hc
      · rename_i kt et hu
        cases hc; exact fin (mkmap_step hi hu h)
      · cases hc
    | lookup t x k ok =>
      simp only [cOp] at hc; split at hc
      · split at hc
        · cases hc; exact hbad rfl
        · cases hc
      · cases hc
    | mapUpdate t x k v =>
      simp only [cOp] at hc
      split at hc
      · rename_i kt et x' k' v' hu hx hk hv
        obtain ⟨q, hkt, rfl⟩ := map_some' hc
        exact fin (mapset_step hi hu hkt hx hk hv ho h)
      · cases hc
    | makeInterface ty x => simp only [cOp] at hc; cases hc; exact h.elim
    | panic x => simp only [cOp] at hc; cases hc; exact h.elim
    | _ => simp [cOp] at hc
structure ER (nt N : Nat) (ρ : Nat → BI) (e : Env) (a : Act) : Prop where
  size : a.tmps.size = nt
  defers : a.defers = []
  vals : ∀ t, VR N ρ (e t) (a.tmps.getD t undef)
theorem ER.ops {nt N : Nat} (h : ER nt N ρ e a) (ts : List Nat) : OpsR N ρ ts e a := fun t _ => h.vals t
theorem ER.mono {nt N N' : Nat} {ρ' : Nat → BI} (h : ER nt N ρ e a) (hN : N ≤ N') (hρ : Agree N ρ ρ') : ER nt N' ρ' e a := ⟨h.size, h.defers, fun t => (h.vals t).mono hN hρ⟩
theorem getD_put_same {a : Act} {d : Nat} {u : Value} (h : d < a.tmps.size) : (a.put (some d) u).tmps.getD d undef = u := by
  simp [Act.put, h]
theorem getD_put_ne {a : Act} {d t : Nat} {u : Value} (h : t ≠ d) : (a.put (some d) u).tmps.getD t undef = a.tmps.getD t undef := by
  simp only [Act.put, Array.getD_eq_getD_getElem?]
  rw [Array.getElem?_setIfInBounds_ne (fun e => h e.symm)]
theorem size_put {a : Act} {dst : Option Nat} {u : Value} : (a.put dst u).tmps.size = a.tmps.size := by
  cases dst <;> simp [Act.put]
theorem defers_put {a : Act} {dst : Option Nat} {u : Value} : (a.put dst u).defers = a.defers := by
  cases dst <;> rfl
theorem ER.put {nt N : Nat} (h : ER nt N ρ e a) {dst : Option Nat} (hd : dstOk nt dst = true) {v : AV} {u : Value} (hv : VR N ρ v u) : ER nt N ρ (putE e dst v) (a.put dst u) := by
  refine ⟨size_put.trans h.size, defers_put.trans h.defers, fun t => ?_⟩
  cases dst with
  | none => exact h.vals t
  | some d =>
    simp only [dstOk, decide_eq_true_eq] at hd
    by_cases e1 : t = d
    · subst e1
      rw [getD_put_same (by rw [h.size]; exact hd)]
      simpa [putE, upd] using hv
    · rw [getD_put_ne e1]
      simpa [putE, upd, e1] using h.vals t
theorem cOpG_some {ops : Array Oper} {o : Oper} {q : IOp} (h : cOpG P ops o = some q) : ∃ p, cOp P o.op = some p ∧ (q = p ∨ ∃ a b z l, p = .bslc a b z l ∧ q = .bslo a b z l) := by
  unfold cOpG at h
  obtain ⟨p, hp, rfl⟩ := map_some' h
  refine ⟨p, hp, ?_⟩
  split
  · cases p <;> first | exact .inl rfl | exact .inr ⟨_, _, _, _, rfl, rfl⟩
  · exact .inl rfl
theorem cOpG_alloc {ops : Array Oper} {o : Oper} {q : IOp} (h : cOpG P ops o = some q) (hq : q.isAlloc = true) : cOp P o.op = some q := by
  obtain ⟨p, hp, rfl | ⟨a, b, z, l, rfl, rfl⟩⟩ := cOpG_some h
  · exact hp
  · cases hq
theorem oper_soundG {ops : Array Oper} {o : Op} {q : IOp} {K : AV → Heap → Prop} {dst : Option Tmp} {ty : TypeId} {pos : String} {af : Array Edge} {gd : Option (Nat × Bool)} (hi : HI w0 ρ H w) (hc : cOpG P ops ⟨dst, o, ty, pos, af, gd⟩ = some q) (ho : OpsR H.size ρ q.tmps e a) (h : stepL P q e H K)
    {next : Act → World → Prop} {Q : Exit → Act → World → Prop}
    (hn : ∀ u w' v H' ρ', VR H'.size ρ' v u → Evol ρ H w ρ' H' w' → HI w0 ρ' H' w' → K v H' → next (a.put dst u) w') : (⟨dst, o, ty, pos, af, gd⟩ : Oper).wp P a w next Q := by
  obtain ⟨p, hp, rfl | ⟨x, y, z, l, rfl, rfl⟩⟩ := cOpG_some hc
  · exact oper_sound hi hp ho h hn
  · exact oper_sound hi hp ho h hn
theorem cG_parts {nt : Nat} {ops : Array Oper} {o : Oper} {g : GOp} (h : cG P nt ops o = some g) : cOpG P ops o = some g.op ∧ cGuard ops o.guard = some g.g ∧ g.dst = o.dst ∧ dstOk nt g.dst = true := by
  unfold cG at h
  split at h
  · rename_i p q h1 h2 h3; cases h; exact ⟨h1, h2, rfl, h3⟩
  · cases h
theorem VR_und {N : Nat} {ρ : Nat → BI} : VR N ρ (.tup []) undef := .tup [] #[] rfl (fun i x v h => by simp at h)
theorem wanted_of {nt N : Nat} {ops : Array Oper} {o : Oper} {g : Option (Nat × Bool)} (hg : cGuard ops o.guard = some g) (hv : ∀ t b, g = some (t, b) → VR N ρ (e t) (a.tmps.getD t undef)) {A B : Prop} (h : gWant g e A B) :
    (Region.wanted o (yielded ops a.tmps) = true ∧ A) ∨ (Region.wanted o (yielded ops a.tmps) = false ∧ B) := by
  cases hgd : o.guard with
  | none =>
    rw [hgd] at hg; simp [cGuard] at hg; subst hg
    exact .inl ⟨by simp [Region.wanted, hgd], h⟩
  | some p =>
    obtain ⟨j, want⟩ := p
    rw [hgd] at hg
    simp only [cGuard] at hg
    split at hg
    · rename_i t ht
      cases hg
      have hvt := hv t want rfl
      simp only [gWant] at h
      split at h
      · rename_i b hb
        rw [hb] at hvt
        have hat : a.tmps[t]? = some (.bool b) := by
          generalize hq : a.tmps.getD t undef = q at hvt
          cases hvt
          rw [Array.getD_eq_getD_getElem?] at hq
          cases hx : a.tmps[t]? with
          | none => rw [hx] at hq; cases hq
          | some y => rw [hx] at hq; simp at hq; rw [hq]
        have hy : yielded ops a.tmps j = some b := by
          unfold yielded
          rw [ht]
          simp [hat]
        by_cases hbw : b = want
        · rw [if_pos hbw] at h
          exact .inl ⟨by simp [Region.wanted, hgd, hy, hbw], h⟩
        · rw [if_neg hbw] at h
          exact .inr ⟨by simp [Region.wanted, hgd, hy, hbw], h⟩
      · rename_i hb
        rw [hb] at hvt
        have hat : a.tmps.getD t undef = .tuple #[] := by
          generalize hq : a.tmps.getD t undef = q at hvt
          cases hvt with
          | tup _ a hl _ => have : a = #[] := Array.eq_empty_of_size_eq_zero hl.symm; rw [this]
        have hy : yielded ops a.tmps j = none := by
          unfold yielded
          rw [ht]
          simp only [Option.bind_some]
          rw [Array.getD_eq_getD_getElem?] at hat
          cases hx : a.tmps[t]? with
          | none => rfl
          | some y => rw [hx] at hat; simp at hat; rw [hat]
        exact .inr ⟨by simp [Region.wanted, hgd, hy], h⟩
      · exact h.elim
    · cases hg
structure Beh (w0 : World) (nt : Nat) (ρ : Nat → BI) (H : Heap) (w : World) (e' : Env) (H' : Heap) (a' : Act) (w' : World) : Prop where
  ex : ∃ ρ', ER nt H'.size ρ' e' a' ∧ Evol ρ H w ρ' H' w' ∧ HI w0 ρ' H' w'
theorem wpL_sound {nt : Nat} {ops : Array Oper} : ∀ (l : List Oper) (gl : List GOp) (k : Nat) (K : Env → Heap → Prop) (Q : Exit → Act → World → Prop) (e : Env) (H : Heap) (ρ : Nat → BI) (a : Act) (w : World),
    (∀ j, l[j]? = ops[k + j]?) → cGs P nt ops l = some gl → wpL P gl K e H → ER nt H.size ρ e a → HI w0 ρ H w →
    (∀ e' H' ρ' a' w', K e' H' → ER nt H'.size ρ' e' a' → Evol ρ H w ρ' H' w' → HI w0 ρ' H' w' → Q .normal a' w') →
    wpOps P ops Q (List.range' k l.length) a w
  | [], gl, k, K, Q, e, H, ρ, a, w, hops, hg, h, her, hi, hQ => by
    simp [cGs] at hg; subst hg
    exact hQ e H ρ a w h her (Evol.refl _ _ _) hi
  | o :: t, gl, k, K, Q, e, H, ρ, a, w, hops, hg, h, her, hi, hQ => by
    simp only [cGs] at hg
    split at hg
    · rename_i g r h1 h2
      cases hg
      obtain ⟨hc, hgd, hdst, hdok⟩ := cG_parts h1
      have ho0 : ops[k]? = some o := by have := hops 0; simpa using this.symm
      have htail : ∀ j, t[j]? = ops[k + 1 + j]? := by
        intro j; have := hops (j + 1); rw [show k + 1 + j = k + (j + 1) from by omega, ← this]; simp
      simp only [List.length_cons, List.range'_succ, wpOps, ho0]
      simp only [wpL] at h
      rcases wanted_of (nt := nt) hgd (fun t b _ => her.vals t) h with ⟨hw, hs⟩ | ⟨hw, hs⟩
      · rw [if_pos hw]
        refine .inl ?_
        have : o = ⟨o.dst, o.op, o.type, o.pos, o.after, o.guard⟩ := rfl
        rw [this]
        refine oper_soundG hi hc (her.ops _) hs ?_
        intro u w' v H' ρ' hv hev hi' hk
        rw [hdst] at hk
        have her' := (her.mono hev.size hev.agree).put (dst := o.dst) (by rw [← hdst]; exact hdok) hv
        exact wpL_sound t r (k + 1) K Q _ H' ρ' _ w' htail h2 hk her' hi' (fun e2 H2 ρ2 a2 w2 q1 q2 q3 q4 => hQ e2 H2 ρ2 a2 w2 q1 q2 (hev.trans q3) q4)
      · rw [if_neg (by rw [hw]; simp)]
        rw [hdst] at hs
        have her' := her.put (dst := o.dst) (by rw [← hdst]; exact hdok) (VR_und (N := H.size) (ρ := ρ))
        exact wpL_sound t r (k + 1) K Q _ H ρ _ w htail h2 hs her' hi hQ
    · cases hg
theorem ER.keep {nt N : Nat} (h : ER nt N ρ e a) (k : List Nat) : ER nt N ρ (keepA k e) a := by
  refine ⟨h.size, h.defers, fun t => ?_⟩
  induction k with
  | nil => exact .junk _
  | cons s k ih =>
    simp only [keepA, upd]
    split
    · rename_i hts; subst hts; exact h.vals t
    · exact ih
theorem ER.kp {nt N : Nat} (h : ER nt N ρ e a) (k : Option (List Nat)) : ER nt N ρ (kpA k e) a := by
  cases k with
  | none => exact h
  | some l => exact h.keep l
theorem wpKA_sound {nt : Nat} {ops : Array Oper} : ∀ (l : List Oper) (gl : List GOp) (ks : List (Option (List Nat))) (k : Nat) (K : Env → Heap → Prop) (Q : Exit → Act → World → Prop) (e : Env) (H : Heap) (ρ : Nat → BI) (a : Act) (w : World),
    (∀ j, l[j]? = ops[k + j]?) → cGs P nt ops l = some gl → wpKA P (annG gl ks) K e H → ER nt H.size ρ e a → HI w0 ρ H w →
    (∀ e' H' ρ' a' w', K e' H' → ER nt H'.size ρ' e' a' → Evol ρ H w ρ' H' w' → HI w0 ρ' H' w' → Q .normal a' w') →
    wpOps P ops Q (List.range' k l.length) a w
  | [], gl, ks, k, K, Q, e, H, ρ, a, w, hops, hg, h, her, hi, hQ => by
    simp [cGs] at hg; subst hg
    exact hQ e H ρ a w h her (Evol.refl _ _ _) hi
  | o :: t, gl, ks, k, K, Q, e, H, ρ, a, w, hops, hg, h, her, hi, hQ => by
    simp only [cGs] at hg
    split at hg
    · rename_i g r h1 h2
      cases hg
      obtain ⟨hc, hgd, hdst, hdok⟩ := cG_parts h1
      have ho0 : ops[k]? = some o := by have := hops 0; simpa using this.symm
      have htail : ∀ j, t[j]? = ops[k + 1 + j]? := by
        intro j; have := hops (j + 1); rw [show k + 1 + j = k + (j + 1) from by omega, ← this]; simp
      simp only [List.length_cons, List.range'_succ, wpOps, ho0]
      obtain ⟨kk, ks', hks⟩ : ∃ kk ks', annG (g :: r) ks = (g, kk) :: annG r ks' := by
        cases ks with
        | nil => exact ⟨none, [], rfl⟩
        | cons x y => exact ⟨x, y, rfl⟩
      rw [hks] at h
      simp only [wpKA] at h
      rcases wanted_of (nt := nt) hgd (fun t b _ => her.vals t) h with ⟨hw, hs⟩ | ⟨hw, hs⟩
      · rw [if_pos hw]
        refine .inl ?_
        have : o = ⟨o.dst, o.op, o.type, o.pos, o.after, o.guard⟩ := rfl
        rw [this]
        refine oper_soundG hi hc (her.ops _) hs ?_
        intro u w' v H' ρ' hv hev hi' hk
        rw [hdst] at hk
        have her' := ((her.mono hev.size hev.agree).put (dst := o.dst) (by rw [← hdst]; exact hdok) hv).kp kk
        exact wpKA_sound t r ks' (k + 1) K Q _ H' ρ' _ w' htail h2 hk her' hi' (fun e2 H2 ρ2 a2 w2 q1 q2 q3 q4 => hQ e2 H2 ρ2 a2 w2 q1 q2 (hev.trans q3) q4)
      · rw [if_neg (by rw [hw]; simp)]
        rw [hdst] at hs
        have her' := (her.put (dst := o.dst) (by rw [← hdst]; exact hdok) (VR_und (N := H.size) (ρ := ρ))).kp kk
        exact wpKA_sound t r ks' (k + 1) K Q _ H ρ _ w htail h2 hs her' hi hQ
    · cases hg
end
end Go.M2
