/- M2, part J: regions that draw their order: whatever order is drawn, the world comes to what one order gives in the abstract memory. -/
import Derived.Test.YthpjcfjemogbeaaSO1
import Derived.Scope
import Derived.LoopN
import Derived.IntWalk
import Derived.WalkKit
import Derived.ProofKit
import Derived.OpenShut
import Derived.ChangeOld
import Derived.Below
set_option linter.unusedVariables false
set_option linter.unusedSimpArgs false
set_option maxRecDepth 10000
set_option maxHeartbeats 4000000
namespace Go.M2
open Go.RowKit (Below)
section
variable {P : Program}
theorem inner_fold (acc : Array Nat) (k : Nat) : ∀ (es : List Edge) (s0 : Nat),
    (es.foldl (fun s e => if Region.binds .any e then s ||| 2 ^ e.on ||| acc.getD e.on 0 else s) s0).testBit k = true →
    s0.testBit k = true ∨ ∃ ed ∈ es, Region.binds .any ed = true ∧ (ed.on = k ∨ (acc.getD ed.on 0).testBit k = true)
  | [], s0, h => .inl h
  | ed :: t, s0, h => by
    simp only [List.foldl_cons] at h
    rcases inner_fold acc k t _ h with h1 | ⟨e1, h2, h3⟩
    · by_cases hb : Region.binds .any ed = true
      · rw [if_pos hb] at h1
        simp only [Nat.testBit_or, Bool.or_eq_true] at h1
        rcases h1 with (h1 | h1) | h1
        · exact .inl h1
        · rw [Nat.testBit_two_pow] at h1
          exact .inr ⟨ed, by simp, hb, .inl (by simpa using h1)⟩
        · exact .inr ⟨ed, by simp, hb, .inr h1⟩
      · rw [if_neg hb] at h1; exact .inl h1
    · exact .inr ⟨e1, by simp [h2], h3⟩
theorem before_fold (k : Nat) : ∀ (l p : List Oper) (acc : Array Nat), acc.size = p.length →
    (∀ j, (acc.getD j 0).testBit k = true → ∃ o ed, p[j]? = some o ∧ ed ∈ o.after.toList ∧ Region.binds .any ed = true ∧ (ed.on = k ∨ (ed.on < j ∧ (acc.getD ed.on 0).testBit k = true))) →
    ∀ j, ((l.foldl (fun acc o => acc.push (o.after.foldl (fun s e => if Region.binds .any e then s ||| 2 ^ e.on ||| acc.getD e.on 0 else s) 0)) acc).getD j 0).testBit k = true →
    ∃ o ed, (p ++ l)[j]? = some o ∧ ed ∈ o.after.toList ∧ Region.binds .any ed = true ∧ (ed.on = k ∨ (ed.on < j ∧ ((l.foldl (fun acc o => acc.push (o.after.foldl (fun s e => if Region.binds .any e then s ||| 2 ^ e.on ||| acc.getD e.on 0 else s) 0)) acc).getD ed.on 0).testBit k = true))
  | [], p, acc, hs, hp, j, h => by
    simp only [List.foldl_nil, List.append_nil] at h ⊢
    exact hp j h
  | o :: t, p, acc, hs, hp, j, h => by
    simp only [List.foldl_cons] at h ⊢
    have := before_fold k t (p ++ [o]) (acc.push (o.after.foldl (fun s e => if Region.binds .any e then s ||| 2 ^ e.on ||| acc.getD e.on 0 else s) 0)) (by simp [hs]) ?_ j h
    · simpa using this
    · intro j hj
      rcases Nat.lt_trichotomy j acc.size with hlt | heq | hgt
      · have e1 : (acc.push (o.after.foldl (fun s e => if Region.binds .any e then s ||| 2 ^ e.on ||| acc.getD e.on 0 else s) 0)).getD j 0 = acc.getD j 0 := by
          simp only [Array.getD_eq_getD_getElem?]; rw [Array.getElem?_push_lt hlt]; simp [hlt]
        rw [e1] at hj
        obtain ⟨o', ed, h1, h2, h3, h4⟩ := hp j hj
        refine ⟨o', ed, by rw [List.getElem?_append_left (by omega)]; exact h1, h2, h3, ?_⟩
        rcases h4 with h4 | ⟨h4, h5⟩
        · exact .inl h4
        · refine .inr ⟨h4, ?_⟩
          have e2 : (acc.push (o.after.foldl (fun s e => if Region.binds .any e then s ||| 2 ^ e.on ||| acc.getD e.on 0 else s) 0)).getD ed.on 0 = acc.getD ed.on 0 := by
            simp only [Array.getD_eq_getD_getElem?]; rw [Array.getElem?_push_lt (by omega)]; simp [show ed.on < acc.size by omega]
          rw [e2]; exact h5
      · subst heq
        have e1 : (acc.push (o.after.foldl (fun s e => if Region.binds .any e then s ||| 2 ^ e.on ||| acc.getD e.on 0 else s) 0)).getD acc.size 0 = o.after.foldl (fun s e => if Region.binds .any e then s ||| 2 ^ e.on ||| acc.getD e.on 0 else s) 0 := by
          simp [Array.getD_eq_getD_getElem?]
        rw [e1, ← Array.foldl_toList] at hj
        rcases inner_fold acc k _ _ hj with h1 | ⟨ed, h2, h3, h4⟩
        · simp at h1
        · refine ⟨o, ed, by rw [hs]; simp, h2, h3, ?_⟩
          rcases h4 with h4 | h4
          · exact .inl h4
          · have hlt : ed.on < acc.size := by
              rcases Nat.lt_or_ge ed.on acc.size with h | h
              · exact h
              · simp only [Array.getD_eq_getD_getElem?] at h4
                rw [Array.getElem?_eq_none h] at h4; simp at h4
            refine .inr ⟨hlt, ?_⟩
            have e2 : (acc.push (o.after.foldl (fun s e => if Region.binds .any e then s ||| 2 ^ e.on ||| acc.getD e.on 0 else s) 0)).getD ed.on 0 = acc.getD ed.on 0 := by
              simp only [Array.getD_eq_getD_getElem?]; rw [Array.getElem?_push_lt hlt]; simp [hlt]
            rw [e2]; exact h4
      · exfalso
        simp only [Array.getD_eq_getD_getElem?] at hj
        rw [Array.getElem?_eq_none (by simp; omega)] at hj; simp at hj
theorem before_spec {ops : Array Oper} {k j : Nat} (h : isBef (Region.before ops) k j = true) :
    ∃ o ed, ops[j]? = some o ∧ ed ∈ o.after.toList ∧ Region.binds .any ed = true ∧ (ed.on = k ∨ (ed.on < j ∧ isBef (Region.before ops) k ed.on = true)) := by
  unfold isBef Region.before at h
  rw [← Array.foldl_toList] at h
  obtain ⟨o, ed, h1, h2, h3, h4⟩ := before_fold k ops.toList [] #[] rfl (by intro j hj; simp at hj) j h
  refine ⟨o, ed, by simpa using h1, h2, h3, ?_⟩
  unfold isBef Region.before
  rw [← Array.foldl_toList]
  exact h4
def Shut (ops : Array Oper) (S : Nat → Prop) : Prop := ∀ j, S j → ∀ o, ops[j]? = some o → ∀ ed ∈ o.after.toList, Region.binds .any ed = true → S ed.on
theorem Shut.bef {ops : Array Oper} {S : Nat → Prop} (h : Shut ops S) : ∀ (j k : Nat), S j → isBef (Region.before ops) k j = true → S k := by
  intro j
  induction j using Nat.strongRecOn with
  | _ j ih =>
    intro k hj hb
    obtain ⟨o, ed, h1, h2, h3, h4⟩ := before_spec hb
    have hs := h j hj o h1 ed h2 h3
    rcases h4 with rfl | ⟨h4, h5⟩
    · exact hs
    · exact ih ed.on h4 k hs h5
theorem cGs_at {nt : Nat} {ops : Array Oper} : ∀ (l : List Oper) (gl : List GOp), cGs P nt ops l = some gl → gl.length = l.length ∧ ∀ i o, l[i]? = some o → cG P nt ops o = some (gAt gl i)
  | [], gl, h => by simp [cGs] at h; subst h; exact ⟨rfl, by simp⟩
  | o :: t, gl, h => by
    simp only [cGs] at h
    split at h
    · rename_i g r h1 h2
      cases h
      obtain ⟨hl, hi⟩ := cGs_at t r h2
      refine ⟨by simp [hl], fun i o' ho => ?_⟩
      cases i with
      | zero => simp at ho; subst ho; exact h1
      | succ i => have := hi i o' (by simpa using ho); simpa [gAt] using this
    · cases h
theorem gAt_get {gl : List GOp} {i : Nat} (h : i < gl.length) : gl[i]? = some (gAt gl i) := by
  simp [gAt, List.getElem?_eq_getElem h]
theorem not_ovr {bf : Array Nat} {gl : List GOp} {j t : Nat} (h : ovr bf gl j = false) (hj : j < gl.length) (hd : (gAt gl j).dst = some t) :
    t ∉ (gAt gl j).names ∧ ∀ k, k < gl.length → k ≠ j → (gAt gl k).dst ≠ some t ∧ (t ∈ (gAt gl k).names → isBef bf j k = true) := by
  unfold ovr at h
  rw [gAt_get hj] at h
  simp only [Option.bind_some, hd, rng, List.any_eq_false, List.mem_range] at h
  constructor
  · have := h j hj
    rw [gAt_get hj] at this
    simpa using this
  · intro k hk hkj
    have := h k hk
    rw [gAt_get hk] at this
    simp only [if_neg hkj, Bool.or_eq_true, Bool.and_eq_true, not_or, not_and, beq_iff_eq, Bool.not_eq_true] at this
    refine ⟨this.1, fun hm => ?_⟩
    have := this.2
    simp only [List.contains_iff_mem] at this
    simpa using this hm
theorem ev_congr {x : X} {e e' : Env} (h : ∀ t ∈ x.tmps, e t = e' t) : x.ev e = x.ev e' := by
  cases x with
  | t n => exact h n (by simp [X.tmps])
  | c v => rfl
theorem evs_congr : ∀ {l : List X} {e e' : Env}, (∀ t ∈ xsT l, e t = e' t) → l.map (X.ev e) = l.map (X.ev e')
  | [], e, e', h => rfl
  | x :: t, e, e', h => by
    have h' : ∀ u ∈ x.tmps ++ xsT t, e u = e' u := by simpa [xsT] using h
    rw [List.map_cons, List.map_cons, ev_congr (fun u hu => h' u (List.mem_append_left _ hu)), evs_congr (fun u hu => h' u (List.mem_append_right _ hu))]
theorem evo_congr {x : Option X} {e e' : Env} (h : ∀ t ∈ xoT x, e t = e' t) : x.map (X.ev e) = x.map (X.ev e') := by
  cases x with
  | none => rfl
  | some x => simp only [Option.map_some]; rw [ev_congr h]
theorem bldF_congr : ∀ {l : List (Nat × Nat × X)} {z : List AV} {e e' : Env}, (∀ t ∈ xsT (l.map (·.2.2)), e t = e' t) → bldF e z l = bldF e' z l
  | [], z, e, e', h => rfl
  | (o, n, x) :: t, z, e, e', h => by
    have h' : ∀ u ∈ x.tmps ++ xsT (t.map (·.2.2)), e u = e' u := by simpa [xsT] using h
    simp only [bldF]
    rw [ev_congr (fun u hu => h' u (List.mem_append_left _ hu))]
    split
    · split
      · exact bldF_congr (fun u hu => h' u (List.mem_append_right _ hu))
      · rfl
    · rfl
theorem qop_congr {q : IOp} {e e' : Env} {H : Heap} (h : ∀ t ∈ q.tmps, e t = e' t) : qop q e H = qop q e' H := by
  have L : ∀ {a b : List Nat}, (∀ t ∈ a ++ b, e t = e' t) → (∀ t ∈ a, e t = e' t) ∧ (∀ t ∈ b, e t = e' t) := fun h => ⟨fun t ht => h t (List.mem_append_left _ ht), fun t ht => h t (List.mem_append_right _ ht)⟩
  cases q <;> simp only [IOp.tmps] at h <;> simp only [qop]
  case mv x => rw [ev_congr h]
  case pick a b c => rw [ev_congr (L (L h).1).1, ev_congr (L (L h).1).2, ev_congr (L h).2]
  case bin op x y => rw [ev_congr (L h).1, ev_congr (L h).2]
  case beq n x y => rw [ev_congr (L h).1, ev_congr (L h).2]
  case eqn n k x => rw [ev_congr h]
  case un op x => rw [ev_congr h]
  case nilck x => rw [ev_congr h]
  case faddr x o => rw [ev_congr h]
  case fld x o n a => rw [ev_congr h]
  case iaddr x i s => rw [ev_congr (L h).1, ev_congr (L h).2]
  case aaddr x i l s => rw [ev_congr (L h).1, ev_congr (L h).2]
  case sidx x i => rw [ev_congr (L h).1, ev_congr (L h).2]
  case aidx x i l s a => rw [ev_congr (L h).1, ev_congr (L h).2]
  case ext x i => rw [ev_congr h]
  case len x => rw [ev_congr h]
  case slen x => rw [ev_congr h]
  case cap x => rw [ev_congr h]
  case mnx m x y => rw [ev_congr (L h).1, ev_congr (L h).2]
  case slc s x a b c => rw [ev_congr (L (L (L h).1).1).1, evo_congr (L (L (L h).1).1).2, evo_congr (L (L h).1).2, evo_congr (L h).2]
  case sslc x a b => rw [ev_congr (L (L h).1).1, evo_congr (L (L h).1).2, evo_congr (L h).2]
  case mkfn f l => rw [evs_congr h]
  case bld z l => rw [bldF_congr h]
  case cvi k x => rw [ev_congr h]
  case load x n a => rw [ev_congr h]
  case eqs kt n x y => rw [ev_congr (L h).1, ev_congr (L h).2]
  case lookup kt z ok x y => rw [ev_congr (L h).1, ev_congr (L h).2]
  case mlen x => rw [ev_congr h]
theorem gq_congr {g : GOp} {e e' : Env} {H : Heap} (h : ∀ t ∈ g.names, e t = e' t) : gq g e H = gq g e' H := by
  have h1 : ∀ t ∈ g.op.tmps, e t = e' t := fun t ht => h t (by simp [GOp.names, ht])
  unfold gq
  rw [qop_congr h1]
  cases hg : g.g with
  | none => rfl
  | some p =>
    obtain ⟨t, w⟩ := p
    simp only
    rw [h t (by simp [GOp.names, hg])]
theorem loadN_ext {H H' : Heap} (hE : Ext H H') {b : Nat} : ∀ (n o : Nat) (l : List AV), loadN H b o n = some l → loadN H' b o n = some l
  | 0, o, l, h => h
  | n + 1, o, l, h => by
    simp only [loadN] at h ⊢
    split at h
    · rename_i x t h1 h2
      cases h
      rw [hE.get h1, loadN_ext hE n (o + 1) t h2]
    · cases h
theorem loadF_ext {H H' : Heap} (hE : Ext H H') {n : Nat} {ag : Bool} {x v : AV} (h : loadF H n ag x = some v) : loadF H' n ag x = some v := by
  unfold loadF at h ⊢
  split at h
  · rename_i b o
    split at h
    · rename_i hag
      obtain ⟨l, hl, rfl⟩ := map_some' h
      simp [hag, loadN_ext hE n o l hl]
    · rename_i hag
      simp [hag, hE.get h]
  · cases h
theorem mapAt_ext {H H' : Heap} (hE : Ext H H') {b : Nat} {es : List (AV × AV)} (h : H.mapAt b = some es) : H'.mapAt b = some es := by
  unfold Heap.mapAt at h ⊢
  split at h
  · rename_i hb
    rw [if_pos (Nat.lt_of_lt_of_le hb hE.1), hE.2 b hb]; exact h
  · cases h
theorem lookF_ext {H H' : Heap} (hE : Ext H H') {kt : KT} {z x k v : AV} {ok : Bool} (h : lookF H kt z ok x k = some v) : lookF H' kt z ok x k = some v := by
  unfold lookF at h ⊢
  split at h
  · exact h
  · rename_i b
    cases hes : H.mapAt b with
    | none =>
      rw [hes] at h
      unfold lookM at h
      split at h
      · rename_i h1; cases h1
      · cases h
    | some es => simp only [mapAt_ext hE hes]; rw [hes] at h; exact h
  · cases h
theorem mlenF_ext {H H' : Heap} (hE : Ext H H') {x v : AV} (h : mlenF H x = some v) : mlenF H' x = some v := by
  unfold mlenF at h ⊢
  split at h
  · exact h
  · rename_i b
    obtain ⟨es, hes, rfl⟩ := map_some' h
    simp [mapAt_ext hE hes]
  · cases h
theorem qop_ext {H H' : Heap} (hE : Ext H H') {q : IOp} {e : Env} {v : AV} (h : qop q e H = some v) : qop q e H' = some v := by
  cases q <;> simp only [qop] at h ⊢ <;> first | exact h | exact loadF_ext hE h | exact lookF_ext hE h | exact mlenF_ext hE h
theorem qop_noread {H H' : Heap} {q : IOp} {e : Env} (hr : q.reads = false) : qop q e H = qop q e H' := by
  cases q <;> simp only [qop] <;> first | rfl | cases hr
theorem gq_ext {H H' : Heap} (hE : Ext H H') {g : GOp} {e : Env} {v : AV} (h : gq g e H = some v) : gq g e H' = some v := by
  unfold gq at h ⊢
  cases hg : g.g with
  | none => rw [hg] at h; exact qop_ext hE h
  | some p =>
    obtain ⟨t, w⟩ := p
    rw [hg] at h
    simp only at h ⊢
    split at h
    · rename_i b hb
      split at h
      · rename_i hbw; rw [if_pos hbw]; exact qop_ext hE h
      · rename_i hbw; rw [if_neg hbw]; exact h
    · exact h
    · cases h
theorem gq_noread {H H' : Heap} {g : GOp} {e : Env} (hr : g.op.reads = false) : gq g e H = gq g e H' := by
  unfold gq; rw [qop_noread (H := H) (H' := H') hr]
theorem putE_ne {e : Env} {dst : Option Nat} {v : AV} {t : Nat} (h : dst ≠ some t) : putE e dst v t = e t := by
  cases dst with
  | none => rfl
  | some d => simp only [putE, upd]; rw [if_neg (fun e => h (by rw [e]))]
theorem putE_same {e : Env} {d : Nat} {v : AV} : putE e (some d) v d = v := by simp [putE, upd]
theorem getD_put_dst {a : Act} {dst : Option Nat} {u : Value} {t : Nat} (h : dst ≠ some t) : (a.put dst u).tmps.getD t undef = a.tmps.getD t undef := by
  cases dst with
  | none => rfl
  | some d => exact getD_put_ne (fun e => h (by rw [e]))
end
end Go.M2

namespace Go.M2
open Go.RowKit (Below)
def blkOf : Value → Option Nat
  | .pointer (some a) => some a.block
  | .slice (some a) _ _ => some a.block
  | _ => none
structure St where
  ρ : Nat → BI
  H : Heap
  w : World
structure DI (w0 : World) (nt : Nat) (ops : Array Oper) (gl : List GOp) (s0 : St) (pre : List Nat) (D : Array Bool) (e : Env) (H : Heap) (ρ : Nat → BI) (a : Act) (w : World) : Prop where
  hi : HI w0 ρ H w
  ev : Evol s0.ρ s0.H s0.w ρ H w
  low : w0.heap.size ≤ s0.w.heap.size
  tsz : a.tmps.size = nt
  dfr : a.defers = []
  dsz : D.size = ops.size
  dcl : Shut ops (fun j => D.getD j false = true)
  pcl : Shut ops (· ∈ pre)
  plt : ∀ j, j ∈ pre → j < ops.size
  ein : ∀ j, j ∈ pre → D.getD j false = false → (gAt gl j).op.quiet = true ∧ ovr (Region.before ops) gl j = false ∧ ∃ d, (gAt gl j).dst = some d ∧ gq (gAt gl j) e H = some (e d)
  fin : ∀ j, j < ops.size → D.getD j false = true → j ∉ pre → ovr (Region.before ops) gl j = false ∧ alOk (Region.before ops) gl j = true ∧ ∃ d n t cs u, (gAt gl j).op.isAlloc = true ∧ (gAt gl j).g = none ∧ (gAt gl j).dst = some d ∧
    a.tmps.getD d undef = u ∧ blkOf u = some n ∧ s0.w.heap.size ≤ n ∧ w.heap[n]? = some (.cells cs t (0, 0)) ∧ (∀ c, alc e (gAt gl j).op = some c → ∀ N ρ' b, b < N → ρ' b = ⟨n, 0, cs.size, true⟩ → VR N ρ' (alr e b (gAt gl j).op) u) ∧
    (∀ c, alc e (gAt gl j).op = some c → c.length ≤ cs.size ∧ VRL H.size ρ c cs.toList) ∧ ∀ b, b < H.size → H.isRw b = true → (ρ b).blk ≠ n
  fdi : ∀ j k, j < ops.size → k < ops.size → D.getD j false = true → j ∉ pre → D.getD k false = true → k ∉ pre → j ≠ k → ∀ d d', (gAt gl j).dst = some d → (gAt gl k).dst = some d' → blkOf (a.tmps.getD d undef) ≠ blkOf (a.tmps.getD d' undef)
  val : ∀ t, (∀ j, j < ops.size → (gAt gl j).dst = some t → (j ∈ pre ↔ D.getD j false = true)) → VR H.size ρ (e t) (a.tmps.getD t undef)
section
variable {P : Program} {w0 : World} {nt : Nat} {ops : Array Oper} {gl : List GOp} {s0 : St} {pre : List Nat} {D : Array Bool} {e : Env} {H : Heap} {ρ : Nat → BI} {a : Act} {w : World}
theorem gl_at (hgl : cGs P nt ops ops.toList = some gl) {i : Nat} {o : Oper} (ho : ops[i]? = some o) : cG P nt ops o = some (gAt gl i) :=
  (cGs_at ops.toList gl hgl).2 i o (by simpa using ho)
theorem gl_len (hgl : cGs P nt ops ops.toList = some gl) : gl.length = ops.size := by simpa using (cGs_at ops.toList gl hgl).1
theorem DI.names (h : DI w0 nt ops gl s0 pre D e H ρ a w) (hgl : cGs P nt ops ops.toList = some gl) {i : Nat} (hi : i < ops.size)
    (hp : ∀ k, isBef (Region.before ops) k i = true → k ∈ pre) (hd : ∀ k, isBef (Region.before ops) k i = true → D.getD k false = true)
    (hDi : D.getD i false = false) (hown : i ∈ pre → ovr (Region.before ops) gl i = false) : OpsR H.size ρ (gAt gl i).names e a := by
  intro t ht
  refine h.val t fun j hj hdst => ?_
  have hlen := gl_len hgl
  by_cases hji : j = i
  · subst hji
    by_cases hip : j ∈ pre
    · have := not_ovr (hown hip) (by omega) hdst
      exact absurd ht this.1
    · simp [hip, hDi]
  · constructor
    · intro hjp
      cases hD : D.getD j false with
      | true => rfl
      | false =>
        have := (not_ovr (h.ein j hjp hD).2.1 (by omega) hdst).2 i (by omega) (fun e => hji e.symm)
        have hb := hd j (this.2 ht)
        rw [hD] at hb; cases hb
    · intro hD
      by_cases hjp : j ∈ pre
      · exact hjp
      · have := (not_ovr (h.fin j hj hD hjp).1 (by omega) hdst).2 i (by omega) (fun e => hji e.symm)
        exact hp j (this.2 ht)
theorem real_step (hgl : cGs P nt ops ops.toList = some gl) {i : Nat} {o : Oper} (ho : ops[i]? = some o) (hops : OpsR H.size ρ (gAt gl i).names e a) (hi : HI w0 ρ H w) {A : AV → Heap → Prop} {B : Prop}
    (hg : gWant (gAt gl i).g e (stepL P (gAt gl i).op e H A) B) {Q : Exit → Act → World → Prop} {next : Act → World → Prop}
    (hA : ∀ u w' v H' ρ', VR H'.size ρ' v u → Evol ρ H w ρ' H' w' → HI w0 ρ' H' w' → A v H' → next (a.put (gAt gl i).dst u) w') (hB : B → next (a.put (gAt gl i).dst undef) w) : wpOp P ops Q i next a w := by
  obtain ⟨hc, hgd, hdst, hdok⟩ := cG_parts (gl_at hgl ho)
  unfold wpOp
  simp only [ho]
  have hv : ∀ t b, (gAt gl i).g = some (t, b) → VR H.size ρ (e t) (a.tmps.getD t undef) := fun t b hb => hops t (by simp [GOp.names, hb])
  rcases wanted_of (nt := nt) hgd hv hg with ⟨hw, hs⟩ | ⟨hw, hs⟩
  · rw [if_pos hw]
    refine .inl ?_
    have : o = ⟨o.dst, o.op, o.type, o.pos, o.after, o.guard⟩ := rfl
    rw [this]
    refine oper_soundG hi hc (hops.sub fun t ht => by simp [GOp.names, ht]) hs ?_
    intro u w' v H' ρ' h1 h2 h3 h4
    rw [← hdst]; exact hA u w' v H' ρ' h1 h2 h3 h4
  · rw [if_neg (by rw [hw]; simp), ← hdst]
    exact hB hs
theorem quiet_step {q : IOp} (hq : q.quiet = true) {K : AV → Heap → Prop} : stepL P q e H K ↔ optP (qop q e H) H K := by
  cases q <;> first | exact Iff.rfl | cases hq
theorem gq_gWant {g : GOp} (hq : g.op.quiet = true) {v : AV} (h : gq g e H = some v) : gWant g.g e (stepL P g.op e H fun v' H' => v' = v ∧ H' = H) (v = .tup []) := by
  unfold gq at h
  unfold gWant
  cases hg : g.g with
  | none =>
    rw [hg] at h
    simp only at h ⊢
    rw [quiet_step hq]; unfold optP; rw [h]; exact ⟨rfl, rfl⟩
  | some p =>
    obtain ⟨t, wn⟩ := p
    rw [hg] at h
    simp only at h ⊢
    split at h
    · rename_i b hb
      split at h
      · rename_i hbw
        rw [if_pos hbw, quiet_step hq]; unfold optP; rw [h]; exact ⟨rfl, rfl⟩
      · rename_i hbw
        rw [if_neg hbw]; cases h; rfl
    · cases h; rfl
    · cases h
theorem gWant_gq {g : GOp} (hq : g.op.quiet = true) {A : AV → Heap → Prop} {B : Prop} (h : gWant g.g e (stepL P g.op e H A) B) : ∃ v, gq g e H = some v ∧ (A v H ∨ (v = .tup [] ∧ B)) := by
  unfold gWant at h
  unfold gq
  cases hg : g.g with
  | none =>
    rw [hg] at h
    simp only at h ⊢
    rw [quiet_step hq] at h; unfold optP at h
    split at h
    · rename_i v hv; exact ⟨v, hv, .inl h⟩
    · exact h.elim
  | some p =>
    obtain ⟨t, wn⟩ := p
    rw [hg] at h
    simp only at h ⊢
    split at h
    · rename_i b hb
      split at h
      · rename_i hbw
        rw [quiet_step hq] at h; unfold optP at h
        split at h
        · rename_i v hv; exact ⟨v, by rw [if_pos hbw]; exact hv, .inl h⟩
        · exact h.elim
      · rename_i hbw; exact ⟨.tup [], by rw [if_neg hbw], .inr ⟨rfl, h⟩⟩
    · exact ⟨.tup [], rfl, .inr ⟨rfl, h⟩⟩
    · exact h.elim
theorem getD_set_at {D : Array Bool} {i : Nat} (h : i < D.size) : (D.setIfInBounds i true).getD i false = true := by simp [h]
theorem getD_set_off {D : Array Bool} {i j : Nat} (h : j ≠ i) : (D.setIfInBounds i true).getD j false = D.getD j false := by
  simp only [Array.getD_eq_getD_getElem?]; rw [Array.getElem?_setIfInBounds_ne (fun e => h e.symm)]
theorem shut_set {i : Nat} {o : Oper} (h : Shut ops (fun j => D.getD j false = true)) (ho : ops[i]? = some o) (hr : ∀ ed ∈ o.after.toList, Region.binds .any ed = true → D.getD ed.on false = true) :
    Shut ops (fun j => (D.setIfInBounds i true).getD j false = true) := by
  intro j hj oj hoj ed hed hb
  by_cases hji : j = i
  · subst hji
    rw [ho] at hoj; cases hoj
    by_cases hei : ed.on = j
    · rw [hei] at *; exact hj
    · rw [getD_set_off hei]; exact hr ed hed hb
  · rw [getD_set_off hji] at hj
    have := h j hj oj hoj ed hed hb
    by_cases hei : ed.on = i
    · rw [hei] at this ⊢
      have hlt : i < D.size := by
        rcases Nat.lt_or_ge i D.size with h | h
        · exact h
        · simp [Array.getElem?_eq_none h] at this
      exact getD_set_at hlt
    · rw [getD_set_off hei]; exact this
theorem DI.late (h : DI w0 nt ops gl s0 pre D e H ρ a w) (hgl : cGs P nt ops ops.toList = some gl) {i : Nat} {o : Oper} (ho : ops[i]? = some o) (hip : i ∈ pre) (hDi : D.getD i false = false)
    (hr : ∀ ed ∈ o.after.toList, Region.binds .any ed = true → D.getD ed.on false = true)
    {Q : Exit → Act → World → Prop} {next : Act → World → Prop} (hn : ∀ ρ' a' w', DI w0 nt ops gl s0 pre (D.setIfInBounds i true) e H ρ' a' w' → next a' w') : wpOp P ops Q i next a w := by
  obtain ⟨hq, hov, d, hd, hg⟩ := h.ein i hip hDi
  have hlt := h.plt i hip
  have hlen := gl_len hgl
  have hcl := shut_set h.dcl ho hr
  have hpr : ∀ k, isBef (Region.before ops) k i = true → D.getD k false = true := by
    intro k hk
    obtain ⟨o', ed, h1, h2, h3, h4⟩ := before_spec hk
    rw [ho] at h1; cases h1
    have hd1 := hr ed h2 h3
    rcases h4 with rfl | ⟨_, h5⟩
    · exact hd1
    · exact h.dcl.bef ed.on k hd1 h5
  have hnames := h.names hgl hlt (fun k hk => h.pcl.bef i k hip hk) hpr hDi (fun _ => hov)
  have hno := not_ovr hov (by omega) hd
  have fin : ∀ u w' ρ', VR H.size ρ' (e d) u → Evol ρ H w ρ' H w' → HI w0 ρ' H w' → next (a.put (gAt gl i).dst u) w' := by
    intro u w' ρ' hv hev hi'
    refine hn ρ' _ w' ⟨hi', h.ev.trans hev, h.low, size_put.trans h.tsz, defers_put.trans h.dfr, by simpa using h.dsz, hcl, h.pcl, h.plt, ?_, ?_, ?_, ?_⟩
    · intro j hj hDj
      have : j ≠ i := by
        intro e1; subst e1; rw [getD_set_at (by rw [h.dsz]; exact hlt)] at hDj; cases hDj
      rw [getD_set_off this] at hDj
      exact h.ein j hj hDj
    · intro j hj hDj hjp
      have hji : j ≠ i := fun e1 => hjp (e1 ▸ hip)
      rw [getD_set_off hji] at hDj
      obtain ⟨hovj, hoj, d', n, t, cs, u', h1, h2, h3, h4, hbk, h5, h6, h7, h8, h9⟩ := h.fin j hj hDj hjp
      have hdne : (gAt gl i).dst ≠ some d' := ((not_ovr hovj (by omega) h3).2 i (by omega) (fun e => hji e.symm)).1
      have hnlt : n < w.heap.size := (Array.getElem?_eq_some_iff.1 h6).1
      refine ⟨hovj, hoj, d', n, t, cs, u', h1, h2, h3, by rw [getD_put_dst hdne]; exact h4, hbk, h5, (hev.keep n hnlt (fun b hb hr => h9 b hb hr)).trans h6, h7, fun c hc => ⟨(h8 c hc).1, (h8 c hc).2.mono (Nat.le_refl _) hev.agree⟩, fun b hb hrw => ?_⟩
      rw [hev.agree b hb]; exact h9 b hb hrw
    · intro j k hj hk hDj hjp hDk hkp hjk dj dk h1 h2
      have hji : j ≠ i := fun e1 => hjp (e1 ▸ hip)
      have hki : k ≠ i := fun e1 => hkp (e1 ▸ hip)
      rw [getD_set_off hji] at hDj
      rw [getD_set_off hki] at hDk
      have hovj := (h.fin j hj hDj hjp).1
      have hovk := (h.fin k hk hDk hkp).1
      rw [getD_put_dst ((not_ovr hovj (by omega) h1).2 i (by omega) (fun e => hji e.symm)).1, getD_put_dst ((not_ovr hovk (by omega) h2).2 i (by omega) (fun e => hki e.symm)).1]
      exact h.fdi j k hj hk hDj hjp hDk hkp hjk dj dk h1 h2
    · intro t ht
      by_cases htd : t = d
      · subst htd
        rw [hd, getD_put_same (by rw [h.tsz]; have := (cG_parts (gl_at hgl ho)).2.2.2; rw [hd] at this; simpa [dstOk] using this)]
        exact hv
      · rw [getD_put_dst (by rw [hd]; intro e1; cases e1; exact htd rfl)]
        refine (h.val t fun j hj hdst => ?_).mono (Nat.le_refl _) hev.agree
        have := ht j hj hdst
        have hji : j ≠ i := by intro e1; subst e1; rw [hd] at hdst; cases hdst; exact htd rfl
        rw [getD_set_off hji] at this
        exact this
  refine real_step hgl ho hnames h.hi (gq_gWant hq hg) ?_ ?_
  · rintro u w' v H' ρ' hv hev hi' ⟨rfl, rfl⟩
    exact fin u w' ρ' hv hev hi'
  · intro hj
    exact fin undef w ρ (by rw [hj]; exact VR_und) (Evol.refl _ _ _) h.hi
end
end Go.M2

namespace Go.M2
open Go.RowKit (Below)
section
variable {P : Program} {w0 : World} {nt : Nat} {ops : Array Oper} {gl : List GOp} {s0 : St} {pre : List Nat} {D : Array Bool} {e : Env} {H : Heap} {ρ : Nat → BI} {a : Act} {w : World}
theorem preds_done (h : DI w0 nt ops gl s0 pre D e H ρ a w) {i : Nat} {o : Oper} (ho : ops[i]? = some o) (hr : ∀ ed ∈ o.after.toList, Region.binds .any ed = true → D.getD ed.on false = true) :
    ∀ k, isBef (Region.before ops) k i = true → D.getD k false = true := by
  intro k hk
  obtain ⟨o', ed, h1, h2, h3, h4⟩ := before_spec hk
  rw [ho] at h1; cases h1
  have hd1 := hr ed h2 h3
  rcases h4 with rfl | ⟨_, h5⟩
  · exact hd1
  · exact h.dcl.bef ed.on k hd1 h5
theorem bslF_congr {e' : Env} {sz : Nat} : ∀ (ps : List (Nat × X)) (z : List AV), (∀ t ∈ xsT (ps.map (·.2)), e' t = e t) → bslF e' sz z ps = bslF e sz z ps
  | [], z, h => rfl
  | (i, x) :: t, z, h => by
    have hx : x.ev e' = x.ev e := by
      cases x with
      | t n => exact h n (by simp [xsT, X.tmps])
      | c v => rfl
    simp only [bslF, hx]
    split
    · split
      · exact bslF_congr t _ fun t' ht => h t' (by simp only [xsT, List.map_cons, List.flatMap_cons, List.mem_append] at ht ⊢; exact .inr ht)
      · rfl
    · rfl
theorem alc_congr {e' : Env} {q : IOp} (h : ∀ t ∈ q.tmps, e' t = e t) : alc e' q = alc e q := by
  cases q <;> first | rfl | exact bslF_congr _ _ h | (simp only [alc]; rw [ev_congr (e := e') (e' := e) h])
theorem alr_congr {e' : Env} {q : IOp} {n : Nat} (h : ∀ t ∈ q.tmps, e' t = e t) : alr e' n q = alr e n q := by
  cases q <;> first | rfl | (simp only [alr]; rw [ev_congr (e := e') (e' := e) h])
theorem al_step {q : IOp} (hq : q.isAlloc = true) {K : AV → Heap → Prop} (h : stepL P q e H K) : ∃ c, alc e q = some c ∧ K (alr e H.size q) (H.alloc c) := by
  cases q <;> first | cases hq; done | skip
  · exact ⟨_, rfl, h⟩
  · simp only [stepL, bslcP] at h
    split at h
    · rename_i c hc; exact ⟨c, hc, h⟩
    · exact h.elim
  · rename_i z by_ l
    simp only [stepL, mksP] at h
    split at h
    · rename_i n hn
      refine ⟨zeros z n.toNat, ?_, ?_⟩
      · simp only [alc, hn, mksC]; rw [if_pos ⟨h.1, h.2.1, h.2.2.1⟩]
      · simp only [alr, hn, lenA]; exact h.2.2.2
    · exact h.elim
theorem al_run {o : Oper} {q : IOp} (hc : cOp P o.op = some q) (hq : q.isAlloc = true) (hops : OpsR H.size ρ q.tmps e a) {c : List AV} (hal : alc e q = some c) :
    ∃ u cs t, (execOp a.eval o).run P w = .ok (.value u) (w.alloc (.cells cs t)) ∧ (∀ N ρ' b, b < N → ρ' b = ⟨w.heap.size, 0, cs.size, true⟩ → VR N ρ' (alr e b q) u) ∧ blkOf u = some w.heap.size ∧ c.length ≤ cs.size ∧ VRL H.size ρ c cs.toList := by
  obtain ⟨dst, o, ty, pos, af, gd⟩ := o
  simp only at hc
  have opo : (∃ t z, o = .alloc t ∧ zeroOf P t = some z ∧ q = .alloc z) ∨ (∃ t e0 n z len parts ps, o = .buildSlice t len parts ∧ P.underlying t = some (.slice e0) ∧ szOf P e0 = some n ∧ zeroOf P e0 = some z ∧ cPartsL parts.toList = some ps ∧
      (len * n ≤ 65536 ∧ z.length = n ∧ 0 < n) ∧ q = .bslc n len z ps) ∨ (∃ t l c e0 n z by_ x y, o = .makeSlice t l c ∧ P.underlying t = some (.slice e0) ∧ szOf P e0 = some n ∧ zeroOf P e0 = some z ∧ byOf P e0 = some by_ ∧ cX l = some x ∧ cX c = some y ∧ (sameX x y = true ∧ z.length = n ∧ 0 < n) ∧ q = .mks z by_ x) := by
    cases o with
    | alloc t => simp only [cOp] at hc; obtain ⟨z', hz, he⟩ := map_some' hc; exact .inl ⟨t, z', rfl, hz, he.symm⟩
    | buildSlice t len parts =>
      simp only [cOp] at hc
      split at hc
      · rename_i e0 hu
        split at hc
        · rename_i n z qs hn hz hps
          split at hc
          · rename_i hcond
            cases hc
            exact .inr (.inl ⟨t, e0, n, z, len, parts, qs, rfl, hu, hn, hz, hps, hcond, rfl⟩)
          · cases hc
        · cases hc
      · cases hc
    | makeSlice t l c =>
      simp only [cOp] at hc
      split at hc
      · rename_i e0 x y hu hx hy
        split at hc
        · rename_i z by_ n hz hby hn
          split at hc
          · rename_i hcond
            split at hc
            · rename_i hsame
              cases hc
              exact .inr (.inr ⟨t, l, c, e0, n, z, by_, x, y, rfl, hu, hn, hz, hby, hx, hy, ⟨hsame, hcond.1, hcond.2⟩, rfl⟩)
            · cases hc; cases hq
          · cases hc
        · cases hc
      · cases hc
    | call c =>
      obtain ⟨callee, args, ts⟩ := c
      exfalso
      cases callee with
      | invoke r m => simp [cOp] at hc
      | builtin b =>
        simp only [cOp] at hc
        unfold cBuiltin at hc
        repeat' split at hc
        all_goals first | cases hc; cases hq; done | (obtain ⟨_, _, he⟩ := map_some' hc; subst he; cases hq; done) | (simp at hc; done)
      | value x =>
        cases x with
        | func f =>
          simp only [cOp] at hc
          repeat' split at hc
          all_goals first | cases hc; cases hq; done | (obtain ⟨_, _, he⟩ := map_some' hc; subst he; cases hq; done) | (simp at hc; done)
        | tmp x => simp only [cOp] at hc; split at hc <;> cases hc; cases hq
        | const x => simp only [cOp] at hc; split at hc <;> cases hc; cases hq
        | global x => simp only [cOp] at hc; split at hc <;> cases hc; cases hq
    | _ =>
      exfalso
      simp only [cOp] at hc
      repeat' split at hc
      all_goals first | cases hc; cases hq; done | (obtain ⟨_, _, he⟩ := map_some' hc; subst he; cases hq; done) | (simp at hc; done)
  rcases opo with ⟨t, z, rfl, hz, rfl⟩ | ⟨t, e0, n, z, len, parts, ps, rfl, hu, hn, hz, hps, hcond, rfl⟩ | ⟨t, l, c', e0, n, z, by_, x, y, rfl, hu, hn, hz, hby, hx, hy, hcond, rfl⟩
  · obtain ⟨it, zv, hit, hzv, hzz⟩ := zeroOf_info (P := P) (ρ := ρ) (N := H.size) hz
    cases hal
    refine ⟨.pointer (some ⟨w.heap.size, 0, none⟩), zv.cells, t, ?_, ?_, rfl, by have := hzz.1; simp at this; omega, hzz⟩
    · unfold execOp
      simp [Instr.alloc, run_zero hit hzv, newVar, run_newRow]
    · intro N ρ' b hb hρ
      have := VR.ptr (N := N) (ρ := ρ') (some (b, 0)) (fun b' o e => by cases e; exact hb)
      simpa [alr, rA, hρ] using this
  · obtain ⟨it, zv, hit, hzv, hzz⟩ := zeroOf_info (P := P) (ρ := ρ) (N := H.size) hz
    have hzs : zv.cells.size = n := by have := hzz.1; simp at this; omega
    simp only [alc] at hal
    obtain ⟨cs, h1, h2⟩ := bslF_fill (N := H.size) (ρ := ρ) (e := e) (a := a) parts.toList ps (zeros z len) c _ hps hops hal (zeros_VRL hzz hcond.2.1 hcond.2.2)
    have hcl : c.length = cs.size := by simpa using h2.1
    have hlen : cs.size = len * n := by rw [← hcl, bslF_length ps _ c hal, zeros_length, hcond.2.1]
    have h16 : ¬ (len * n > 2 ^ 24) := by have := hcond.1; omega
    have hrun : ∀ ps' : Array (Nat × Value), ps'.toList = parts.toList.map (fun p => (p.1, a.eval p.2)) → (Instr.buildSlice t len ps').run P w = .ok (.slice (some ⟨w.heap.size, 0, none⟩) len len) (w.alloc (.cells cs e0)) := by
      intro ps' hps'
      have h1' : Instr.fill (fun i => some (i * n, n)) ((Array.range (len * n)).map (zv.cells[· % zv.cells.size]!)) ps'.toList = some cs := by rw [hps']; exact h1
      by_cases h00 : len * n = 0
      · have e1 : (Array.range (len * n)).map (fun x => (#[] : Array Value)[x % (#[] : Array Value).size]!) = (Array.range (len * n)).map (zv.cells[· % zv.cells.size]!) := by rw [h00]; simp
        simp only [Instr.buildSlice, Sem.run_bind, run_underlying hu, Result.andThen_ok, run_szOf hn, if_neg h16, if_pos h00, Sem.run_pure, e1, h1', run_newRow]
      · simp only [Instr.buildSlice, Sem.run_bind, run_underlying hu, Result.andThen_ok, run_szOf hn, if_neg h16, if_neg h00, Sem.run_pure, run_zero hit hzv, h1', run_newRow]
    refine ⟨.slice (some ⟨w.heap.size, 0, none⟩) len len, cs, e0, ?_, ?_, rfl, by omega, h2⟩
    · have hr2 := hrun (parts.map fun x => (x.1, a.eval x.2)) (by simp)
      simp only [execOp, Sem.run_bind]
      rw [hr2]; simp
    · intro N ρ' b hb hρ
      have := VR.sl (N := N) (ρ := ρ') b 0 len len true n len hb (Nat.le_refl _) (Nat.le_refl _) (fun _ => rfl) (fun _ => by rw [hρ]; simp; omega)
      simpa [alr, rA, hρ] using this
  · simp only [alc] at hal
    have hlv := cX_VR hx hops
    have hcl := sameX_eval (a := a) hx hy hcond.1
    unfold mksC at hal
    split at hal
    · rename_i m hm
      rw [hm] at hlv
      split at hal
      · rename_i hms
        cases hal
        obtain ⟨h0, h1, h2⟩ := hms
        obtain ⟨it, zv, hit, hzv, hzz⟩ := zeroOf_info (P := P) (ρ := ρ) (N := H.size) hz
        have hb : it.bytes = by_ := by unfold byOf at hby; rw [hit] at hby; simpa using hby
        have hs : it.size = n := by obtain ⟨j, hj, rfl⟩ := szOf_info hn; rw [hit] at hj; cases hj; rfl
        have hv := zeros_VRL (len := m.toNat) hzz hcond.2.1 hcond.2.2
        have hu' : a.eval l = .int .i64 m := by
          generalize a.eval l = q at hlv
          cases hlv; rfl
        unfold mostCells at h1 h2
        have hb' : (it.bytes : Int) * m ≤ 281474976710656 := by
          rw [hb]
          obtain ⟨k, rfl⟩ := Int.eq_ofNat_of_zero_le h0
          simp only [Int.toNat_natCast] at h1 h2
          have : ((by_ : Int) * (k : Int)) = ((k * by_ : Nat) : Int) := by push_cast; rw [Int.mul_comm]
          rw [this]; omega
        have hrun := run_make (P := P) (w := w) t e0 it zv hu hit hzv .i64 .i64 m m h0 (Int.le_refl _) hb' (by omega)
        rw [hs] at hrun
        refine ⟨.slice (some ⟨w.heap.size, 0, none⟩) m.toNat m.toNat, madeCells zv.cells (m.toNat * n), e0, ?_, ?_, rfl, by rw [zeros_length, hcond.2.1, size_madeCells]; exact Nat.le_refl _, hv⟩
        · simp only [execOp]
          rw [hcl, hu']
          simp only [Sem.run_bind]
          rw [hrun]; simp
        · intro N ρ' b hb2 hρ
          have hszm : (madeCells zv.cells (m.toNat * n)).size = m.toNat * n := size_madeCells ..
          have := VR.sl (N := N) (ρ := ρ') b 0 m.toNat m.toNat true z.length m.toNat hb2 (Nat.le_refl _) (Nat.le_refl _) (fun _ => rfl) (fun _ => by rw [hρ]; simp [hszm, hcond.2.1])
          simpa [alr, hm, lenA, rA, hρ] using this
      · cases hal
    · cases hal
theorem alOk_parts {i : Nat} (h : alOk (Region.before ops) gl i = true) {k t : Nat} (hk : k < gl.length) (hd : (gAt gl k).dst = some t) (ht : t ∈ (gAt gl i).names) : isBef (Region.before ops) k i = true ∧ (gAt gl k).op.isAlloc = false := by
  unfold alOk at h
  rw [List.all_eq_true] at h
  have := h k (by simp [rng, hk])
  rw [hd] at this
  simpa [ht] using this
theorem DI.alnames (h : DI w0 nt ops gl s0 pre D e H ρ a w) (hlen : gl.length = ops.size) {i : Nat} {o : Oper} (ho : ops[i]? = some o) (hr : ∀ ed ∈ o.after.toList, Region.binds .any ed = true → D.getD ed.on false = true)
    (hal : alOk (Region.before ops) gl i = true) : OpsR H.size ρ (gAt gl i).names e a := by
  intro t ht
  refine h.val t fun j hj hdt => ?_
  obtain ⟨h1, h2⟩ := alOk_parts hal (by omega) hdt ht
  have hD := preds_done h ho hr j h1
  refine ⟨fun _ => hD, fun _ => ?_⟩
  by_cases hjp : j ∈ pre
  · exact hjp
  · obtain ⟨_, _, d, n, t', cs, u, h3, _⟩ := h.fin j hj hD hjp
    rw [h2] at h3; cases h3
theorem DI.early (h : DI w0 nt ops gl s0 pre D e H ρ a w) (hgl : cGs P nt ops ops.toList = some gl) {i : Nat} {o : Oper} (ho : ops[i]? = some o) (hip : i ∉ pre) (hDi : D.getD i false = false)
    (hr : ∀ ed ∈ o.after.toList, Region.binds .any ed = true → D.getD ed.on false = true) (hop : (gAt gl i).op.isAlloc = true) (hgn : (gAt gl i).g = none) (hds : (gAt gl i).dst.isSome = true)
    (hov : ovr (Region.before ops) gl i = false) (hok : alOk (Region.before ops) gl i = true) (hal : (alc e (gAt gl i).op).isSome = true)
    {Q : Exit → Act → World → Prop} {next : Act → World → Prop} (hn : ∀ a' w', DI w0 nt ops gl s0 pre (D.setIfInBounds i true) e H ρ a' w' → next a' w') : wpOp P ops Q i next a w := by
  have hlt : i < ops.size := (Array.getElem?_eq_some_iff.1 ho).1
  have hlen := gl_len hgl
  have hcl := shut_set h.dcl ho hr
  obtain ⟨d, hd⟩ := Option.isSome_iff_exists.1 hds
  have hdnt : d < nt := by have := (cG_parts (gl_at hgl ho)).2.2.2; rw [hd] at this; simpa [dstOk] using this
  obtain ⟨hc, hgd, hdst, hdok⟩ := cG_parts (gl_at hgl ho)
  obtain ⟨c0, hc0⟩ := Option.isSome_iff_exists.1 hal
  have hnames := h.alnames hlen ho hr hok
  obtain ⟨u, cs, t, hrun, hu, hbk, hcl0, hvl⟩ := al_run (w := w) (cOpG_alloc hc hop) hop (hnames.sub fun t ht => by simp [GOp.names, ht]) hc0
  have hog : o.guard = none := by
    rw [hgn] at hgd
    cases hgo : o.guard with
    | none => rfl
    | some p => obtain ⟨j, b⟩ := p; rw [hgo] at hgd; simp only [cGuard] at hgd; split at hgd <;> cases hgd
  have hfr : ∀ b, b < H.size → H.isRw b = true → (ρ b).blk ≠ w.heap.size := fun b hb _ e1 => by have := h.hi.bound b hb; omega
  have hdi : DI w0 nt ops gl s0 pre (D.setIfInBounds i true) e H ρ (a.put (some d) u) (w.alloc (.cells cs t)) := by
    refine ⟨h.hi.grow _, h.ev.trans (Evol.grow _ _ _ _), h.low, size_put.trans h.tsz, defers_put.trans h.dfr, by simpa using h.dsz, hcl, h.pcl, h.plt, ?_, ?_, ?_, ?_⟩
    · intro j hj hDj
      have : j ≠ i := fun e1 => hip (e1 ▸ hj)
      rw [getD_set_off this] at hDj
      exact h.ein j hj hDj
    · intro j hj hDj hjp
      by_cases hji : j = i
      · subst hji
        refine ⟨hov, hok, d, w.heap.size, t, cs, u, hop, hgn, hd, getD_put_same (by rw [h.tsz]; exact hdnt), hbk, h.ev.wsize, by show (w.heap.push _)[w.heap.size]? = _; simp, fun _ _ => hu, fun c hc' => ?_, hfr⟩
        rw [hc0] at hc'; cases hc'
        exact ⟨hcl0, hvl⟩
      · rw [getD_set_off hji] at hDj
        obtain ⟨hovj, hoj, d', n, t', cs', u', h1, h2, h3, h4, hbk', h5, h6, h7, h8, h9⟩ := h.fin j hj hDj hjp
        have hdne : (some d : Option Nat) ≠ some d' := by rw [← hd]; exact ((not_ovr hovj (by omega) h3).2 i (by omega) (fun e => hji e.symm)).1
        have hnlt : n < w.heap.size := (Array.getElem?_eq_some_iff.1 h6).1
        exact ⟨hovj, hoj, d', n, t', cs', u', h1, h2, h3, by rw [getD_put_dst hdne]; exact h4, hbk', h5, (Below.heap_alloc _ _ _ hnlt).trans h6, h7, h8, h9⟩
    · intro j k hj hk hDj hjp hDk hkp hjk dj dk h1 h2
      have key : ∀ m, m < ops.size → (D.setIfInBounds i true).getD m false = true → m ∉ pre → m ≠ i → ∀ dm, (gAt gl m).dst = some dm → (a.put (some d) u).tmps.getD dm undef = a.tmps.getD dm undef ∧
          ∃ n, n < w.heap.size ∧ blkOf (a.tmps.getD dm undef) = some n := by
        intro m hm hDm hmp hmi dm hdm
        rw [getD_set_off hmi] at hDm
        obtain ⟨hovj, hoj, d', n, t', cs', u', h1, h2, h3, h4, hbk', h5, h6, h7, h8, h9⟩ := h.fin m hm hDm hmp
        rw [hdm] at h3; cases h3
        have hdne : (some d : Option Nat) ≠ some dm := by rw [← hd]; exact ((not_ovr hovj (by omega) hdm).2 i (by omega) (fun e => hmi e.symm)).1
        exact ⟨getD_put_dst hdne, n, (Array.getElem?_eq_some_iff.1 h6).1, by rw [h4]; exact hbk'⟩
      by_cases hji : j = i
      · subst hji
        obtain rfl : dj = d := Option.some.inj (h1.symm.trans hd)
        obtain ⟨e1, n, hn1, e2⟩ := key k hk hDk hkp (fun e => hjk e.symm) dk h2
        rw [getD_put_same (by rw [h.tsz]; exact hdnt), e1, e2, hbk]
        intro e3; injection e3 with e3; omega
      · by_cases hki : k = i
        · subst hki
          obtain rfl : dk = d := Option.some.inj (h2.symm.trans hd)
          obtain ⟨e1, n, hn1, e2⟩ := key j hj hDj hjp hji dj h1
          rw [getD_put_same (by rw [h.tsz]; exact hdnt), e1, e2, hbk]
          intro e3; injection e3 with e3; omega
        · rw [(key j hj hDj hjp hji dj h1).1, (key k hk hDk hkp hki dk h2).1]
          rw [getD_set_off hji] at hDj
          rw [getD_set_off hki] at hDk
          exact h.fdi j k hj hk hDj hjp hDk hkp hjk dj dk h1 h2
    · intro t' ht
      have htd : t' ≠ d := by
        intro e1; subst e1
        have := ht i hlt hd
        rw [getD_set_at (by rw [h.dsz]; exact hlt)] at this
        exact hip (this.2 rfl)
      rw [getD_put_ne htd]
      refine h.val t' fun j hj hdt => ?_
      have := ht j hj hdt
      have hji : j ≠ i := by intro e1; rw [e1] at hdt; exact htd (Option.some.inj (hdt.symm.trans hd))
      rw [getD_set_off hji] at this
      exact this
  have hw : Region.wanted o (yielded ops a.tmps) = true := by simp [Region.wanted, hog]
  unfold wpOp
  simp only [ho]
  rw [if_pos hw]
  refine .inl ?_
  unfold Oper.wp
  rw [hrun, Oper.upon_value, ← hdst, hd]
  exact hn _ _ hdi
theorem drawAt_parts {bf : Array Nat} {i : Nat} {rs post : List Nat} (h : drawAt ops bf gl pre i rs post = true) :
    (∃ o, ops[i]? = some o ∧ ∀ ed ∈ o.after.toList, Region.binds .any ed = true → ed.on ∈ pre) ∧
    (((gAt gl i).op.quiet = false ∧ (gAt gl i).op.isAlloc = false) ∨ ovr bf gl i = true → ∀ j ∈ post, (gAt gl j).op.isAlloc = true ∨ isBef bf i j = true) ∧
    ((gAt gl i).op.isAlloc = true → (gAt gl i).g = none ∧ (gAt gl i).dst.isSome = true ∧ ovr bf gl i = false ∧ alOk bf gl i = true ∧ ∀ j ∈ post, (gAt gl j).op.isAlloc = true ∨ isBef bf i j = true) ∧
    (ovr bf gl i = true → ∀ j ∈ pre, isBef bf j i = true) ∧
    ((gAt gl i).op.quiet = true → (gAt gl i).dst.isSome = true) ∧
    ((gAt gl i).op.quiet = false → (gAt gl i).op.isAlloc = false → ∀ j ∈ pre, (gAt gl j).op.reads = true → isBef bf j i = false → j ∈ rs) ∧
    ((gAt gl i).op.quiet = false → (gAt gl i).op.isAlloc = false → ∀ j ∈ post, (gAt gl j).op.needs = true → isBef bf i j = false → j ∈ rs) := by
  unfold drawAt at h
  simp only [Bool.and_eq_true] at h
  obtain ⟨⟨⟨⟨⟨⟨h1, h2⟩, h3⟩, h4⟩, h5⟩, h6⟩, h7⟩ := h
  refine ⟨?_, ?_, ?_, ?_, ?_, ?_, ?_⟩
  · split at h1
    · rename_i o ho
      refine ⟨o, ho, fun ed hed hb => ?_⟩
      have := Array.all_eq_true_iff_forall_mem.1 h1 ed (by simpa using hed)
      simpa [hb] using this
    · cases h1
  · intro hb j hj
    simp only [Bool.or_eq_true, Bool.not_eq_true', List.all_eq_true] at h2
    rcases h2 with h2 | h2
    · rcases hb with ⟨hb1, hb2⟩ | hb <;> simp_all
    · exact h2 j hj
  · intro ha
    simp only [ha, Bool.not_true, Bool.false_or, Bool.and_eq_true, List.all_eq_true, Bool.or_eq_true, Bool.not_eq_true'] at h3
    exact ⟨by have := h3.1.1.1.1; simpa using this, h3.1.1.1.2, h3.1.1.2, h3.1.2, h3.2⟩
  · intro ho j hj
    simp only [ho, Bool.not_true, Bool.false_or, List.all_eq_true] at h4
    exact h4 j hj
  · intro hq
    simpa [hq] using h5
  · intro hq ha j hj hr hb
    simp only [hq, ha, Bool.or_self, Bool.false_or, List.all_eq_true] at h6
    have := h6 j hj
    simpa [hr, hb] using this
  · intro hq ha j hj hr hb
    simp only [hq, ha, Bool.or_self, Bool.false_or, List.all_eq_true] at h7
    have := h7 j hj
    simpa [hr, hb] using this
theorem shut_cons {i : Nat} {o : Oper} (h : Shut ops (· ∈ pre)) (ho : ops[i]? = some o) (hr : ∀ ed ∈ o.after.toList, Region.binds .any ed = true → ed.on ∈ pre) : Shut ops (· ∈ i :: pre) := by
  intro j hj oj hoj ed hed hb
  rcases List.mem_cons.1 hj with rfl | hj
  · rw [ho] at hoj; cases hoj
    exact List.mem_cons_of_mem _ (hr ed hed hb)
  · exact List.mem_cons_of_mem _ (h j hj oj hoj ed hed hb)
theorem keep_gq (h : DI w0 nt ops gl s0 pre D e H ρ a w) (hlen : gl.length = ops.size) {i : Nat} (hlt : i < ops.size) (hip : i ∉ pre) (hov : ovr (Region.before ops) gl i = false) {v : AV} {k : Nat} (hk : k ∈ pre) (hDk : D.getD k false = false) :
    ∃ d, (gAt gl k).dst = some d ∧ gq (gAt gl k) (putE e (gAt gl i).dst v) H = some (e d) ∧ putE e (gAt gl i).dst v d = e d ∧ ∀ t ∈ (gAt gl k).names, putE e (gAt gl i).dst v t = e t := by
  obtain ⟨hq, hovk, d, hd, hg⟩ := h.ein k hk hDk
  have hki : k ≠ i := fun e1 => hip (e1 ▸ hk)
  have key : ∀ t ∈ (gAt gl k).names, putE e (gAt gl i).dst v t = e t := by
    intro t ht
    refine putE_ne fun hd' => ?_
    have := ((not_ovr hov (by omega) hd').2 k (by have := h.plt k hk; omega) hki).2 ht
    exact hip (h.pcl.bef k i hk this)
  have hde : putE e (gAt gl i).dst v d = e d := putE_ne fun hd' => by
    have := ((not_ovr hov (by omega) hd').2 k (by have := h.plt k hk; omega) hki).1
    exact this hd
  exact ⟨d, hd, by rw [gq_congr key]; exact hg, hde, key⟩
theorem DI.ahead (hgl : cGs P nt ops ops.toList = some gl) {K : Env → Heap → Prop} {tail : List (Nat × List Nat)} : ∀ (l1 : List (Nat × List Nat)) (pre : List Nat) (e : Env) (H : Heap) (ρ : Nat → BI),
    DI w0 nt ops gl s0 pre D e H ρ a w → drawGo ops (Region.before ops) gl pre (l1 ++ tail) = true → wpD P gl (l1 ++ tail) K e H →
    (∀ p ∈ l1, ((gAt gl p.1).op.quiet = true ∧ ovr (Region.before ops) gl p.1 = false ∧ D.getD p.1 false = false) ∨ ((gAt gl p.1).op.isAlloc = true ∧ D.getD p.1 false = true)) →
    ∃ pre' e' H' ρ', DI w0 nt ops gl s0 pre' D e' H' ρ' a w ∧ drawGo ops (Region.before ops) gl pre' tail = true ∧ wpD P gl tail K e' H' ∧ (∀ j, j ∈ pre' ↔ j ∈ pre ∨ j ∈ l1.map (·.1))
  | [], pre, e, H, ρ, h, hg, hw, hl => ⟨pre, e, H, ρ, h, hg, hw, by simp⟩
  | (i, rs) :: t, pre, e, H, ρ, h, hg, hw, hl => by
    have hlen := gl_len hgl
    simp only [List.cons_append, drawGo, Bool.and_eq_true, Bool.not_eq_true'] at hg
    obtain ⟨⟨hat, hnp⟩, hrest⟩ := hg
    have hip : i ∉ pre := by simpa using hnp
    obtain ⟨⟨o, ho, hpr⟩, hbar, hal, hovp, hqd, _⟩ := drawAt_parts hat
    have hlt : i < ops.size := (Array.getElem?_eq_some_iff.1 ho).1
    have hcl := shut_cons h.pcl ho hpr
    have hplt : ∀ j, j ∈ i :: pre → j < ops.size := fun j hj => by
      rcases List.mem_cons.1 hj with rfl | hj
      · exact hlt
      · exact h.plt j hj
    simp only [List.cons_append, wpD] at hw
    have fin : ∀ e1 H1 ρ1, DI w0 nt ops gl s0 (i :: pre) D e1 H1 ρ1 a w → wpD P gl (t ++ tail) K e1 H1 →
        ∃ pre' e' H' ρ', DI w0 nt ops gl s0 pre' D e' H' ρ' a w ∧ drawGo ops (Region.before ops) gl pre' tail = true ∧ wpD P gl tail K e' H' ∧ (∀ j, j ∈ pre' ↔ j ∈ pre ∨ j ∈ ((i, rs) :: t).map (·.1)) := by
      intro e1 H1 ρ1 h1 hw1
      obtain ⟨pre', e', H', ρ', q1, q2, q3, q4⟩ := DI.ahead hgl t (i :: pre) e1 H1 ρ1 h1 hrest hw1 (fun p hp => hl p (List.mem_cons_of_mem _ hp))
      refine ⟨pre', e', H', ρ', q1, q2, q3, fun j => ?_⟩
      rw [q4]; simp only [List.mem_cons, List.map_cons]
      constructor
      · rintro ((rfl | h) | h)
        · exact .inr (.inl rfl)
        · exact .inl h
        · exact .inr (.inr h)
      · rintro (h | rfl | h)
        · exact .inl (.inr h)
        · exact .inl (.inl rfl)
        · exact .inr h
    rcases hl (i, rs) (by simp) with ⟨hq, hov, hDi⟩ | ⟨ha, hDi⟩
    · simp only at hq hov hDi
      obtain ⟨v, hgq, hcase⟩ := gWant_gq hq hw.2
      obtain ⟨d, hd⟩ := Option.isSome_iff_exists.1 (hqd hq)
      have hno := not_ovr hov (by omega) hd
      have hw1 : wpD P gl (t ++ tail) K (putE e (gAt gl i).dst v) H := by
        rcases hcase with ⟨_, h2⟩ | ⟨rfl, h2⟩
        · exact h2
        · exact h2
      refine fin _ _ _ ⟨h.hi, h.ev, h.low, h.tsz, h.dfr, h.dsz, h.dcl, hcl, hplt, ?_, ?_, ?_, ?_⟩ hw1
      · intro k hk hDk
        rcases List.mem_cons.1 hk with rfl | hk
        · refine ⟨hq, hov, d, hd, ?_⟩
          rw [gq_congr (e' := e) (fun t ht => putE_ne fun e1 => by rw [hd] at e1; cases e1; exact hno.1 ht), hgq, hd, putE_same]
        · obtain ⟨d', h1, h2, h3, _⟩ := keep_gq h hlen hlt hip hov (v := v) hk hDk
          exact ⟨(h.ein k hk hDk).1, (h.ein k hk hDk).2.1, d', h1, by rw [h2, h3]⟩
      · intro j hj hDj hjp
        have hji : j ≠ i := fun e1 => hjp (by rw [e1]; simp)
        obtain ⟨hovj, hoj, d', n', t', cs', u', h1, h2, h3, h4, hbk', h5, h6, h7, h8, h9⟩ := h.fin j hj hDj (fun hm => hjp (List.mem_cons_of_mem _ hm))
        have hcg : ∀ t ∈ (gAt gl j).op.tmps, putE e (gAt gl i).dst v t = e t := fun t ht => putE_ne fun hdt => by
          have h10 := h.dcl.bef j i hDj (alOk_parts hoj (by omega) hdt (by simp [GOp.names, ht])).1
          rw [hDi] at h10; cases h10
        refine ⟨hovj, hoj, d', n', t', cs', u', h1, h2, h3, h4, hbk', h5, h6, fun c' hc' => ?_, fun c' hc' => ?_, h9⟩
        · rw [alc_congr (e := e) hcg] at hc'
          intro N ρ' b q1 q2
          rw [alr_congr (e := e) hcg]
          exact h7 c' hc' N ρ' b q1 q2
        rw [alc_congr (e := e) hcg] at hc'
        exact h8 c' hc'
      · intro j k hj hk hDj hjp hDk hkp
        exact h.fdi j k hj hk hDj (fun hm => hjp (List.mem_cons_of_mem _ hm)) hDk (fun hm => hkp (List.mem_cons_of_mem _ hm))
      · intro t' ht
        have htd : t' ≠ d := by
          intro e1; subst e1
          have := (ht i hlt hd).1 (by simp)
          rw [hDi] at this; cases this
        rw [putE_ne (by rw [hd]; intro e1; cases e1; exact htd rfl)]
        refine h.val t' fun j hj hdt => ?_
        have := ht j hj hdt
        have hji : j ≠ i := by intro e1; rw [e1] at hdt; exact htd (Option.some.inj (hdt.symm.trans hd))
        simpa [hji] using this
    · simp only at ha hDi
      obtain ⟨hgn, hds, hov, hok, _⟩ := hal ha
      obtain ⟨_, _, d, n, ty, cs, u, _, _, hd, hptr, hbk, hns, hhp, hzv, hzc, hfr⟩ := h.fin i hlt hDi hip
      have hno := not_ovr hov (by omega) hd
      rw [hgn] at hw
      simp only [gWant] at hw
      obtain ⟨c, hcc, _, hw1⟩ := al_step ha hw.2
      obtain ⟨hcl0, hvl⟩ := hzc c hcc
      obtain ⟨hi1, hag⟩ := h.hi.adopt c n cs ty (Nat.le_trans h.low hns) hhp hcl0 (fun j x v hx hv => hvl.2 j x v hx (by rw [Array.getElem?_toList]; exact hv)) hfr
      have hsz : H.size ≤ (H.alloc c).size := Nat.le_succ _
      refine fin _ _ _ ⟨hi1, ?_, h.low, h.tsz, h.dfr, h.dsz, h.dcl, hcl, hplt, ?_, ?_, ?_, ?_⟩ hw1
      · refine ⟨Nat.le_trans h.ev.size hsz, h.ev.agree.trans hag h.ev.size, h.ev.wsize, h.ev.keep, fun b hb hr => ?_, h.ev.mono⟩
        by_cases hbn : b = H.size
        · subst hbn; rw [updB_same]; exact .inl hns
        · have hlt' : b < H.size := by have : b < H.size + 1 := hb; omega
          rw [hag b hlt']
          exact h.ev.img b hlt' (by rw [← Heap.put_isRw_old H (.cells c true) hlt']; exact hr)
      · intro k hk hDk
        rcases List.mem_cons.1 hk with rfl | hk
        · rw [hDi] at hDk; cases hDk
        · obtain ⟨d', h1, h2, h3, _⟩ := keep_gq h hlen hlt hip hov (v := alr e H.size (gAt gl i).op) hk hDk
          exact ⟨(h.ein k hk hDk).1, (h.ein k hk hDk).2.1, d', h1, by rw [h3]; exact gq_ext (Ext.alloc H c) h2⟩
      · intro j hj hDj hjp
        have hji : j ≠ i := fun e1 => hjp (by rw [e1]; simp)
        have hjp' : j ∉ pre := fun hm => hjp (List.mem_cons_of_mem _ hm)
        obtain ⟨hovj, hoj, d', n', t', cs', u', h1, h2, h3, h4, hbk', h5, h6, h7, h8, h9⟩ := h.fin j hj hDj hjp'
        have hcg : ∀ t ∈ (gAt gl j).op.tmps, putE e (gAt gl i).dst (alr e H.size (gAt gl i).op) t = e t := fun t ht => putE_ne fun hdt => by
          have := (alOk_parts hoj (by omega) hdt (by simp [GOp.names, ht])).2
          rw [ha] at this; cases this
        refine ⟨hovj, hoj, d', n', t', cs', u', h1, h2, h3, h4, hbk', h5, h6, fun c' hc' => ?_, fun c' hc' => ?_, fun b hb hr => ?_⟩
        · rw [alc_congr (e := e) hcg] at hc'
          intro N ρ' b q1 q2
          rw [alr_congr (e := e) hcg]
          exact h7 c' hc' N ρ' b q1 q2
        · rw [alc_congr (e := e) hcg] at hc'
          exact ⟨(h8 c' hc').1, (h8 c' hc').2.mono hsz hag⟩
        by_cases hbn : b = H.size
        · subst hbn; rw [updB_same]
          intro e1
          have := h.fdi i j hlt hj hDi hip hDj hjp' (fun e => hji e.symm) d d' hd h3
          rw [hptr, h4, hbk, hbk'] at this
          exact this (by simp only at e1; rw [e1])
        · have hlt' : b < H.size := by have : b < H.size + 1 := hb; omega
          rw [hag b hlt']
          exact h9 b hlt' (by rw [← Heap.put_isRw_old H (.cells c true) hlt']; exact hr)
      · intro j k hj hk hDj hjp hDk hkp
        exact h.fdi j k hj hk hDj (fun hm => hjp (List.mem_cons_of_mem _ hm)) hDk (fun hm => hkp (List.mem_cons_of_mem _ hm))
      · intro t' ht
        by_cases htd : t' = d
        · subst htd
          rw [hd, putE_same, hptr]
          exact hzv c hcc _ _ H.size (Nat.lt_succ_self _) (by rw [updB_same])
        · rw [putE_ne (by rw [hd]; intro e1; cases e1; exact htd rfl)]
          refine (h.val t' fun j hj hdt => ?_).mono hsz hag
          have := ht j hj hdt
          have hji : j ≠ i := by intro e1; rw [e1] at hdt; exact htd (Option.some.inj (hdt.symm.trans hd))
          simpa [hji] using this
end
end Go.M2

namespace Go.M2
open Go.RowKit (Below)
section
variable {P : Program} {w0 : World} {nt : Nat} {ops : Array Oper} {gl : List GOp} {s0 : St} {pre : List Nat} {D : Array Bool} {e : Env} {H : Heap} {ρ : Nat → BI} {a : Act} {w : World}
theorem chkAll_mem : ∀ {rs : List Nat} {e : Env} {H : Heap}, chkAll gl rs e H → ∀ j ∈ rs, (gAt gl j).op.quiet = true → ∀ d, (gAt gl j).dst = some d → gq (gAt gl j) e H = some (e d)
  | [], e, H, h, j, hj, hq, d, hd => by cases hj
  | i :: t, e, H, h, j, hj, hq, d, hd => by
    simp only [chkAll] at h
    rcases List.mem_cons.1 hj with rfl | hj
    · have := h.1; rw [if_pos hq, hd] at this; exact this
    · exact chkAll_mem h.2 j hj hq d hd
theorem preAll_mem : ∀ {rs : List Nat} {e : Env}, preAll gl rs e → ∀ j ∈ rs, (gAt gl j).op.quiet = false → (alc e (gAt gl j).op).isSome = true
  | [], e, h, j, hj, hq => by cases hj
  | i :: t, e, h, j, hj, hq => by
    simp only [preAll] at h
    rcases List.mem_cons.1 hj with rfl | hj
    · have := h.1; rw [if_neg (by simp [hq])] at this; exact this
    · exact preAll_mem h.2 j hj hq
theorem alc_ahead {K : Env → Heap → Prop} {i : Nat} {rs : List Nat} {l2 : List (Nat × List Nat)} (ha : (gAt gl i).op.isAlloc = true) : ∀ (l1 : List (Nat × List Nat)) (pre : List Nat) (e : Env) (H : Heap),
    drawGo ops (Region.before ops) gl pre (l1 ++ (i, rs) :: l2) = true → wpD P gl (l1 ++ (i, rs) :: l2) K e H →
    (∀ p ∈ l1, (∀ d, (gAt gl p.1).dst = some d → d ∉ (gAt gl i).op.tmps) ∧ ((gAt gl p.1).op.quiet = false → (gAt gl p.1).op.isAlloc = false → isBef (Region.before ops) p.1 i = false)) → (alc e (gAt gl i).op).isSome = true
  | [], pre, e, H, hg, hw, hl => by
    simp only [List.nil_append, drawGo, Bool.and_eq_true] at hg
    obtain ⟨_, _, hal, _⟩ := drawAt_parts hg.1.1
    simp only [List.nil_append, wpD] at hw
    rw [(hal ha).1] at hw
    simp only [gWant] at hw
    obtain ⟨c, hc, _⟩ := al_step ha hw.2
    rw [hc]; rfl
  | (k, rk) :: t, pre, e, H, hg, hw, hl => by
    simp only [List.cons_append, drawGo, Bool.and_eq_true] at hg
    obtain ⟨_, _, hal, _, _, _, hne⟩ := drawAt_parts hg.1.1
    simp only [List.cons_append, wpD] at hw
    obtain ⟨hd, hb⟩ := hl (k, rk) (by simp)
    have go : ∀ v H', wpD P gl (t ++ (i, rs) :: l2) K (putE e (gAt gl k).dst v) H' → (alc e (gAt gl i).op).isSome = true := by
      intro v H' h
      have := alc_ahead ha t (k :: pre) _ H' hg.2 h (fun p hp => hl p (List.mem_cons_of_mem _ hp))
      rw [alc_congr (e := e) (fun t' ht => putE_ne fun hdt => hd t' hdt ht)] at this
      exact this
    by_cases hq : (gAt gl k).op.quiet = true
    · obtain ⟨v, _, hcase⟩ := gWant_gq hq hw.2
      rcases hcase with ⟨_, h2⟩ | ⟨rfl, h2⟩
      · exact go _ _ h2
      · exact go _ _ h2
    · by_cases hka : (gAt gl k).op.isAlloc = true
      · rw [(hal hka).1] at hw
        simp only [gWant] at hw
        obtain ⟨c, _, _, h2⟩ := al_step hka hw.2
        exact go _ _ h2
      · have hq' : (gAt gl k).op.quiet = false := by simpa using hq
        have hka' : (gAt gl k).op.isAlloc = false := by simpa using hka
        by_cases hn : (gAt gl i).op.needs = true
        · refine preAll_mem hw.1 i (hne hq' hka' i (by simp) hn (hb hq' hka')) ?_
          cases hop : (gAt gl i).op <;> rw [hop] at hn <;> first | rfl | cases hn
        · cases hop : (gAt gl i).op <;> rw [hop] at ha hn <;> first | rfl | cases ha; done | exact absurd rfl hn
theorem stepL_same {q : IOp} {K : AV → Heap → Prop} (h : stepL P q e H K) : stepL P q e H (fun v H' => (q.quiet = true → H' = H) ∧ K v H') := by
  by_cases hq : q.quiet = true
  · rw [quiet_step hq] at h ⊢
    unfold optP at h ⊢
    split at h
    · exact ⟨fun _ => rfl, h⟩
    · exact h.elim
  · have : (fun v H' => (q.quiet = true → H' = H) ∧ K v H') = K := by funext v H'; simp [hq]
    rw [this]; exact h
theorem gWant_same {g : GOp} {A : AV → Heap → Prop} {B : Prop} (h : gWant g.g e (stepL P g.op e H A) B) : gWant g.g e (stepL P g.op e H (fun v H' => (g.op.quiet = true → H' = H) ∧ A v H')) B := by
  unfold gWant at h ⊢
  split at h
  · exact stepL_same h
  · split at h
    · split at h
      · rename_i hb; rw [if_pos hb]; exact stepL_same h
      · rename_i hb; rw [if_neg hb]; exact h
    · exact h
    · exact h.elim
theorem DI.both (h : DI w0 nt ops gl s0 pre D e H ρ a w) (hgl : cGs P nt ops ops.toList = some gl) {i : Nat} {o : Oper} {rs : List Nat} {rest : List (Nat × List Nat)} (ho : ops[i]? = some o) (hDi : D.getD i false = false)
    (hr : ∀ ed ∈ o.after.toList, Region.binds .any ed = true → D.getD ed.on false = true) (hna : (gAt gl i).op.isAlloc = false) {K : Env → Heap → Prop}
    (hg : drawGo ops (Region.before ops) gl pre ((i, rs) :: rest) = true) (hw : wpD P gl ((i, rs) :: rest) K e H)
    {Q : Exit → Act → World → Prop} {next : Act → World → Prop}
    (hn : ∀ e' H' ρ' a' w', DI w0 nt ops gl s0 (i :: pre) (D.setIfInBounds i true) e' H' ρ' a' w' → drawGo ops (Region.before ops) gl (i :: pre) rest = true → wpD P gl rest K e' H' → next a' w') : wpOp P ops Q i next a w := by
  have hlen := gl_len hgl
  simp only [drawGo, Bool.and_eq_true, Bool.not_eq_true'] at hg
  obtain ⟨⟨hat, hnp⟩, hrest⟩ := hg
  have hip : i ∉ pre := by simpa using hnp
  obtain ⟨⟨o', ho', hpr⟩, hbar, _, hovp, hqd, hrs, _⟩ := drawAt_parts hat
  rw [ho] at ho'; cases ho'
  have hlt : i < ops.size := (Array.getElem?_eq_some_iff.1 ho).1
  have hpc := shut_cons h.pcl ho hpr
  have hdc := shut_set h.dcl ho hr
  have hbefp : ∀ k, isBef (Region.before ops) k i = true → k ∈ pre := by
    intro k hk
    have := hpc.bef i k (by simp) hk
    rcases List.mem_cons.1 this with rfl | h1
    · exfalso
      obtain ⟨o2, ed, q1, q2, q3, q4⟩ := before_spec hk
      rw [ho] at q1; cases q1
      have h2 := hpr ed q2 q3
      rcases q4 with q4 | ⟨_, q5⟩
      · exact hip (q4 ▸ h2)
      · exact hip (h.pcl.bef ed.on k h2 q5)
    · exact h1
  have hplt : ∀ j, j ∈ i :: pre → j < ops.size := fun j hj => by
    rcases List.mem_cons.1 hj with rfl | hj
    · exact hlt
    · exact h.plt j hj
  have hnames := h.names hgl hlt hbefp (preds_done h ho hr) hDi (fun hm => absurd hm hip)
  have hdst0 := (cG_parts (gl_at hgl ho)).2.2.2
  have fin : ∀ u w' v H' ρ', VR H'.size ρ' v u → Evol ρ H w ρ' H' w' → HI w0 ρ' H' w' →
      (∀ k, k ∈ pre → D.getD k false = false → ovr (Region.before ops) gl i = false → ∃ d, (gAt gl k).dst = some d ∧ gq (gAt gl k) (putE e (gAt gl i).dst v) H' = some (putE e (gAt gl i).dst v d)) →
      wpD P gl rest K (putE e (gAt gl i).dst v) H' → next (a.put (gAt gl i).dst u) w' := by
    intro u w' v H' ρ' hv hev hi' hck hw'
    refine hn _ H' ρ' _ w' ⟨hi', h.ev.trans hev, h.low, size_put.trans h.tsz, defers_put.trans h.dfr, by simpa using h.dsz, hdc, hpc, hplt, ?_, ?_, ?_, ?_⟩ hrest hw'
    · intro k hk hDk
      have hki : k ≠ i := by
        intro e1; subst e1; rw [getD_set_at (by rw [h.dsz]; exact hlt)] at hDk; cases hDk
      rw [getD_set_off hki] at hDk
      have hkp : k ∈ pre := by
        rcases List.mem_cons.1 hk with e1 | hk
        · exact absurd e1 hki
        · exact hk
      have hovi : ovr (Region.before ops) gl i = false := by
        cases hov : ovr (Region.before ops) gl i with
        | false => rfl
        | true =>
          have := preds_done h ho hr k (hovp hov k hkp)
          rw [hDk] at this; cases this
      obtain ⟨d, h1, h2⟩ := hck k hkp hDk hovi
      exact ⟨(h.ein k hkp hDk).1, (h.ein k hkp hDk).2.1, d, h1, h2⟩
    · intro j hj hDj hjp
      have hji : j ≠ i := fun e1 => hjp (by rw [e1]; simp)
      have hjp' : j ∉ pre := fun hm => hjp (List.mem_cons_of_mem _ hm)
      rw [getD_set_off hji] at hDj
      obtain ⟨hovj, hoj, d', n, t, cs, u', h1, h2, h3, h4, hbk', h5, h6, h7, h8, h9⟩ := h.fin j hj hDj hjp'
      have hdne : (gAt gl i).dst ≠ some d' := ((not_ovr hovj (by omega) h3).2 i (by omega) (fun e => hji e.symm)).1
      have hnlt : n < w.heap.size := (Array.getElem?_eq_some_iff.1 h6).1
      refine ⟨hovj, hoj, d', n, t, cs, u', h1, h2, h3, by rw [getD_put_dst hdne]; exact h4, hbk', h5, (hev.keep n hnlt (fun b hb hr => h9 b hb hr)).trans h6, fun c hc => ?_, fun c hc => ?_, fun b hb hrw e1 => ?_⟩
      · have hcg : ∀ t ∈ (gAt gl j).op.tmps, putE e (gAt gl i).dst v t = e t := fun t ht => putE_ne fun hdt => by
          have h10 := h.dcl.bef j i hDj (alOk_parts hoj (by omega) hdt (by simp [GOp.names, ht])).1
          rw [hDi] at h10; cases h10
        rw [alc_congr (e := e) hcg] at hc
        intro N ρ'' b q1 q2
        rw [alr_congr (e := e) hcg]
        exact h7 c hc N ρ'' b q1 q2
      · rw [alc_congr (e := e) (fun t ht => putE_ne fun hdt => by
          have h10 := h.dcl.bef j i hDj (alOk_parts hoj (by omega) hdt (by simp [GOp.names, ht])).1
          rw [hDi] at h10; cases h10)] at hc
        exact ⟨(h8 c hc).1, (h8 c hc).2.mono hev.size hev.agree⟩
      rcases hev.img b hb hrw with h10 | ⟨b0, h10, h11, h12⟩
      · omega
      · exact h9 b0 h10 h11 (h12.trans e1)
    · intro j k hj hk hDj hjp hDk hkp hjk dj dk h1 h2
      have hji : j ≠ i := fun e1 => hjp (by rw [e1]; simp)
      have hki : k ≠ i := fun e1 => hkp (by rw [e1]; simp)
      have hjp' : j ∉ pre := fun hm => hjp (List.mem_cons_of_mem _ hm)
      have hkp' : k ∉ pre := fun hm => hkp (List.mem_cons_of_mem _ hm)
      rw [getD_set_off hji] at hDj
      rw [getD_set_off hki] at hDk
      rw [getD_put_dst ((not_ovr (h.fin j hj hDj hjp').1 (by omega) h1).2 i (by omega) (fun e => hji e.symm)).1, getD_put_dst ((not_ovr (h.fin k hk hDk hkp').1 (by omega) h2).2 i (by omega) (fun e => hki e.symm)).1]
      exact h.fdi j k hj hk hDj hjp' hDk hkp' hjk dj dk h1 h2
    · intro t ht
      by_cases htd : (gAt gl i).dst = some t
      · rw [htd] at hdst0 ⊢
        rw [putE_same, getD_put_same (by rw [h.tsz]; simpa [dstOk] using hdst0)]
        exact hv
      · rw [putE_ne htd, getD_put_dst htd]
        refine (h.val t fun j hj hdt => ?_).mono hev.size hev.agree
        have := ht j hj hdt
        have hji : j ≠ i := by intro e1; rw [e1] at hdt; exact htd hdt
        rw [getD_set_off hji] at this
        simpa [hji] using this
  simp only [wpD] at hw
  refine real_step hgl ho hnames h.hi (gWant_same hw.2) ?_ ?_
  · rintro u w' v H' ρ' hv hev hi' ⟨hsame, hck, hw'⟩
    refine fin u w' v H' ρ' hv hev hi' ?_ hw'
    intro k hk hDk hov
    obtain ⟨d, h1, h2, h3, h4⟩ := keep_gq h hlen hlt hip hov (v := v) hk hDk
    refine ⟨d, h1, ?_⟩
    by_cases hrd : (gAt gl k).op.reads = true
    · -- looked at again
      by_cases hq : (gAt gl i).op.quiet = true
      · rw [hsame hq, h2, h3]
      · have hin := hrs (by simpa using hq) hna k hk hrd (by
          cases hb : isBef (Region.before ops) k i with
          | false => rfl
          | true => have := preds_done h ho hr k hb; rw [hDk] at this; cases this)
        exact chkAll_mem hck k hin (h.ein k hk hDk).1 d h1
    · rw [gq_noread (H := H') (H' := H) (by simpa using hrd), h2, h3]
  · intro hw'
    refine fin undef w (.tup []) H ρ VR_und (Evol.refl _ _ _) h.hi ?_ hw'
    intro k hk hDk hov
    obtain ⟨d, h1, h2, h3, h4⟩ := keep_gq h hlen hlt hip hov (v := .tup []) hk hDk
    exact ⟨d, h1, by rw [h2, h3]⟩
def left (n : Nat) (D : Array Bool) : Nat := ((List.range n).filter fun i => !D.getD i false).length
theorem left_set {n i : Nat} {D : Array Bool} (hi : i < n) (hD : D.getD i false = false) (hs : i < D.size) : left n (D.setIfInBounds i true) + 1 ≤ left n D := by
  unfold left
  have key : ∀ l : List Nat, i ∈ l → ((l.filter fun j => !(D.setIfInBounds i true).getD j false).length) + 1 ≤ (l.filter fun j => !D.getD j false).length := by
    intro l
    induction l with
    | nil => intro h; cases h
    | cons x t ih =>
      intro h
      have hmono : ∀ l : List Nat, (l.filter fun j => !(D.setIfInBounds i true).getD j false).length ≤ (l.filter fun j => !D.getD j false).length := by
        intro l
        induction l with
        | nil => simp
        | cons y u ihu =>
          by_cases hy : y = i
          · subst hy
            rw [List.filter_cons_of_neg (by rw [getD_set_at hs]; simp), List.filter_cons_of_pos (by rw [hD]; rfl)]
            simp only [List.length_cons]; omega
          · by_cases hd : D.getD y false = true
            · rw [List.filter_cons_of_neg (by rw [getD_set_off hy, hd]; simp), List.filter_cons_of_neg (by rw [hd]; simp)]
              exact ihu
            · rw [List.filter_cons_of_pos (by rw [getD_set_off hy]; simpa using hd), List.filter_cons_of_pos (by simpa using hd)]
              simp only [List.length_cons]; omega
      by_cases hx : x = i
      · subst hx
        rw [List.filter_cons_of_neg (by rw [getD_set_at hs]; simp), List.filter_cons_of_pos (by rw [hD]; rfl)]
        have := hmono t
        simp only [List.length_cons]; omega
      · have ht : i ∈ t := by
          rcases List.mem_cons.1 h with e | h
          · exact absurd e.symm hx
          · exact h
        have := ih ht
        by_cases hd : D.getD x false = true
        · rw [List.filter_cons_of_neg (by rw [getD_set_off hx, hd]; simp), List.filter_cons_of_neg (by rw [hd]; simp)]
          exact this
        · rw [List.filter_cons_of_pos (by rw [getD_set_off hx]; simpa using hd), List.filter_cons_of_pos (by simpa using hd)]
          simp only [List.length_cons]; omega
  exact key _ (by simp [hi])
theorem left_zero {n : Nat} {D : Array Bool} (h : left n D = 0) : ∀ i, i < n → D.getD i false = true := by
  intro i hi
  unfold left at h
  have := List.eq_nil_of_length_eq_zero h
  rw [List.filter_eq_nil_iff] at this
  simpa using this i (by simp [hi])
theorem first_ready : ∀ (rest : List (Nat × List Nat)) (pre : List Nat), drawGo ops (Region.before ops) gl pre rest = true → (∀ j, j ∈ pre → D.getD j false = true) → (∃ p ∈ rest, D.getD p.1 false = false) →
    ∃ i o, ops[i]? = some o ∧ D.getD i false = false ∧ ∀ ed ∈ o.after.toList, Region.binds .any ed = true → D.getD ed.on false = true
  | [], pre, h, hp, ⟨p, hm, _⟩ => by cases hm
  | (i, rs) :: t, pre, h, hp, ⟨p, hm, hD⟩ => by
    simp only [drawGo, Bool.and_eq_true, Bool.not_eq_true'] at h
    obtain ⟨⟨hat, _⟩, hrest⟩ := h
    obtain ⟨⟨o, ho, hpr⟩, _⟩ := drawAt_parts hat
    by_cases hDi : D.getD i false = true
    · refine first_ready t (i :: pre) hrest (fun j hj => ?_) ?_
      · rcases List.mem_cons.1 hj with rfl | hj
        · exact hDi
        · exact hp j hj
      · rcases List.mem_cons.1 hm with rfl | hm
        · simp only at hD; rw [hDi] at hD; cases hD
        · exact ⟨p, hm, hD⟩
    · exact ⟨i, o, ho, by simpa using hDi, fun ed hed hb => hp _ (hpr ed hed hb)⟩
theorem getD_tf {D : Array Bool} {i : Nat} (h : i < D.size) : D.getD i true = D.getD i false := by simp [Array.getD, h]
theorem mem_ready' {i : Nat} : i ∈ Region.ready .any ops D ↔ D.getD i true = false ∧ ∃ o, ops[i]? = some o ∧ ∀ ed ∈ o.after.toList, Region.binds .any ed = true → D.getD ed.on false = true := by
  rw [mem_ready]
  simp
theorem go_ahead : ∀ (l1 : List (Nat × List Nat)) (pre : List Nat) {i : Nat} {rs : List Nat} {l2 : List (Nat × List Nat)}, drawGo ops (Region.before ops) gl pre (l1 ++ (i, rs) :: l2) = true →
    ∀ p ∈ l1, ((gAt gl p.1).op.quiet = false ∧ (gAt gl p.1).op.isAlloc = false ∨ ovr (Region.before ops) gl p.1 = true → (gAt gl i).op.isAlloc = true ∨ isBef (Region.before ops) p.1 i = true) ∧
      ((gAt gl p.1).op.isAlloc = true → (gAt gl i).op.isAlloc = true ∨ isBef (Region.before ops) p.1 i = true) ∧ p.1 ∉ pre ∧ ((gAt gl p.1).op.isAlloc = true → ovr (Region.before ops) gl p.1 = false)
  | [], pre, i, rs, l2, h, p, hp => by cases hp
  | (j, rj) :: t, pre, i, rs, l2, h, p, hp => by
    simp only [List.cons_append, drawGo, Bool.and_eq_true, Bool.not_eq_true'] at h
    obtain ⟨⟨hat, hnp⟩, hrest⟩ := h
    rcases List.mem_cons.1 hp with rfl | hp
    · obtain ⟨_, hbar, hal, _⟩ := drawAt_parts hat
      exact ⟨fun h => hbar h i (by simp), fun h => (hal h).2.2.2.2 i (by simp), by simpa using hnp, fun h => (hal h).2.2.1⟩
    · obtain ⟨h1, h2, h3, h4⟩ := go_ahead t (j :: pre) hrest p hp
      exact ⟨h1, h2, fun hm => h3 (List.mem_cons_of_mem _ hm), h4⟩
theorem go_drop : ∀ (l1 : List (Nat × List Nat)) (pre : List Nat) {l2 : List (Nat × List Nat)}, drawGo ops (Region.before ops) gl pre (l1 ++ l2) = true → ∃ pre', drawGo ops (Region.before ops) gl pre' l2 = true
  | [], pre, l2, h => ⟨pre, h⟩
  | (i, rs) :: t, pre, l2, h => by
    simp only [List.cons_append, drawGo, Bool.and_eq_true] at h
    exact go_drop t (i :: pre) h.2
theorem draw_sound (hgl : cGs P nt ops ops.toList = some gl) {full : List (Nat × List Nat)} (hfull : drawGo ops (Region.before ops) gl [] full = true) (hcf : ∀ i, i < ops.size → i ∈ full.map (·.1)) {K : Env → Heap → Prop} {Q : Exit → Act → World → Prop}
    (hQ : ∀ e' H' ρ' a' w', K e' H' → ER nt H'.size ρ' e' a' → Evol s0.ρ s0.H s0.w ρ' H' w' → HI w0 ρ' H' w' → Q .normal a' w') :
    ∀ (fuel : Nat) (D : Array Bool) (pre : List Nat) (rest : List (Nat × List Nat)) (e : Env) (H : Heap) (ρ : Nat → BI) (a : Act) (w : World), DI w0 nt ops gl s0 pre D e H ρ a w →
      drawGo ops (Region.before ops) gl pre rest = true → (∀ i, i < ops.size → i ∈ pre ∨ i ∈ rest.map (·.1)) → (∀ p ∈ rest, p.1 < ops.size) → wpD P gl rest K e H → left ops.size D ≤ fuel → wpAny P .any ops Q fuel D a w := by
  have hlen := gl_len hgl
  -- all is done in the world
  have done : ∀ (D : Array Bool) (pre : List Nat) (rest : List (Nat × List Nat)) (e : Env) (H : Heap) (ρ : Nat → BI) (a : Act) (w : World), DI w0 nt ops gl s0 pre D e H ρ a w →
      drawGo ops (Region.before ops) gl pre rest = true → (∀ p ∈ rest, p.1 < ops.size) → wpD P gl rest K e H → (∀ i, i < ops.size → D.getD i false = true) → (∀ i, i < ops.size → i ∈ pre ∨ i ∈ rest.map (·.1)) → Q .normal a w := by
    intro D pre rest e H ρ a w h hg hlt hw hall hcov
    have hgo := hg
    have key : ∀ p ∈ rest, ((gAt gl p.1).op.quiet = true ∧ ovr (Region.before ops) gl p.1 = false ∧ D.getD p.1 false = false) ∨ ((gAt gl p.1).op.isAlloc = true ∧ D.getD p.1 false = true) := by
      intro p hp
      refine .inr ⟨?_, hall p.1 (hlt p hp)⟩
      have hnp : p.1 ∉ pre := by
        have : ∀ (rest : List (Nat × List Nat)) (pre : List Nat), drawGo ops (Region.before ops) gl pre rest = true → ∀ p ∈ rest, p.1 ∉ pre := by
          intro rest
          induction rest with
          | nil => intro pre _ p hp; cases hp
          | cons q t ih =>
            intro pre h p hp
            obtain ⟨i, rs⟩ := q
            simp only [drawGo, Bool.and_eq_true, Bool.not_eq_true'] at h
            rcases List.mem_cons.1 hp with rfl | hp
            · simpa using h.1.2
            · exact fun hm => ih (i :: pre) h.2 p hp (List.mem_cons_of_mem _ hm)
        exact this rest pre hg p hp
      obtain ⟨_, _, d, n, t, cs, u, h1, _⟩ := h.fin p.1 (hlt p hp) (hall p.1 (hlt p hp)) hnp
      exact h1
    obtain ⟨pre', e', H', ρ', h1, h2, h3, h4⟩ := DI.ahead hgl (K := K) (tail := []) rest pre e H ρ h (by simpa using hg) (by simpa using hw) key
    refine hQ e' H' ρ' a w h3 ⟨h1.tsz, h1.dfr, fun t => h1.val t fun j hj _ => ?_⟩ h1.ev h1.hi
    exact ⟨fun _ => hall j hj, fun _ => (h4 j).2 (hcov j hj)⟩
  intro fuel
  induction fuel with
  | zero =>
    intro D pre rest e H ρ a w h hg hcov hlt hw hf
    have hall := left_zero (Nat.le_zero.1 hf)
    refine ⟨?_, done D pre rest e H ρ a w h hg hlt hw hall hcov⟩
    cases hr : Region.ready .any ops D with
    | nil => rfl
    | cons x xs =>
      exfalso
      have : x ∈ Region.ready .any ops D := by rw [hr]; simp
      obtain ⟨h0, o, ho, _⟩ := mem_ready'.1 this
      have hx := hall x (Array.getElem?_eq_some_iff.1 ho).1
      have hxs : x < D.size := by rw [h.dsz]; exact (Array.getElem?_eq_some_iff.1 ho).1
      rw [← getD_tf hxs, h0] at hx; cases hx
  | succ fuel ih =>
    intro D pre rest e H ρ a w h hg hcov hlt hw hf
    refine ⟨fun hre => ?_, fun i hi => ?_⟩
    · -- nothing is ready: all is done
      refine done D pre rest e H ρ a w h hg hlt hw (fun i hi => ?_) hcov
      cases hDi : D.getD i false with
      | true => rfl
      | false =>
        exfalso
        -- something could be done
        have some_ready : ∃ j o, ops[j]? = some o ∧ D.getD j false = false ∧ ∀ ed ∈ o.after.toList, Region.binds .any ed = true → D.getD ed.on false = true := by
          obtain ⟨p, hp, hpi⟩ := List.mem_map.1 (hcf i hi)
          exact first_ready full [] hfull (fun j hj => nomatch hj) ⟨p, hp, hpi ▸ hDi⟩
        obtain ⟨j, o, ho, hDj, hed⟩ := some_ready
        have hjs : j < D.size := by rw [h.dsz]; exact (Array.getElem?_eq_some_iff.1 ho).1
        have : j ∈ Region.ready .any ops D := mem_ready'.2 ⟨(getD_tf hjs).trans hDj, o, ho, hed⟩
        rw [hre] at this; cases this
    · obtain ⟨h0, o, ho, hed⟩ := mem_ready'.1 hi
      have hil : i < ops.size := (Array.getElem?_eq_some_iff.1 ho).1
      have his : i < D.size := by rw [h.dsz]; exact hil
      have hDi : D.getD i false = false := (getD_tf his).symm.trans h0
      have hf' : left ops.size (D.setIfInBounds i true) ≤ fuel := by have := left_set hil hDi his; omega
      by_cases hip : i ∈ pre
      · exact h.late hgl ho hip hDi hed fun ρ' a' w' h' => ih _ _ _ _ _ _ _ _ h' hg hcov hlt hw hf'
      · by_cases hal : (gAt gl i).op.isAlloc = true
        · have hal' := hal
          have hmem : i ∈ rest.map (·.1) := (hcov i hil).resolve_left hip
          obtain ⟨p, hp, rfl⟩ := List.mem_map.1 hmem
          obtain ⟨l1, l2, rfl⟩ := List.append_of_mem hp
          obtain ⟨pre2, h2⟩ := go_drop l1 pre hg
          obtain ⟨i, rs⟩ := p
          simp only [drawGo, Bool.and_eq_true] at h2
          obtain ⟨_, _, hal2, _⟩ := drawAt_parts h2.1.1
          obtain ⟨q1, q2, q3, q4, _⟩ := hal2 hal
          have hsome := alc_ahead (P := P) (K := K) hal l1 pre e H hg hw fun p hp' => by
            obtain ⟨_, _, q7, _⟩ := go_ahead l1 pre hg p hp'
            have hpl : p.1 < ops.size := hlt p (List.mem_append_left _ hp')
            have key : isBef (Region.before ops) p.1 i = true → (gAt gl p.1).op.isAlloc = true := fun hb => by
              obtain ⟨_, _, d, n, t, cs, u, h1, _⟩ := h.fin p.1 hpl (preds_done h ho hed p.1 hb) q7
              exact h1
            refine ⟨fun d hd ht => ?_, fun _ hna => ?_⟩
            · obtain ⟨r1, r2⟩ := alOk_parts q4 (by omega) hd (by simp [GOp.names, ht])
              have := key r1; rw [r2] at this; cases this
            · cases hb : isBef (Region.before ops) p.1 i with
              | false => rfl
              | true => have := key hb; rw [hna] at this; cases this
          exact h.early hgl ho hip hDi hed hal q1 q2 q3 q4 hsome fun a' w' h' => ih _ _ _ _ _ _ _ _ h' hg hcov hlt hw hf'
        · have hna : (gAt gl i).op.isAlloc = false := by simpa using hal
          have hmem : i ∈ rest.map (·.1) := (hcov i hil).resolve_left hip
          obtain ⟨p, hp, rfl⟩ := List.mem_map.1 hmem
          obtain ⟨l1, l2, rfl⟩ := List.append_of_mem hp
          obtain ⟨i, rs⟩ := p
          have hdone := preds_done h ho hed
          have key : ∀ p ∈ l1, ((gAt gl p.1).op.quiet = true ∧ ovr (Region.before ops) gl p.1 = false ∧ D.getD p.1 false = false) ∨ ((gAt gl p.1).op.isAlloc = true ∧ D.getD p.1 false = true) := by
            intro p hp'
            obtain ⟨q1, q2, q3, q4⟩ := go_ahead l1 pre hg p hp'
            have hpl : p.1 < ops.size := hlt p (List.mem_append_left _ hp')
            by_cases hpa : (gAt gl p.1).op.isAlloc = true
            · rcases q2 hpa with h1 | h1
              · rw [hna] at h1; cases h1
              · exact .inr ⟨hpa, hdone _ h1⟩
            · have hpa' : (gAt gl p.1).op.isAlloc = false := by simpa using hpa
              have notD : D.getD p.1 false = true → False := by
                intro hD
                obtain ⟨_, _, d, n, t, cs, u, h1, _⟩ := h.fin p.1 hpl hD q3
                rw [h1] at hpa'; cases hpa'
              refine .inl ⟨?_, ?_, ?_⟩
              · cases hq : (gAt gl p.1).op.quiet with
                | true => rfl
                | false => exact (notD (hdone _ ((q1 (.inl ⟨hq, hpa'⟩)).resolve_left (by rw [hna]; simp)))).elim
              · cases hov : ovr (Region.before ops) gl p.1 with
                | false => rfl
                | true => exact (notD (hdone _ ((q1 (.inr hov)).resolve_left (by rw [hna]; simp)))).elim
              · cases hD : D.getD p.1 false with
                | false => rfl
                | true => exact (notD hD).elim
          obtain ⟨pre', e', H', ρ', h1, h2, h3, h4⟩ := DI.ahead hgl (K := K) l1 pre e H ρ h hg hw key
          refine h1.both hgl ho hDi hed hna h2 h3 fun e2 H2 ρ2 a2 w2 r1 r2 r3 => ih _ _ _ _ _ _ _ _ r1 r2 (fun j hj => ?_) (fun p hp => hlt p (by simp [hp])) r3 hf'
          rcases hcov j hj with h5 | h5
          · exact .inl (List.mem_cons_of_mem _ ((h4 j).2 (.inl h5)))
          · rw [List.map_append, List.mem_append] at h5
            rcases h5 with h5 | h5
            · exact .inl (List.mem_cons_of_mem _ ((h4 j).2 (.inr h5)))
            · simp only [List.map_cons, List.mem_cons] at h5
              rcases h5 with rfl | h5
              · exact .inl (by simp)
              · exact .inr h5
end
end Go.M2

namespace Go.M2
open Go.RowKit (Below)
def EX.real : EX → Exit
  | .normal => .normal
  | .exit i => .exit i
  | .ret => .ret
section
variable {P : Program} {w0 : World} {nt : Nat}
theorem region_sound {sch : Sch} {ops : Array Oper} {id : Nat} (hm : P.follows .mixedOrders = true) {gl : List GOp} {s : List (Nat × List Nat)} (hgl : cGs P nt ops ops.toList = some gl) (hd : drawOk ops gl s = true)
    {K : Env → Heap → Prop} {R : Exit → Act → World → Prop} {e : Env} {H : Heap} {ρ : Nat → BI} {a : Act} {w : World} (hw : wpD P gl s K e H) (her : ER nt H.size ρ e a) (hi : HI w0 ρ H w)
    (hR : ∀ e' H' ρ' a' w', K e' H' → ER nt H'.size ρ' e' a' → Evol ρ H w ρ' H' w' → HI w0 ρ' H' w' → R .normal a' w') : (Code.region id ops true).wp P R a w := by
  simp only [drawOk, Bool.and_eq_true, beq_iff_eq, List.all_eq_true, decide_eq_true_eq] at hd
  obtain ⟨⟨⟨h1, h2⟩, h3⟩, h4⟩ := hd
  have nodup : ∀ (s : List (Nat × List Nat)) (pre : List Nat), drawGo ops (Region.before ops) gl pre s = true → (s.map (·.1)).Nodup ∧ ∀ p ∈ s, p.1 ∉ pre := by
    intro s
    induction s with
    | nil => intro pre _; exact ⟨List.nodup_nil, fun p hp => nomatch hp⟩
    | cons q t ih =>
      intro pre h
      obtain ⟨i, rs⟩ := q
      simp only [drawGo, Bool.and_eq_true, Bool.not_eq_true'] at h
      obtain ⟨q1, q2⟩ := ih _ h.2
      have hp : i ∉ pre := by simpa using h.1.2
      refine ⟨?_, fun p hp' => ?_⟩
      · rw [List.map_cons, List.nodup_cons]
        refine ⟨fun hm => ?_, q1⟩
        obtain ⟨p, hp1, hp2⟩ := List.mem_map.1 hm
        exact q2 p hp1 (by rw [hp2]; simp)
      · rcases List.mem_cons.1 hp' with rfl | hp'
        · exact hp
        · exact fun hm => q2 p hp' (List.mem_cons_of_mem _ hm)
  have hcov : ∀ i, i < ops.size → i ∈ s.map (·.1) := by
    -- as many as there are, all different, all below
    have pig : ∀ (n : Nat) (l : List Nat), l.Nodup → (∀ x ∈ l, x < n) → l.length = n → ∀ i, i < n → i ∈ l := by
      intro n
      induction n with
      | zero => intro l _ _ _ i hi; omega
      | succ n ih =>
        intro l hn hlt hlen i hi
        by_cases hnl : n ∈ l
        · have he := ih (l.erase n) (hn.erase n) (fun x hx => by
            have h5 := hlt x (List.mem_of_mem_erase hx)
            have : x ≠ n := fun e => by subst e; exact (List.Nodup.not_mem_erase hn) hx
            omega) (by rw [List.length_erase_of_mem hnl]; omega)
          by_cases hin : i = n
          · rw [hin]; exact hnl
          · exact List.mem_of_mem_erase (he i (by omega))
        · exfalso
          -- a list of n+1 different numbers below n
          have big : ∀ (n : Nat) (l : List Nat), l.Nodup → (∀ x ∈ l, x < n) → l.length ≤ n := by
            intro n
            induction n with
            | zero => intro l _ hl; cases l with | nil => simp | cons x t => exact absurd (hl x (by simp)) (by omega)
            | succ n ih2 =>
              intro l hn hl
              have := ih2 (l.erase n) (hn.erase n) (fun x hx => by
                have h5 := hl x (List.mem_of_mem_erase hx)
                have : x ≠ n := fun e => by subst e; exact (List.Nodup.not_mem_erase hn) hx
                omega)
              rw [List.length_erase] at this
              split at this <;> omega
          have := big n l hn (fun x hx => by
            have h5 := hlt x hx
            have : x ≠ n := fun e => hnl (e ▸ hx)
            omega)
          omega
    exact pig ops.size _ (nodup s [] h4).1 (fun x hx => by
      obtain ⟨p, hp, rfl⟩ := List.mem_map.1 hx
      exact h3 p hp) (by rw [List.length_map, h1])
  have hi' := hi.drawn (w.drawn + 1)
  refine wp_region_any hm (draw_sound (w0 := w0) (nt := nt) (s0 := ⟨ρ, H, { w with drawn := w.drawn + 1 }⟩) hgl h4 hcov (K := K) ?_ ops.size _ [] s e H ρ a _ ?_ h4 (fun i hi => .inr (hcov i hi)) h3 hw ?_)
  · intro e' H' ρ' a' w' hk h5 h6 h7
    exact hR e' H' ρ' a' w' hk h5 ((Evol.drawn ρ H w _).trans h6) h7
  · have hf : ∀ j, (Array.replicate ops.size false).getD j false = false := by
      intro j; simp [Array.getD_eq_getD_getElem?, Array.getElem?_replicate]; split <;> rfl
    exact { hi := hi', ev := Evol.refl _ _ _, low := hi.below.size, tsz := her.size, dfr := her.defers, dsz := by simp
            dcl := fun i hi => absurd hi (by simp only [hf]; simp), pcl := fun i hi => (nomatch hi), plt := fun i hi => (nomatch hi), ein := fun i hi => (nomatch hi)
            fin := fun j _ hj => absurd hj (by rw [hf]; simp), fdi := fun j k _ _ hj => absurd hj (by rw [hf]; simp), val := fun t _ => her.vals t }
  · unfold left
    refine Nat.le_trans (List.length_filter_le _ _) (by simp)
theorem wp_sound (hm : P.follows .mixedOrders = true) {sch : Sch} : ∀ (c : Code) (ir : IR) (Q : Post) (R : Exit → Act → World → Prop) (e : Env) (H : Heap) (ρ : Nat → BI) (a : Act) (w : World),
    comp P nt sch c = some ir → wp P ir Q e H → ER nt H.size ρ e a → HI w0 ρ H w →
    (∀ x e' H' ρ' a' w', Q x e' H' → ER nt H'.size ρ' e' a' → Evol ρ H w ρ' H' w' → HI w0 ρ' H' w' → R x.real a' w') → c.wp P R a w := by
  intro c
  induction c with
  | skip =>
    intro ir Q R e H ρ a w hc hw her hi hR
    simp only [comp, Option.some.injEq] at hc; subst hc
    exact wp_skip (hR .normal e H ρ a w hw her (Evol.refl _ _ _) hi)
  | scope x ih =>
    intro ir Q R e H ρ a w hc hw her hi hR
    simp only [comp] at hc
    refine wp_scope_straight (ih ir Q _ e H ρ a w hc hw her hi fun x e' H' ρ' a' w' h1 h2 h3 h4 => ?_)
    have := hR x e' H' ρ' a' w' h1 h2 h3 h4
    cases x <;> exact this
  | label l =>
    intro ir Q R e H ρ a w hc hw her hi hR
    simp only [comp, Option.some.injEq] at hc; subst hc
    exact wp_label (hR .normal e H ρ a w hw her (Evol.refl _ _ _) hi)
  | ret =>
    intro ir Q R e H ρ a w hc hw her hi hR
    simp only [comp, Option.some.injEq] at hc; subst hc
    exact wp_ret (hR .ret e H ρ a w hw her (Evol.refl _ _ _) hi)
  | exit id =>
    intro ir Q R e H ρ a w hc hw her hi hR
    simp only [comp, Option.some.injEq] at hc; subst hc
    exact wp_exit (hR (.exit id) e H ρ a w hw her (Evol.refl _ _ _) hi)
  | region id ops d =>
    intro ir Q R e H ρ a w hc hw her hi hR
    cases d with
    | false =>
      simp only [comp, Option.map_eq_some_iff] at hc
      obtain ⟨gl, hgl, rfl⟩ := hc
      refine wp_region ?_
      split at hw
      rotate_left
      · simp only [wp] at hw
        have := wpKA_sound (ops := ops) ops.toList gl _ 0 (Q .normal) R e H ρ a w (fun j => by simp) hgl hw her hi (fun e' H' ρ' a' w' hk h1 h2 h3 => hR .normal e' H' ρ' a' w' hk h1 h2 h3)
        simpa [List.range_eq_range'] using this
      simp only [wp] at hw
      have := wpL_sound (ops := ops) ops.toList gl 0 (Q .normal) R e H ρ a w (fun j => by simp) hgl hw her hi (fun e' H' ρ' a' w' hk h1 h2 h3 => hR .normal e' H' ρ' a' w' hk h1 h2 h3)
      simpa [List.range_eq_range'] using this
    | true =>
      simp only [comp] at hc
      split at hc
      · rename_i gl hgl
        split at hc
        · rename_i hd
          split at hc
          · cases hc
            simp only [wp] at hw
            exact region_sound (sch := sch) hm hgl hd hw her hi (fun e' H' ρ' a' w' hk h1 h2 h3 => hR .normal _ H' ρ' a' w' hk (h1.keep _) h2 h3)
          · cases hc
            simp only [wp] at hw
            exact region_sound (sch := sch) hm hgl hd hw her hi (fun e' H' ρ' a' w' hk h1 h2 h3 => hR .normal e' H' ρ' a' w' hk h1 h2 h3)
        · cases hc
      · cases hc
  | seq x y ihx ihy =>
    intro ir Q R e H ρ a w hc hw her hi hR
    simp only [comp] at hc
    split at hc
    · rename_i ix iy hx hy
      cases hc
      simp only [wp] at hw
      refine wp_seq (ihx ix _ _ e H ρ a w hx hw her hi ?_)
      intro z e' H' ρ' a' w' hq h1 h2 h3
      cases z with
      | normal =>
        simp only [EX.real, Exit.then]
        simp only [thenQ] at hq
        exact ihy iy Q R e' H' ρ' a' w' hy hq h1 h3 (fun z2 e2 H2 ρ2 a2 w2 q1 q2 q3 q4 => hR z2 e2 H2 ρ2 a2 w2 q1 q2 (h2.trans q3) q4)
      | exit i => exact hR (.exit i) e' H' ρ' a' w' hq h1 h2 h3
      | ret => exact hR .ret e' H' ρ' a' w' hq h1 h2 h3
    · cases hc
  | cond c x y ihx ihy =>
    intro ir Q R e H ρ a w hc hw her hi hR
    simp only [comp] at hc
    split at hc
    · rename_i ic ix iy hcc hx hy
      cases hc
      simp only [wp, condP] at hw
      have hv := cX_VR hcc (her.ops ic.tmps)
      split at hw
      · rename_i b hb
        rw [hb] at hv
        generalize hev : a.eval c = q at hv
        cases hv
        cases b with
        | true => exact wp_cond hev (ihx ix Q R e H ρ a w hx (by simpa using hw) her hi hR)
        | false => exact wp_cond hev (ihy iy Q R e H ρ a w hy (by simpa using hw) her hi hR)
      · exact hw.elim
    · cases hc
  | block id x ih =>
    intro ir Q R e H ρ a w hc hw her hi hR
    simp only [comp, Option.map_eq_some_iff] at hc
    obtain ⟨ix, hx, rfl⟩ := hc
    simp only [wp] at hw
    refine wp_block (ih ix _ _ e H ρ a w hx hw her hi ?_)
    intro z e' H' ρ' a' w' hq h1 h2 h3
    cases z with
    | normal => exact hR .normal e' H' ρ' a' w' hq h1 h2 h3
    | exit i =>
      simp only [EX.real, Exit.inBlock]
      simp only [blockQ] at hq
      split at hq
      · rename_i hid; rw [if_pos hid]; exact hR .normal e' H' ρ' a' w' hq h1 h2 h3
      · rename_i hid; rw [if_neg hid]; exact hR (.exit i) e' H' ρ' a' w' hq h1 h2 h3
    | ret => exact hR .ret e' H' ρ' a' w' hq h1 h2 h3
  | loop x ih =>
    intro ir Q R e H ρ a w hc hw her hi hR
    simp only [comp, Option.map_eq_some_iff] at hc
    obtain ⟨ix, hx, rfl⟩ := hc
    simp only [wp] at hw
    obtain ⟨I, μ, hI, hround⟩ := hw
    have key : ∀ (n : Nat) (e1 : Env) (H1 : Heap) (ρ1 : Nat → BI) (a1 : Act) (w1 : World), I e1 H1 → μ e1 H1 < n → ER nt H1.size ρ1 e1 a1 → Evol ρ H w ρ1 H1 w1 → HI w0 ρ1 H1 w1 → Code.rounds P x R n a1 w1 := by
      intro n
      induction n with
      | zero => intro e1 H1 ρ1 a1 w1 _ h; omega
      | succ n ihn =>
        intro e1 H1 ρ1 a1 w1 hI1 hlt her1 hev1 hi1
        rw [rounds_succ]
        refine ih ix _ _ e1 H1 ρ1 a1 w1 hx (hround e1 H1 hI1) her1 hi1 ?_
        intro z e' H' ρ' a' w' hq h1 h2 h3
        cases z with
        | normal =>
          simp only [EX.real, Exit.then]
          simp only [thenQ] at hq
          exact ihn e' H' ρ' a' w' hq.1 (by omega) h1 (hev1.trans h2) h3
        | exit i => exact hR (.exit i) e' H' ρ' a' w' hq h1 (hev1.trans h2) h3
        | ret => exact hR .ret e' H' ρ' a' w' hq h1 (hev1.trans h2) h3
    exact wp_loop_rounds (μ e H + 1) (key _ e H ρ a w hI (by omega) her (Evol.refl _ _ _) hi)
  | _ =>
    intro ir Q R e H ρ a w hc
    simp [comp] at hc
theorem results_run {w : World} {H : Heap} {ρ : Nat → BI} {e : Env} {a : Act} (hi : HI w0 ρ H w) (hv : ∀ t, VR H.size ρ (e t) (a.tmps.getD t undef)) (f : ResultVar → Sem Value)
    (hf1 : ∀ t, f (.tmp t) = pure (a.tmps.getD t undef)) (hf2 : ∀ x t, f (.cell x t) = (do loadVar t (← asAddr (a.tmps.getD x undef)))) :
    ∀ (l : List ResultVar) (rs : List RV) (xs : List AV), cRes P l = some rs → resVs e H rs = some xs →
    ∃ vs : List Value, (l.mapM f).run P w = .ok vs w ∧ VRL H.size ρ xs vs := by
  intro l
  induction l with
  | nil =>
    intro rs xs h1 h2
    simp only [cRes, Option.some.injEq] at h1; subst h1
    simp only [resVs, Option.some.injEq] at h2; subst h2
    exact ⟨[], by simp, rfl, fun i x v h => by simp at h⟩
  | cons r t ih =>
    intro rs xs h1 h2
    have step : ∀ (rv : RV) (rt : List RV), rs = rv :: rt → cRes P t = some rt → (∀ x, resV e H rv = some x → ∃ v, (f r).run P w = .ok v w ∧ VR H.size ρ x v) → ∃ vs : List Value, ((r :: t).mapM f).run P w = .ok vs w ∧ VRL H.size ρ xs vs := by
      intro rv rt hrs hrt hone
      subst hrs
      simp only [resVs] at h2
      split at h2
      · rename_i x l q1 q2
        cases h2
        obtain ⟨v, q3, q4⟩ := hone x q1
        obtain ⟨vs, q5, q6⟩ := ih rt l hrt q2
        exact ⟨v :: vs, by simp only [List.mapM_cons, Sem.run_bind, q3, Result.andThen_ok, q5, Sem.run_pure], VRL.cons q4 q6⟩
      · cases h2
    cases r with
    | tmp t0 =>
      simp only [cRes, Option.map_eq_some_iff] at h1
      obtain ⟨rt, q1, rfl⟩ := h1
      refine step (.t t0) rt rfl q1 fun x hx => ?_
      simp only [resV, Option.some.injEq] at hx; subst hx
      exact ⟨_, by rw [hf1]; rfl, hv t0⟩
    | cell x t0 =>
      simp only [cRes] at h1
      split at h1
      · rename_i n ag l q1 q2 q3
        split at h1
        · cases h1
          refine step (.c x n ag) l rfl q3 fun y hy => ?_
          simp only [resV] at hy
          obtain ⟨v, q4, q5⟩ := cells_load (P := P) hi (hv x) q1 q2 hy
          refine ⟨v, ?_, q5⟩
          rw [hf2]
          have hvx := hv x
          generalize a.tmps.getD x undef = u at q4 hvx
          cases hev : e x with
          | ptr A =>
            rw [hev] at hvx hy
            cases hvx with
            | ptr _ hA =>
              cases A with
              | none => simp [loadF] at hy
              | some p => simpa [Instr.loadAt, Instr.sureAddr, asAddr, rA] using q4
          | _ => rw [hev] at hy; simp [loadF] at hy
        · cases h1
      · cases h1
theorem ret_run {fn : Func} {rs : List RV} {w : World} {H : Heap} {ρ : Nat → BI} {e : Env} {a : Act} {r : AV} (hi : HI w0 ρ H w) (hv : ∀ t, VR H.size ρ (e t) (a.tmps.getD t undef))
    (hc : cRes P fn.results.toList = some rs) (hr : retV rs e H = some r) : ∃ v, (results fn a.tmps).run P w = .ok v w ∧ VR H.size ρ r v := by
  unfold retV at hr
  have key : ∀ xs, resVs e H rs = some xs → ∃ vs : List Value, (fn.results.mapM (fun | .tmp t => pure (a.tmps.getD t undef) | .cell x t => do loadVar t (← asAddr (a.tmps.getD x undef)) : ResultVar → Sem Value)).run P w = .ok vs.toArray w ∧ VRL H.size ρ xs vs := by
    intro xs hx
    obtain ⟨vs, q1, q2⟩ := results_run (P := P) hi hv (fun | .tmp t => pure (a.tmps.getD t undef) | .cell x t => do loadVar t (← asAddr (a.tmps.getD x undef))) (fun _ => rfl) (fun _ _ => rfl) _ rs xs hc hx
    refine ⟨vs, ?_, q2⟩
    rw [Array.mapM_eq_mapM_toList]
    simp [-Array.getD_eq_getD_getElem?, q1]
  split at hr
  · rename_i x hx
    cases hr
    obtain ⟨vs, q1, q2⟩ := key _ hx
    obtain ⟨v, vt, rfl, q3, q4⟩ := q2.uncons
    have := q4.unnil; subst this
    refine ⟨v, ?_, q3⟩
    unfold results
    rw [Sem.run_bind]
    refine (congrArg (fun z => Result.andThen z _) q1).trans ?_
    simp
  · rename_i l hn hl
    cases hr
    obtain ⟨vs, q1, q2⟩ := key _ hl
    refine ⟨.tuple vs.toArray, ?_, VR.tup l vs.toArray (by simpa using q2.1) (fun i x v hx hv => q2.2 i x v hx (by simpa using hv))⟩
    have h1 : vs.length ≠ 1 := by
      intro h
      rw [← q2.1] at h
      match l, h with
      | [x], _ => exact hn x rfl
    unfold results
    rw [Sem.run_bind]
    refine (congrArg (fun z => Result.andThen z _) q1).trans ?_
    simp [h1]
  · cases hr
theorem acall_of_wp (hm : P.follows .mixedOrders = true) {f : FuncId} {fn : Func} {sch : Sch} {ifn : IFn} {args : List AV} {H : Heap} {R : AV → Heap → Prop} (hf : P.funcs[f]? = some fn) (hc : compFn P sch fn = some ifn) (hcb : callable P f = true)
    (hl : args.length = ifn.nparams) (h : wp P ifn.body (postQ ifn.res R) (env0 args) H) : ACall P f args H R := by
  refine ⟨hcb, fun w0 ρ w vs hi hvs => ?_⟩
  unfold compFn at hc
  split at hc
  · rename_i c rs hbody hres
    split at hc
    · rename_i b hb
      split at hc
      · rename_i hsz
        cases hc
        simp only at hl h
        have hlv : vs.length = args.length := hvs.1.symm
        have her : ER fn.ntmps H.size ρ (env0 args) { tmps := vs.toArray ++ Array.replicate (fn.ntmps - vs.toArray.size) undef, defers := [] } := by
          refine ⟨by simp; omega, rfl, fun t => ?_⟩
          simp only [env0]
          by_cases ht : t < args.length
          · have h1 : args.getD t .junk = args[t] := by simp [List.getD, ht]
            have h2 : (vs.toArray ++ Array.replicate (fn.ntmps - vs.toArray.size) undef).getD t undef = vs[t]'(by omega) := by
              simp [Array.getD_eq_getD_getElem?, Array.getElem?_append, show t < vs.length by omega]
            rw [h1, h2]
            exact hvs.2 t _ _ (by simp [ht]) (by simp [show t < vs.length by omega])
          · have h1 : args.getD t .junk = .junk := by simp [List.getD, ht]
            rw [h1]; exact .junk _
        refine calls_of_wp hf hbody (wp_sound (w0 := w0) hm c b _ _ _ H ρ _ w hb h her hi ?_)
        intro x e' H' ρ' a' w' hq h1 h2 h3
        have fin : retP rs R e' H' → a'.defers = [] ∧ ∃ v, (results fn a'.tmps).run P w' = .ok v w' ∧ ∃ r H'' ρ'' v', Ending.returned v = .returned v' ∧ VR H''.size ρ'' r v' ∧ Evol ρ H w ρ'' H'' w' ∧ HI w0 ρ'' H'' w' ∧ R r H'' := by
          intro hq
          unfold retP optP at hq
          split at hq
          · rename_i r hr
            obtain ⟨v, q1, q2⟩ := ret_run (fn := fn) h3 h1.vals hres hr
            exact ⟨h1.defers, v, q1, r, H', ρ', v, rfl, q2, h2, h3, hq⟩
          · exact hq.elim
        cases x with
        | normal => exact fin hq
        | ret => exact fin hq
        | exit i => exact hq.elim
      · cases hc
    · cases hc
  · cases hc
end
end Go.M2

namespace Go.M2
theorem idE {α : Sort _} {a b : α} (h : a = b) : a = b := h
section
variable {P : Program} {Q : Post} {e : Env} {H : Heap} {K : AV → Heap → Prop}
def condW (P : Program) (c : X) (a b : IR) (Q : Post) (e : Env) (H : Heap) : Prop := condP (c.ev e) (wp P a Q e H) (wp P b Q e H)
def condV (P : Program) (c : AV) (a b : IR) (Q : Post) (e : Env) (H : Heap) : Prop := condP c (wp P a Q e H) (wp P b Q e H)
@[go_sem] theorem condW_V {c : X} {a b : IR} : condW P c a b Q e H = condV P (c.ev e) a b Q e H := idE rfl
@[go_sem] theorem condV_true {a b : IR} : condV P (.bool true) a b Q e H = wp P a Q e H := idE rfl
@[go_sem] theorem condV_false {a b : IR} : condV P (.bool false) a b Q e H = wp P b Q e H := idE rfl
theorem condV_split {a b : IR} {t : Bool} (h1 : t = true → wp P a Q e H) (h2 : t = false → wp P b Q e H) : condV P (.bool t) a b Q e H := by
  cases t
  · exact h2 rfl
  · exact h1 rfl
theorem condV_dec {a b : IR} {p : Prop} [Decidable p] (h1 : p → wp P a Q e H) (h2 : ¬ p → wp P b Q e H) : condV P (.bool (decide p)) a b Q e H :=
  condV_split (fun h => h1 (of_decide_eq_true h)) (fun h => h2 (of_decide_eq_false h))
@[go_sem] theorem wp_skip' : wp P .skip Q e H = Q .normal e H := idE rfl
@[go_sem] theorem wp_ret' : wp P .ret Q e H = Q .ret e H := idE rfl
@[go_sem] theorem wp_exit' {i : Nat} : wp P (.exit i) Q e H = Q (.exit i) e H := idE rfl
@[go_sem] theorem wp_seq' {a b : IR} : wp P (.seq a b) Q e H = wp P a (thenQ (wp P b Q) Q) e H := idE rfl
@[go_sem] theorem thenQ_normal {K : Env → Heap → Prop} : thenQ K Q .normal e H = K e H := idE rfl
@[go_sem] theorem thenQ_exit {K : Env → Heap → Prop} {i : Nat} : thenQ K Q (.exit i) e H = Q (.exit i) e H := idE rfl
@[go_sem] theorem thenQ_ret {K : Env → Heap → Prop} : thenQ K Q .ret e H = Q .ret e H := idE rfl
@[go_sem] theorem blockQ_normal {i : Nat} : blockQ i Q .normal e H = Q .normal e H := idE rfl
@[go_sem] theorem blockQ_ret {i : Nat} : blockQ i Q .ret e H = Q .ret e H := idE rfl
@[go_sem] theorem blockQ_exit {i j : Nat} : blockQ i Q (.exit j) e H = if j = i then Q .normal e H else Q (.exit j) e H := idE rfl
@[go_sem] theorem postQ_normal {rs : List RV} {R : AV → Heap → Prop} : postQ rs R .normal e H = retP rs R e H := idE rfl
@[go_sem] theorem postQ_ret {rs : List RV} {R : AV → Heap → Prop} : postQ rs R .ret e H = retP rs R e H := idE rfl
@[go_sem] theorem retP_0 {R : AV → Heap → Prop} : retP [] R e H = R (.tup []) H := idE rfl
@[go_sem] theorem retP_1 {R : AV → Heap → Prop} {a : Nat} : retP [.t a] R e H = R (e a) H := idE rfl
@[go_sem] theorem retP_2 {R : AV → Heap → Prop} {a b : Nat} : retP [.t a, .t b] R e H = R (.tup [e a, e b]) H := idE rfl
@[go_sem] theorem retP_3 {R : AV → Heap → Prop} {a b c : Nat} : retP [.t a, .t b, .t c] R e H = R (.tup [e a, e b, e c]) H := idE rfl
@[go_sem] theorem retP_c {R : AV → Heap → Prop} {a n : Nat} {ag : Bool} : retP [.c a n ag] R e H = optP (loadF H n ag (e a)) H R := by
  unfold retP retV optP
  simp only [resVs, resV]
  cases loadF H n ag (e a) <;> rfl
def contL (P : Program) (t : List GOp) (K : Env → Heap → Prop) (e : Env) (d : Option Nat) : AV → Heap → Prop := fun v H' => wpL P t K (putE e d v) H'
@[go_sem] theorem contL_go {t : List GOp} {K : Env → Heap → Prop} {d : Option Nat} {v : AV} : contL P t K e d v H = wpL P t K (putE e d v) H := idE rfl
@[go_sem] theorem wpL_nil {K : Env → Heap → Prop} : wpL P [] K e H = K e H := idE rfl
@[go_sem] theorem wpL_cons {t : List GOp} {K : Env → Heap → Prop} {d : Option Nat} {o : IOp} : wpL P (⟨d, o, none⟩ :: t) K e H = stepL P o e H (contL P t K e d) := idE rfl
def guardW (P : Program) (v : AV) (want : Bool) (o : IOp) (t : List GOp) (K : Env → Heap → Prop) (e : Env) (H : Heap) (d : Option Nat) : Prop := match v with
  | .bool b => if b = want then stepL P o e H (contL P t K e d) else wpL P t K (putE e d (.tup [])) H
  | .tup [] => wpL P t K (putE e d (.tup [])) H
  | _ => False
@[go_sem] theorem wpL_consG {t : List GOp} {K : Env → Heap → Prop} {d : Option Nat} {o : IOp} {g : Nat} {want : Bool} : wpL P (⟨d, o, some (g, want)⟩ :: t) K e H = guardW P (e g) want o t K e H d := idE rfl
@[go_sem] theorem guardW_tt {t : List GOp} {K : Env → Heap → Prop} {d : Option Nat} {o : IOp} : guardW P (.bool true) true o t K e H d = stepL P o e H (contL P t K e d) := idE rfl
@[go_sem] theorem guardW_ff {t : List GOp} {K : Env → Heap → Prop} {d : Option Nat} {o : IOp} : guardW P (.bool false) false o t K e H d = stepL P o e H (contL P t K e d) := idE rfl
@[go_sem] theorem guardW_tf {t : List GOp} {K : Env → Heap → Prop} {d : Option Nat} {o : IOp} : guardW P (.bool true) false o t K e H d = wpL P t K (putE e d (.tup [])) H := idE rfl
@[go_sem] theorem guardW_ft {t : List GOp} {K : Env → Heap → Prop} {d : Option Nat} {o : IOp} : guardW P (.bool false) true o t K e H d = wpL P t K (putE e d (.tup [])) H := idE rfl
@[go_sem] theorem guardW_und {t : List GOp} {K : Env → Heap → Prop} {d : Option Nat} {o : IOp} {want : Bool} : guardW P (.tup []) want o t K e H d = wpL P t K (putE e d (.tup [])) H := idE rfl
theorem guardW_split {t : List GOp} {K : Env → Heap → Prop} {d : Option Nat} {o : IOp} {b want : Bool} (h1 : b = true → guardW P (.bool true) want o t K e H d) (h2 : b = false → guardW P (.bool false) want o t K e H d) : guardW P (.bool b) want o t K e H d := by
  cases b
  · exact h2 rfl
  · exact h1 rfl
theorem guardW_dec {t : List GOp} {K : Env → Heap → Prop} {d : Option Nat} {o : IOp} {p : Prop} [Decidable p] {want : Bool} (h1 : p → guardW P (.bool true) want o t K e H d) (h2 : ¬ p → guardW P (.bool false) want o t K e H d) : guardW P (.bool (decide p)) want o t K e H d :=
  guardW_split (fun h => by have := of_decide_eq_true h; exact h1 this) (fun h => h2 (of_decide_eq_false h))
@[go_sem] theorem putE_none {v : AV} : putE e none v = e := idE rfl
@[go_sem] theorem putE_some {d : Nat} {v : AV} : putE e (some d) v = upd e d v := idE rfl
@[go_sem] theorem upd_get {d n : Nat} {v : AV} : upd e d v n = if n = d then v else e n := idE rfl
@[go_sem] theorem env0_get {l : List AV} {n : Nat} : env0 l n = l.getD n .junk := idE rfl
@[go_sem] theorem X_t {n : Nat} : (X.t n).ev e = e n := idE rfl
@[go_sem] theorem X_c {v : AV} : (X.c v).ev e = v := idE rfl
@[go_sem] theorem optP_some {v : AV} : optP (some v) H K = K v H := idE rfl
@[go_sem] theorem st_mv {x : X} : stepL P (.mv x) e H K = K (x.ev e) H := idE rfl
@[go_sem] theorem st_bin {op : BinOp} {x y : X} : stepL P (.bin op x y) e H K = optP (binF op (x.ev e) (y.ev e)) H K := idE rfl
@[go_sem] theorem st_beq {n : Bool} {x y : X} : stepL P (.beq n x y) e H K = optP (beqF n (x.ev e) (y.ev e)) H K := idE rfl
@[go_sem] theorem st_un {op : UnOp} {x : X} : stepL P (.un op x) e H K = optP (unF op (x.ev e)) H K := idE rfl
@[go_sem] theorem st_pick {a b c : X} : stepL P (.pick c a b) e H K = optP (pickF (c.ev e) (a.ev e) (b.ev e)) H K := idE rfl
@[go_sem] theorem st_eqn {n : Bool} {k : NK} {x : X} : stepL P (.eqn n k x) e H K = optP ((isNilF k (x.ev e)).map fun b => .bool (if n then !b else b)) H K := idE rfl
@[go_sem] theorem st_nilck {x : X} : stepL P (.nilck x) e H K = optP (nilckF (x.ev e)) H K := idE rfl
@[go_sem] theorem st_faddr {x : X} {n : Nat} : stepL P (.faddr x n) e H K = optP (ptrOff n (x.ev e)) H K := idE rfl
@[go_sem] theorem st_fld {x : X} {o n : Nat} {ag : Bool} : stepL P (.fld x o n ag) e H K = optP (partF o n ag (x.ev e)) H K := idE rfl
@[go_sem] theorem st_iaddr {x i : X} {n : Nat} : stepL P (.iaddr x i n) e H K = optP (iaddrF n (x.ev e) (i.ev e)) H K := idE rfl
@[go_sem] theorem st_ext {x : X} {n : Nat} : stepL P (.ext x n) e H K = optP (extF n (x.ev e)) H K := idE rfl
@[go_sem] theorem st_len {x : X} : stepL P (.len x) e H K = optP (lenF (x.ev e)) H K := idE rfl
@[go_sem] theorem st_cap {x : X} : stepL P (.cap x) e H K = optP (capF (x.ev e)) H K := idE rfl
@[go_sem] theorem st_mnx {m : Bool} {x y : X} : stepL P (.mnx m x y) e H K = optP (mnxF m (x.ev e) (y.ev e)) H K := idE rfl
@[go_sem] theorem st_slc {n : Nat} {x : X} {a b c : Option X} : stepL P (.slc n x a b c) e H K = optP (slcF n (a.map (X.ev e)) (b.map (X.ev e)) (c.map (X.ev e)) (x.ev e)) H K := idE rfl
@[go_sem] theorem st_mkfn {f : Nat} {c : List X} : stepL P (.mkfn f c) e H K = K (.fn f (c.map (X.ev e))) H := idE rfl
@[go_sem] theorem st_bld {z : List AV} {p : List (Nat × Nat × X)} : stepL P (.bld z p) e H K = optP ((bldF e z p).map .agg) H K := idE rfl
@[go_sem] theorem st_cvi {k : IntKind} {x : X} : stepL P (.cvi k x) e H K = optP (cviF k (x.ev e)) H K := idE rfl
@[go_sem] theorem st_load {x : X} {n : Nat} {ag : Bool} : stepL P (.load x n ag) e H K = optP (loadF H n ag (x.ev e)) H K := idE rfl
@[go_sem] theorem st_alloc {z : List AV} : stepL P (.alloc z) e H K = K (.ptr (some (H.size, 0))) (H.alloc z) := idE rfl
@[go_sem] theorem st_box {x : X} : stepL P (.box x) e H K = boxP (x.ev e) H K := idE rfl
@[go_sem] theorem st_bslc {a b : Nat} {z : List AV} {p : List (Nat × X)} : stepL P (.bslc a b z p) e H K = bslcP a b (bslF e a (zeros z b) p) H K := idE rfl
@[go_sem] theorem st_mks {z : List AV} {b : Nat} {l : X} : stepL P (.mks z b l) e H K = mksP z b (l.ev e) H K := idE rfl
@[go_sem] theorem st_store {x v : X} {n : Nat} : stepL P (.store x n v) e H K = storeP n (x.ev e) (v.ev e) H K := idE rfl
@[go_sem] theorem st_app {s x : X} {n b : Nat} : stepL P (.app n b s x) e H K = appP n b (s.ev e) (x.ev e) H K := idE rfl
@[go_sem] theorem st_copy {s x : X} {n : Nat} : stepL P (.copy n s x) e H K = copyP n (s.ev e) (x.ev e) H K := idE rfl
@[go_sem] theorem st_clear {x : X} {z : List AV} : stepL P (.clear z x) e H K = clearP z (x.ev e) H K := idE rfl
@[go_sem] theorem st_call {f : Nat} {a : List X} : stepL P (.call f a) e H K = ACall P f (a.map (X.ev e)) H K := idE rfl
@[go_sem] theorem st_callv {x : X} {a : List X} : stepL P (.callv x a) e H K = callvP P (x.ev e) (a.map (X.ev e)) H K := idE rfl
@[go_sem] theorem callvP_fn {f : Nat} {c a : List AV} : callvP P (.fn f c) a H K = ACall P f (a ++ c) H K := idE rfl
variable {k : IntKind} {a b : Int}
@[go_sem] theorem bin_add : binF .add (.int k a) (.int k b) = some (.int k (k.wrap (a + b))) := by simp [binF, isSh, intBin]
@[go_sem] theorem bin_sub : binF .sub (.int k a) (.int k b) = some (.int k (k.wrap (a - b))) := by simp [binF, isSh, intBin]
@[go_sem] theorem bin_mul : binF .mul (.int k a) (.int k b) = some (.int k (k.wrap (a * b))) := by simp [binF, isSh, intBin]
@[go_sem] theorem bin_lss : binF .lss (.int k a) (.int k b) = some (.bool (decide (a < b))) := by simp [binF, isSh, intBin]
@[go_sem] theorem bin_leq : binF .leq (.int k a) (.int k b) = some (.bool (decide (a ≤ b))) := by simp [binF, isSh, intBin]
@[go_sem] theorem bin_gtr : binF .gtr (.int k a) (.int k b) = some (.bool (decide (b < a))) := by simp [binF, isSh, intBin]
@[go_sem] theorem bin_geq : binF .geq (.int k a) (.int k b) = some (.bool (decide (b ≤ a))) := by simp [binF, isSh, intBin]
@[go_sem] theorem bin_eql : binF .eql (.int k a) (.int k b) = some (.bool (decide (a = b))) := by simp [binF, isSh, intBin]; rfl
@[go_sem] theorem bin_neq : binF .neq (.int k a) (.int k b) = some (.bool (decide (a ≠ b))) := by
  simp only [binF, isSh, intBin, if_true, Bool.false_eq_true, if_false]
  by_cases h : a = b <;> simp [h]
@[go_sem] theorem beq_ff {x y : Bool} : beqF false (.bool x) (.bool y) = some (.bool (x == y)) := idE rfl
@[go_sem] theorem beq_tt {x y : Bool} : beqF true (.bool x) (.bool y) = some (.bool (!(x == y))) := idE rfl
@[go_sem] theorem un_neg : unF .neg (.int k a) = some (.int k (k.wrap (0 - a))) := idE rfl
@[go_sem] theorem un_not {x : Bool} : unF .not (.bool x) = some (.bool (!x)) := idE rfl
@[go_sem] theorem pick_go {x : Bool} {u v : AV} : pickF (.bool x) u v = some (if x then u else v) := idE rfl
@[go_sem] theorem pick_t {u v : AV} : pickF (.bool true) u v = some u := idE rfl
@[go_sem] theorem pick_f {u v : AV} : pickF (.bool false) u v = some v := idE rfl
@[go_sem] theorem nil_sl0 {n c kk : Nat} {ex : Bool} : isNilF .sl (.sl none n c ex kk) = some true := idE rfl
@[go_sem] theorem nil_sl1 {A : Nat × Nat} {n c kk : Nat} {ex : Bool} : isNilF .sl (.sl (some A) n c ex kk) = some false := idE rfl
@[go_sem] theorem nilck_go {p : Nat × Nat} : nilckF (.ptr (some p)) = some (.ptr (some p)) := idE rfl
@[go_sem] theorem ptrOff_go {x o n : Nat} : ptrOff n (.ptr (some (x, o))) = some (.ptr (some (x, o + n))) := idE rfl
@[go_sem] theorem len_go {A : AA} {n c kk : Nat} {ex : Bool} : lenF (.sl A n c ex kk) = some (.int .i64 n) := idE rfl
@[go_sem] theorem len_emp : lenF .emp = some (.int .i64 0) := idE rfl
@[go_sem] theorem cap_go {A : AA} {n c kk : Nat} : capF (.sl A n c true kk) = some (.int .i64 c) := idE rfl
@[go_sem] theorem cvi_go {k' : IntKind} : cviF k (.int k' a) = some (.int k (k.wrap a)) := idE rfl
@[go_sem] theorem mnx_max : mnxF true (.int k a) (.int k b) = some (.int k (max a b)) := by
  simp only [mnxF, if_true]
  congr 2
  by_cases h : b > a
  · rw [if_pos h]; omega
  · rw [if_neg h]; omega
@[go_sem] theorem mnx_min : mnxF false (.int k a) (.int k b) = some (.int k (min a b)) := by
  simp only [mnxF, if_true, Bool.false_eq_true, if_false]
  congr 2
  by_cases h : b < a
  · rw [if_pos h]; omega
  · rw [if_neg h]; omega
@[go_sem] theorem wrap_in (h0 : -9223372036854775808 ≤ a) (h1 : a ≤ 9223372036854775807) : IntKind.i64.wrap a = a := IntWalk.i64_in a ⟨h0, h1⟩
@[go_sem] theorem iaddr_go {A : AA} {n c kk sz : Nat} {ex : Bool} {k' : IntKind} (h0 : 0 ≤ a) (h1 : a < (n : Int)) : iaddrF sz (.sl A n c ex kk) (.int k' a) = some (.ptr (some (A.b, A.o + a.toNat * sz))) := by
  simp only [iaddrF]; rw [if_pos ⟨h0, h1⟩]
@[go_sem] theorem load1 {x o n : Nat} : loadF H n false (.ptr (some (x, o))) = H.get x o := idE rfl
@[go_sem] theorem loadA {x o n : Nat} : loadF H n true (.ptr (some (x, o))) = (loadN H x o n).map .agg := idE rfl
@[go_sem] theorem cells_int : cellsOf (.int k a) = some [.int k a] := idE rfl
@[go_sem] theorem cells_bool {x : Bool} : cellsOf (.bool x) = some [.bool x] := idE rfl
@[go_sem] theorem cells_sl {A : AA} {n c kk : Nat} {ex : Bool} : cellsOf (.sl A n c ex kk) = some [.sl A n c ex kk] := idE rfl
@[go_sem] theorem cells_agg {l : List AV} : cellsOf (.agg l) = some l := idE rfl
@[go_sem] theorem cells_ptr {A : AA} : cellsOf (.ptr A) = some [.ptr A] := idE rfl
@[go_sem] theorem ext_go {l : List AV} {n : Nat} : extF n (.tup l) = l[n]? := idE rfl
@[go_sem] theorem AAb {x o : Nat} : AA.b (some (x, o)) = x := idE rfl
@[go_sem] theorem AAo {x o : Nat} : AA.o (some (x, o)) = o := idE rfl
@[go_sem] theorem bslcP_some {n m : Nat} {c : List AV} : bslcP n m (some c) H K = K (.sl (some (H.size, 0)) m m true n) (H.alloc c) := idE rfl
def bslK (e : Env) (n : Nat) (z : List AV) (i : Nat) (c : Option (List AV)) (t : List (Nat × X)) : Option (List AV) := match c with
  | some c => if c.length = n ∧ i * n + n ≤ z.length then bslF e n (setAt z (i * n) c) t else none
  | none => none
@[go_sem] theorem bslF_nil {n : Nat} {z : List AV} : bslF e n z [] = some z := idE rfl
@[go_sem] theorem bslF_cons {n i : Nat} {z : List AV} {x : X} {t : List (Nat × X)} : bslF e n z ((i, x) :: t) = bslK e n z i (cellsOf (x.ev e)) t := idE rfl
@[go_sem] theorem bslK_1 {i : Nat} {z : List AV} {v : AV} {t : List (Nat × X)} (h : i + 1 ≤ z.length) : bslK e 1 z i (some [v]) t = bslF e 1 (z.set i v) t := by
  unfold bslK
  simp only [List.length_cons, List.length_nil, Nat.mul_one]
  rw [if_pos ⟨trivial, h⟩]
  rfl
@[go_sem] theorem bslK_n {n i : Nat} {z c : List AV} {t : List (Nat × X)} (h0 : c.length = n) (h : i * n + n ≤ z.length) : bslK e n z i (some c) t = bslF e n (setAt z (i * n) c) t := by
  unfold bslK
  simp only
  rw [if_pos ⟨h0, h⟩]
def bldK (e : Env) (z : List AV) (o n : Nat) (c : Option (List AV)) (t : List (Nat × Nat × X)) : Option (List AV) := match c with
  | some c => if c.length = n ∧ o + n ≤ z.length then bldF e (setAt z o c) t else none
  | none => none
@[go_sem] theorem bldF_nil {z : List AV} : bldF e z [] = some z := idE rfl
@[go_sem] theorem bldF_cons {o n : Nat} {z : List AV} {x : X} {t : List (Nat × Nat × X)} : bldF e z ((o, n, x) :: t) = bldK e z o n (cellsOf (x.ev e)) t := idE rfl
@[go_sem] theorem bldK_go {o n : Nat} {z c : List AV} {t : List (Nat × Nat × X)} (h0 : c.length = n) (h : o + n ≤ z.length) : bldK e z o n (some c) t = bldF e (setAt z o c) t := by
  unfold bldK
  simp only
  rw [if_pos ⟨h0, h⟩]
@[go_sem] theorem zeros_1 {z : List AV} : zeros z 1 = z := by simp [zeros]
@[go_sem] theorem zeros_0 {z : List AV} : zeros z 0 = [] := idE rfl
@[go_sem] theorem setAt_nil {z : List AV} {o : Nat} : setAt z o [] = z := idE rfl
@[go_sem] theorem setAt_cons {z t : List AV} {o : Nat} {v : AV} : setAt z o (v :: t) = setAt (z.set o v) (o + 1) t := idE rfl
attribute [go_sem] Int.toNat_natCast Nat.mul_one List.set_cons_zero List.set_cons_succ
def contD (P : Program) (gl : List GOp) (rs : List Nat) (t : List (Nat × List Nat)) (K : Env → Heap → Prop) (e : Env) (d : Option Nat) : AV → Heap → Prop := fun v H' => chkAll gl rs (putE e d v) H' ∧ wpD P gl t K (putE e d v) H'
def stepD (P : Program) (g : GOp) (gl : List GOp) (rs : List Nat) (t : List (Nat × List Nat)) (K : Env → Heap → Prop) (e : Env) (H : Heap) : Prop := gWant g.g e (stepL P g.op e H (contD P gl rs t K e g.dst)) (wpD P gl t K (putE e g.dst (.tup [])) H)
@[go_sem] theorem wpD_nil {gl : List GOp} {K : Env → Heap → Prop} : wpD P gl [] K e H = K e H := idE rfl
@[go_sem] theorem wpD_cons {gl : List GOp} {K : Env → Heap → Prop} {i : Nat} {rs : List Nat} {t : List (Nat × List Nat)} : wpD P gl ((i, rs) :: t) K e H = (preAll gl rs e ∧ stepD P (gAt gl i) gl rs t K e H) := idE rfl
@[go_sem] theorem stepD_none {gl : List GOp} {K : Env → Heap → Prop} {d : Option Nat} {o : IOp} {rs : List Nat} {t : List (Nat × List Nat)} : stepD P ⟨d, o, none⟩ gl rs t K e H = stepL P o e H (contD P gl rs t K e d) := idE rfl
def guardD (P : Program) (v : AV) (want : Bool) (o : IOp) (gl : List GOp) (rs : List Nat) (t : List (Nat × List Nat)) (K : Env → Heap → Prop) (e : Env) (H : Heap) (d : Option Nat) : Prop := match v with
  | .bool b => if b = want then stepL P o e H (contD P gl rs t K e d) else wpD P gl t K (putE e d (.tup [])) H
  | .tup [] => wpD P gl t K (putE e d (.tup [])) H
  | _ => False
@[go_sem] theorem stepD_some {gl : List GOp} {K : Env → Heap → Prop} {d : Option Nat} {o : IOp} {rs : List Nat} {t : List (Nat × List Nat)} {g : Nat} {want : Bool} : stepD P ⟨d, o, some (g, want)⟩ gl rs t K e H = guardD P (e g) want o gl rs t K e H d := idE rfl
section
variable {gl : List GOp} {rs : List Nat} {t : List (Nat × List Nat)} {K : Env → Heap → Prop} {d : Option Nat} {o : IOp}
@[go_sem] theorem guardD_tt : guardD P (.bool true) true o gl rs t K e H d = stepL P o e H (contD P gl rs t K e d) := idE rfl
@[go_sem] theorem guardD_ff : guardD P (.bool false) false o gl rs t K e H d = stepL P o e H (contD P gl rs t K e d) := idE rfl
@[go_sem] theorem guardD_tf : guardD P (.bool true) false o gl rs t K e H d = wpD P gl t K (putE e d (.tup [])) H := idE rfl
@[go_sem] theorem guardD_ft : guardD P (.bool false) true o gl rs t K e H d = wpD P gl t K (putE e d (.tup [])) H := idE rfl
@[go_sem] theorem guardD_und {want : Bool} : guardD P (.tup []) want o gl rs t K e H d = wpD P gl t K (putE e d (.tup [])) H := idE rfl
@[go_sem] theorem contD_go {v : AV} : contD P gl rs t K e d v H = (chkAll gl rs (putE e d v) H ∧ wpD P gl t K (putE e d v) H) := idE rfl
end
@[go_sem] theorem preAll_nil {gl : List GOp} : preAll gl [] e = True := idE rfl
@[go_sem] theorem chkAll_nil {gl : List GOp} : chkAll gl [] e H = True := idE rfl
@[go_sem] theorem preAll_cons {gl : List GOp} {j : Nat} {t : List Nat} : preAll gl (j :: t) e = ((if (gAt gl j).op.quiet then True else (alc e (gAt gl j).op).isSome = true) ∧ preAll gl t e) := idE rfl
def chk1 (g : GOp) (e : Env) (H : Heap) : Prop := if g.op.quiet then (match g.dst with | some d => gq g e H = some (e d) | none => True) else True
@[go_sem] theorem chkAll_cons {gl : List GOp} {j : Nat} {t : List Nat} : chkAll gl (j :: t) e H = (chk1 (gAt gl j) e H ∧ chkAll gl t e H) := idE rfl
@[go_sem] theorem chk1_load {d : Nat} {x : X} {n : Nat} {ag : Bool} : chk1 ⟨some d, .load x n ag, none⟩ e H = (loadF H n ag (x.ev e) = some (e d)) := idE rfl
@[go_sem] theorem chk1_bslc {d : Option Nat} {a b : Nat} {z : List AV} {p : List (Nat × X)} {g : Option (Nat × Bool)} : chk1 ⟨d, .bslc a b z p, g⟩ e H = True := idE rfl
@[go_sem] theorem quiet_bslc {a b : Nat} {z : List AV} {p : List (Nat × X)} : IOp.quiet (.bslc a b z p) = false := idE rfl
@[go_sem] theorem quiet_load {x : X} {n : Nat} {ag : Bool} : IOp.quiet (.load x n ag) = true := idE rfl
@[go_sem] theorem alc_bslc {a b : Nat} {z : List AV} {p : List (Nat × X)} : alc e (.bslc a b z p) = bslF e a (zeros z b) p := idE rfl
attribute [go_sem] decide_true decide_false ne_eq not_true_eq_false not_false_eq_true Bool.false_eq_true if_false Bool.not_true Bool.not_false
attribute [go_sem] true_and and_true Option.isSome_some if_true
end
end Go.M2

namespace Go.M2
attribute [go_sem] List.getD_cons_zero List.getD_cons_succ List.map_cons List.map_nil Option.map_some Option.map_none List.cons_append List.nil_append
theorem idP {p : Prop} (h : p) : p := h
theorem bL {a b : Nat} (h : Nat.ble a b = true) : a ≤ b := Nat.le_of_ble_eq_true h
theorem ACall.of {P : Program} {f : FuncId} {args : List AV} {H : Heap} {p : AV → Heap → Prop} (h : ∀ R : AV → Heap → Prop, (∀ r H', p r H' → R r H') → ACall P f args H R) : ACall P f args H p := h p fun _ _ h => h
theorem wp_loop_k {P : Program} {Q : Post} {e : Env} {H : Heap} {a : IR} (I : Env → Heap → Prop) (μ : Env → Heap → Nat) (h0 : I e H)
    (hr : ∀ e H, I e H → ∀ K : Env → Heap → Prop, (∀ e' H', I e' H' → μ e' H' < μ e H → K e' H') → wp P a (thenQ K Q) e H) : wp P (.loop a) Q e H :=
  ⟨I, μ, h0, fun e H hI => hr e H hI _ fun e' H' h1 h2 => ⟨h1, h2⟩⟩
def Le (H H' : Heap) : Prop := H.size ≤ H'.size ∧ ∀ b, b < H.size → H.blk b = .dead ∨ H'.blk b = H.blk b
theorem Le.refl (H : Heap) : Le H H := ⟨Nat.le_refl _, fun _ _ => .inr rfl⟩
theorem Le.trans {a b c : Heap} (h : Le a b) (k : Le b c) : Le a c :=
  ⟨Nat.le_trans h.1 k.1, fun i hi => by
    rcases h.2 i hi with h1 | h1
    · exact .inl h1
    · rcases k.2 i (Nat.lt_of_lt_of_le hi h.1) with h2 | h2
      · exact .inl (h1 ▸ h2)
      · exact .inr (h2.trans h1)⟩
theorem Le.ext {H H' : Heap} (h : Ext H H') : Le H H' := ⟨h.1, fun b hb => .inr (h.2 b hb)⟩
theorem Le.alloc (H : Heap) (c : List AV) : Le H (H.alloc c) := .ext (.alloc H c)
theorem Le.kill (H : Heap) (b : Nat) : Le (H.kill b) H := ⟨Nat.le_refl _, fun i hi => by
  simp only [Heap.kill, Heap.upd]
  split
  · exact .inl rfl
  · exact .inr rfl⟩
theorem Le.kills {H H' : Heap} (h : Le H H') (b : Nat) : Le (H.kill b) (H'.kill b) := ⟨h.1, fun i hi => by
  simp only [Heap.kill, Heap.upd]
  split
  · exact .inl rfl
  · exact h.2 i hi⟩
theorem Le.killFresh {H H' : Heap} (h : Le H H') {b : Nat} (hb : H.size ≤ b) : Le H (H'.kill b) := ⟨h.1, fun i hi => by
  simp only [Heap.kill, Heap.upd]
  rw [if_neg (by omega)]
  exact h.2 i hi⟩
theorem Le.updDead {H H' : Heap} (h : Le H H') {b : Nat} (hb : H.blk b = .dead) (x : Blk) : Le H (H'.upd b x) := ⟨h.1, fun i hi => by
  simp only [Heap.upd]
  split
  · rename_i e; subst e; exact .inl hb
  · exact h.2 i hi⟩
theorem kill_dead (H : Heap) (b : Nat) : (H.kill b).blk b = .dead := by simp [Heap.kill, Heap.upd]
theorem kill_ne {H : Heap} {b i : Nat} (h : i ≠ b) : (H.kill b).blk i = H.blk i := by simp [Heap.kill, Heap.upd, h]
theorem kill_size (H : Heap) (b : Nat) : (H.kill b).size = H.size := rfl
theorem Le.cells {H H' : Heap} (h : Le H H') {b : Nat} {c : List AV} {r : Bool} (hb : b < H.size) (hc : H.blk b = .cells c r) : H'.blk b = .cells c r := by
  rcases h.2 b hb with h1 | h1
  · rw [hc] at h1; cases h1
  · rw [h1, hc]
theorem Le.get {H H' : Heap} (h : Le H H') {b o : Nat} {x : AV} (hx : H.get b o = some x) : H'.get b o = some x := by
  have hlt := Heap.get_lt hx
  simp only [Heap.get, Option.bind_eq_some_iff] at hx ⊢
  obtain ⟨c, hc, hy⟩ := hx
  refine ⟨c, ?_, hy⟩
  obtain ⟨r, hr⟩ := Heap.cellsAt_blk hc
  unfold Heap.cellsAt
  rw [if_pos (Nat.lt_of_lt_of_le hlt h.1), h.cells hlt hr]
def Rd (H : Heap) (b o : Nat) (l : List AV) : Prop := ∀ i x, l[i]? = some x → H.get b (o + i) = some x
theorem Rd.le {H H' : Heap} (h : Le H H') {b o : Nat} {l : List AV} (hr : Rd H b o l) : Rd H' b o l := fun i x hi => h.get (hr i x hi)
theorem Rd.nil (H : Heap) (b o : Nat) : Rd H b o [] := fun i x h => by simp at h
theorem Rd.loadN {H : Heap} {b : Nat} : ∀ {l : List AV} {o : Nat}, Rd H b o l → loadN H b o l.length = some l
  | [], o, h => rfl
  | x :: t, o, h => by
    simp only [List.length_cons, M2.loadN]
    have h0 : H.get b o = some x := by simpa using h 0 x rfl
    have ht : Rd H b (o + 1) t := fun i y hi => by
      have := h (i + 1) y (by simpa using hi)
      rwa [show o + 1 + i = o + (i + 1) by omega]
    rw [h0, Rd.loadN ht]
theorem Rd.sub {H : Heap} {b o : Nat} {l : List AV} (h : Rd H b o l) (i n : Nat) : Rd H b (o + i) ((l.drop i).take n) := fun j x hj => by
  have : l[i + j]? = some x := by
    rw [List.getElem?_take] at hj
    split at hj
    · simpa using hj
    · cases hj
  have := h _ _ this
  rwa [show o + i + j = o + (i + j) by omega]
theorem Rd.blk {H : Heap} {b : Nat} {l : List AV} {r : Bool} (hb : b < H.size) (h : H.blk b = .cells l r) : Rd H b 0 l := fun i x hi => by
  unfold Heap.get Heap.cellsAt
  rw [if_pos hb, h]
  simpa using hi
theorem rwCells_of {H : Heap} {b : Nat} {l : List AV} (hb : b < H.size) (h : H.blk b = .cells l true) : H.rwCells b = some l := by
  unfold Heap.rwCells
  rw [if_pos hb, h]
theorem alloc_size (H : Heap) (c : List AV) : (H.alloc c).size = H.size + 1 := idE rfl
theorem alloc_new (H : Heap) (c : List AV) : (H.alloc c).blk H.size = .cells c true := by simp [Heap.alloc, Heap.put]
theorem alloc_old {H : Heap} {c : List AV} {b : Nat} (h : b ≠ H.size) : (H.alloc c).blk b = H.blk b := by simp [Heap.alloc, Heap.put, h]
def chkG (v : AV) (want : Bool) (o : Option AV) (u : AV) : Prop := (match v with
  | .bool b => if b = want then o else some (.tup [])
  | .tup [] => some (.tup [])
  | _ => none) = some u
@[go_sem] theorem chk1_loadG {e : Env} {H : Heap} {d g : Nat} {x : X} {n : Nat} {ag want : Bool} : chk1 ⟨some d, .load x n ag, some (g, want)⟩ e H = chkG (e g) want (loadF H n ag (x.ev e)) (e d) := idE rfl
@[go_sem] theorem chkG_tt {o : Option AV} {u : AV} : chkG (.bool true) true o u = (o = some u) := idE rfl
@[go_sem] theorem chkG_ff {o : Option AV} {u : AV} : chkG (.bool false) false o u = (o = some u) := idE rfl
@[go_sem] theorem chkG_tf {o : Option AV} {u : AV} : chkG (.bool true) false o u = (some (.tup []) = some u) := idE rfl
@[go_sem] theorem chkG_ft {o : Option AV} {u : AV} : chkG (.bool false) true o u = (some (.tup []) = some u) := idE rfl
@[go_sem] theorem chkG_und {want : Bool} {o : Option AV} {u : AV} : chkG (.tup []) want o u = (some (.tup []) = some u) := idE rfl
attribute [go_sem] alloc_size Nat.add_zero Nat.zero_add
section
variable {H : Heap} {b o : Nat} {c l : List AV}
@[go_sem] theorem upd_size {x : Blk} : (H.upd b x).size = H.size := idE rfl
@[go_sem] theorem get_alloc_new (h : b = H.size) : (H.alloc c).get b o = c[o]? := by subst h; simp [Heap.get, Heap.cellsAt, Heap.alloc, Heap.put]
@[go_sem] theorem get_alloc_old (h : b < H.size) : (H.alloc c).get b o = H.get b o := by
  have e : (H.alloc c).blk b = H.blk b := alloc_old (by omega)
  simp [Heap.get, Heap.cellsAt, e, h, alloc_size, show b < H.size + 1 by omega]
@[go_sem] theorem rw_alloc_new (h : b = H.size) : (H.alloc c).rwCells b = some c := by subst h; simp [Heap.rwCells, Heap.alloc, Heap.put]
@[go_sem] theorem rw_alloc_old (h : b < H.size) : (H.alloc c).rwCells b = H.rwCells b := by
  have e : (H.alloc c).blk b = H.blk b := alloc_old (by omega)
  simp [Heap.rwCells, e, h, alloc_size, show b < H.size + 1 by omega]
theorem upd_blk_same' {x : Blk} : (H.upd b x).blk b = x := by simp [Heap.upd]
theorem upd_blk_ne {b' : Nat} {x : Blk} (h : b' ≠ b) : (H.upd b x).blk b' = H.blk b' := by simp [Heap.upd, h]
@[go_sem] theorem rw_upd_same (h : b < H.size) : (H.upd b (.cells c true)).rwCells b = some c := by
  simp [Heap.rwCells, upd_blk_same', upd_size, h]
@[go_sem] theorem rw_upd_ne {b' : Nat} {x : Blk} (h : b' ≠ b) : (H.upd b x).rwCells b' = H.rwCells b' := by
  simp [Heap.rwCells, upd_blk_ne h, upd_size]
@[go_sem] theorem get_upd_same (h : b < H.size) : (H.upd b (.cells c true)).get b o = c[o]? := by
  simp [Heap.get, Heap.cellsAt, upd_blk_same', upd_size, h]
@[go_sem] theorem get_upd_ne {b' : Nat} {x : Blk} (h : b' ≠ b) : (H.upd b x).get b' o = H.get b' o := by
  simp [Heap.get, Heap.cellsAt, upd_blk_ne h, upd_size]
def stoK (n : Nat) (b o : Nat) (cs : Option (List AV)) (c : Option (List AV)) (H : Heap) (K : AV → Heap → Prop) : Prop := match c, cs with
  | some c, some cs => c.length = n ∧ c.all oneA = true ∧ o + n ≤ cs.length ∧ K .junk (H.upd b (.cells (setAt cs o c) true))
  | _, _ => False
@[go_sem] theorem storeP_go {n : Nat} {v : AV} {K : AV → Heap → Prop} : storeP n (.ptr (some (b, o))) v H K = stoK n b o (H.rwCells b) (cellsOf v) H K := by
  unfold storeP stoK
  cases cellsOf v with
  | none => rfl
  | some c => cases h : H.rwCells b <;> simp only [h]
@[go_sem] theorem stoK_1 {v : AV} {K : AV → Heap → Prop} (hv : oneA v = true) (h : o < l.length) : stoK 1 b o (some l) (some [v]) H K = K .junk (H.upd b (.cells (l.set o v) true)) := by
  unfold stoK
  simp [hv, setAt]
  intro; omega
theorem stoK_n {n : Nat} {K : AV → Heap → Prop} (hn : c.length = n) (hv : c.all oneA = true) (h : o + n ≤ l.length) : stoK n b o (some l) (some c) H K = K .junk (H.upd b (.cells (setAt l o c) true)) := by
  unfold stoK
  simp only [hn, hv, h, true_and]
@[go_sem] theorem stoK_2 {v1 v2 : AV} {K : AV → Heap → Prop} (h1 : oneA v1 = true) (h2 : oneA v2 = true) (h : o + 2 ≤ l.length) : stoK 2 b o (some l) (some [v1, v2]) H K = K .junk (H.upd b (.cells (setAt l o [v1, v2]) true)) := stoK_n rfl (by simp [h1, h2]) h
@[go_sem] theorem stoK_3 {v1 v2 v3 : AV} {K : AV → Heap → Prop} (h1 : oneA v1 = true) (h2 : oneA v2 = true) (h3 : oneA v3 = true) (h : o + 3 ≤ l.length) : stoK 3 b o (some l) (some [v1, v2, v3]) H K = K .junk (H.upd b (.cells (setAt l o [v1, v2, v3]) true)) := stoK_n rfl (by simp [h1, h2, h3]) h
@[go_sem] theorem stoK_4 {v1 v2 v3 v4 : AV} {K : AV → Heap → Prop} (h1 : oneA v1 = true) (h2 : oneA v2 = true) (h3 : oneA v3 = true) (h4 : oneA v4 = true) (h : o + 4 ≤ l.length) : stoK 4 b o (some l) (some [v1, v2, v3, v4]) H K = K .junk (H.upd b (.cells (setAt l o [v1, v2, v3, v4]) true)) := stoK_n rfl (by simp [h1, h2, h3, h4]) h
@[go_sem] theorem stoK_5 {v1 v2 v3 v4 v5 : AV} {K : AV → Heap → Prop} (h1 : oneA v1 = true) (h2 : oneA v2 = true) (h3 : oneA v3 = true) (h4 : oneA v4 = true) (h5 : oneA v5 = true) (h : o + 5 ≤ l.length) : stoK 5 b o (some l) (some [v1, v2, v3, v4, v5]) H K = K .junk (H.upd b (.cells (setAt l o [v1, v2, v3, v4, v5]) true)) := stoK_n rfl (by simp [h1, h2, h3, h4, h5]) h
@[go_sem] theorem stoK_6 {v1 v2 v3 v4 v5 v6 : AV} {K : AV → Heap → Prop} (h1 : oneA v1 = true) (h2 : oneA v2 = true) (h3 : oneA v3 = true) (h4 : oneA v4 = true) (h5 : oneA v5 = true) (h6 : oneA v6 = true) (h : o + 6 ≤ l.length) : stoK 6 b o (some l) (some [v1, v2, v3, v4, v5, v6]) H K = K .junk (H.upd b (.cells (setAt l o [v1, v2, v3, v4, v5, v6]) true)) := stoK_n rfl (by simp [h1, h2, h3, h4, h5, h6]) h
@[go_sem] theorem boxP_agg {K : AV → Heap → Prop} : boxP (.agg l) H K = K (.ptr (some (H.size, 0))) (H.alloc l) := idE rfl
def consO (x : Option AV) (l : Option (List AV)) : Option (List AV) := match x, l with
  | some x, some l => some (x :: l)
  | _, _ => none
@[go_sem] theorem consO_go {x : AV} : consO (some x) (some l) = some (x :: l) := idE rfl
@[go_sem] theorem loadN_0 : loadN H b o 0 = some [] := idE rfl
@[go_sem] theorem loadN_1 : loadN H b o 1 = consO (H.get b o) (loadN H b (o + 1) 0) := idE rfl
@[go_sem] theorem loadN_2 : loadN H b o 2 = consO (H.get b o) (loadN H b (o + 1) 1) := idE rfl
@[go_sem] theorem loadN_3 : loadN H b o 3 = consO (H.get b o) (loadN H b (o + 1) 2) := idE rfl
@[go_sem] theorem loadN_4 : loadN H b o 4 = consO (H.get b o) (loadN H b (o + 1) 3) := idE rfl
@[go_sem] theorem loadN_5 : loadN H b o 5 = consO (H.get b o) (loadN H b (o + 1) 4) := idE rfl
@[go_sem] theorem loadN_6 : loadN H b o 6 = consO (H.get b o) (loadN H b (o + 1) 5) := idE rfl
@[go_sem] theorem loadN_7 : loadN H b o 7 = consO (H.get b o) (loadN H b (o + 1) 6) := idE rfl
attribute [go_sem] List.getElem?_cons_zero List.getElem?_cons_succ
@[go_sem] theorem nth_1 {x y : AV} : (x :: y :: l)[1]? = some y := rfl
@[go_sem] theorem nth_2 {x y z : AV} : (x :: y :: z :: l)[2]? = some z := rfl
@[go_sem] theorem nth_3 {x y z u : AV} : (x :: y :: z :: u :: l)[3]? = some u := rfl
@[go_sem] theorem nth_4 {x y z u v : AV} : (x :: y :: z :: u :: v :: l)[4]? = some v := rfl
@[go_sem] theorem nth_5 {x y z u v w : AV} : (x :: y :: z :: u :: v :: w :: l)[5]? = some w := rfl
@[go_sem] theorem set_1 {x y v : AV} : (x :: y :: l).set 1 v = x :: v :: l := rfl
@[go_sem] theorem set_2 {x y z v : AV} : (x :: y :: z :: l).set 2 v = x :: y :: v :: l := rfl
@[go_sem] theorem set_3 {x y z u v : AV} : (x :: y :: z :: u :: l).set 3 v = x :: y :: z :: v :: l := rfl
@[go_sem] theorem set_4 {x y z u w v : AV} : (x :: y :: z :: u :: w :: l).set 4 v = x :: y :: z :: u :: v :: l := rfl
@[go_sem] theorem set_5 {x y z u w t v : AV} : (x :: y :: z :: u :: w :: t :: l).set 5 v = x :: y :: z :: u :: w :: v :: l := rfl
end
def base (H : Heap) : AV → Heap
  | .sl (some (b, _)) _ _ _ _ => H.kill b
  | _ => H
theorem base_le (H : Heap) (v : AV) : Le (base H v) H := by
  unfold base
  split
  · exact Le.kill H _
  · exact Le.refl H
structure Own (sz : Nat) (H : Heap) (v : AV) (l : List AV) : Prop where
  ex : ∃ A n ex k, v = .sl A n n ex k ∧ l.length = n * sz ∧ (A = none → n = 0 ∧ ex = true) ∧ ∀ b o, A = some (b, o) → k = sz ∧ o = 0 ∧ b < H.size ∧ H.blk b = .cells l true
theorem Own.nil {sz : Nat} {H : Heap} {k : Nat} : Own sz H (.sl none 0 0 true k) [] := ⟨none, 0, true, k, rfl, by simp, fun _ => ⟨rfl, rfl⟩, fun _ _ h => nomatch h⟩
theorem Own.new {sz n : Nat} {H : Heap} {l : List AV} {ex : Bool} (h : l.length = n * sz) : Own sz (H.alloc l) (.sl (some (H.size, 0)) n n ex sz) l :=
  ⟨some (H.size, 0), n, ex, sz, rfl, h, fun h => (nomatch h), fun b o e => by cases e; exact ⟨rfl, rfl, Nat.lt_succ_self _, alloc_new H l⟩⟩
theorem Own.len {sz n c k : Nat} {A : AA} {ex : Bool} {H : Heap} {l : List AV} (h : Own sz H (.sl A n c ex k) l) : c = n ∧ l.length = n * sz := by
  obtain ⟨A', n', ex', k', e, h1, _⟩ := h
  cases e; exact ⟨rfl, h1⟩
theorem Own.le {sz : Nat} {H H' : Heap} {v : AV} {l : List AV} (h : Own sz H v l) (hl : Le H H') : Own sz H' v l := by
  obtain ⟨A, n, ex, k, rfl, h1, h2, h3⟩ := h
  refine ⟨A, n, ex, k, rfl, h1, h2, fun b o e => ?_⟩
  obtain ⟨q1, q2, q3, q4⟩ := h3 b o e
  exact ⟨q1, q2, Nat.lt_of_lt_of_le q3 hl.1, hl.cells q3 q4⟩
theorem base_mono {H H' : Heap} (h : Le H H') (v : AV) : Le (base H v) (base H' v) := by
  unfold base
  split
  · exact h.kills _
  · exact h
theorem Own.rd {sz n c k : Nat} {A : AA} {ex : Bool} {H : Heap} {l : List AV} (h : Own sz H (.sl A n c ex k) l) : Rd H A.b A.o l := by
  obtain ⟨A', n', ex', k', e, h1, h2, h3⟩ := h
  cases e
  cases A with
  | none =>
    have := (h2 rfl).1
    subst this
    have : l = [] := List.eq_nil_of_length_eq_zero (by simpa using h1)
    subst this; exact Rd.nil _ _ _
  | some p =>
    obtain ⟨b, o⟩ := p
    obtain ⟨_, rfl, q3, q4⟩ := h3 b o rfl
    exact Rd.blk q3 q4
def Heap.later (H : Heap) (n : Nat) : Heap := ⟨H.size, fun b => if b < n then .dead else H.blk b⟩
theorem later_blk {H : Heap} {n b : Nat} (h : n ≤ b) : (H.later n).blk b = H.blk b := by simp only [Heap.later]; rw [if_neg (by omega)]
theorem later_mono {H H' : Heap} (h : Le H H') {n m : Nat} (hn : m ≤ n) : Le (H.later n) (H'.later m) := ⟨h.1, fun i hi => by
  simp only [Heap.later]
  by_cases h1 : i < n
  · rw [if_pos h1]; exact .inl rfl
  · rw [if_neg h1, if_neg (by omega)]; exact h.2 i hi⟩
theorem Le.updFresh {H H' : Heap} (h : Le H H') {b : Nat} (hb : H.size ≤ b) {x : Blk} : Le H (H'.upd b x) := ⟨h.1, fun i hi => by
  rw [upd_blk_ne (by omega)]; exact h.2 i hi⟩
theorem Le.allocs {H H' : Heap} (h : Le H H') {c : List AV} : Le H (H'.alloc c) := h.trans (Le.alloc _ _)
theorem Le.rwCells {H H' : Heap} (h : Le H H') {b : Nat} {c : List AV} (hc : H.rwCells b = some c) : H'.rwCells b = some c := by
  obtain ⟨h1, h2⟩ := Heap.rwCells_blk hc
  exact rwCells_of (Nat.lt_of_lt_of_le h1 h.1) (h.cells h1 h2)
theorem upd_kill (H : Heap) (b : Nat) (x : Blk) : (H.upd b x).kill b = H.kill b := by
  unfold Heap.kill Heap.upd
  simp only [Heap.mk.injEq, true_and]
  funext i
  split <;> rfl
def newer (n : Nat) : AV → Prop
  | .sl (some (b, _)) _ _ _ _ => n ≤ b
  | _ => True
theorem newer.mono {n m : Nat} (h : m ≤ n) {v : AV} (hv : newer n v) : newer m v := by
  unfold newer at hv ⊢
  split at hv
  · exact Nat.le_trans h hv
  · trivial
theorem Own.later {sz n : Nat} {H : Heap} {v : AV} {l : List AV} (h : Own sz H v l) (hv : newer n v) : Own sz (H.later n) v l := by
  obtain ⟨A, m, ex, k, rfl, h1, h2, h3⟩ := h
  refine ⟨A, m, ex, k, rfl, h1, h2, fun b o e => ?_⟩
  subst e
  obtain ⟨q1, q2, q3, q4⟩ := h3 b o rfl
  exact ⟨q1, q2, q3, by rw [later_blk hv]; exact q4⟩
theorem app_own {sz by_ m c' k' : Nat} {ex' : Bool} {A' : AA} {H : Heap} {s : AV} {l new : List AV} {K : AV → Heap → Prop} (hs : 0 < sz) (h : Own sz H s l) (hx : Rd H A'.b A'.o new) (hn : new.length = m * sz) (ho : new.all oneA = true)
    (hb : (l.length + m) * by_ ≤ mostCells) (hb2 : l.length + m ≤ mostCells)
    (hk : ∀ s' H', Own sz H' s' (l ++ new) → Le (base H s) (base H' s') → (∀ n, n ≤ H.size → newer n s → newer n s') → K s' H') : appP sz by_ s (.sl A' m c' ex' k') H K := by
  obtain ⟨A, n, ex, k, rfl, h1, h2, h3⟩ := h
  have hln := hx.loadN
  rw [hn] at hln
  have hnl : n ≤ l.length := by rw [h1]; exact Nat.le_mul_of_pos_right n hs
  unfold appP
  simp only [hln]
  by_cases hm : m = 0
  · rw [if_pos hm]
    have : new = [] := List.eq_nil_of_length_eq_zero (by rw [hn, hm]; simp)
    subst this
    exact hk _ H (by simpa using (⟨⟨A, n, ex, k, rfl, h1, h2, h3⟩⟩ : Own sz H (.sl A n n ex k) l)) (Le.refl _) (fun _ _ h => h)
  · rw [if_neg hm, if_neg (by omega)]
    refine ⟨Nat.le_trans (Nat.mul_le_mul_right _ (by omega)) hb, by omega, ?_⟩
    have hlen : (l ++ new).length = (n + m) * sz := by rw [List.length_append, h1, hn, Nat.add_mul]
    by_cases hex : ex = true
    · rw [if_pos hex]
      have hold : loadN H A.b A.o (n * sz) = some l := by
        have := (Own.rd (⟨⟨A, n, ex, k, rfl, h1, h2, h3⟩⟩ : Own sz H (.sl A n n ex k) l)).loadN
        rwa [h1] at this
      simp only [hold]
      refine hk _ _ (Own.new hlen) ?_ (fun _ h _ => h)
      simp only [base]
      exact ((base_le H _).trans (Le.alloc H _)).killFresh (by unfold base; split <;> exact Nat.le_refl _)
    · rw [if_neg hex]
      cases A with
      | none => exact absurd (h2 rfl).2 hex
      | some p =>
        obtain ⟨b, o⟩ := p
        obtain ⟨rfl, rfl, q3, q4⟩ := h3 b o rfl
        simp only [AA.b_some]
        rw [rwCells_of q3 q4]
        simp only [AA.o, Nat.zero_add, List.drop_zero]
        refine ⟨rfl, trivial, ho, by omega, ?_⟩
        rw [List.take_of_length_le (by omega)]
        exact hk _ _ (Own.new (H := H.kill b) hlen) ((Le.alloc _ _).killFresh (Nat.le_refl _)) (fun _ h _ => h)
theorem mks_own {z : List AV} {by_ : Nat} {n : Int} {H : Heap} {K : AV → Heap → Prop} (h0 : 0 ≤ n) (h1 : n.toNat * by_ ≤ mostCells) (h2 : n.toNat ≤ mostCells)
    (hk : K (.sl (some (H.size, 0)) n.toNat n.toNat true z.length) (H.alloc (zeros z n.toNat))) : mksP z by_ (.int .i64 n) H K := ⟨h0, h1, h2, hk⟩
def ctr (n : Nat) : AV → Nat
  | .int _ i => n - i.toNat
  | _ => 0
theorem ctr_int {n : Nat} {k : IntKind} {i : Int} : ctr n (.int k i) = n - i.toNat := rfl
theorem take_map_succ {xs : List Int} {i : Nat} (h : i < xs.length) : (xs.take i).map (AV.int .i64) ++ [.int .i64 xs[i]] = (xs.take (i + 1)).map (AV.int .i64) := by
  rw [List.take_succ_eq_append_getElem h, List.map_append]; rfl
def IsS {α : Type} (sz : Nat) (E : Heap → α → List AV → Prop) (H : Heap) (v : AV) (xs : List α) : Prop :=
  ∃ A c ex k, v = .sl A xs.length c ex k ∧ ∀ i (h : i < xs.length), ∃ cs, cs.length = sz ∧ Rd H A.b (A.o + i * sz) cs ∧ E H xs[i] cs
def EI (H : Heap) (n : Int) (l : List AV) : Prop := l = [.int .i64 n]
def ES {α : Type} (sz : Nat) (E : Heap → α → List AV → Prop) (H : Heap) (xs : List α) (l : List AV) : Prop := ∃ v, l = [v] ∧ IsS sz E H v xs
abbrev IsI : Heap → AV → List Int → Prop := IsS 1 EI
abbrev EII := ES 1 EI
abbrev IsII : Heap → AV → List (List Int) → Prop := IsS 1 EII
def Mono {α : Type} (E : Heap → α → List AV → Prop) : Prop := ∀ H H' x l, Le H H' → E H x l → E H' x l
theorem mono_I : Mono EI := fun _ _ _ _ _ h => h
theorem IsS.le {α : Type} {sz : Nat} {E : Heap → α → List AV → Prop} (hm : Mono E) {H H' : Heap} (h : Le H H') {v : AV} {xs : List α} (hv : IsS sz E H v xs) : IsS sz E H' v xs := by
  obtain ⟨A, c, ex, k, rfl, hr⟩ := hv
  refine ⟨A, c, ex, k, rfl, fun i hi => ?_⟩
  obtain ⟨cs, h1, h2, h3⟩ := hr i hi
  exact ⟨cs, h1, h2.le h, hm _ _ _ _ h h3⟩
theorem mono_S {α : Type} {sz : Nat} {E : Heap → α → List AV → Prop} (hm : Mono E) : Mono (ES sz E) := fun H H' x l h ⟨v, h1, h2⟩ => ⟨v, h1, h2.le hm h⟩
theorem mono_II : Mono EII := mono_S mono_I
theorem IsI.le {H H' : Heap} (h : Le H H') {v : AV} {xs : List Int} (hv : IsI H v xs) : IsI H' v xs := IsS.le mono_I h hv
theorem IsII.le {H H' : Heap} (h : Le H H') {v : AV} {xs : List (List Int)} (hv : IsII H v xs) : IsII H' v xs := IsS.le mono_II h hv
theorem IsI.parts {H : Heap} {v : AV} {xs : List Int} (h : IsI H v xs) : ∃ A c ex k, v = .sl A xs.length c ex k ∧ ∀ i (h : i < xs.length), H.get A.b (A.o + i * 1) = some (.int .i64 xs[i]) := by
  obtain ⟨A, c, ex, k, rfl, hr⟩ := h
  refine ⟨A, c, ex, k, rfl, fun i hi => ?_⟩
  obtain ⟨cs, h1, h2, h3⟩ := hr i hi
  simp only [EI] at h3
  subst h3
  exact h2 0 _ rfl
theorem IsII.parts {H : Heap} {v : AV} {xs : List (List Int)} (h : IsII H v xs) : ∃ A c ex k, v = .sl A xs.length c ex k ∧ ∀ i (h : i < xs.length), ∃ u, H.get A.b (A.o + i * 1) = some u ∧ IsI H u xs[i] := by
  obtain ⟨A, c, ex, k, rfl, hr⟩ := h
  refine ⟨A, c, ex, k, rfl, fun i hi => ?_⟩
  obtain ⟨cs, h1, h2, u, rfl, h4⟩ := hr i hi
  exact ⟨u, h2 0 _ rfl, h4⟩
theorem IsI.rd {H : Heap} {A : AA} {n c k : Nat} {ex : Bool} {xs : List Int} (h : IsI H (.sl A n c ex k) xs) : n = xs.length ∧ Rd H A.b A.o (xs.map (AV.int .i64)) := by
  obtain ⟨A', c', ex', k', e, hr⟩ := h.parts
  cases e
  refine ⟨rfl, fun i x hi => ?_⟩
  simp only [List.getElem?_map, Option.map_eq_some_iff] at hi
  obtain ⟨y, hy, rfl⟩ := hi
  obtain ⟨h1, h2⟩ := List.getElem?_eq_some_iff.1 hy
  have := hr i h1
  rw [Nat.mul_one] at this
  rw [this, h2]
theorem Own.isI {H : Heap} {v : AV} {xs : List Int} (h : Own 1 H v (xs.map (AV.int .i64))) : IsI H v xs := by
  obtain ⟨A, n, ex, k, rfl, h1, h2, h3⟩ := h
  have hr := Own.rd (⟨⟨A, n, ex, k, rfl, h1, h2, h3⟩⟩ : Own 1 H (.sl A n n ex k) (xs.map (AV.int .i64)))
  have hn : n = xs.length := by simpa using h1.symm
  subst hn
  refine ⟨A, _, ex, k, rfl, fun i hi => ⟨[.int .i64 xs[i]], rfl, ?_, rfl⟩⟩
  intro j x hj
  cases j with
  | zero =>
    simp only [List.getElem?_cons_zero, Option.some.injEq] at hj
    subst hj
    have := hr i (.int .i64 xs[i]) (by simp [hi])
    simpa using this
  | succ j => simp at hj
end Go.M2

namespace Go.M2
open Go.RowKit
def avC (N : Nat) : Value → AV
  | .bool b => .bool b
  | .int k n => .int k n
  | .string s => .str s
  | .slice (some a) len cap => if a.block < N ∧ a.spot = none ∧ len ≤ cap then .sl (some (a.block, a.off)) len cap true 0 else if len = 0 ∧ cap = 0 then .emp else .junk
  | .slice none 0 0 => .sl none 0 0 true 0
  | _ => .junk
def rho0 : Nat → BI := fun b => ⟨b, 0, 0, false⟩
theorem avC_VR (N : Nat) (v : Value) : VR N rho0 (avC N v) v := by
  unfold avC
  split
  · exact .bool _
  · exact .int _ _
  · exact .str _
  · rename_i a len cap
    split
    · rename_i h
      obtain ⟨h1, h2, h3⟩ := h
      have := VR.sl (N := N) (ρ := rho0) a.block a.off len cap true 0 cap h1 h3 (Nat.le_refl _) (fun _ => rfl) (fun h => by cases h)
      have e : rA rho0 (some (a.block, a.off)) = some a := by
        cases a with
        | mk b o s => simp only at h2; subst h2; simp [rA, rho0]
      rw [e] at this; exact this
    · split
      · rename_i h; obtain ⟨rfl, rfl⟩ := h; exact .emp _
      · exact .junk _
  · exact .slN 0
  · exact .junk _
def avT (N : Nat) : Value → AV
  | .agg a => .agg (a.toList.map (avC N))
  | v => avC N v
theorem avT_VR (N : Nat) (v : Value) : VR N rho0 (avT N v) v := by
  unfold avT
  split
  · refine .agg _ _ (by simp) fun i x v hx hv => ?_
    simp only [List.getElem?_map, Option.map_eq_some_iff] at hx
    obtain ⟨u, hu, rfl⟩ := hx
    simp only [Array.getElem?_toList] at hu
    rw [hu] at hv; cases hv
    exact avC_VR N _
  · exact avC_VR N _
def heap0 (W : World) : Heap := ⟨W.heap.size, fun b => match W.heap[b]? with
  | some (.cells c _ _) => .cells (c.toList.map (avC W.heap.size)) false
  | _ => .dead⟩
theorem heap0_cells {W : World} {b : Nat} {c : List AV} {r : Bool} (h : (heap0 W).blk b = .cells c r) : r = false ∧ ∃ d t f, W.heap[b]? = some (.cells d t f) ∧ c = d.toList.map (avC W.heap.size) := by
  simp only [heap0] at h
  split at h
  · rename_i d t f e; cases h; exact ⟨rfl, d, t, f, e, rfl⟩
  · cases h
theorem heap0_HI (W : World) (hT : TabOk W) : HI W rho0 (heap0 W) W where
  tab := hT
  below := Below.refl _ _
  bound b hb := hb
  ro b c hb h := hb
  rw b c r hb h := by obtain ⟨rfl, _⟩ := heap0_cells h; rfl
  cell b c r hb h j x hx := by
    obtain ⟨_, d, t, f, e, rfl⟩ := heap0_cells h
    simp only [List.getElem?_map, Option.map_eq_some_iff] at hx
    obtain ⟨v, hv, rfl⟩ := hx
    simp only [Array.getElem?_toList] at hv
    exact ⟨v, by simp [World.cell?, rho0, e, hv], avC_VR _ _⟩
  own b c hb h := by obtain ⟨h1, _⟩ := heap0_cells h; cases h1
  map b es hb h := by
    simp only [heap0] at h
    split at h <;> cases h
  inj b b' hb hb' hne hrw := by
    exfalso
    unfold Heap.isRw at hrw
    rw [if_pos hb] at hrw
    split at hrw
    · rename_i c rw e; obtain ⟨rfl, _⟩ := heap0_cells e; cases hrw
    · rename_i es e
      simp only [heap0] at e
      split at e <;> cases e
    · cases hrw
theorem heap0_get {W : World} {b o : Nat} {v : Value} (h : W.cell? ⟨b, o, none⟩ = some v) : (heap0 W).get b o = some (avC W.heap.size v) := by
  simp only [World.cell?] at h
  split at h
  · rename_i c t f e
    simp only [Option.isSome_none, Bool.false_eq_true, if_false] at h
    have hb : b < W.heap.size := (Array.getElem?_eq_some_iff.1 e).1
    simp only [Heap.get, Heap.cellsAt, heap0, if_pos hb, e, Option.bind_some, List.getElem?_map, Array.getElem?_toList, h, Option.map_some]
  · cases h
theorem calls_of_acall {P : Program} {f : FuncId} {vs : List Value} {W : World} (h : ACall P f (vs.map (avT W.heap.size)) (heap0 W) (fun r _ => r = .bool true)) (hT : TabOk W := by exact trivial) :
    Calls P f vs.toArray W (fun e w' => e = .returned (.bool true) ∧ Below W.heap.size W w') := by
  refine (h.2 W rho0 W vs (heap0_HI W hT) ⟨by simp, fun i x v hx hv => ?_⟩).mono ?_
  · simp only [List.getElem?_map, Option.map_eq_some_iff] at hx
    obtain ⟨u, hu, rfl⟩ := hx
    rw [hu] at hv; cases hv
    exact avT_VR _ _
  · rintro e w' ⟨r, H', ρ', v, rfl, hv, _, hi, rfl⟩
    cases hv
    exact ⟨rfl, hi.below⟩
def InS {α : Type} (sz : Nat) (E : Heap → α → List AV → Prop) (H : Heap) (v : AV) (xs : List α) : Prop := IsS sz E H v xs ∨ (v = .emp ∧ xs = [])
theorem InS.le {α : Type} {sz : Nat} {E : Heap → α → List AV → Prop} (hm : Mono E) {H H' : Heap} (h : Le H H') {v : AV} {xs : List α} (hv : InS sz E H v xs) : InS sz E H' v xs :=
  hv.imp (fun h1 => h1.le hm h) id
theorem InS.len {α : Type} {sz : Nat} {E : Heap → α → List AV → Prop} {H : Heap} {v : AV} {xs : List α} (h : InS sz E H v xs) : lenF v = some (.int .i64 (xs.length : Int)) := by
  rcases h with ⟨A, c, ex, k, rfl, _⟩ | ⟨rfl, rfl⟩
  · rfl
  · rfl
theorem InS.get {α : Type} {E : Heap → α → List AV → Prop} {H : Heap} {v : AV} {xs : List α} (h : InS 1 E H v xs) {i : Nat} (hi : i < xs.length) :
    ∃ A c ex k u, v = .sl A xs.length c ex k ∧ H.get A.b (A.o + i) = some u ∧ E H xs[i] [u] := by
  rcases h with ⟨A, c, ex, k, rfl, hr⟩ | ⟨rfl, rfl⟩
  · obtain ⟨cs, h1, h2, h3⟩ := hr i hi
    match cs, h1 with
    | [u], _ => exact ⟨A, c, ex, k, u, rfl, by have := h2 0 u rfl; simpa using this, h3⟩
  · simp at hi
section
variable {HH : Type} {enc : TypeId × Value → HH} {P : Program} {W : World} {t e : TypeId} {fuel : Nat} {cs : List Value} {x : DataW HH × List MemPlace}
theorem list_of {α : Type} {p : Nat → α → Prop} : ∀ (n : Nat), (∀ i, i < n → ∃ y, p i y) → ∃ xs : List α, xs.length = n ∧ ∀ i y, xs[i]? = some y → p i y
  | 0, _ => ⟨[], rfl, fun i y h => by simp at h⟩
  | n + 1, h => by
    obtain ⟨xs, h1, h2⟩ := list_of n (fun i hi => h i (by omega))
    obtain ⟨y, hy⟩ := h n (by omega)
    refine ⟨xs ++ [y], by simp [h1], fun i z hz => ?_⟩
    by_cases hi : i < xs.length
    · rw [List.getElem?_append_left hi] at hz; exact h2 i z hz
    · rw [List.getElem?_append_right (by omega)] at hz
      have : i = n := by
        have := (List.getElem?_eq_some_iff.1 hz).1
        simp at this; omega
      subst this
      rw [h1] at hz
      simp at hz; subst hz; exact hy
theorem in_slice {α : Type} {E : Heap → α → List AV → Prop} {good : α → Prop} {sz : Nat} (ht : P.underlying t = some (.slice e)) (hsz : P.cellsOf e = sz) (h0 : 0 < sz)
    (he : ∀ n cs x, DataW.trod enc P W 0 (fun _ => true) true n e cs = some x → ∃ a, E (heap0 W) a (cs.map (avC W.heap.size)) ∧ good a)
    (h : DataW.trod enc P W 0 (fun _ => true) true fuel t cs = some x) :
    ∃ v xs, cs = [v] ∧ InS sz E (heap0 W) (avC W.heap.size v) xs ∧ (∀ a ∈ xs, good a) ∧ xs.length ≤ 9223372036854775807 := by
  subst hsz
  rcases DataW.trod_slice ht h with ⟨h1, _⟩ | ⟨a, len, cap, elems, rest, n, _, rfl, _, _, hl, hm, hlen, hel, hsp, _⟩
  · exact ⟨_, [], h1, .inl ⟨none, 0, true, 0, rfl, fun i hi => by simp at hi⟩, fun a ha => by simp at ha, by simp⟩
  · obtain ⟨hr1, hr2⟩ := hsp rfl
    -- each element
    have each : ∀ i, i < len → ∃ cs', W.cells? 0 (a.add (i * P.cellsOf e)) (P.cellsOf e) = some cs' ∧ ∃ y, E (heap0 W) y (cs'.map (avC W.heap.size)) ∧ good y := by
      intro i hi
      have h2 := hel i hi
      rw [List.getElem?_eq_getElem (by omega), Option.bind_eq_some_iff] at h2
      obtain ⟨cs', h3, h4⟩ := h2
      exact ⟨cs', h3, he _ _ _ h4⟩
    have addr : 0 < cap → a.block < W.heap.size ∧ a.spot = none := by
      intro hc
      have key : ∃ cs', W.cells? 0 a (P.cellsOf e) = some cs' := by
        by_cases hl0 : 0 < len
        · obtain ⟨cs', h3, _⟩ := each 0 hl0
          exact ⟨cs', by simpa [Addr.add] using h3⟩
        · have h2 := hr2 0 (by omega)
          rw [List.getElem?_eq_getElem (by omega), Option.bind_eq_some_iff] at h2
          obtain ⟨cs', h3, _⟩ := h2
          have : len = 0 := by omega
          subst this
          exact ⟨cs', by simpa [Addr.add] using h3⟩
      obtain ⟨cs', h3⟩ := key
      obtain ⟨_, h4, h5⟩ := World.cells?_some h3
      have h6 := h5 0 h0
      have h7 : ∃ c0, cs'[0]? = some c0 := ⟨cs'[0]'(by omega), List.getElem?_eq_getElem _⟩
      obtain ⟨c0, h7⟩ := h7
      rw [h7] at h6
      simp only [Addr.add, if_true, World.cell?] at h6
      split at h6
      · rename_i c t f e
        refine ⟨(Array.getElem?_eq_some_iff.1 e).1, ?_⟩
        cases hs : a.spot with
        | none => rfl
        | some q => rw [hs] at h6; simp at h6
      · cases h6
    by_cases hin : a.block < W.heap.size ∧ a.spot = none
    · obtain ⟨ha1, ha2⟩ := hin
      obtain ⟨b, o, s⟩ := a
      simp only at ha1 ha2
      subst ha2
      have hall : ∀ i, i < len → ∃ y : α, (∃ cs' : List Value, cs'.length = P.cellsOf e ∧ Rd (heap0 W) b (o + i * P.cellsOf e) (cs'.map (avC W.heap.size)) ∧ E (heap0 W) y (cs'.map (avC W.heap.size))) ∧ good y := by
        intro i hi
        obtain ⟨cs', h3, y, h4, h5⟩ := each i hi
        obtain ⟨_, h6, h7⟩ := World.cells?_some h3
        refine ⟨y, ⟨cs', h6, fun j z hz => ?_, h4⟩, h5⟩
        simp only [List.getElem?_map, Option.map_eq_some_iff] at hz
        obtain ⟨v, hv, rfl⟩ := hz
        have hj : j < P.cellsOf e := by rw [← h6]; exact (List.getElem?_eq_some_iff.1 hv).1
        have h8 := h7 j hj
        rw [hv, add_plain, add_plain] at h8
        exact heap0_get h8
      obtain ⟨xs, hxl, hxs⟩ := list_of len hall
      subst hxl
      refine ⟨_, xs, rfl, .inl ?_, ?_, by unfold maxLen at hm; omega⟩
      · refine ⟨some (b, o), cap, true, 0, ?_, fun i hi => ?_⟩
        · simp only [avC]; rw [if_pos ⟨ha1, trivial, hl⟩]
        · obtain ⟨⟨cs', h3, h4, h5⟩, _⟩ := hxs i xs[i] (List.getElem?_eq_getElem hi)
          exact ⟨_, by simpa using h3, h4, h5⟩
      · intro y hy
        obtain ⟨i, hi⟩ := List.getElem?_of_mem hy
        exact (hxs i y hi).2
    · have hc0 : cap = 0 := by
        rcases Nat.eq_zero_or_pos cap with h | h
        · exact h
        · exact absurd (addr h) hin
      have hl0 : len = 0 := by omega
      subst hc0 hl0
      refine ⟨_, [], rfl, .inr ⟨?_, rfl⟩, fun a ha => by simp at ha, by simp⟩
      simp only [avC]
      rw [if_neg (fun h => hin ⟨h.1, h.2.1⟩)]
      simp
end
end Go.M2
