/- M2, part J: regions that draw their order: whatever order is drawn, the world comes to what one order gives in the abstract memory. -/
import Derived.Test.YtbghdkclhbenkaaWR1
import Derived.Scope
import Derived.LoopN
import Derived.IntWalk
import Derived.WalkKit
import Derived.ProofKit
import Derived.OpenShut
import Derived.ChangeOld
import Derived.Below
set_option linter.unusedVariables false
set_option linter.unusedSimpArgs false
set_option maxRecDepth 10000
set_option maxHeartbeats 4000000
namespace Go.M2
open Go.RowKit (Below)
section
variable {P : Program}
theorem inner_fold (acc : Array Nat) (k : Nat) : ∀ (es : List Edge) (s0 : Nat),
    (es.foldl (fun s e => if Region.binds .any e then s ||| 2 ^ e.on ||| acc.getD e.on 0 else s) s0).testBit k = true →
    s0.testBit k = true ∨ ∃ ed ∈ es, Region.binds .any ed = true ∧ (ed.on = k ∨ (acc.getD ed.on 0).testBit k = true)
  | [], s0, h => .inl h
  | ed :: t, s0, h => by
    simp only [List.foldl_cons] at h
    rcases inner_fold acc k t _ h with h1 | ⟨e1, h2, h3⟩
    · by_cases hb : Region.binds .any ed = true
      · rw [if_pos hb] at h1
        simp only [Nat.testBit_or, Bool.or_eq_true] at h1
        rcases h1 with (h1 | h1) | h1
        · exact .inl h1
        · rw [Nat.testBit_two_pow] at h1
          exact .inr ⟨ed, by simp, hb, .inl (by simpa using h1)⟩
        · exact .inr ⟨ed, by simp, hb, .inr h1⟩
      · rw [if_neg hb] at h1; exact .inl h1
    · exact .inr ⟨e1, by simp [h2], h3⟩
theorem before_fold (k : Nat) : ∀ (l p : List Oper) (acc : Array Nat), acc.size = p.length →
    (∀ j, (acc.getD j 0).testBit k = true → ∃ o ed, p[j]? = some o ∧ ed ∈ o.after.toList ∧ Region.binds .any ed = true ∧ (ed.on = k ∨ (ed.on < j ∧ (acc.getD ed.on 0).testBit k = true))) →
    ∀ j, ((l.foldl (fun acc o => acc.push (o.after.foldl (fun s e => if Region.binds .any e then s ||| 2 ^ e.on ||| acc.getD e.on 0 else s) 0)) acc).getD j 0).testBit k = true →
    ∃ o ed, (p ++ l)[j]? = some o ∧ ed ∈ o.after.toList ∧ Region.binds .any ed = true ∧ (ed.on = k ∨ (ed.on < j ∧ ((l.foldl (fun acc o => acc.push (o.after.foldl (fun s e => if Region.binds .any e then s ||| 2 ^ e.on ||| acc.getD e.on 0 else s) 0)) acc).getD ed.on 0).testBit k = true))
  | [], p, acc, hs, hp, j, h => by
    simp only [List.foldl_nil, List.append_nil] at h ⊢
    exact hp j h
  | o :: t, p, acc, hs, hp, j, h => by
    simp only [List.foldl_cons] at h ⊢
    have := before_fold k t (p ++ [o]) (acc.push (o.after.foldl (fun s e => if Region.binds .any e then s ||| 2 ^ e.on ||| acc.getD e.on 0 else s) 0)) (by simp [hs]) ?_ j h
    · simpa using this
    · intro j hj
      rcases Nat.lt_trichotomy j acc.size with hlt | heq | hgt
      · have e1 : (acc.push (o.after.foldl (fun s e => if Region.binds .any e then s ||| 2 ^ e.on ||| acc.getD e.on 0 else s) 0)).getD j 0 = acc.getD j 0 := by
          simp only [Array.getD_eq_getD_getElem?]; rw [Array.getElem?_push_lt hlt]; simp [hlt]
        rw [e1] at hj
        obtain ⟨o', ed, h1, h2, h3, h4⟩ := hp j hj
        refine ⟨o', ed, by rw [List.getElem?_append_left (by omega)]; exact h1, h2, h3, ?_⟩
        rcases h4 with h4 | ⟨h4, h5⟩
        · exact .inl h4
        · refine .inr ⟨h4, ?_⟩
          have e2 : (acc.push (o.after.foldl (fun s e => if Region.binds .any e then s ||| 2 ^ e.on ||| acc.getD e.on 0 else s) 0)).getD ed.on 0 = acc.getD ed.on 0 := by
            simp only [Array.getD_eq_getD_getElem?]; rw [Array.getElem?_push_lt (by omega)]; simp [show ed.on < acc.size by omega]
          rw [e2]; exact h5
      · subst heq
        have e1 : (acc.push (o.after.foldl (fun s e => if Region.binds .any e then s ||| 2 ^ e.on ||| acc.getD e.on 0 else s) 0)).getD acc.size 0 = o.after.foldl (fun s e => if Region.binds .any e then s ||| 2 ^ e.on ||| acc.getD e.on 0 else s) 0 := by
          simp [Array.getD_eq_getD_getElem?]
        rw [e1, ← Array.foldl_toList] at hj
        rcases inner_fold acc k _ _ hj with h1 | ⟨ed, h2, h3, h4⟩
        · simp at h1
        · refine ⟨o, ed, by rw [hs]; simp, h2, h3, ?_⟩
          rcases h4 with h4 | h4
          · exact .inl h4
          · have hlt : ed.on < acc.size := by
              rcases Nat.lt_or_ge ed.on acc.size with h | h
              · exact h
              · simp only [Array.getD_eq_getD_getElem?] at h4
                rw [Array.getElem?_eq_none h] at h4; simp at h4
            refine .inr ⟨hlt, ?_⟩
            have e2 : (acc.push (o.after.foldl (fun s e => if Region.binds .any e then s ||| 2 ^ e.on ||| acc.getD e.on 0 else s) 0)).getD ed.on 0 = acc.getD ed.on 0 := by
              simp only [Array.getD_eq_getD_getElem?]; rw [Array.getElem?_push_lt hlt]; simp [hlt]
            rw [e2]; exact h4
      · exfalso
        simp only [Array.getD_eq_getD_getElem?] at hj
        rw [Array.getElem?_eq_none (by simp; omega)] at hj; simp at hj
theorem before_spec {ops : Array Oper} {k j : Nat} (h : isBef (Region.before ops) k j = true) :
    ∃ o ed, ops[j]? = some o ∧ ed ∈ o.after.toList ∧ Region.binds .any ed = true ∧ (ed.on = k ∨ (ed.on < j ∧ isBef (Region.before ops) k ed.on = true)) := by
  unfold isBef Region.before at h
  rw [← Array.foldl_toList] at h
  obtain ⟨o, ed, h1, h2, h3, h4⟩ := before_fold k ops.toList [] #[] rfl (by intro j hj; simp at hj) j h
  refine ⟨o, ed, by simpa using h1, h2, h3, ?_⟩
  unfold isBef Region.before
  rw [← Array.foldl_toList]
  exact h4
def Shut (ops : Array Oper) (S : Nat → Prop) : Prop := ∀ j, S j → ∀ o, ops[j]? = some o → ∀ ed ∈ o.after.toList, Region.binds .any ed = true → S ed.on
theorem Shut.bef {ops : Array Oper} {S : Nat → Prop} (h : Shut ops S) : ∀ (j k : Nat), S j → isBef (Region.before ops) k j = true → S k := by
  intro j
  induction j using Nat.strongRecOn with
  | _ j ih =>
    intro k hj hb
    obtain ⟨o, ed, h1, h2, h3, h4⟩ := before_spec hb
    have hs := h j hj o h1 ed h2 h3
    rcases h4 with rfl | ⟨h4, h5⟩
    · exact hs
    · exact ih ed.on h4 k hs h5
theorem cGs_at {nt : Nat} {ops : Array Oper} : ∀ (l : List Oper) (gl : List GOp), cGs P nt ops l = some gl → gl.length = l.length ∧ ∀ i o, l[i]? = some o → cG P nt ops o = some (gAt gl i)
  | [], gl, h => by simp [cGs] at h; subst h; exact ⟨rfl, by simp⟩
  | o :: t, gl, h => by
    simp only [cGs] at h
    split at h
    · rename_i g r h1 h2
      cases h
      obtain ⟨hl, hi⟩ := cGs_at t r h2
      refine ⟨by simp [hl], fun i o' ho => ?_⟩
      cases i with
      | zero => simp at ho; subst ho; exact h1
      | succ i => have := hi i o' (by simpa using ho); simpa [gAt] using this
    · cases h
theorem gAt_get {gl : List GOp} {i : Nat} (h : i < gl.length) : gl[i]? = some (gAt gl i) := by
  simp [gAt, List.getElem?_eq_getElem h]
theorem not_ovr {bf : Array Nat} {gl : List GOp} {j t : Nat} (h : ovr bf gl j = false) (hj : j < gl.length) (hd : (gAt gl j).dst = some t) :
    t ∉ (gAt gl j).names ∧ ∀ k, k < gl.length → k ≠ j → (gAt gl k).dst ≠ some t ∧ (t ∈ (gAt gl k).names → isBef bf j k = true) := by
  unfold ovr at h
  rw [gAt_get hj] at h
  simp only [Option.bind_some, hd, rng, List.any_eq_false, List.mem_range] at h
  constructor
  · have := h j hj
    rw [gAt_get hj] at this
    simpa using this
  · intro k hk hkj
    have := h k hk
    rw [gAt_get hk] at this
    simp only [if_neg hkj, Bool.or_eq_true, Bool.and_eq_true, not_or, not_and, beq_iff_eq, Bool.not_eq_true] at this
    refine ⟨this.1, fun hm => ?_⟩
    have := this.2
    simp only [List.contains_iff_mem] at this
    simpa using this hm
theorem ev_congr {x : X} {e e' : Env} (h : ∀ t ∈ x.tmps, e t = e' t) : x.ev e = x.ev e' := by
  cases x with
  | t n => exact h n (by simp [X.tmps])
  | c v => rfl
theorem evs_congr : ∀ {l : List X} {e e' : Env}, (∀ t ∈ xsT l, e t = e' t) → l.map (X.ev e) = l.map (X.ev e')
  | [], e, e', h => rfl
  | x :: t, e, e', h => by
    have h' : ∀ u ∈ x.tmps ++ xsT t, e u = e' u := by simpa [xsT] using h
    rw [List.map_cons, List.map_cons, ev_congr (fun u hu => h' u (List.mem_append_left _ hu)), evs_congr (fun u hu => h' u (List.mem_append_right _ hu))]
theorem evo_congr {x : Option X} {e e' : Env} (h : ∀ t ∈ xoT x, e t = e' t) : x.map (X.ev e) = x.map (X.ev e') := by
  cases x with
  | none => rfl
  | some x => simp only [Option.map_some]; rw [ev_congr h]
theorem bldF_congr : ∀ {l : List (Nat × Nat × X)} {z : List AV} {e e' : Env}, (∀ t ∈ xsT (l.map (·.2.2)), e t = e' t) → bldF e z l = bldF e' z l
  | [], z, e, e', h => rfl
  | (o, n, x) :: t, z, e, e', h => by
    have h' : ∀ u ∈ x.tmps ++ xsT (t.map (·.2.2)), e u = e' u := by simpa [xsT] using h
    simp only [bldF]
    rw [ev_congr (fun u hu => h' u (List.mem_append_left _ hu))]
    split
    · split
      · exact bldF_congr (fun u hu => h' u (List.mem_append_right _ hu))
      · rfl
    · rfl
theorem qop_congr {q : IOp} {e e' : Env} {H : Heap} (h : ∀ t ∈ q.tmps, e t = e' t) : qop q e H = qop q e' H := by
  have L : ∀ {a b : List Nat}, (∀ t ∈ a ++ b, e t = e' t) → (∀ t ∈ a, e t = e' t) ∧ (∀ t ∈ b, e t = e' t) := fun h => ⟨fun t ht => h t (List.mem_append_left _ ht), fun t ht => h t (List.mem_append_right _ ht)⟩
  cases q <;> simp only [IOp.tmps] at h <;> simp only [qop]
  case mv x => rw [ev_congr h]
  case pick a b c => rw [ev_congr (L (L h).1).1, ev_congr (L (L h).1).2, ev_congr (L h).2]
  case bin op x y => rw [ev_congr (L h).1, ev_congr (L h).2]
  case beq n x y => rw [ev_congr (L h).1, ev_congr (L h).2]
  case eqn n k x => rw [ev_congr h]
  case un op x => rw [ev_congr h]
  case nilck x => rw [ev_congr h]
  case faddr x o => rw [ev_congr h]
  case fld x o n a => rw [ev_congr h]
  case iaddr x i s => rw [ev_congr (L h).1, ev_congr (L h).2]
  case aaddr x i l s => rw [ev_congr (L h).1, ev_congr (L h).2]
  case sidx x i => rw [ev_congr (L h).1, ev_congr (L h).2]
  case aidx x i l s a => rw [ev_congr (L h).1, ev_congr (L h).2]
  case ext x i => rw [ev_congr h]
  case len x => rw [ev_congr h]
  case slen x => rw [ev_congr h]
  case cap x => rw [ev_congr h]
  case mnx m x y => rw [ev_congr (L h).1, ev_congr (L h).2]
  case slc s x a b c => rw [ev_congr (L (L (L h).1).1).1, evo_congr (L (L (L h).1).1).2, evo_congr (L (L h).1).2, evo_congr (L h).2]
  case sslc x a b => rw [ev_congr (L (L h).1).1, evo_congr (L (L h).1).2, evo_congr (L h).2]
  case mkfn f l => rw [evs_congr h]
  case bld z l => rw [bldF_congr h]
  case cvi k x => rw [ev_congr h]
  case load x n a => rw [ev_congr h]
  case eqs kt n x y => rw [ev_congr (L h).1, ev_congr (L h).2]
  case lookup kt z ok x y => rw [ev_congr (L h).1, ev_congr (L h).2]
  case mlen x => rw [ev_congr h]
theorem gq_congr {g : GOp} {e e' : Env} {H : Heap} (h : ∀ t ∈ g.names, e t = e' t) : gq g e H = gq g e' H := by
  have h1 : ∀ t ∈ g.op.tmps, e t = e' t := fun t ht => h t (by simp [GOp.names, ht])
  unfold gq
  rw [qop_congr h1]
  cases hg : g.g with
  | none => rfl
  | some p =>
    obtain ⟨t, w⟩ := p
    simp only
    rw [h t (by simp [GOp.names, hg])]
theorem loadN_ext {H H' : Heap} (hE : Ext H H') {b : Nat} : ∀ (n o : Nat) (l : List AV), loadN H b o n = some l → loadN H' b o n = some l
  | 0, o, l, h => h
  | n + 1, o, l, h => by
    simp only [loadN] at h ⊢
    split at h
    · rename_i x t h1 h2
      cases h
      rw [hE.get h1, loadN_ext hE n (o + 1) t h2]
    · cases h
theorem loadF_ext {H H' : Heap} (hE : Ext H H') {n : Nat} {ag : Bool} {x v : AV} (h : loadF H n ag x = some v) : loadF H' n ag x = some v := by
  unfold loadF at h ⊢
  split at h
  · rename_i b o
    split at h
    · rename_i hag
      obtain ⟨l, hl, rfl⟩ := map_some' h
      simp [hag, loadN_ext hE n o l hl]
    · rename_i hag
      simp [hag, hE.get h]
  · cases h
theorem mapAt_ext {H H' : Heap} (hE : Ext H H') {b : Nat} {es : List (AV × AV)} (h : H.mapAt b = some es) : H'.mapAt b = some es := by
  unfold Heap.mapAt at h ⊢
  split at h
  · rename_i hb
    rw [if_pos (Nat.lt_of_lt_of_le hb hE.1), hE.2 b hb]; exact h
  · cases h
theorem lookF_ext {H H' : Heap} (hE : Ext H H') {kt : KT} {z x k v : AV} {ok : Bool} (h : lookF H kt z ok x k = some v) : lookF H' kt z ok x k = some v := by
  unfold lookF at h ⊢
  split at h
  · exact h
  · rename_i b
    cases hes : H.mapAt b with
    | none =>
      rw [hes] at h
      unfold lookM at h
      split at h
      · rename_i h1; cases h1
      · cases h
    | some es => simp only [mapAt_ext hE hes]; rw [hes] at h; exact h
  · cases h
theorem mlenF_ext {H H' : Heap} (hE : Ext H H') {x v : AV} (h : mlenF H x = some v) : mlenF H' x = some v := by
  unfold mlenF at h ⊢
  split at h
  · exact h
  · rename_i b
    obtain ⟨es, hes, rfl⟩ := map_some' h
    simp [mapAt_ext hE hes]
  · cases h
theorem qop_ext {H H' : Heap} (hE : Ext H H') {q : IOp} {e : Env} {v : AV} (h : qop q e H = some v) : qop q e H' = some v := by
  cases q <;> simp only [qop] at h ⊢ <;> first | exact h | exact loadF_ext hE h | exact lookF_ext hE h | exact mlenF_ext hE h
theorem qop_noread {H H' : Heap} {q : IOp} {e : Env} (hr : q.reads = false) : qop q e H = qop q e H' := by
  cases q <;> simp only [qop] <;> first | rfl | cases hr
theorem gq_ext {H H' : Heap} (hE : Ext H H') {g : GOp} {e : Env} {v : AV} (h : gq g e H = some v) : gq g e H' = some v := by
  unfold gq at h ⊢
  cases hg : g.g with
  | none => rw [hg] at h; exact qop_ext hE h
  | some p =>
    obtain ⟨t, w⟩ := p
    rw [hg] at h
    simp only at h ⊢
    split at h
    · rename_i b hb
      split at h
      · rename_i hbw; rw [if_pos hbw]; exact qop_ext hE h
      · rename_i hbw; rw [if_neg hbw]; exact h
    · exact h
    · cases h
theorem gq_noread {H H' : Heap} {g : GOp} {e : Env} (hr : g.op.reads = false) : gq g e H = gq g e H' := by
  unfold gq; rw [qop_noread (H := H) (H' := H') hr]
theorem putE_ne {e : Env} {dst : Option Nat} {v : AV} {t : Nat} (h : dst ≠ some t) : putE e dst v t = e t := by
  cases dst with
  | none => rfl
  | some d => simp only [putE, upd]; rw [if_neg (fun e => h (by rw [e]))]
theorem putE_same {e : Env} {d : Nat} {v : AV} : putE e (some d) v d = v := by simp [putE, upd]
theorem getD_put_dst {a : Act} {dst : Option Nat} {u : Value} {t : Nat} (h : dst ≠ some t) : (a.put dst u).tmps.getD t undef = a.tmps.getD t undef := by
  cases dst with
  | none => rfl
  | some d => exact getD_put_ne (fun e => h (by rw [e]))
end
end Go.M2

namespace Go.M2
open Go.RowKit (Below)
def blkOf : Value → Option Nat
  | .pointer (some a) => some a.block
  | .slice (some a) _ _ => some a.block
  | _ => none
structure St where
  ρ : Nat → BI
  H : Heap
  w : World
structure DI (w0 : World) (nt : Nat) (ops : Array Oper) (gl : List GOp) (s0 : St) (pre : List Nat) (D : Array Bool) (e : Env) (H : Heap) (ρ : Nat → BI) (a : Act) (w : World) : Prop where
  hi : HI w0 ρ H w
  ev : Evol s0.ρ s0.H s0.w ρ H w
  low : w0.heap.size ≤ s0.w.heap.size
  tsz : a.tmps.size = nt
  dfr : a.defers = []
  dsz : D.size = ops.size
  dcl : Shut ops (fun j => D.getD j false = true)
  pcl : Shut ops (· ∈ pre)
  plt : ∀ j, j ∈ pre → j < ops.size
  ein : ∀ j, j ∈ pre → D.getD j false = false → (gAt gl j).op.quiet = true ∧ ovr (Region.before ops) gl j = false ∧ ∃ d, (gAt gl j).dst = some d ∧ gq (gAt gl j) e H = some (e d)
  fin : ∀ j, j < ops.size → D.getD j false = true → j ∉ pre → ovr (Region.before ops) gl j = false ∧ alOk (Region.before ops) gl j = true ∧ ∃ d n t cs u, (gAt gl j).op.isAlloc = true ∧ (gAt gl j).g = none ∧ (gAt gl j).dst = some d ∧
    a.tmps.getD d undef = u ∧ blkOf u = some n ∧ s0.w.heap.size ≤ n ∧ w.heap[n]? = some (.cells cs t (0, 0)) ∧ (∀ c, alc e (gAt gl j).op = some c → ∀ N ρ' b, b < N → ρ' b = ⟨n, 0, cs.size, true⟩ → VR N ρ' (alr e b (gAt gl j).op) u) ∧
    (∀ c, alc e (gAt gl j).op = some c → c.length ≤ cs.size ∧ VRL H.size ρ c cs.toList) ∧ ∀ b, b < H.size → H.isRw b = true → (ρ b).blk ≠ n
  fdi : ∀ j k, j < ops.size → k < ops.size → D.getD j false = true → j ∉ pre → D.getD k false = true → k ∉ pre → j ≠ k → ∀ d d', (gAt gl j).dst = some d → (gAt gl k).dst = some d' → blkOf (a.tmps.getD d undef) ≠ blkOf (a.tmps.getD d' undef)
  val : ∀ t, (∀ j, j < ops.size → (gAt gl j).dst = some t → (j ∈ pre ↔ D.getD j false = true)) → VR H.size ρ (e t) (a.tmps.getD t undef)
section
variable {P : Program} {w0 : World} {nt : Nat} {ops : Array Oper} {gl : List GOp} {s0 : St} {pre : List Nat} {D : Array Bool} {e : Env} {H : Heap} {ρ : Nat → BI} {a : Act} {w : World}
theorem gl_at (hgl : cGs P nt ops ops.toList = some gl) {i : Nat} {o : Oper} (ho : ops[i]? = some o) : cG P nt ops o = some (gAt gl i) :=
  (cGs_at ops.toList gl hgl).2 i o (by simpa using ho)
theorem gl_len (hgl : cGs P nt ops ops.toList = some gl) : gl.length = ops.size := by simpa using (cGs_at ops.toList gl hgl).1
theorem DI.names (h : DI w0 nt ops gl s0 pre D e H ρ a w) (hgl : cGs P nt ops ops.toList = some gl) {i : Nat} (hi : i < ops.size)
    (hp : ∀ k, isBef (Region.before ops) k i = true → k ∈ pre) (hd : ∀ k, isBef (Region.before ops) k i = true → D.getD k false = true)
    (hDi : D.getD i false = false) (hown : i ∈ pre → ovr (Region.before ops) gl i = false) : OpsR H.size ρ (gAt gl i).names e a := by
  intro t ht
  refine h.val t fun j hj hdst => ?_
  have hlen := gl_len hgl
  by_cases hji : j = i
  · subst hji
    by_cases hip : j ∈ pre
    · have := not_ovr (hown hip) (by omega) hdst
      exact absurd ht this.1
    · simp [hip, hDi]
  · constructor
    · intro hjp
      cases hD : D.getD j false with
      | true => rfl
      | false =>
        have := (not_ovr (h.ein j hjp hD).2.1 (by omega) hdst).2 i (by omega) (fun e => hji e.symm)
        have hb := hd j (this.2 ht)
        rw [hD] at hb; cases hb
    · intro hD
      by_cases hjp : j ∈ pre
      · exact hjp
      · have := (not_ovr (h.fin j hj hD hjp).1 (by omega) hdst).2 i (by omega) (fun e => hji e.symm)
        exact hp j (this.2 ht)
theorem real_step (hgl : cGs P nt ops ops.toList = some gl) {i : Nat} {o : Oper} (ho : ops[i]? = some o) (hops : OpsR H.size ρ (gAt gl i).names e a) (hi : HI w0 ρ H w) {A : AV → Heap → Prop} {B : Prop}
    (hg : gWant (gAt gl i).g e (stepL P (gAt gl i).op e H A) B) {Q : Exit → Act → World → Prop} {next : Act → World → Prop}
    (hA : ∀ u w' v H' ρ', VR H'.size ρ' v u → Evol ρ H w ρ' H' w' → HI w0 ρ' H' w' → A v H' → next (a.put (gAt gl i).dst u) w') (hB : B → next (a.put (gAt gl i).dst undef) w) : wpOp P ops Q i next a w := by
  obtain ⟨hc, hgd, hdst, hdok⟩ := cG_parts (gl_at hgl ho)
  unfold wpOp
  simp only [ho]
  have hv : ∀ t b, (gAt gl i).g = some (t, b) → VR H.size ρ (e t) (a.tmps.getD t undef) := fun t b hb => hops t (by simp [GOp.names, hb])
  rcases wanted_of (nt := nt) hgd hv hg with ⟨hw, hs⟩ | ⟨hw, hs⟩
  · rw [if_pos hw]
    refine .inl ?_
    have : o = ⟨o.dst, o.op, o.type, o.pos, o.after, o.guard⟩ := rfl
    rw [this]
    refine oper_soundG hi hc (hops.sub fun t ht => by simp [GOp.names, ht]) hs ?_
    intro u w' v H' ρ' h1 h2 h3 h4
    rw [← hdst]; exact hA u w' v H' ρ' h1 h2 h3 h4
  · rw [if_neg (by rw [hw]; simp), ← hdst]
    exact hB hs
theorem quiet_step {q : IOp} (hq : q.quiet = true) {K : AV → Heap → Prop} : stepL P q e H K ↔ optP (qop q e H) H K := by
  cases q <;> first | exact Iff.rfl | cases hq
theorem gq_gWant {g : GOp} (hq : g.op.quiet = true) {v : AV} (h : gq g e H = some v) : gWant g.g e (stepL P g.op e H fun v' H' => v' = v ∧ H' = H) (v = .tup []) := by
  unfold gq at h
  unfold gWant
  cases hg : g.g with
  | none =>
    rw [hg] at h
    simp only at h ⊢
    rw [quiet_step hq]; unfold optP; rw [h]; exact ⟨rfl, rfl⟩
  | some p =>
    obtain ⟨t, wn⟩ := p
    rw [hg] at h
    simp only at h ⊢
    split at h
    · rename_i b hb
      split at h
      · rename_i hbw
        rw [if_pos hbw, quiet_step hq]; unfold optP; rw [h]; exact ⟨rfl, rfl⟩
      · rename_i hbw
        rw [if_neg hbw]; cases h; rfl
    · cases h; rfl
    · cases h
theorem gWant_gq {g : GOp} (hq : g.op.quiet = true) {A : AV → Heap → Prop} {B : Prop} (h : gWant g.g e (stepL P g.op e H A) B) : ∃ v, gq g e H = some v ∧ (A v H ∨ (v = .tup [] ∧ B)) := by
  unfold gWant at h
  unfold gq
  cases hg : g.g with
  | none =>
    rw [hg] at h
    simp only at h ⊢
    rw [quiet_step hq] at h; unfold optP at h
    split at h
    · rename_i v hv; exact ⟨v, hv, .inl h⟩
    · exact h.elim
  | some p =>
    obtain ⟨t, wn⟩ := p
    rw [hg] at h
    simp only at h ⊢
    split at h
    · rename_i b hb
      split at h
      · rename_i hbw
        rw [quiet_step hq] at h; unfold optP at h
        split at h
        · rename_i v hv; exact ⟨v, by rw [if_pos hbw]; exact hv, .inl h⟩
        · exact h.elim
      · rename_i hbw; exact ⟨.tup [], by rw [if_neg hbw], .inr ⟨rfl, h⟩⟩
    · exact ⟨.tup [], rfl, .inr ⟨rfl, h⟩⟩
    · exact h.elim
theorem getD_set_at {D : Array Bool} {i : Nat} (h : i < D.size) : (D.setIfInBounds i true).getD i false = true := by simp [h]
theorem getD_set_off {D : Array Bool} {i j : Nat} (h : j ≠ i) : (D.setIfInBounds i true).getD j false = D.getD j false := by
  simp only [Array.getD_eq_getD_getElem?]; rw [Array.getElem?_setIfInBounds_ne (fun e => h e.symm)]
theorem shut_set {i : Nat} {o : Oper} (h : Shut ops (fun j => D.getD j false = true)) (ho : ops[i]? = some o) (hr : ∀ ed ∈ o.after.toList, Region.binds .any ed = true → D.getD ed.on false = true) :
    Shut ops (fun j => (D.setIfInBounds i true).getD j false = true) := by
  intro j hj oj hoj ed hed hb
  by_cases hji : j = i
  · subst hji
    rw [ho] at hoj; cases hoj
    by_cases hei : ed.on = j
    · rw [hei] at *; exact hj
    · rw [getD_set_off hei]; exact hr ed hed hb
  · rw [getD_set_off hji] at hj
    have := h j hj oj hoj ed hed hb
    by_cases hei : ed.on = i
    · rw [hei] at this ⊢
      have hlt : i < D.size := by
        rcases Nat.lt_or_ge i D.size with h | h
        · exact h
        · simp [Array.getElem?_eq_none h] at this
      exact getD_set_at hlt
    · rw [getD_set_off hei]; exact this
theorem DI.late (h : DI w0 nt ops gl s0 pre D e H ρ a w) (hgl : cGs P nt ops ops.toList = some gl) {i : Nat} {o : Oper} (ho : ops[i]? = some o) (hip : i ∈ pre) (hDi : D.getD i false = false)
    (hr : ∀ ed ∈ o.after.toList, Region.binds .any ed = true → D.getD ed.on false = true)
    {Q : Exit → Act → World → Prop} {next : Act → World → Prop} (hn : ∀ ρ' a' w', DI w0 nt ops gl s0 pre (D.setIfInBounds i true) e H ρ' a' w' → next a' w') : wpOp P ops Q i next a w := by
  obtain ⟨hq, hov, d, hd, hg⟩ := h.ein i hip hDi
  have hlt := h.plt i hip
  have hlen := gl_len hgl
  have hcl := shut_set h.dcl ho hr
  have hpr : ∀ k, isBef (Region.before ops) k i = true → D.getD k false = true := by
    intro k hk
    obtain ⟨o', ed, h1, h2, h3, h4⟩ := before_spec hk
    rw [ho] at h1; cases h1
    have hd1 := hr ed h2 h3
    rcases h4 with rfl | ⟨_, h5⟩
    · exact hd1
    · exact h.dcl.bef ed.on k hd1 h5
  have hnames := h.names hgl hlt (fun k hk => h.pcl.bef i k hip hk) hpr hDi (fun _ => hov)
  have hno := not_ovr hov (by omega) hd
  have fin : ∀ u w' ρ', VR H.size ρ' (e d) u → Evol ρ H w ρ' H w' → HI w0 ρ' H w' → next (a.put (gAt gl i).dst u) w' := by
    intro u w' ρ' hv hev hi'
    refine hn ρ' _ w' ⟨hi', h.ev.trans hev, h.low, size_put.trans h.tsz, defers_put.trans h.dfr, by simpa using h.dsz, hcl, h.pcl, h.plt, ?_, ?_, ?_, ?_⟩
    · intro j hj hDj
      have : j ≠ i := by
        intro e1; subst e1; rw [getD_set_at (by rw [h.dsz]; exact hlt)] at hDj; cases hDj
      rw [getD_set_off this] at hDj
      exact h.ein j hj hDj
    · intro j hj hDj hjp
      have hji : j ≠ i := fun e1 => hjp (e1 ▸ hip)
      rw [getD_set_off hji] at hDj
      obtain ⟨hovj, hoj, d', n, t, cs, u', h1, h2, h3, h4, hbk, h5, h6, h7, h8, h9⟩ := h.fin j hj hDj hjp
      have hdne : (gAt gl i).dst ≠ some d' := ((not_ovr hovj (by omega) h3).2 i (by omega) (fun e => hji e.symm)).1
      have hnlt : n < w.heap.size := (Array.getElem?_eq_some_iff.1 h6).1
      refine ⟨hovj, hoj, d', n, t, cs, u', h1, h2, h3, by rw [getD_put_dst hdne]; exact h4, hbk, h5, (hev.keep n hnlt (fun b hb hr => h9 b hb hr)).trans h6, h7, fun c hc => ⟨(h8 c hc).1, (h8 c hc).2.mono (Nat.le_refl _) hev.agree⟩, fun b hb hrw => ?_⟩
      rw [hev.agree b hb]; exact h9 b hb hrw
    · intro j k hj hk hDj hjp hDk hkp hjk dj dk h1 h2
      have hji : j ≠ i := fun e1 => hjp (e1 ▸ hip)
      have hki : k ≠ i := fun e1 => hkp (e1 ▸ hip)
      rw [getD_set_off hji] at hDj
      rw [getD_set_off hki] at hDk
      have hovj := (h.fin j hj hDj hjp).1
      have hovk := (h.fin k hk hDk hkp).1
      rw [getD_put_dst ((not_ovr hovj (by omega) h1).2 i (by omega) (fun e => hji e.symm)).1, getD_put_dst ((not_ovr hovk (by omega) h2).2 i (by omega) (fun e => hki e.symm)).1]
      exact h.fdi j k hj hk hDj hjp hDk hkp hjk dj dk h1 h2
    · intro t ht
      by_cases htd : t = d
      · subst htd
        rw [hd, getD_put_same (by rw [h.tsz]; have := (cG_parts (gl_at hgl ho)).2.2.2; rw [hd] at this; simpa [dstOk] using this)]
        exact hv
      · rw [getD_put_dst (by rw [hd]; intro e1; cases e1; exact htd rfl)]
        refine (h.val t fun j hj hdst => ?_).mono (Nat.le_refl _) hev.agree
        have := ht j hj hdst
        have hji : j ≠ i := by intro e1; subst e1; rw [hd] at hdst; cases hdst; exact htd rfl
        rw [getD_set_off hji] at this
        exact this
  refine real_step hgl ho hnames h.hi (gq_gWant hq hg) ?_ ?_
  · rintro u w' v H' ρ' hv hev hi' ⟨rfl, rfl⟩
    exact fin u w' ρ' hv hev hi'
  · intro hj
    exact fin undef w ρ (by rw [hj]; exact VR_und) (Evol.refl _ _ _) h.hi
end
end Go.M2

namespace Go.M2
open Go.RowKit (Below)
section
variable {P : Program} {w0 : World} {nt : Nat} {ops : Array Oper} {gl : List GOp} {s0 : St} {pre : List Nat} {D : Array Bool} {e : Env} {H : Heap} {ρ : Nat → BI} {a : Act} {w : World}
theorem preds_done (h : DI w0 nt ops gl s0 pre D e H ρ a w) {i : Nat} {o : Oper} (ho : ops[i]? = some o) (hr : ∀ ed ∈ o.after.toList, Region.binds .any ed = true → D.getD ed.on false = true) :
    ∀ k, isBef (Region.before ops) k i = true → D.getD k false = true := by
  intro k hk
  obtain ⟨o', ed, h1, h2, h3, h4⟩ := before_spec hk
  rw [ho] at h1; cases h1
  have hd1 := hr ed h2 h3
  rcases h4 with rfl | ⟨_, h5⟩
  · exact hd1
  · exact h.dcl.bef ed.on k hd1 h5
theorem bslF_congr {e' : Env} {sz : Nat} : ∀ (ps : List (Nat × X)) (z : List AV), (∀ t ∈ xsT (ps.map (·.2)), e' t = e t) → bslF e' sz z ps = bslF e sz z ps
  | [], z, h => rfl
  | (i, x) :: t, z, h => by
    have hx : x.ev e' = x.ev e := by
      cases x with
      | t n => exact h n (by simp [xsT, X.tmps])
      | c v => rfl
    simp only [bslF, hx]
    split
    · split
      · exact bslF_congr t _ fun t' ht => h t' (by simp only [xsT, List.map_cons, List.flatMap_cons, List.mem_append] at ht ⊢; exact .inr ht)
      · rfl
    · rfl
theorem alc_congr {e' : Env} {q : IOp} (h : ∀ t ∈ q.tmps, e' t = e t) : alc e' q = alc e q := by
  cases q <;> first | rfl | exact bslF_congr _ _ h | (simp only [alc]; rw [ev_congr (e := e') (e' := e) h])
theorem alr_congr {e' : Env} {q : IOp} {n : Nat} (h : ∀ t ∈ q.tmps, e' t = e t) : alr e' n q = alr e n q := by
  cases q <;> first | rfl | (simp only [alr]; rw [ev_congr (e := e') (e' := e) h])
theorem al_step {q : IOp} (hq : q.isAlloc = true) {K : AV → Heap → Prop} (h : stepL P q e H K) : ∃ c, alc e q = some c ∧ K (alr e H.size q) (H.alloc c) := by
  cases q <;> first | cases hq; done | skip
  · exact ⟨_, rfl, h⟩
  · simp only [stepL, bslcP] at h
    split at h
    · rename_i c hc; exact ⟨c, hc, h⟩
    · exact h.elim
  · rename_i z by_ l
    simp only [stepL, mksP] at h
    split at h
    · rename_i n hn
      refine ⟨zeros z n.toNat, ?_, ?_⟩
      · simp only [alc, hn, mksC]; rw [if_pos ⟨h.1, h.2.1, h.2.2.1⟩]
      · simp only [alr, hn, lenA]; exact h.2.2.2
    · exact h.elim
theorem al_run {o : Oper} {q : IOp} (hc : cOp P o.op = some q) (hq : q.isAlloc = true) (hops : OpsR H.size ρ q.tmps e a) {c : List AV} (hal : alc e q = some c) :
    ∃ u cs t, (execOp a.eval o).run P w = .ok (.value u) (w.alloc (.cells cs t)) ∧ (∀ N ρ' b, b < N → ρ' b = ⟨w.heap.size, 0, cs.size, true⟩ → VR N ρ' (alr e b q) u) ∧ blkOf u = some w.heap.size ∧ c.length ≤ cs.size ∧ VRL H.size ρ c cs.toList := by
  obtain ⟨dst, o, ty, pos, af, gd⟩ := o
  simp only at hc
  have opo : (∃ t z, o = .alloc t ∧ zeroOf P t = some z ∧ q = .alloc z) ∨ (∃ t e0 n z len parts ps, o = .buildSlice t len parts ∧ P.underlying t = some (.slice e0) ∧ szOf P e0 = some n ∧ zeroOf P e0 = some z ∧ cPartsL parts.toList = some ps ∧
      (len * n ≤ 65536 ∧ z.length = n ∧ 0 < n) ∧ q = .bslc n len z ps) ∨ (∃ t l c e0 n z by_ x y, o = .makeSlice t l c ∧ P.underlying t = some (.slice e0) ∧ szOf P e0 = some n ∧ zeroOf P e0 = some z ∧ byOf P e0 = some by_ ∧ cX l = some x ∧ cX c = some y ∧ (sameX x y = true ∧ z.length = n ∧ 0 < n) ∧ q = .mks z by_ x) := by
    cases o with
    | alloc t => simp only [cOp] at hc; obtain ⟨z', hz, he⟩ := map_some' hc; exact .inl ⟨t, z', rfl, hz, he.symm⟩
    | buildSlice t len parts =>
      simp only [cOp] at hc
      split at hc
      · rename_i e0 hu
        split at hc
        · rename_i n z qs hn hz hps
          split at hc
          · rename_i hcond
            cases hc
            exact .inr (.inl ⟨t, e0, n, z, len, parts, qs, rfl, hu, hn, hz, hps, hcond, rfl⟩)
          · cases hc
        · cases hc
      · cases hc
    | makeSlice t l c =>
      simp only [cOp] at hc
      split at hc
      · rename_i e0 x y hu hx hy
        split at hc
        · rename_i z by_ n hz hby hn
          split at hc
          · rename_i hcond
            split at hc
            · rename_i hsame
              cases hc
              exact .inr (.inr ⟨t, l, c, e0, n, z, by_, x, y, rfl, hu, hn, hz, hby, hx, hy, ⟨hsame, hcond.1, hcond.2⟩, rfl⟩)
            · cases hc; cases hq
          · cases hc
        · cases hc
      · cases hc
    | call c =>
      obtain ⟨callee, args, ts⟩ := c
      exfalso
      cases callee with
      | invoke r m => simp [cOp] at hc
      | builtin b =>
        simp only [cOp] at hc
        unfold cBuiltin at hc
        repeat' split at hc
        all_goals first | cases hc; cases hq; done | (obtain ⟨_, _, he⟩ := map_some' hc; subst he; cases hq; done) | (simp at hc; done)
      | value x =>
        cases x with
        | func f =>
          simp only [cOp] at hc
          repeat' split at hc
          all_goals first | cases hc; cases hq; done | (obtain ⟨_, _, he⟩ := map_some' hc; subst he; cases hq; done) | (simp at hc; done)
        | tmp x => simp only [cOp] at hc; split at hc <;> cases hc; cases hq
        | const x => simp only [cOp] at hc; split at hc <;> cases hc; cases hq
        | global x => simp only [cOp] at hc; split at hc <;> cases hc; cases hq
    | _ =>
      exfalso
      simp only [cOp] at hc
      repeat' split at hc
      all_goals first | cases hc; cases hq; done | (obtain ⟨_, _, he⟩ := map_some' hc; subst he; cases hq; done) | (simp at hc; done)
  rcases opo with ⟨t, z, rfl, hz, rfl⟩ | ⟨t, e0, n, z, len, parts, ps, rfl, hu, hn, hz, hps, hcond, rfl⟩ | ⟨t, l, c', e0, n, z, by_, x, y, rfl, hu, hn, hz, hby, hx, hy, hcond, rfl⟩
  · obtain ⟨it, zv, hit, hzv, hzz⟩ := zeroOf_info (P := P) (ρ := ρ) (N := H.size) hz
    cases hal
    refine ⟨.pointer (some ⟨w.heap.size, 0, none⟩), zv.cells, t, ?_, ?_, rfl, by have := hzz.1; simp at this; omega, hzz⟩
    · unfold execOp
      simp [Instr.alloc, run_zero hit hzv, newVar, run_newRow]
    · intro N ρ' b hb hρ
      have := VR.ptr (N := N) (ρ := ρ') (some (b, 0)) (fun b' o e => by cases e; exact hb)
      simpa [alr, rA, hρ] using this
  · obtain ⟨it, zv, hit, hzv, hzz⟩ := zeroOf_info (P := P) (ρ := ρ) (N := H.size) hz
    have hzs : zv.cells.size = n := by have := hzz.1; simp at this; omega
    simp only [alc] at hal
    obtain ⟨cs, h1, h2⟩ := bslF_fill (N := H.size) (ρ := ρ) (e := e) (a := a) parts.toList ps (zeros z len) c _ hps hops hal (zeros_VRL hzz hcond.2.1 hcond.2.2)
    have hcl : c.length = cs.size := by simpa using h2.1
    have hlen : cs.size = len * n := by rw [← hcl, bslF_length ps _ c hal, zeros_length, hcond.2.1]
    have h16 : ¬ (len * n > 2 ^ 24) := by have := hcond.1; omega
    have hrun : ∀ ps' : Array (Nat × Value), ps'.toList = parts.toList.map (fun p => (p.1, a.eval p.2)) → (Instr.buildSlice t len ps').run P w = .ok (.slice (some ⟨w.heap.size, 0, none⟩) len len) (w.alloc (.cells cs e0)) := by
      intro ps' hps'
      have h1' : Instr.fill (fun i => some (i * n, n)) ((Array.range (len * n)).map (zv.cells[· % zv.cells.size]!)) ps'.toList = some cs := by rw [hps']; exact h1
      by_cases h00 : len * n = 0
      · have e1 : (Array.range (len * n)).map (fun x => (#[] : Array Value)[x % (#[] : Array Value).size]!) = (Array.range (len * n)).map (zv.cells[· % zv.cells.size]!) := by rw [h00]; simp
        simp only [Instr.buildSlice, Sem.run_bind, run_underlying hu, Result.andThen_ok, run_szOf hn, if_neg h16, if_pos h00, Sem.run_pure, e1, h1', run_newRow]
      · simp only [Instr.buildSlice, Sem.run_bind, run_underlying hu, Result.andThen_ok, run_szOf hn, if_neg h16, if_neg h00, Sem.run_pure, run_zero hit hzv, h1', run_newRow]
    refine ⟨.slice (some ⟨w.heap.size, 0, none⟩) len len, cs, e0, ?_, ?_, rfl, by omega, h2⟩
    · have hr2 := hrun (parts.map fun x => (x.1, a.eval x.2)) (by simp)
      simp only [execOp, Sem.run_bind]
      rw [hr2]; simp
    · intro N ρ' b hb hρ
      have := VR.sl (N := N) (ρ := ρ') b 0 len len true n len hb (Nat.le_refl _) (Nat.le_refl _) (fun _ => rfl) (fun _ => by rw [hρ]; simp; omega)
      simpa [alr, rA, hρ] using this
  · simp only [alc] at hal
    have hlv := cX_VR hx hops
    have hcl := sameX_eval (a := a) hx hy hcond.1
    unfold mksC at hal
    split at hal
    · rename_i m hm
      rw [hm] at hlv
      split at hal
      · rename_i hms
        cases hal
        obtain ⟨h0, h1, h2⟩ := hms
        obtain ⟨it, zv, hit, hzv, hzz⟩ := zeroOf_info (P := P) (ρ := ρ) (N := H.size) hz
        have hb : it.bytes = by_ := by unfold byOf at hby; rw [hit] at hby; simpa using hby
        have hs : it.size = n := by obtain ⟨j, hj, rfl⟩ := szOf_info hn; rw [hit] at hj; cases hj; rfl
        have hv := zeros_VRL (len := m.toNat) hzz hcond.2.1 hcond.2.2
        have hu' : a.eval l = .int .i64 m := by
          generalize a.eval l = q at hlv
          cases hlv; rfl
        unfold mostCells at h1 h2
        have hb' : (it.bytes : Int) * m ≤ 281474976710656 := by
          rw [hb]
          obtain ⟨k, rfl⟩ := Int.eq_ofNat_of_zero_le h0
          simp only [Int.toNat_natCast] at h1 h2
          have : ((by_ : Int) * (k : Int)) = ((k * by_ : Nat) : Int) := by push_cast; rw [Int.mul_comm]
          rw [this]; omega
        have hrun := run_make (P := P) (w := w) t e0 it zv hu hit hzv .i64 .i64 m m h0 (Int.le_refl _) hb' (by omega)
        rw [hs] at hrun
        refine ⟨.slice (some ⟨w.heap.size, 0, none⟩) m.toNat m.toNat, madeCells zv.cells (m.toNat * n), e0, ?_, ?_, rfl, by rw [zeros_length, hcond.2.1, size_madeCells]; exact Nat.le_refl _, hv⟩
        · simp only [execOp]
          rw [hcl, hu']
          simp only [Sem.run_bind]
          rw [hrun]; simp
        · intro N ρ' b hb2 hρ
          have hszm : (madeCells zv.cells (m.toNat * n)).size = m.toNat * n := size_madeCells ..
          have := VR.sl (N := N) (ρ := ρ') b 0 m.toNat m.toNat true z.length m.toNat hb2 (Nat.le_refl _) (Nat.le_refl _) (fun _ => rfl) (fun _ => by rw [hρ]; simp [hszm, hcond.2.1])
          simpa [alr, hm, lenA, rA, hρ] using this
      · cases hal
    · cases hal
theorem alOk_parts {i : Nat} (h : alOk (Region.before ops) gl i = true) {k t : Nat} (hk : k < gl.length) (hd : (gAt gl k).dst = some t) (ht : t ∈ (gAt gl i).names) : isBef (Region.before ops) k i = true ∧ (gAt gl k).op.isAlloc = false := by
  unfold alOk at h
  rw [List.all_eq_true] at h
  have := h k (by simp [rng, hk])
  rw [hd] at this
  simpa [ht] using this
theorem DI.alnames (h : DI w0 nt ops gl s0 pre D e H ρ a w) (hlen : gl.length = ops.size) {i : Nat} {o : Oper} (ho : ops[i]? = some o) (hr : ∀ ed ∈ o.after.toList, Region.binds .any ed = true → D.getD ed.on false = true)
    (hal : alOk (Region.before ops) gl i = true) : OpsR H.size ρ (gAt gl i).names e a := by
  intro t ht
  refine h.val t fun j hj hdt => ?_
  obtain ⟨h1, h2⟩ := alOk_parts hal (by omega) hdt ht
  have hD := preds_done h ho hr j h1
  refine ⟨fun _ => hD, fun _ => ?_⟩
  by_cases hjp : j ∈ pre
  · exact hjp
  · obtain ⟨_, _, d, n, t', cs, u, h3, _⟩ := h.fin j hj hD hjp
    rw [h2] at h3; cases h3
theorem DI.early (h : DI w0 nt ops gl s0 pre D e H ρ a w) (hgl : cGs P nt ops ops.toList = some gl) {i : Nat} {o : Oper} (ho : ops[i]? = some o) (hip : i ∉ pre) (hDi : D.getD i false = false)
    (hr : ∀ ed ∈ o.after.toList, Region.binds .any ed = true → D.getD ed.on false = true) (hop : (gAt gl i).op.isAlloc = true) (hgn : (gAt gl i).g = none) (hds : (gAt gl i).dst.isSome = true)
    (hov : ovr (Region.before ops) gl i = false) (hok : alOk (Region.before ops) gl i = true) (hal : (alc e (gAt gl i).op).isSome = true)
    {Q : Exit → Act → World → Prop} {next : Act → World → Prop} (hn : ∀ a' w', DI w0 nt ops gl s0 pre (D.setIfInBounds i true) e H ρ a' w' → next a' w') : wpOp P ops Q i next a w := by
  have hlt : i < ops.size := (Array.getElem?_eq_some_iff.1 ho).1
  have hlen := gl_len hgl
  have hcl := shut_set h.dcl ho hr
  obtain ⟨d, hd⟩ := Option.isSome_iff_exists.1 hds
  have hdnt : d < nt := by have := (cG_parts (gl_at hgl ho)).2.2.2; rw [hd] at this; simpa [dstOk] using this
  obtain ⟨hc, hgd, hdst, hdok⟩ := cG_parts (gl_at hgl ho)
  obtain ⟨c0, hc0⟩ := Option.isSome_iff_exists.1 hal
  have hnames := h.alnames hlen ho hr hok
  obtain ⟨u, cs, t, hrun, hu, hbk, hcl0, hvl⟩ := al_run (w := w) (cOpG_alloc hc hop) hop (hnames.sub fun t ht => by simp [GOp.names, ht]) hc0
  have hog : o.guard = none := by
    rw [hgn] at hgd
    cases hgo : o.guard with
    | none => rfl
    | some p => obtain ⟨j, b⟩ := p; rw [hgo] at hgd; simp only [cGuard] at hgd; split at hgd <;> cases hgd
  have hfr : ∀ b, b < H.size → H.isRw b = true → (ρ b).blk ≠ w.heap.size := fun b hb _ e1 => by have := h.hi.bound b hb; omega
  have hdi : DI w0 nt ops gl s0 pre (D.setIfInBounds i true) e H ρ (a.put (some d) u) (w.alloc (.cells cs t)) := by
    refine ⟨h.hi.grow _, h.ev.trans (Evol.grow _ _ _ _), h.low, size_put.trans h.tsz, defers_put.trans h.dfr, by simpa using h.dsz, hcl, h.pcl, h.plt, ?_, ?_, ?_, ?_⟩
    · intro j hj hDj
      have : j ≠ i := fun e1 => hip (e1 ▸ hj)
      rw [getD_set_off this] at hDj
      exact h.ein j hj hDj
    · intro j hj hDj hjp
      by_cases hji : j = i
      · subst hji
        refine ⟨hov, hok, d, w.heap.size, t, cs, u, hop, hgn, hd, getD_put_same (by rw [h.tsz]; exact hdnt), hbk, h.ev.wsize, by show (w.heap.push _)[w.heap.size]? = _; simp, fun _ _ => hu, fun c hc' => ?_, hfr⟩
        rw [hc0] at hc'; cases hc'
        exact ⟨hcl0, hvl⟩
      · rw [getD_set_off hji] at hDj
        obtain ⟨hovj, hoj, d', n, t', cs', u', h1, h2, h3, h4, hbk', h5, h6, h7, h8, h9⟩ := h.fin j hj hDj hjp
        have hdne : (some d : Option Nat) ≠ some d' := by rw [← hd]; exact ((not_ovr hovj (by omega) h3).2 i (by omega) (fun e => hji e.symm)).1
        have hnlt : n < w.heap.size := (Array.getElem?_eq_some_iff.1 h6).1
        exact ⟨hovj, hoj, d', n, t', cs', u', h1, h2, h3, by rw [getD_put_dst hdne]; exact h4, hbk', h5, (Below.heap_alloc _ _ _ hnlt).trans h6, h7, h8, h9⟩
    · intro j k hj hk hDj hjp hDk hkp hjk dj dk h1 h2
      have key : ∀ m, m < ops.size → (D.setIfInBounds i true).getD m false = true → m ∉ pre → m ≠ i → ∀ dm, (gAt gl m).dst = some dm → (a.put (some d) u).tmps.getD dm undef = a.tmps.getD dm undef ∧
          ∃ n, n < w.heap.size ∧ blkOf (a.tmps.getD dm undef) = some n := by
        intro m hm hDm hmp hmi dm hdm
        rw [getD_set_off hmi] at hDm
        obtain ⟨hovj, hoj, d', n, t', cs', u', h1, h2, h3, h4, hbk', h5, h6, h7, h8, h9⟩ := h.fin m hm hDm hmp
        rw [hdm] at h3; cases h3
        have hdne : (some d : Option Nat) ≠ some dm := by rw [← hd]; exact ((not_ovr hovj (by omega) hdm).2 i (by omega) (fun e => hmi e.symm)).1
        exact ⟨getD_put_dst hdne, n, (Array.getElem?_eq_some_iff.1 h6).1, by rw [h4]; exact hbk'⟩
      by_cases hji : j = i
      · subst hji
        obtain rfl : dj = d := Option.some.inj (h1.symm.trans hd)
        obtain ⟨e1, n, hn1, e2⟩ := key k hk hDk hkp (fun e => hjk e.symm) dk h2
        rw [getD_put_same (by rw [h.tsz]; exact hdnt), e1, e2, hbk]
        intro e3; injection e3 with e3; omega
      · by_cases hki : k = i
        · subst hki
          obtain rfl : dk = d := Option.some.inj (h2.symm.trans hd)
          obtain ⟨e1, n, hn1, e2⟩ := key j hj hDj hjp hji dj h1
          rw [getD_put_same (by rw [h.tsz]; exact hdnt), e1, e2, hbk]
          intro e3; injection e3 with e3; omega
        · rw [(key j hj hDj hjp hji dj h1).1, (key k hk hDk hkp hki dk h2).1]
          rw [getD_set_off hji] at hDj
          rw [getD_set_off hki] at hDk
          exact h.fdi j k hj hk hDj hjp hDk hkp hjk dj dk h1 h2
    · intro t' ht
      have htd : t' ≠ d := by
        intro e1; subst e1
        have := ht i hlt hd
        rw [getD_set_at (by rw [h.dsz]; exact hlt)] at this
        exact hip (this.2 rfl)
      rw [getD_put_ne htd]
      refine h.val t' fun j hj hdt => ?_
      have := ht j hj hdt
      have hji : j ≠ i := by intro e1; rw [e1] at hdt; exact htd (Option.some.inj (hdt.symm.trans hd))
      rw [getD_set_off hji] at this
      exact this
  have hw : Region.wanted o (yielded ops a.tmps) = true := by simp [Region.wanted, hog]
  unfold wpOp
  simp only [ho]
  rw [if_pos hw]
  refine .inl ?_
  unfold Oper.wp
  rw [hrun, Oper.upon_value, ← hdst, hd]
  exact hn _ _ hdi
theorem drawAt_parts {bf : Array Nat} {i : Nat} {rs post : List Nat} (h : drawAt ops bf gl pre i rs post = true) :
    (∃ o, ops[i]? = some o ∧ ∀ ed ∈ o.after.toList, Region.binds .any ed = true → ed.on ∈ pre) ∧
    (((gAt gl i).op.quiet = false ∧ (gAt gl i).op.isAlloc = false) ∨ ovr bf gl i = true → ∀ j ∈ post, (gAt gl j).op.isAlloc = true ∨ isBef bf i j = true) ∧
    ((gAt gl i).op.isAlloc = true → (gAt gl i).g = none ∧ (gAt gl i).dst.isSome = true ∧ ovr bf gl i = false ∧ alOk bf gl i = true ∧ ∀ j ∈ post, (gAt gl j).op.isAlloc = true ∨ isBef bf i j = true) ∧
    (ovr bf gl i = true → ∀ j ∈ pre, isBef bf j i = true) ∧
    ((gAt gl i).op.quiet = true → (gAt gl i).dst.isSome = true) ∧
    ((gAt gl i).op.quiet = false → (gAt gl i).op.isAlloc = false → ∀ j ∈ pre, (gAt gl j).op.reads = true → isBef bf j i = false → j ∈ rs) ∧
    ((gAt gl i).op.quiet = false → (gAt gl i).op.isAlloc = false → ∀ j ∈ post, (gAt gl j).op.needs = true → isBef bf i j = false → j ∈ rs) := by
  unfold drawAt at h
  simp only [Bool.and_eq_true] at h
  obtain ⟨⟨⟨⟨⟨⟨h1, h2⟩, h3⟩, h4⟩, h5⟩, h6⟩, h7⟩ := h
  refine ⟨?_, ?_, ?_, ?_, ?_, ?_, ?_⟩
  · split at h1
    · rename_i o ho
      refine ⟨o, ho, fun ed hed hb => ?_⟩
      have := Array.all_eq_true_iff_forall_mem.1 h1 ed (by simpa using hed)
      simpa [hb] using this
    · cases h1
  · intro hb j hj
    simp only [Bool.or_eq_true, Bool.not_eq_true', List.all_eq_true] at h2
    rcases h2 with h2 | h2
    · rcases hb with ⟨hb1, hb2⟩ | hb <;> simp_all
    · exact h2 j hj
  · intro ha
    simp only [ha, Bool.not_true, Bool.false_or, Bool.and_eq_true, List.all_eq_true, Bool.or_eq_true, Bool.not_eq_true'] at h3
    exact ⟨by have := h3.1.1.1.1; simpa using this, h3.1.1.1.2, h3.1.1.2, h3.1.2, h3.2⟩
  · intro ho j hj
    simp only [ho, Bool.not_true, Bool.false_or, List.all_eq_true] at h4
    exact h4 j hj
  · intro hq
    simpa [hq] using h5
  · intro hq ha j hj hr hb
    simp only [hq, ha, Bool.or_self, Bool.false_or, List.all_eq_true] at h6
    have := h6 j hj
    simpa [hr, hb] using this
  · intro hq ha j hj hr hb
    simp only [hq, ha, Bool.or_self, Bool.false_or, List.all_eq_true] at h7
    have := h7 j hj
    simpa [hr, hb] using this
theorem shut_cons {i : Nat} {o : Oper} (h : Shut ops (· ∈ pre)) (ho : ops[i]? = some o) (hr : ∀ ed ∈ o.after.toList, Region.binds .any ed = true → ed.on ∈ pre) : Shut ops (· ∈ i :: pre) := by
  intro j hj oj hoj ed hed hb
  rcases List.mem_cons.1 hj with rfl | hj
  · rw [ho] at hoj; cases hoj
    exact List.mem_cons_of_mem _ (hr ed hed hb)
  · exact List.mem_cons_of_mem _ (h j hj oj hoj ed hed hb)
theorem keep_gq (h : DI w0 nt ops gl s0 pre D e H ρ a w) (hlen : gl.length = ops.size) {i : Nat} (hlt : i < ops.size) (hip : i ∉ pre) (hov : ovr (Region.before ops) gl i = false) {v : AV} {k : Nat} (hk : k ∈ pre) (hDk : D.getD k false = false) :
    ∃ d, (gAt gl k).dst = some d ∧ gq (gAt gl k) (putE e (gAt gl i).dst v) H = some (e d) ∧ putE e (gAt gl i).dst v d = e d ∧ ∀ t ∈ (gAt gl k).names, putE e (gAt gl i).dst v t = e t := by
  obtain ⟨hq, hovk, d, hd, hg⟩ := h.ein k hk hDk
  have hki : k ≠ i := fun e1 => hip (e1 ▸ hk)
  have key : ∀ t ∈ (gAt gl k).names, putE e (gAt gl i).dst v t = e t := by
    intro t ht
    refine putE_ne fun hd' => ?_
    have := ((not_ovr hov (by omega) hd').2 k (by have := h.plt k hk; omega) hki).2 ht
    exact hip (h.pcl.bef k i hk this)
  have hde : putE e (gAt gl i).dst v d = e d := putE_ne fun hd' => by
    have := ((not_ovr hov (by omega) hd').2 k (by have := h.plt k hk; omega) hki).1
    exact this hd
  exact ⟨d, hd, by rw [gq_congr key]; exact hg, hde, key⟩
theorem DI.ahead (hgl : cGs P nt ops ops.toList = some gl) {K : Env → Heap → Prop} {tail : List (Nat × List Nat)} : ∀ (l1 : List (Nat × List Nat)) (pre : List Nat) (e : Env) (H : Heap) (ρ : Nat → BI),
    DI w0 nt ops gl s0 pre D e H ρ a w → drawGo ops (Region.before ops) gl pre (l1 ++ tail) = true → wpD P gl (l1 ++ tail) K e H →
    (∀ p ∈ l1, ((gAt gl p.1).op.quiet = true ∧ ovr (Region.before ops) gl p.1 = false ∧ D.getD p.1 false = false) ∨ ((gAt gl p.1).op.isAlloc = true ∧ D.getD p.1 false = true)) →
    ∃ pre' e' H' ρ', DI w0 nt ops gl s0 pre' D e' H' ρ' a w ∧ drawGo ops (Region.before ops) gl pre' tail = true ∧ wpD P gl tail K e' H' ∧ (∀ j, j ∈ pre' ↔ j ∈ pre ∨ j ∈ l1.map (·.1))
  | [], pre, e, H, ρ, h, hg, hw, hl => ⟨pre, e, H, ρ, h, hg, hw, by simp⟩
  | (i, rs) :: t, pre, e, H, ρ, h, hg, hw, hl => by
    have hlen := gl_len hgl
    simp only [List.cons_append, drawGo, Bool.and_eq_true, Bool.not_eq_true'] at hg
    obtain ⟨⟨hat, hnp⟩, hrest⟩ := hg
    have hip : i ∉ pre := by simpa using hnp
    obtain ⟨⟨o, ho, hpr⟩, hbar, hal, hovp, hqd, _⟩ := drawAt_parts hat
    have hlt : i < ops.size := (Array.getElem?_eq_some_iff.1 ho).1
    have hcl := shut_cons h.pcl ho hpr
    have hplt : ∀ j, j ∈ i :: pre → j < ops.size := fun j hj => by
      rcases List.mem_cons.1 hj with rfl | hj
      · exact hlt
      · exact h.plt j hj
    simp only [List.cons_append, wpD] at hw
    have fin : ∀ e1 H1 ρ1, DI w0 nt ops gl s0 (i :: pre) D e1 H1 ρ1 a w → wpD P gl (t ++ tail) K e1 H1 →
        ∃ pre' e' H' ρ', DI w0 nt ops gl s0 pre' D e' H' ρ' a w ∧ drawGo ops (Region.before ops) gl pre' tail = true ∧ wpD P gl tail K e' H' ∧ (∀ j, j ∈ pre' ↔ j ∈ pre ∨ j ∈ ((i, rs) :: t).map (·.1)) := by
      intro e1 H1 ρ1 h1 hw1
      obtain ⟨pre', e', H', ρ', q1, q2, q3, q4⟩ := DI.ahead hgl t (i :: pre) e1 H1 ρ1 h1 hrest hw1 (fun p hp => hl p (List.mem_cons_of_mem _ hp))
      refine ⟨pre', e', H', ρ', q1, q2, q3, fun j => ?_⟩
      rw [q4]; simp only [List.mem_cons, List.map_cons]
      constructor
      · rintro ((rfl | h) | h)
        · exact .inr (.inl rfl)
        · exact .inl h
        · exact .inr (.inr h)
      · rintro (h | rfl | h)
        · exact .inl (.inr h)
        · exact .inl (.inl rfl)
        · exact .inr h
    rcases hl (i, rs) (by simp) with ⟨hq, hov, hDi⟩ | ⟨ha, hDi⟩
    · simp only at hq hov hDi
      obtain ⟨v, hgq, hcase⟩ := gWant_gq hq hw.2
      obtain ⟨d, hd⟩ := Option.isSome_iff_exists.1 (hqd hq)
      have hno := not_ovr hov (by omega) hd
      have hw1 : wpD P gl (t ++ tail) K (putE e (gAt gl i).dst v) H := by
        rcases hcase with ⟨_, h2⟩ | ⟨rfl, h2⟩
        · exact h2
        · exact h2
      refine fin _ _ _ ⟨h.hi, h.ev, h.low, h.tsz, h.dfr, h.dsz, h.dcl, hcl, hplt, ?_, ?_, ?_, ?_⟩ hw1
      · intro k hk hDk
        rcases List.mem_cons.1 hk with rfl | hk
        · refine ⟨hq, hov, d, hd, ?_⟩
          rw [gq_congr (e' := e) (fun t ht => putE_ne fun e1 => by rw [hd] at e1; cases e1; exact hno.1 ht), hgq, hd, putE_same]
        · obtain ⟨d', h1, h2, h3, _⟩ := keep_gq h hlen hlt hip hov (v := v) hk hDk
          exact ⟨(h.ein k hk hDk).1, (h.ein k hk hDk).2.1, d', h1, by rw [h2, h3]⟩
      · intro j hj hDj hjp
        have hji : j ≠ i := fun e1 => hjp (by rw [e1]; simp)
        obtain ⟨hovj, hoj, d', n', t', cs', u', h1, h2, h3, h4, hbk', h5, h6, h7, h8, h9⟩ := h.fin j hj hDj (fun hm => hjp (List.mem_cons_of_mem _ hm))
        have hcg : ∀ t ∈ (gAt gl j).op.tmps, putE e (gAt gl i).dst v t = e t := fun t ht => putE_ne fun hdt => by
          have h10 := h.dcl.bef j i hDj (alOk_parts hoj (by omega) hdt (by simp [GOp.names, ht])).1
          rw [hDi] at h10; cases h10
        refine ⟨hovj, hoj, d', n', t', cs', u', h1, h2, h3, h4, hbk', h5, h6, fun c' hc' => ?_, fun c' hc' => ?_, h9⟩
        · rw [alc_congr (e := e) hcg] at hc'
          intro N ρ' b q1 q2
          rw [alr_congr (e := e) hcg]
          exact h7 c' hc' N ρ' b q1 q2
        rw [alc_congr (e := e) hcg] at hc'
        exact h8 c' hc'
      · intro j k hj hk hDj hjp hDk hkp
        exact h.fdi j k hj hk hDj (fun hm => hjp (List.mem_cons_of_mem _ hm)) hDk (fun hm => hkp (List.mem_cons_of_mem _ hm))
      · intro t' ht
        have htd : t' ≠ d := by
          intro e1; subst e1
          have := (ht i hlt hd).1 (by simp)
          rw [hDi] at this; cases this
        rw [putE_ne (by rw [hd]; intro e1; cases e1; exact htd rfl)]
        refine h.val t' fun j hj hdt => ?_
        have := ht j hj hdt
        have hji : j ≠ i := by intro e1; rw [e1] at hdt; exact htd (Option.some.inj (hdt.symm.trans hd))
        simpa [hji] using this
    · simp only at ha hDi
      obtain ⟨hgn, hds, hov, hok, _⟩ := hal ha
      obtain ⟨_, _, d, n, ty, cs, u, _, _, hd, hptr, hbk, hns, hhp, hzv, hzc, hfr⟩ := h.fin i hlt hDi hip
      have hno := not_ovr hov (by omega) hd
      rw [hgn] at hw
      simp only [gWant] at hw
      obtain ⟨c, hcc, _, hw1⟩ := al_step ha hw.2
      obtain ⟨hcl0, hvl⟩ := hzc c hcc
      obtain ⟨hi1, hag⟩ := h.hi.adopt c n cs ty (Nat.le_trans h.low hns) hhp hcl0 (fun j x v hx hv => hvl.2 j x v hx (by rw [Array.getElem?_toList]; exact hv)) hfr
      have hsz : H.size ≤ (H.alloc c).size := Nat.le_succ _
      refine fin _ _ _ ⟨hi1, ?_, h.low, h.tsz, h.dfr, h.dsz, h.dcl, hcl, hplt, ?_, ?_, ?_, ?_⟩ hw1
      · refine ⟨Nat.le_trans h.ev.size hsz, h.ev.agree.trans hag h.ev.size, h.ev.wsize, h.ev.keep, fun b hb hr => ?_, h.ev.mono⟩
        by_cases hbn : b = H.size
        · subst hbn; rw [updB_same]; exact .inl hns
        · have hlt' : b < H.size := by have : b < H.size + 1 := hb; omega
          rw [hag b hlt']
          exact h.ev.img b hlt' (by rw [← Heap.put_isRw_old H (.cells c true) hlt']; exact hr)
      · intro k hk hDk
        rcases List.mem_cons.1 hk with rfl | hk
        · rw [hDi] at hDk; cases hDk
        · obtain ⟨d', h1, h2, h3, _⟩ := keep_gq h hlen hlt hip hov (v := alr e H.size (gAt gl i).op) hk hDk
          exact ⟨(h.ein k hk hDk).1, (h.ein k hk hDk).2.1, d', h1, by rw [h3]; exact gq_ext (Ext.alloc H c) h2⟩
      · intro j hj hDj hjp
        have hji : j ≠ i := fun e1 => hjp (by rw [e1]; simp)
        have hjp' : j ∉ pre := fun hm => hjp (List.mem_cons_of_mem _ hm)
        obtain ⟨hovj, hoj, d', n', t', cs', u', h1, h2, h3, h4, hbk', h5, h6, h7, h8, h9⟩ := h.fin j hj hDj hjp'
        have hcg : ∀ t ∈ (gAt gl j).op.tmps, putE e (gAt gl i).dst (alr e H.size (gAt gl i).op) t = e t := fun t ht => putE_ne fun hdt => by
          have := (alOk_parts hoj (by omega) hdt (by simp [GOp.names, ht])).2
          rw [ha] at this; cases this
        refine ⟨hovj, hoj, d', n', t', cs', u', h1, h2, h3, h4, hbk', h5, h6, fun c' hc' => ?_, fun c' hc' => ?_, fun b hb hr => ?_⟩
        · rw [alc_congr (e := e) hcg] at hc'
          intro N ρ' b q1 q2
          rw [alr_congr (e := e) hcg]
          exact h7 c' hc' N ρ' b q1 q2
        · rw [alc_congr (e := e) hcg] at hc'
          exact ⟨(h8 c' hc').1, (h8 c' hc').2.mono hsz hag⟩
        by_cases hbn : b = H.size
        · subst hbn; rw [updB_same]
          intro e1
          have := h.fdi i j hlt hj hDi hip hDj hjp' (fun e => hji e.symm) d d' hd h3
          rw [hptr, h4, hbk, hbk'] at this
          exact this (by simp only at e1; rw [e1])
        · have hlt' : b < H.size := by have : b < H.size + 1 := hb; omega
          rw [hag b hlt']
          exact h9 b hlt' (by rw [← Heap.put_isRw_old H (.cells c true) hlt']; exact hr)
      · intro j k hj hk hDj hjp hDk hkp
        exact h.fdi j k hj hk hDj (fun hm => hjp (List.mem_cons_of_mem _ hm)) hDk (fun hm => hkp (List.mem_cons_of_mem _ hm))
      · intro t' ht
        by_cases htd : t' = d
        · subst htd
          rw [hd, putE_same, hptr]
          exact hzv c hcc _ _ H.size (Nat.lt_succ_self _) (by rw [updB_same])
        · rw [putE_ne (by rw [hd]; intro e1; cases e1; exact htd rfl)]
          refine (h.val t' fun j hj hdt => ?_).mono hsz hag
          have := ht j hj hdt
          have hji : j ≠ i := by intro e1; rw [e1] at hdt; exact htd (Option.some.inj (hdt.symm.trans hd))
          simpa [hji] using this
end
end Go.M2

namespace Go.M2
open Go.RowKit (Below)
section
variable {P : Program} {w0 : World} {nt : Nat} {ops : Array Oper} {gl : List GOp} {s0 : St} {pre : List Nat} {D : Array Bool} {e : Env} {H : Heap} {ρ : Nat → BI} {a : Act} {w : World}
theorem chkAll_mem : ∀ {rs : List Nat} {e : Env} {H : Heap}, chkAll gl rs e H → ∀ j ∈ rs, (gAt gl j).op.quiet = true → ∀ d, (gAt gl j).dst = some d → gq (gAt gl j) e H = some (e d)
  | [], e, H, h, j, hj, hq, d, hd => by cases hj
  | i :: t, e, H, h, j, hj, hq, d, hd => by
    simp only [chkAll] at h
    rcases List.mem_cons.1 hj with rfl | hj
    · have := h.1; rw [if_pos hq, hd] at this; exact this
    · exact chkAll_mem h.2 j hj hq d hd
theorem preAll_mem : ∀ {rs : List Nat} {e : Env}, preAll gl rs e → ∀ j ∈ rs, (gAt gl j).op.quiet = false → (alc e (gAt gl j).op).isSome = true
  | [], e, h, j, hj, hq => by cases hj
  | i :: t, e, h, j, hj, hq => by
    simp only [preAll] at h
    rcases List.mem_cons.1 hj with rfl | hj
    · have := h.1; rw [if_neg (by simp [hq])] at this; exact this
    · exact preAll_mem h.2 j hj hq
theorem alc_ahead {K : Env → Heap → Prop} {i : Nat} {rs : List Nat} {l2 : List (Nat × List Nat)} (ha : (gAt gl i).op.isAlloc = true) : ∀ (l1 : List (Nat × List Nat)) (pre : List Nat) (e : Env) (H : Heap),
    drawGo ops (Region.before ops) gl pre (l1 ++ (i, rs) :: l2) = true → wpD P gl (l1 ++ (i, rs) :: l2) K e H →
    (∀ p ∈ l1, (∀ d, (gAt gl p.1).dst = some d → d ∉ (gAt gl i).op.tmps) ∧ ((gAt gl p.1).op.quiet = false → (gAt gl p.1).op.isAlloc = false → isBef (Region.before ops) p.1 i = false)) → (alc e (gAt gl i).op).isSome = true
  | [], pre, e, H, hg, hw, hl => by
    simp only [List.nil_append, drawGo, Bool.and_eq_true] at hg
    obtain ⟨_, _, hal, _⟩ := drawAt_parts hg.1.1
    simp only [List.nil_append, wpD] at hw
    rw [(hal ha).1] at hw
    simp only [gWant] at hw
    obtain ⟨c, hc, _⟩ := al_step ha hw.2
    rw [hc]; rfl
  | (k, rk) :: t, pre, e, H, hg, hw, hl => by
    simp only [List.cons_append, drawGo, Bool.and_eq_true] at hg
    obtain ⟨_, _, hal, _, _, _, hne⟩ := drawAt_parts hg.1.1
    simp only [List.cons_append, wpD] at hw
    obtain ⟨hd, hb⟩ := hl (k, rk) (by simp)
    have go : ∀ v H', wpD P gl (t ++ (i, rs) :: l2) K (putE e (gAt gl k).dst v) H' → (alc e (gAt gl i).op).isSome = true := by
      intro v H' h
      have := alc_ahead ha t (k :: pre) _ H' hg.2 h (fun p hp => hl p (List.mem_cons_of_mem _ hp))
      rw [alc_congr (e := e) (fun t' ht => putE_ne fun hdt => hd t' hdt ht)] at this
      exact this
    by_cases hq : (gAt gl k).op.quiet = true
    · obtain ⟨v, _, hcase⟩ := gWant_gq hq hw.2
      rcases hcase with ⟨_, h2⟩ | ⟨rfl, h2⟩
      · exact go _ _ h2
      · exact go _ _ h2
    · by_cases hka : (gAt gl k).op.isAlloc = true
      · rw [(hal hka).1] at hw
        simp only [gWant] at hw
        obtain ⟨c, _, _, h2⟩ := al_step hka hw.2
        exact go _ _ h2
      · have hq' : (gAt gl k).op.quiet = false := by simpa using hq
        have hka' : (gAt gl k).op.isAlloc = false := by simpa using hka
        by_cases hn : (gAt gl i).op.needs = true
        · refine preAll_mem hw.1 i (hne hq' hka' i (by simp) hn (hb hq' hka')) ?_
          cases hop : (gAt gl i).op <;> rw [hop] at hn <;> first | rfl | cases hn
        · cases hop : (gAt gl i).op <;> rw [hop] at ha hn <;> first | rfl | cases ha; done | exact absurd rfl hn
theorem stepL_same {q : IOp} {K : AV → Heap → Prop} (h : stepL P q e H K) : stepL P q e H (fun v H' => (q.quiet = true → H' = H) ∧ K v H') := by
  by_cases hq : q.quiet = true
  · rw [quiet_step hq] at h ⊢
    unfold optP at h ⊢
    split at h
    · exact ⟨fun _ => rfl, h⟩
    · exact h.elim
  · have : (fun v H' => (q.quiet = true → H' = H) ∧ K v H') = K := by funext v H'; simp [hq]
    rw [this]; exact h
theorem gWant_same {g : GOp} {A : AV → Heap → Prop} {B : Prop} (h : gWant g.g e (stepL P g.op e H A) B) : gWant g.g e (stepL P g.op e H (fun v H' => (g.op.quiet = true → H' = H) ∧ A v H')) B := by
  unfold gWant at h ⊢
  split at h
  · exact stepL_same h
  · split at h
    · split at h
      · rename_i hb; rw [if_pos hb]; exact stepL_same h
      · rename_i hb; rw [if_neg hb]; exact h
    · exact h
    · exact h.elim
theorem DI.both (h : DI w0 nt ops gl s0 pre D e H ρ a w) (hgl : cGs P nt ops ops.toList = some gl) {i : Nat} {o : Oper} {rs : List Nat} {rest : List (Nat × List Nat)} (ho : ops[i]? = some o) (hDi : D.getD i false = false)
    (hr : ∀ ed ∈ o.after.toList, Region.binds .any ed = true → D.getD ed.on false = true) (hna : (gAt gl i).op.isAlloc = false) {K : Env → Heap → Prop}
    (hg : drawGo ops (Region.before ops) gl pre ((i, rs) :: rest) = true) (hw : wpD P gl ((i, rs) :: rest) K e H)
    {Q : Exit → Act → World → Prop} {next : Act → World → Prop}
    (hn : ∀ e' H' ρ' a' w', DI w0 nt ops gl s0 (i :: pre) (D.setIfInBounds i true) e' H' ρ' a' w' → drawGo ops (Region.before ops) gl (i :: pre) rest = true → wpD P gl rest K e' H' → next a' w') : wpOp P ops Q i next a w := by
  have hlen := gl_len hgl
  simp only [drawGo, Bool.and_eq_true, Bool.not_eq_true'] at hg
  obtain ⟨⟨hat, hnp⟩, hrest⟩ := hg
  have hip : i ∉ pre := by simpa using hnp
  obtain ⟨⟨o', ho', hpr⟩, hbar, _, hovp, hqd, hrs, _⟩ := drawAt_parts hat
  rw [ho] at ho'; cases ho'
  have hlt : i < ops.size := (Array.getElem?_eq_some_iff.1 ho).1
  have hpc := shut_cons h.pcl ho hpr
  have hdc := shut_set h.dcl ho hr
  have hbefp : ∀ k, isBef (Region.before ops) k i = true → k ∈ pre := by
    intro k hk
    have := hpc.bef i k (by simp) hk
    rcases List.mem_cons.1 this with rfl | h1
    · exfalso
      obtain ⟨o2, ed, q1, q2, q3, q4⟩ := before_spec hk
      rw [ho] at q1; cases q1
      have h2 := hpr ed q2 q3
      rcases q4 with q4 | ⟨_, q5⟩
      · exact hip (q4 ▸ h2)
      · exact hip (h.pcl.bef ed.on k h2 q5)
    · exact h1
  have hplt : ∀ j, j ∈ i :: pre → j < ops.size := fun j hj => by
    rcases List.mem_cons.1 hj with rfl | hj
    · exact hlt
    · exact h.plt j hj
  have hnames := h.names hgl hlt hbefp (preds_done h ho hr) hDi (fun hm => absurd hm hip)
  have hdst0 := (cG_parts (gl_at hgl ho)).2.2.2
  have fin : ∀ u w' v H' ρ', VR H'.size ρ' v u → Evol ρ H w ρ' H' w' → HI w0 ρ' H' w' →
      (∀ k, k ∈ pre → D.getD k false = false → ovr (Region.before ops) gl i = false → ∃ d, (gAt gl k).dst = some d ∧ gq (gAt gl k) (putE e (gAt gl i).dst v) H' = some (putE e (gAt gl i).dst v d)) →
      wpD P gl rest K (putE e (gAt gl i).dst v) H' → next (a.put (gAt gl i).dst u) w' := by
    intro u w' v H' ρ' hv hev hi' hck hw'
    refine hn _ H' ρ' _ w' ⟨hi', h.ev.trans hev, h.low, size_put.trans h.tsz, defers_put.trans h.dfr, by simpa using h.dsz, hdc, hpc, hplt, ?_, ?_, ?_, ?_⟩ hrest hw'
    · intro k hk hDk
      have hki : k ≠ i := by
        intro e1; subst e1; rw [getD_set_at (by rw [h.dsz]; exact hlt)] at hDk; cases hDk
      rw [getD_set_off hki] at hDk
      have hkp : k ∈ pre := by
        rcases List.mem_cons.1 hk with e1 | hk
        · exact absurd e1 hki
        · exact hk
      have hovi : ovr (Region.before ops) gl i = false := by
        cases hov : ovr (Region.before ops) gl i with
        | false => rfl
        | true =>
          have := preds_done h ho hr k (hovp hov k hkp)
          rw [hDk] at this; cases this
      obtain ⟨d, h1, h2⟩ := hck k hkp hDk hovi
      exact ⟨(h.ein k hkp hDk).1, (h.ein k hkp hDk).2.1, d, h1, h2⟩
    · intro j hj hDj hjp
      have hji : j ≠ i := fun e1 => hjp (by rw [e1]; simp)
      have hjp' : j ∉ pre := fun hm => hjp (List.mem_cons_of_mem _ hm)
      rw [getD_set_off hji] at hDj
      obtain ⟨hovj, hoj, d', n, t, cs, u', h1, h2, h3, h4, hbk', h5, h6, h7, h8, h9⟩ := h.fin j hj hDj hjp'
      have hdne : (gAt gl i).dst ≠ some d' := ((not_ovr hovj (by omega) h3).2 i (by omega) (fun e => hji e.symm)).1
      have hnlt : n < w.heap.size := (Array.getElem?_eq_some_iff.1 h6).1
      refine ⟨hovj, hoj, d', n, t, cs, u', h1, h2, h3, by rw [getD_put_dst hdne]; exact h4, hbk', h5, (hev.keep n hnlt (fun b hb hr => h9 b hb hr)).trans h6, fun c hc => ?_, fun c hc => ?_, fun b hb hrw e1 => ?_⟩
      · have hcg : ∀ t ∈ (gAt gl j).op.tmps, putE e (gAt gl i).dst v t = e t := fun t ht => putE_ne fun hdt => by
          have h10 := h.dcl.bef j i hDj (alOk_parts hoj (by omega) hdt (by simp [GOp.names, ht])).1
          rw [hDi] at h10; cases h10
        rw [alc_congr (e := e) hcg] at hc
        intro N ρ'' b q1 q2
        rw [alr_congr (e := e) hcg]
        exact h7 c hc N ρ'' b q1 q2
      · rw [alc_congr (e := e) (fun t ht => putE_ne fun hdt => by
          have h10 := h.dcl.bef j i hDj (alOk_parts hoj (by omega) hdt (by simp [GOp.names, ht])).1
          rw [hDi] at h10; cases h10)] at hc
        exact ⟨(h8 c hc).1, (h8 c hc).2.mono hev.size hev.agree⟩
      rcases hev.img b hb hrw with h10 | ⟨b0, h10, h11, h12⟩
      · omega
      · exact h9 b0 h10 h11 (h12.trans e1)
    · intro j k hj hk hDj hjp hDk hkp hjk dj dk h1 h2
      have hji : j ≠ i := fun e1 => hjp (by rw [e1]; simp)
      have hki : k ≠ i := fun e1 => hkp (by rw [e1]; simp)
      have hjp' : j ∉ pre := fun hm => hjp (List.mem_cons_of_mem _ hm)
      have hkp' : k ∉ pre := fun hm => hkp (List.mem_cons_of_mem _ hm)
      rw [getD_set_off hji] at hDj
      rw [getD_set_off hki] at hDk
      rw [getD_put_dst ((not_ovr (h.fin j hj hDj hjp').1 (by omega) h1).2 i (by omega) (fun e => hji e.symm)).1, getD_put_dst ((not_ovr (h.fin k hk hDk hkp').1 (by omega) h2).2 i (by omega) (fun e => hki e.symm)).1]
      exact h.fdi j k hj hk hDj hjp' hDk hkp' hjk dj dk h1 h2
    · intro t ht
      by_cases htd : (gAt gl i).dst = some t
      · rw [htd] at hdst0 ⊢
        rw [putE_same, getD_put_same (by rw [h.tsz]; simpa [dstOk] using hdst0)]
        exact hv
      · rw [putE_ne htd, getD_put_dst htd]
        refine (h.val t fun j hj hdt => ?_).mono hev.size hev.agree
        have := ht j hj hdt
        have hji : j ≠ i := by intro e1; rw [e1] at hdt; exact htd hdt
        rw [getD_set_off hji] at this
        simpa [hji] using this
  simp only [wpD] at hw
  refine real_step hgl ho hnames h.hi (gWant_same hw.2) ?_ ?_
  · rintro u w' v H' ρ' hv hev hi' ⟨hsame, hck, hw'⟩
    refine fin u w' v H' ρ' hv hev hi' ?_ hw'
    intro k hk hDk hov
    obtain ⟨d, h1, h2, h3, h4⟩ := keep_gq h hlen hlt hip hov (v := v) hk hDk
    refine ⟨d, h1, ?_⟩
    by_cases hrd : (gAt gl k).op.reads = true
    · -- looked at again
      by_cases hq : (gAt gl i).op.quiet = true
      · rw [hsame hq, h2, h3]
      · have hin := hrs (by simpa using hq) hna k hk hrd (by
          cases hb : isBef (Region.before ops) k i with
          | false => rfl
          | true => have := preds_done h ho hr k hb; rw [hDk] at this; cases this)
        exact chkAll_mem hck k hin (h.ein k hk hDk).1 d h1
    · rw [gq_noread (H := H') (H' := H) (by simpa using hrd), h2, h3]
  · intro hw'
    refine fin undef w (.tup []) H ρ VR_und (Evol.refl _ _ _) h.hi ?_ hw'
    intro k hk hDk hov
    obtain ⟨d, h1, h2, h3, h4⟩ := keep_gq h hlen hlt hip hov (v := .tup []) hk hDk
    exact ⟨d, h1, by rw [h2, h3]⟩
def left (n : Nat) (D : Array Bool) : Nat := ((List.range n).filter fun i => !D.getD i false).length
theorem left_set {n i : Nat} {D : Array Bool} (hi : i < n) (hD : D.getD i false = false) (hs : i < D.size) : left n (D.setIfInBounds i true) + 1 ≤ left n D := by
  unfold left
  have key : ∀ l : List Nat, i ∈ l → ((l.filter fun j => !(D.setIfInBounds i true).getD j false).length) + 1 ≤ (l.filter fun j => !D.getD j false).length := by
    intro l
    induction l with
    | nil => intro h; cases h
    | cons x t ih =>
      intro h
      have hmono : ∀ l : List Nat, (l.filter fun j => !(D.setIfInBounds i true).getD j false).length ≤ (l.filter fun j => !D.getD j false).length := by
        intro l
        induction l with
        | nil => simp
        | cons y u ihu =>
          by_cases hy : y = i
          · subst hy
            rw [List.filter_cons_of_neg (by rw [getD_set_at hs]; simp), List.filter_cons_of_pos (by rw [hD]; rfl)]
            simp only [List.length_cons]; omega
          · by_cases hd : D.getD y false = true
            · rw [List.filter_cons_of_neg (by rw [getD_set_off hy, hd]; simp), List.filter_cons_of_neg (by rw [hd]; simp)]
              exact ihu
            · rw [List.filter_cons_of_pos (by rw [getD_set_off hy]; simpa using hd), List.filter_cons_of_pos (by simpa using hd)]
              simp only [List.length_cons]; omega
      by_cases hx : x = i
      · subst hx
        rw [List.filter_cons_of_neg (by rw [getD_set_at hs]; simp), List.filter_cons_of_pos (by rw [hD]; rfl)]
        have := hmono t
        simp only [List.length_cons]; omega
      · have ht : i ∈ t := by
          rcases List.mem_cons.1 h with e | h
          · exact absurd e.symm hx
          · exact h
        have := ih ht
        by_cases hd : D.getD x false = true
        · rw [List.filter_cons_of_neg (by rw [getD_set_off hx, hd]; simp), List.filter_cons_of_neg (by rw [hd]; simp)]
          exact this
        · rw [List.filter_cons_of_pos (by rw [getD_set_off hx]; simpa using hd), List.filter_cons_of_pos (by simpa using hd)]
          simp only [List.length_cons]; omega
  exact key _ (by simp [hi])
theorem left_zero {n : Nat} {D : Array Bool} (h : left n D = 0) : ∀ i, i < n → D.getD i false = true := by
  intro i hi
  unfold left at h
  have := List.eq_nil_of_length_eq_zero h
  rw [List.filter_eq_nil_iff] at this
  simpa using this i (by simp [hi])
theorem first_ready : ∀ (rest : List (Nat × List Nat)) (pre : List Nat), drawGo ops (Region.before ops) gl pre rest = true → (∀ j, j ∈ pre → D.getD j false = true) → (∃ p ∈ rest, D.getD p.1 false = false) →
    ∃ i o, ops[i]? = some o ∧ D.getD i false = false ∧ ∀ ed ∈ o.after.toList, Region.binds .any ed = true → D.getD ed.on false = true
  | [], pre, h, hp, ⟨p, hm, _⟩ => by cases hm
  | (i, rs) :: t, pre, h, hp, ⟨p, hm, hD⟩ => by
    simp only [drawGo, Bool.and_eq_true, Bool.not_eq_true'] at h
    obtain ⟨⟨hat, _⟩, hrest⟩ := h
    obtain ⟨⟨o, ho, hpr⟩, _⟩ := drawAt_parts hat
    by_cases hDi : D.getD i false = true
    · refine first_ready t (i :: pre) hrest (fun j hj => ?_) ?_
      · rcases List.mem_cons.1 hj with rfl | hj
        · exact hDi
        · exact hp j hj
      · rcases List.mem_cons.1 hm with rfl | hm
        · simp only at hD; rw [hDi] at hD; cases hD
        · exact ⟨p, hm, hD⟩
    · exact ⟨i, o, ho, by simpa using hDi, fun ed hed hb => hp _ (hpr ed hed hb)⟩
theorem getD_tf {D : Array Bool} {i : Nat} (h : i < D.size) : D.getD i true = D.getD i false := by simp [Array.getD, h]
theorem mem_ready' {i : Nat} : i ∈ Region.ready .any ops D ↔ D.getD i true = false ∧ ∃ o, ops[i]? = some o ∧ ∀ ed ∈ o.after.toList, Region.binds .any ed = true → D.getD ed.on false = true := by
  rw [mem_ready]
  simp
theorem go_ahead : ∀ (l1 : List (Nat × List Nat)) (pre : List Nat) {i : Nat} {rs : List Nat} {l2 : List (Nat × List Nat)}, drawGo ops (Region.before ops) gl pre (l1 ++ (i, rs) :: l2) = true →
    ∀ p ∈ l1, ((gAt gl p.1).op.quiet = false ∧ (gAt gl p.1).op.isAlloc = false ∨ ovr (Region.before ops) gl p.1 = true → (gAt gl i).op.isAlloc = true ∨ isBef (Region.before ops) p.1 i = true) ∧
      ((gAt gl p.1).op.isAlloc = true → (gAt gl i).op.isAlloc = true ∨ isBef (Region.before ops) p.1 i = true) ∧ p.1 ∉ pre ∧ ((gAt gl p.1).op.isAlloc = true → ovr (Region.before ops) gl p.1 = false)
  | [], pre, i, rs, l2, h, p, hp => by cases hp
  | (j, rj) :: t, pre, i, rs, l2, h, p, hp => by
    simp only [List.cons_append, drawGo, Bool.and_eq_true, Bool.not_eq_true'] at h
    obtain ⟨⟨hat, hnp⟩, hrest⟩ := h
    rcases List.mem_cons.1 hp with rfl | hp
    · obtain ⟨_, hbar, hal, _⟩ := drawAt_parts hat
      exact ⟨fun h => hbar h i (by simp), fun h => (hal h).2.2.2.2 i (by simp), by simpa using hnp, fun h => (hal h).2.2.1⟩
    · obtain ⟨h1, h2, h3, h4⟩ := go_ahead t (j :: pre) hrest p hp
      exact ⟨h1, h2, fun hm => h3 (List.mem_cons_of_mem _ hm), h4⟩
theorem go_drop : ∀ (l1 : List (Nat × List Nat)) (pre : List Nat) {l2 : List (Nat × List Nat)}, drawGo ops (Region.before ops) gl pre (l1 ++ l2) = true → ∃ pre', drawGo ops (Region.before ops) gl pre' l2 = true
  | [], pre, l2, h => ⟨pre, h⟩
  | (i, rs) :: t, pre, l2, h => by
    simp only [List.cons_append, drawGo, Bool.and_eq_true] at h
    exact go_drop t (i :: pre) h.2
theorem draw_sound (hgl : cGs P nt ops ops.toList = some gl) {full : List (Nat × List Nat)} (hfull : drawGo ops (Region.before ops) gl [] full = true) (hcf : ∀ i, i < ops.size → i ∈ full.map (·.1)) {K : Env → Heap → Prop} {Q : Exit → Act → World → Prop}
    (hQ : ∀ e' H' ρ' a' w', K e' H' → ER nt H'.size ρ' e' a' → Evol s0.ρ s0.H s0.w ρ' H' w' → HI w0 ρ' H' w' → Q .normal a' w') :
    ∀ (fuel : Nat) (D : Array Bool) (pre : List Nat) (rest : List (Nat × List Nat)) (e : Env) (H : Heap) (ρ : Nat → BI) (a : Act) (w : World), DI w0 nt ops gl s0 pre D e H ρ a w →
      drawGo ops (Region.before ops) gl pre rest = true → (∀ i, i < ops.size → i ∈ pre ∨ i ∈ rest.map (·.1)) → (∀ p ∈ rest, p.1 < ops.size) → wpD P gl rest K e H → left ops.size D ≤ fuel → wpAny P .any ops Q fuel D a w := by
  have hlen := gl_len hgl
  -- all is done in the world
  have done : ∀ (D : Array Bool) (pre : List Nat) (rest : List (Nat × List Nat)) (e : Env) (H : Heap) (ρ : Nat → BI) (a : Act) (w : World), DI w0 nt ops gl s0 pre D e H ρ a w →
      drawGo ops (Region.before ops) gl pre rest = true → (∀ p ∈ rest, p.1 < ops.size) → wpD P gl rest K e H → (∀ i, i < ops.size → D.getD i false = true) → (∀ i, i < ops.size → i ∈ pre ∨ i ∈ rest.map (·.1)) → Q .normal a w := by
    intro D pre rest e H ρ a w h hg hlt hw hall hcov
    have hgo := hg
    have key : ∀ p ∈ rest, ((gAt gl p.1).op.quiet = true ∧ ovr (Region.before ops) gl p.1 = false ∧ D.getD p.1 false = false) ∨ ((gAt gl p.1).op.isAlloc = true ∧ D.getD p.1 false = true) := by
      intro p hp
      refine .inr ⟨?_, hall p.1 (hlt p hp)⟩
      have hnp : p.1 ∉ pre := by
        have : ∀ (rest : List (Nat × List Nat)) (pre : List Nat), drawGo ops (Region.before ops) gl pre rest = true → ∀ p ∈ rest, p.1 ∉ pre := by
          intro rest
          induction rest with
          | nil => intro pre _ p hp; cases hp
          | cons q t ih =>
            intro pre h p hp
            obtain ⟨i, rs⟩ := q
            simp only [drawGo, Bool.and_eq_true, Bool.not_eq_true'] at h
            rcases List.mem_cons.1 hp with rfl | hp
            · simpa using h.1.2
            · exact fun hm => ih (i :: pre) h.2 p hp (List.mem_cons_of_mem _ hm)
        exact this rest pre hg p hp
      obtain ⟨_, _, d, n, t, cs, u, h1, _⟩ := h.fin p.1 (hlt p hp) (hall p.1 (hlt p hp)) hnp
      exact h1
    obtain ⟨pre', e', H', ρ', h1, h2, h3, h4⟩ := DI.ahead hgl (K := K) (tail := []) rest pre e H ρ h (by simpa using hg) (by simpa using hw) key
    refine hQ e' H' ρ' a w h3 ⟨h1.tsz, h1.dfr, fun t => h1.val t fun j hj _ => ?_⟩ h1.ev h1.hi
    exact ⟨fun _ => hall j hj, fun _ => (h4 j).2 (hcov j hj)⟩
  intro fuel
  induction fuel with
  | zero =>
    intro D pre rest e H ρ a w h hg hcov hlt hw hf
    have hall := left_zero (Nat.le_zero.1 hf)
    refine ⟨?_, done D pre rest e H ρ a w h hg hlt hw hall hcov⟩
    cases hr : Region.ready .any ops D with
    | nil => rfl
    | cons x xs =>
      exfalso
      have : x ∈ Region.ready .any ops D := by rw [hr]; simp
      obtain ⟨h0, o, ho, _⟩ := mem_ready'.1 this
      have hx := hall x (Array.getElem?_eq_some_iff.1 ho).1
      have hxs : x < D.size := by rw [h.dsz]; exact (Array.getElem?_eq_some_iff.1 ho).1
      rw [← getD_tf hxs, h0] at hx; cases hx
  | succ fuel ih =>
    intro D pre rest e H ρ a w h hg hcov hlt hw hf
    refine ⟨fun hre => ?_, fun i hi => ?_⟩
    · -- nothing is ready: all is done
      refine done D pre rest e H ρ a w h hg hlt hw (fun i hi => ?_) hcov
      cases hDi : D.getD i false with
      | true => rfl
      | false =>
        exfalso
        -- something could be done
        have some_ready : ∃ j o, ops[j]? = some o ∧ D.getD j false = false ∧ ∀ ed ∈ o.after.toList, Region.binds .any ed = true → D.getD ed.on false = true := by
          obtain ⟨p, hp, hpi⟩ := List.mem_map.1 (hcf i hi)
          exact first_ready full [] hfull (fun j hj => nomatch hj) ⟨p, hp, hpi ▸ hDi⟩
        obtain ⟨j, o, ho, hDj, hed⟩ := some_ready
        have hjs : j < D.size := by rw [h.dsz]; exact (Array.getElem?_eq_some_iff.1 ho).1
        have : j ∈ Region.ready .any ops D := mem_ready'.2 ⟨(getD_tf hjs).trans hDj, o, ho, hed⟩
        rw [hre] at this; cases this
    · obtain ⟨h0, o, ho, hed⟩ := mem_ready'.1 hi
      have hil : i < ops.size := (Array.getElem?_eq_some_iff.1 ho).1
      have his : i < D.size := by rw [h.dsz]; exact hil
      have hDi : D.getD i false = false := (getD_tf his).symm.trans h0
      have hf' : left ops.size (D.setIfInBounds i true) ≤ fuel := by have := left_set hil hDi his; omega
      by_cases hip : i ∈ pre
      · exact h.late hgl ho hip hDi hed fun ρ' a' w' h' => ih _ _ _ _ _ _ _ _ h' hg hcov hlt hw hf'
      · by_cases hal : (gAt gl i).op.isAlloc = true
        · have hal' := hal
          have hmem : i ∈ rest.map (·.1) := (hcov i hil).resolve_left hip
          obtain ⟨p, hp, rfl⟩ := List.mem_map.1 hmem
          obtain ⟨l1, l2, rfl⟩ := List.append_of_mem hp
          obtain ⟨pre2, h2⟩ := go_drop l1 pre hg
          obtain ⟨i, rs⟩ := p
          simp only [drawGo, Bool.and_eq_true] at h2
          obtain ⟨_, _, hal2, _⟩ := drawAt_parts h2.1.1
          obtain ⟨q1, q2, q3, q4, _⟩ := hal2 hal
          have hsome := alc_ahead (P := P) (K := K) hal l1 pre e H hg hw fun p hp' => by
            obtain ⟨_, _, q7, _⟩ := go_ahead l1 pre hg p hp'
            have hpl : p.1 < ops.size := hlt p (List.mem_append_left _ hp')
            have key : isBef (Region.before ops) p.1 i = true → (gAt gl p.1).op.isAlloc = true := fun hb => by
              obtain ⟨_, _, d, n, t, cs, u, h1, _⟩ := h.fin p.1 hpl (preds_done h ho hed p.1 hb) q7
              exact h1
            refine ⟨fun d hd ht => ?_, fun _ hna => ?_⟩
            · obtain ⟨r1, r2⟩ := alOk_parts q4 (by omega) hd (by simp [GOp.names, ht])
              have := key r1; rw [r2] at this; cases this
            · cases hb : isBef (Region.before ops) p.1 i with
              | false => rfl
              | true => have := key hb; rw [hna] at this; cases this
          exact h.early hgl ho hip hDi hed hal q1 q2 q3 q4 hsome fun a' w' h' => ih _ _ _ _ _ _ _ _ h' hg hcov hlt hw hf'
        · have hna : (gAt gl i).op.isAlloc = false := by simpa using hal
          have hmem : i ∈ rest.map (·.1) := (hcov i hil).resolve_left hip
          obtain ⟨p, hp, rfl⟩ := List.mem_map.1 hmem
          obtain ⟨l1, l2, rfl⟩ := List.append_of_mem hp
          obtain ⟨i, rs⟩ := p
          have hdone := preds_done h ho hed
          have key : ∀ p ∈ l1, ((gAt gl p.1).op.quiet = true ∧ ovr (Region.before ops) gl p.1 = false ∧ D.getD p.1 false = false) ∨ ((gAt gl p.1).op.isAlloc = true ∧ D.getD p.1 false = true) := by
            intro p hp'
            obtain ⟨q1, q2, q3, q4⟩ := go_ahead l1 pre hg p hp'
            have hpl : p.1 < ops.size := hlt p (List.mem_append_left _ hp')
            by_cases hpa : (gAt gl p.1).op.isAlloc = true
            · rcases q2 hpa with h1 | h1
              · rw [hna] at h1; cases h1
              · exact .inr ⟨hpa, hdone _ h1⟩
            · have hpa' : (gAt gl p.1).op.isAlloc = false := by simpa using hpa
              have notD : D.getD p.1 false = true → False := by
                intro hD
                obtain ⟨_, _, d, n, t, cs, u, h1, _⟩ := h.fin p.1 hpl hD q3
                rw [h1] at hpa'; cases hpa'
              refine .inl ⟨?_, ?_, ?_⟩
              · cases hq : (gAt gl p.1).op.quiet with
                | true => rfl
                | false => exact (notD (hdone _ ((q1 (.inl ⟨hq, hpa'⟩)).resolve_left (by rw [hna]; simp)))).elim
              · cases hov : ovr (Region.before ops) gl p.1 with
                | false => rfl
                | true => exact (notD (hdone _ ((q1 (.inr hov)).resolve_left (by rw [hna]; simp)))).elim
              · cases hD : D.getD p.1 false with
                | false => rfl
                | true => exact (notD hD).elim
          obtain ⟨pre', e', H', ρ', h1, h2, h3, h4⟩ := DI.ahead hgl (K := K) l1 pre e H ρ h hg hw key
          refine h1.both hgl ho hDi hed hna h2 h3 fun e2 H2 ρ2 a2 w2 r1 r2 r3 => ih _ _ _ _ _ _ _ _ r1 r2 (fun j hj => ?_) (fun p hp => hlt p (by simp [hp])) r3 hf'
          rcases hcov j hj with h5 | h5
          · exact .inl (List.mem_cons_of_mem _ ((h4 j).2 (.inl h5)))
          · rw [List.map_append, List.mem_append] at h5
            rcases h5 with h5 | h5
            · exact .inl (List.mem_cons_of_mem _ ((h4 j).2 (.inr h5)))
            · simp only [List.map_cons, List.mem_cons] at h5
              rcases h5 with rfl | h5
              · exact .inl (by simp)
              · exact .inr h5
end
end Go.M2

namespace Go.M2
open Go.RowKit (Below)
def EX.real : EX → Exit
  | .normal => .normal
  | .exit i => .exit i
  | .ret => .ret
section
variable {P : Program} {w0 : World} {nt : Nat}
theorem region_sound {sch : Sch} {ops : Array Oper} {id : Nat} (hm : P.follows .mixedOrders = true) {gl : List GOp} {s : List (Nat × List Nat)} (hgl : cGs P nt ops ops.toList = some gl) (hd : drawOk ops gl s = true)
    {K : Env → Heap → Prop} {R : Exit → Act → World → Prop} {e : Env} {H : Heap} {ρ : Nat → BI} {a : Act} {w : World} (hw : wpD P gl s K e H) (her : ER nt H.size ρ e a) (hi : HI w0 ρ H w)
    (hR : ∀ e' H' ρ' a' w', K e' H' → ER nt H'.size ρ' e' a' → Evol ρ H w ρ' H' w' → HI w0 ρ' H' w' → R .normal a' w') : (Code.region id ops true).wp P R a w := by
  simp only [drawOk, Bool.and_eq_true, beq_iff_eq, List.all_eq_true, decide_eq_true_eq] at hd
  obtain ⟨⟨⟨h1, h2⟩, h3⟩, h4⟩ := hd
  have nodup : ∀ (s : List (Nat × List Nat)) (pre : List Nat), drawGo ops (Region.before ops) gl pre s = true → (s.map (·.1)).Nodup ∧ ∀ p ∈ s, p.1 ∉ pre := by
    intro s
    induction s with
    | nil => intro pre _; exact ⟨List.nodup_nil, fun p hp => nomatch hp⟩
    | cons q t ih =>
      intro pre h
      obtain ⟨i, rs⟩ := q
      simp only [drawGo, Bool.and_eq_true, Bool.not_eq_true'] at h
      obtain ⟨q1, q2⟩ := ih _ h.2
      have hp : i ∉ pre := by simpa using h.1.2
      refine ⟨?_, fun p hp' => ?_⟩
      · rw [List.map_cons, List.nodup_cons]
        refine ⟨fun hm => ?_, q1⟩
        obtain ⟨p, hp1, hp2⟩ := List.mem_map.1 hm
        exact q2 p hp1 (by rw [hp2]; simp)
      · rcases List.mem_cons.1 hp' with rfl | hp'
        · exact hp
        · exact fun hm => q2 p hp' (List.mem_cons_of_mem _ hm)
  have hcov : ∀ i, i < ops.size → i ∈ s.map (·.1) := by
    -- as many as there are, all different, all below
    have pig : ∀ (n : Nat) (l : List Nat), l.Nodup → (∀ x ∈ l, x < n) → l.length = n → ∀ i, i < n → i ∈ l := by
      intro n
      induction n with
      | zero => intro l _ _ _ i hi; omega
      | succ n ih =>
        intro l hn hlt hlen i hi
        by_cases hnl : n ∈ l
        · have he := ih (l.erase n) (hn.erase n) (fun x hx => by
            have h5 := hlt x (List.mem_of_mem_erase hx)
            have : x ≠ n := fun e => by subst e; exact (List.Nodup.not_mem_erase hn) hx
            omega) (by rw [List.length_erase_of_mem hnl]; omega)
          by_cases hin : i = n
          · rw [hin]; exact hnl
          · exact List.mem_of_mem_erase (he i (by omega))
        · exfalso
          -- a list of n+1 different numbers below n
          have big : ∀ (n : Nat) (l : List Nat), l.Nodup → (∀ x ∈ l, x < n) → l.length ≤ n := by
            intro n
            induction n with
            | zero => intro l _ hl; cases l with | nil => simp | cons x t => exact absurd (hl x (by simp)) (by omega)
            | succ n ih2 =>
              intro l hn hl
              have := ih2 (l.erase n) (hn.erase n) (fun x hx => by
                have h5 := hl x (List.mem_of_mem_erase hx)
                have : x ≠ n := fun e => by subst e; exact (List.Nodup.not_mem_erase hn) hx
                omega)
              rw [List.length_erase] at this
              split at this <;> omega
          have := big n l hn (fun x hx => by
            have h5 := hlt x hx
            have : x ≠ n := fun e => hnl (e ▸ hx)
            omega)
          omega
    exact pig ops.size _ (nodup s [] h4).1 (fun x hx => by
      obtain ⟨p, hp, rfl⟩ := List.mem_map.1 hx
      exact h3 p hp) (by rw [List.length_map, h1])
  have hi' := hi.drawn (w.drawn + 1)
  refine wp_region_any hm (draw_sound (w0 := w0) (nt := nt) (s0 := ⟨ρ, H, { w with drawn := w.drawn + 1 }⟩) hgl h4 hcov (K := K) ?_ ops.size _ [] s e H ρ a _ ?_ h4 (fun i hi => .inr (hcov i hi)) h3 hw ?_)
  · intro e' H' ρ' a' w' hk h5 h6 h7
    exact hR e' H' ρ' a' w' hk h5 ((Evol.drawn ρ H w _).trans h6) h7
  · have hf : ∀ j, (Array.replicate ops.size false).getD j false = false := by
      intro j; simp [Array.getD_eq_getD_getElem?, Array.getElem?_replicate]; split <;> rfl
    exact { hi := hi', ev := Evol.refl _ _ _, low := hi.below.size, tsz := her.size, dfr := her.defers, dsz := by simp
            dcl := fun i hi => absurd hi (by simp only [hf]; simp), pcl := fun i hi => (nomatch hi), plt := fun i hi => (nomatch hi), ein := fun i hi => (nomatch hi)
            fin := fun j _ hj => absurd hj (by rw [hf]; simp), fdi := fun j k _ _ hj => absurd hj (by rw [hf]; simp), val := fun t _ => her.vals t }
  · unfold left
    refine Nat.le_trans (List.length_filter_le _ _) (by simp)
theorem wp_sound (hm : P.follows .mixedOrders = true) {sch : Sch} : ∀ (c : Code) (ir : IR) (Q : Post) (R : Exit → Act → World → Prop) (e : Env) (H : Heap) (ρ : Nat → BI) (a : Act) (w : World),
    comp P nt sch c = some ir → wp P ir Q e H → ER nt H.size ρ e a → HI w0 ρ H w →
    (∀ x e' H' ρ' a' w', Q x e' H' → ER nt H'.size ρ' e' a' → Evol ρ H w ρ' H' w' → HI w0 ρ' H' w' → R x.real a' w') → c.wp P R a w := by
  intro c
  induction c with
  | skip =>
    intro ir Q R e H ρ a w hc hw her hi hR
    simp only [comp, Option.some.injEq] at hc; subst hc
    exact wp_skip (hR .normal e H ρ a w hw her (Evol.refl _ _ _) hi)
  | scope x ih =>
    intro ir Q R e H ρ a w hc hw her hi hR
    simp only [comp] at hc
    refine wp_scope_straight (ih ir Q _ e H ρ a w hc hw her hi fun x e' H' ρ' a' w' h1 h2 h3 h4 => ?_)
    have := hR x e' H' ρ' a' w' h1 h2 h3 h4
    cases x <;> exact this
  | label l =>
    intro ir Q R e H ρ a w hc hw her hi hR
    simp only [comp, Option.some.injEq] at hc; subst hc
    exact wp_label (hR .normal e H ρ a w hw her (Evol.refl _ _ _) hi)
  | ret =>
    intro ir Q R e H ρ a w hc hw her hi hR
    simp only [comp, Option.some.injEq] at hc; subst hc
    exact wp_ret (hR .ret e H ρ a w hw her (Evol.refl _ _ _) hi)
  | exit id =>
    intro ir Q R e H ρ a w hc hw her hi hR
    simp only [comp, Option.some.injEq] at hc; subst hc
    exact wp_exit (hR (.exit id) e H ρ a w hw her (Evol.refl _ _ _) hi)
  | region id ops d =>
    intro ir Q R e H ρ a w hc hw her hi hR
    cases d with
    | false =>
      simp only [comp, Option.map_eq_some_iff] at hc
      obtain ⟨gl, hgl, rfl⟩ := hc
      refine wp_region ?_
      split at hw
      rotate_left
      · simp only [wp] at hw
        have := wpKA_sound (ops := ops) ops.toList gl _ 0 (Q .normal) R e H ρ a w (fun j => by simp) hgl hw her hi (fun e' H' ρ' a' w' hk h1 h2 h3 => hR .normal e' H' ρ' a' w' hk h1 h2 h3)
        simpa [List.range_eq_range'] using this
      simp only [wp] at hw
      have := wpL_sound (ops := ops) ops.toList gl 0 (Q .normal) R e H ρ a w (fun j => by simp) hgl hw her hi (fun e' H' ρ' a' w' hk h1 h2 h3 => hR .normal e' H' ρ' a' w' hk h1 h2 h3)
      simpa [List.range_eq_range'] using this
    | true =>
      simp only [comp] at hc
      split at hc
      · rename_i gl hgl
        split at hc
        · rename_i hd
          split at hc
          · cases hc
            simp only [wp] at hw
            exact region_sound (sch := sch) hm hgl hd hw her hi (fun e' H' ρ' a' w' hk h1 h2 h3 => hR .normal _ H' ρ' a' w' hk (h1.keep _) h2 h3)
          · cases hc
            simp only [wp] at hw
            exact region_sound (sch := sch) hm hgl hd hw her hi (fun e' H' ρ' a' w' hk h1 h2 h3 => hR .normal e' H' ρ' a' w' hk h1 h2 h3)
        · cases hc
      · cases hc
  | seq x y ihx ihy =>
    intro ir Q R e H ρ a w hc hw her hi hR
    simp only [comp] at hc
    split at hc
    · rename_i ix iy hx hy
      cases hc
      simp only [wp] at hw
      refine wp_seq (ihx ix _ _ e H ρ a w hx hw her hi ?_)
      intro z e' H' ρ' a' w' hq h1 h2 h3
      cases z with
      | normal =>
        simp only [EX.real, Exit.then]
        simp only [thenQ] at hq
        exact ihy iy Q R e' H' ρ' a' w' hy hq h1 h3 (fun z2 e2 H2 ρ2 a2 w2 q1 q2 q3 q4 => hR z2 e2 H2 ρ2 a2 w2 q1 q2 (h2.trans q3) q4)
      | exit i => exact hR (.exit i) e' H' ρ' a' w' hq h1 h2 h3
      | ret => exact hR .ret e' H' ρ' a' w' hq h1 h2 h3
    · cases hc
  | cond c x y ihx ihy =>
    intro ir Q R e H ρ a w hc hw her hi hR
    simp only [comp] at hc
    split at hc
    · rename_i ic ix iy hcc hx hy
      cases hc
      simp only [wp, condP] at hw
      have hv := cX_VR hcc (her.ops ic.tmps)
      split at hw
      · rename_i b hb
        rw [hb] at hv
        generalize hev : a.eval c = q at hv
        cases hv
        cases b with
        | true => exact wp_cond hev (ihx ix Q R e H ρ a w hx (by simpa using hw) her hi hR)
        | false => exact wp_cond hev (ihy iy Q R e H ρ a w hy (by simpa using hw) her hi hR)
      · exact hw.elim
    · cases hc
  | block id x ih =>
    intro ir Q R e H ρ a w hc hw her hi hR
    simp only [comp, Option.map_eq_some_iff] at hc
    obtain ⟨ix, hx, rfl⟩ := hc
    simp only [wp] at hw
    refine wp_block (ih ix _ _ e H ρ a w hx hw her hi ?_)
    intro z e' H' ρ' a' w' hq h1 h2 h3
    cases z with
    | normal => exact hR .normal e' H' ρ' a' w' hq h1 h2 h3
    | exit i =>
      simp only [EX.real, Exit.inBlock]
      simp only [blockQ] at hq
      split at hq
      · rename_i hid; rw [if_pos hid]; exact hR .normal e' H' ρ' a' w' hq h1 h2 h3
      · rename_i hid; rw [if_neg hid]; exact hR (.exit i) e' H' ρ' a' w' hq h1 h2 h3
    | ret => exact hR .ret e' H' ρ' a' w' hq h1 h2 h3
  | loop x ih =>
    intro ir Q R e H ρ a w hc hw her hi hR
    simp only [comp, Option.map_eq_some_iff] at hc
    obtain ⟨ix, hx, rfl⟩ := hc
    simp only [wp] at hw
    obtain ⟨I, μ, hI, hround⟩ := hw
    have key : ∀ (n : Nat) (e1 : Env) (H1 : Heap) (ρ1 : Nat → BI) (a1 : Act) (w1 : World), I e1 H1 → μ e1 H1 < n → ER nt H1.size ρ1 e1 a1 → Evol ρ H w ρ1 H1 w1 → HI w0 ρ1 H1 w1 → Code.rounds P x R n a1 w1 := by
      intro n
      induction n with
      | zero => intro e1 H1 ρ1 a1 w1 _ h; omega
      | succ n ihn =>
        intro e1 H1 ρ1 a1 w1 hI1 hlt her1 hev1 hi1
        rw [rounds_succ]
        refine ih ix _ _ e1 H1 ρ1 a1 w1 hx (hround e1 H1 hI1) her1 hi1 ?_
        intro z e' H' ρ' a' w' hq h1 h2 h3
        cases z with
        | normal =>
          simp only [EX.real, Exit.then]
          simp only [thenQ] at hq
          exact ihn e' H' ρ' a' w' hq.1 (by omega) h1 (hev1.trans h2) h3
        | exit i => exact hR (.exit i) e' H' ρ' a' w' hq h1 (hev1.trans h2) h3
        | ret => exact hR .ret e' H' ρ' a' w' hq h1 (hev1.trans h2) h3
    exact wp_loop_rounds (μ e H + 1) (key _ e H ρ a w hI (by omega) her (Evol.refl _ _ _) hi)
  | _ =>
    intro ir Q R e H ρ a w hc
    simp [comp] at hc
theorem results_run {w : World} {H : Heap} {ρ : Nat → BI} {e : Env} {a : Act} (hi : HI w0 ρ H w) (hv : ∀ t, VR H.size ρ (e t) (a.tmps.getD t undef)) (f : ResultVar → Sem Value)
    (hf1 : ∀ t, f (.tmp t) = pure (a.tmps.getD t undef)) (hf2 : ∀ x t, f (.cell x t) = (do loadVar t (← asAddr (a.tmps.getD x undef)))) :
    ∀ (l : List ResultVar) (rs : List RV) (xs : List AV), cRes P l = some rs → resVs e H rs = some xs →
    ∃ vs : List Value, (l.mapM f).run P w = .ok vs w ∧ VRL H.size ρ xs vs := by
  intro l
  induction l with
  | nil =>
    intro rs xs h1 h2
    simp only [cRes, Option.some.injEq] at h1; subst h1
    simp only [resVs, Option.some.injEq] at h2; subst h2
    exact ⟨[], by simp, rfl, fun i x v h => by simp at h⟩
  | cons r t ih =>
    intro rs xs h1 h2
    have step : ∀ (rv : RV) (rt : List RV), rs = rv :: rt → cRes P t = some rt → (∀ x, resV e H rv = some x → ∃ v, (f r).run P w = .ok v w ∧ VR H.size ρ x v) → ∃ vs : List Value, ((r :: t).mapM f).run P w = .ok vs w ∧ VRL H.size ρ xs vs := by
      intro rv rt hrs hrt hone
      subst hrs
      simp only [resVs] at h2
      split at h2
      · rename_i x l q1 q2
        cases h2
        obtain ⟨v, q3, q4⟩ := hone x q1
        obtain ⟨vs, q5, q6⟩ := ih rt l hrt q2
        exact ⟨v :: vs, by simp only [List.mapM_cons, Sem.run_bind, q3, Result.andThen_ok, q5, Sem.run_pure], VRL.cons q4 q6⟩
      · cases h2
    cases r with
    | tmp t0 =>
      simp only [cRes, Option.map_eq_some_iff] at h1
      obtain ⟨rt, q1, rfl⟩ := h1
      refine step (.t t0) rt rfl q1 fun x hx => ?_
      simp only [resV, Option.some.injEq] at hx; subst hx
      exact ⟨_, by rw [hf1]; rfl, hv t0⟩
    | cell x t0 =>
      simp only [cRes] at h1
      split at h1
      · rename_i n ag l q1 q2 q3
        split at h1
        · cases h1
          refine step (.c x n ag) l rfl q3 fun y hy => ?_
          simp only [resV] at hy
          obtain ⟨v, q4, q5⟩ := cells_load (P := P) hi (hv x) q1 q2 hy
          refine ⟨v, ?_, q5⟩
          rw [hf2]
          have hvx := hv x
          generalize a.tmps.getD x undef = u at q4 hvx
          cases hev : e x with
          | ptr A =>
            rw [hev] at hvx hy
            cases hvx with
            | ptr _ hA =>
              cases A with
              | none => simp [loadF] at hy
              | some p => simpa [Instr.loadAt, Instr.sureAddr, asAddr, rA] using q4
          | _ => rw [hev] at hy; simp [loadF] at hy
        · cases h1
      · cases h1
theorem ret_run {fn : Func} {rs : List RV} {w : World} {H : Heap} {ρ : Nat → BI} {e : Env} {a : Act} {r : AV} (hi : HI w0 ρ H w) (hv : ∀ t, VR H.size ρ (e t) (a.tmps.getD t undef))
    (hc : cRes P fn.results.toList = some rs) (hr : retV rs e H = some r) : ∃ v, (results fn a.tmps).run P w = .ok v w ∧ VR H.size ρ r v := by
  unfold retV at hr
  have key : ∀ xs, resVs e H rs = some xs → ∃ vs : List Value, (fn.results.mapM (fun | .tmp t => pure (a.tmps.getD t undef) | .cell x t => do loadVar t (← asAddr (a.tmps.getD x undef)) : ResultVar → Sem Value)).run P w = .ok vs.toArray w ∧ VRL H.size ρ xs vs := by
    intro xs hx
    obtain ⟨vs, q1, q2⟩ := results_run (P := P) hi hv (fun | .tmp t => pure (a.tmps.getD t undef) | .cell x t => do loadVar t (← asAddr (a.tmps.getD x undef))) (fun _ => rfl) (fun _ _ => rfl) _ rs xs hc hx
    refine ⟨vs, ?_, q2⟩
    rw [Array.mapM_eq_mapM_toList]
    simp [-Array.getD_eq_getD_getElem?, q1]
  split at hr
  · rename_i x hx
    cases hr
    obtain ⟨vs, q1, q2⟩ := key _ hx
    obtain ⟨v, vt, rfl, q3, q4⟩ := q2.uncons
    have := q4.unnil; subst this
    refine ⟨v, ?_, q3⟩
    unfold results
    rw [Sem.run_bind]
    refine (congrArg (fun z => Result.andThen z _) q1).trans ?_
    simp
  · rename_i l hn hl
    cases hr
    obtain ⟨vs, q1, q2⟩ := key _ hl
    refine ⟨.tuple vs.toArray, ?_, VR.tup l vs.toArray (by simpa using q2.1) (fun i x v hx hv => q2.2 i x v hx (by simpa using hv))⟩
    have h1 : vs.length ≠ 1 := by
      intro h
      rw [← q2.1] at h
      match l, h with
      | [x], _ => exact hn x rfl
    unfold results
    rw [Sem.run_bind]
    refine (congrArg (fun z => Result.andThen z _) q1).trans ?_
    simp [h1]
  · cases hr
theorem acall_of_wp (hm : P.follows .mixedOrders = true) {f : FuncId} {fn : Func} {sch : Sch} {ifn : IFn} {args : List AV} {H : Heap} {R : AV → Heap → Prop} (hf : P.funcs[f]? = some fn) (hc : compFn P sch fn = some ifn) (hcb : callable P f = true)
    (hl : args.length = ifn.nparams) (h : wp P ifn.body (postQ ifn.res R) (env0 args) H) : ACall P f args H R := by
  refine ⟨hcb, fun w0 ρ w vs hi hvs => ?_⟩
  unfold compFn at hc
  split at hc
  · rename_i c rs hbody hres
    split at hc
    · rename_i b hb
      split at hc
      · rename_i hsz
        cases hc
        simp only at hl h
        have hlv : vs.length = args.length := hvs.1.symm
        have her : ER fn.ntmps H.size ρ (env0 args) { tmps := vs.toArray ++ Array.replicate (fn.ntmps - vs.toArray.size) undef, defers := [] } := by
          refine ⟨by simp; omega, rfl, fun t => ?_⟩
          simp only [env0]
          by_cases ht : t < args.length
          · have h1 : args.getD t .junk = args[t] := by simp [List.getD, ht]
            have h2 : (vs.toArray ++ Array.replicate (fn.ntmps - vs.toArray.size) undef).getD t undef = vs[t]'(by omega) := by
              simp [Array.getD_eq_getD_getElem?, Array.getElem?_append, show t < vs.length by omega]
            rw [h1, h2]
            exact hvs.2 t _ _ (by simp [ht]) (by simp [show t < vs.length by omega])
          · have h1 : args.getD t .junk = .junk := by simp [List.getD, ht]
            rw [h1]; exact .junk _
        refine calls_of_wp hf hbody (wp_sound (w0 := w0) hm c b _ _ _ H ρ _ w hb h her hi ?_)
        intro x e' H' ρ' a' w' hq h1 h2 h3
        have fin : retP rs R e' H' → a'.defers = [] ∧ ∃ v, (results fn a'.tmps).run P w' = .ok v w' ∧ ∃ r H'' ρ'' v', Ending.returned v = .returned v' ∧ VR H''.size ρ'' r v' ∧ Evol ρ H w ρ'' H'' w' ∧ HI w0 ρ'' H'' w' ∧ R r H'' := by
          intro hq
          unfold retP optP at hq
          split at hq
          · rename_i r hr
            obtain ⟨v, q1, q2⟩ := ret_run (fn := fn) h3 h1.vals hres hr
            exact ⟨h1.defers, v, q1, r, H', ρ', v, rfl, q2, h2, h3, hq⟩
          · exact hq.elim
        cases x with
        | normal => exact fin hq
        | ret => exact fin hq
        | exit i => exact hq.elim
      · cases hc
    · cases hc
  · cases hc
end
end Go.M2

namespace Go.M2
theorem idE {α : Sort _} {a b : α} (h : a = b) : a = b := h
section
variable {P : Program} {Q : Post} {e : Env} {H : Heap} {K : AV → Heap → Prop}
def condW (P : Program) (c : X) (a b : IR) (Q : Post) (e : Env) (H : Heap) : Prop := condP (c.ev e) (wp P a Q e H) (wp P b Q e H)
def condV (P : Program) (c : AV) (a b : IR) (Q : Post) (e : Env) (H : Heap) : Prop := condP c (wp P a Q e H) (wp P b Q e H)
@[go_sem] theorem condW_V {c : X} {a b : IR} : condW P c a b Q e H = condV P (c.ev e) a b Q e H := idE rfl
@[go_sem] theorem retP_0 {R : AV → Heap → Prop} : retP [] R e H = R (.tup []) H := idE rfl
@[go_sem] theorem retP_1 {R : AV → Heap → Prop} {a : Nat} : retP [.t a] R e H = R (e a) H := idE rfl
@[go_sem] theorem retP_2 {R : AV → Heap → Prop} {a b : Nat} : retP [.t a, .t b] R e H = R (.tup [e a, e b]) H := idE rfl
@[go_sem] theorem retP_3 {R : AV → Heap → Prop} {a b c : Nat} : retP [.t a, .t b, .t c] R e H = R (.tup [e a, e b, e c]) H := idE rfl
@[go_sem] theorem retP_c {R : AV → Heap → Prop} {a n : Nat} {ag : Bool} : retP [.c a n ag] R e H = optP (loadF H n ag (e a)) H R := by
  unfold retP retV optP
  simp only [resVs, resV]
  cases loadF H n ag (e a) <;> rfl
def contL (P : Program) (t : List GOp) (K : Env → Heap → Prop) (e : Env) (d : Option Nat) : AV → Heap → Prop := fun v H' => wpL P t K (putE e d v) H'
@[go_sem] theorem contL_go {t : List GOp} {K : Env → Heap → Prop} {d : Option Nat} {v : AV} : contL P t K e d v H = wpL P t K (putE e d v) H := idE rfl
@[go_sem] theorem putE_none {v : AV} : putE e none v = e := idE rfl
@[go_sem] theorem putE_some {d : Nat} {v : AV} : putE e (some d) v = upd e d v := idE rfl
@[go_sem] theorem upd_get {d n : Nat} {v : AV} : upd e d v n = if n = d then v else e n := idE rfl
@[go_sem] theorem env0_get {l : List AV} {n : Nat} : env0 l n = l.getD n .junk := idE rfl
@[go_sem] theorem X_t {n : Nat} : (X.t n).ev e = e n := idE rfl
@[go_sem] theorem X_c {v : AV} : (X.c v).ev e = v := idE rfl
@[go_sem] theorem optP_some {v : AV} : optP (some v) H K = K v H := idE rfl
@[go_sem] theorem callvP_fn {f : Nat} {c a : List AV} : callvP P (.fn f c) a H K = ACall P f (a ++ c) H K := idE rfl
variable {k : IntKind} {a b : Int}
@[go_sem] theorem bin_add : binF .add (.int k a) (.int k b) = some (.int k (k.wrap (a + b))) := by simp [binF, isSh, intBin]
@[go_sem] theorem bin_sub : binF .sub (.int k a) (.int k b) = some (.int k (k.wrap (a - b))) := by simp [binF, isSh, intBin]
@[go_sem] theorem bin_mul : binF .mul (.int k a) (.int k b) = some (.int k (k.wrap (a * b))) := by simp [binF, isSh, intBin]
@[go_sem] theorem bin_lss : binF .lss (.int k a) (.int k b) = some (.bool (decide (a < b))) := by simp [binF, isSh, intBin]
@[go_sem] theorem bin_leq : binF .leq (.int k a) (.int k b) = some (.bool (decide (a ≤ b))) := by simp [binF, isSh, intBin]
@[go_sem] theorem bin_gtr : binF .gtr (.int k a) (.int k b) = some (.bool (decide (b < a))) := by simp [binF, isSh, intBin]
@[go_sem] theorem bin_geq : binF .geq (.int k a) (.int k b) = some (.bool (decide (b ≤ a))) := by simp [binF, isSh, intBin]
@[go_sem] theorem bin_eql : binF .eql (.int k a) (.int k b) = some (.bool (decide (a = b))) := by simp [binF, isSh, intBin]; rfl
@[go_sem] theorem bin_neq : binF .neq (.int k a) (.int k b) = some (.bool (decide (a ≠ b))) := by
  simp only [binF, isSh, intBin, if_true, Bool.false_eq_true, if_false]
  by_cases h : a = b <;> simp [h]
@[go_sem] theorem beq_ff {x y : Bool} : beqF false (.bool x) (.bool y) = some (.bool (x == y)) := idE rfl
@[go_sem] theorem beq_tt {x y : Bool} : beqF true (.bool x) (.bool y) = some (.bool (!(x == y))) := idE rfl
@[go_sem] theorem un_neg : unF .neg (.int k a) = some (.int k (k.wrap (0 - a))) := idE rfl
@[go_sem] theorem un_not {x : Bool} : unF .not (.bool x) = some (.bool (!x)) := idE rfl
@[go_sem] theorem pick_go {x : Bool} {u v : AV} : pickF (.bool x) u v = some (if x then u else v) := idE rfl
@[go_sem] theorem pick_t {u v : AV} : pickF (.bool true) u v = some u := idE rfl
@[go_sem] theorem pick_f {u v : AV} : pickF (.bool false) u v = some v := idE rfl
@[go_sem] theorem nil_sl0 {n c kk : Nat} {ex : Bool} : isNilF .sl (.sl none n c ex kk) = some true := idE rfl
@[go_sem] theorem nil_sl1 {A : Nat × Nat} {n c kk : Nat} {ex : Bool} : isNilF .sl (.sl (some A) n c ex kk) = some false := idE rfl
@[go_sem] theorem nilck_go {p : Nat × Nat} : nilckF (.ptr (some p)) = some (.ptr (some p)) := idE rfl
@[go_sem] theorem ptrOff_go {x o n : Nat} : ptrOff n (.ptr (some (x, o))) = some (.ptr (some (x, o + n))) := idE rfl
@[go_sem] theorem len_go {A : AA} {n c kk : Nat} {ex : Bool} : lenF (.sl A n c ex kk) = some (.int .i64 n) := idE rfl
@[go_sem] theorem len_emp : lenF .emp = some (.int .i64 0) := idE rfl
@[go_sem] theorem cap_go {A : AA} {n c kk : Nat} : capF (.sl A n c true kk) = some (.int .i64 c) := idE rfl
@[go_sem] theorem cvi_go {k' : IntKind} : cviF k (.int k' a) = some (.int k (k.wrap a)) := idE rfl
@[go_sem] theorem mnx_max : mnxF true (.int k a) (.int k b) = some (.int k (max a b)) := by
  simp only [mnxF, if_true]
  congr 2
  by_cases h : b > a
  · rw [if_pos h]; omega
  · rw [if_neg h]; omega
@[go_sem] theorem mnx_min : mnxF false (.int k a) (.int k b) = some (.int k (min a b)) := by
  simp only [mnxF, if_true, Bool.false_eq_true, if_false]
  congr 2
  by_cases h : b < a
  · rw [if_pos h]; omega
  · rw [if_neg h]; omega
@[go_sem] theorem wrap_in (h0 : -9223372036854775808 ≤ a) (h1 : a ≤ 9223372036854775807) : IntKind.i64.wrap a = a := IntWalk.i64_in a ⟨h0, h1⟩
@[go_sem] theorem iaddr_go {A : AA} {n c kk sz : Nat} {ex : Bool} {k' : IntKind} (h0 : 0 ≤ a) (h1 : a < (n : Int)) : iaddrF sz (.sl A n c ex kk) (.int k' a) = some (.ptr (some (A.b, A.o + a.toNat * sz))) := by
  simp only [iaddrF]; rw [if_pos ⟨h0, h1⟩]
@[go_sem] theorem load1 {x o n : Nat} : loadF H n false (.ptr (some (x, o))) = H.get x o := idE rfl
@[go_sem] theorem loadA {x o n : Nat} : loadF H n true (.ptr (some (x, o))) = (loadN H x o n).map .agg := idE rfl
@[go_sem] theorem cells_int : cellsOf (.int k a) = some [.int k a] := idE rfl
@[go_sem] theorem cells_bool {x : Bool} : cellsOf (.bool x) = some [.bool x] := idE rfl
@[go_sem] theorem cells_sl {A : AA} {n c kk : Nat} {ex : Bool} : cellsOf (.sl A n c ex kk) = some [.sl A n c ex kk] := idE rfl
@[go_sem] theorem cells_agg {l : List AV} : cellsOf (.agg l) = some l := idE rfl
@[go_sem] theorem cells_ptr {A : AA} : cellsOf (.ptr A) = some [.ptr A] := idE rfl
@[go_sem] theorem ext_go {l : List AV} {n : Nat} : extF n (.tup l) = l[n]? := idE rfl
@[go_sem] theorem AAb {x o : Nat} : AA.b (some (x, o)) = x := idE rfl
@[go_sem] theorem AAo {x o : Nat} : AA.o (some (x, o)) = o := idE rfl
@[go_sem] theorem bslcP_some {n m : Nat} {c : List AV} : bslcP n m (some c) H K = K (.sl (some (H.size, 0)) m m true n) (H.alloc c) := idE rfl
def bslK (e : Env) (n : Nat) (z : List AV) (i : Nat) (c : Option (List AV)) (t : List (Nat × X)) : Option (List AV) := match c with
  | some c => if c.length = n ∧ i * n + n ≤ z.length then bslF e n (setAt z (i * n) c) t else none
  | none => none
@[go_sem] theorem bslF_nil {n : Nat} {z : List AV} : bslF e n z [] = some z := idE rfl
@[go_sem] theorem bslF_cons {n i : Nat} {z : List AV} {x : X} {t : List (Nat × X)} : bslF e n z ((i, x) :: t) = bslK e n z i (cellsOf (x.ev e)) t := idE rfl
@[go_sem] theorem bslK_1 {i : Nat} {z : List AV} {v : AV} {t : List (Nat × X)} (h : i + 1 ≤ z.length) : bslK e 1 z i (some [v]) t = bslF e 1 (z.set i v) t := by
  unfold bslK
  simp only [List.length_cons, List.length_nil, Nat.mul_one]
  rw [if_pos ⟨trivial, h⟩]
  rfl
@[go_sem] theorem bslK_n {n i : Nat} {z c : List AV} {t : List (Nat × X)} (h0 : c.length = n) (h : i * n + n ≤ z.length) : bslK e n z i (some c) t = bslF e n (setAt z (i * n) c) t := by
  unfold bslK
  simp only
  rw [if_pos ⟨h0, h⟩]
def bldK (e : Env) (z : List AV) (o n : Nat) (c : Option (List AV)) (t : List (Nat × Nat × X)) : Option (List AV) := match c with
  | some c => if c.length = n ∧ o + n ≤ z.length then bldF e (setAt z o c) t else none
  | none => none
@[go_sem] theorem bldF_nil {z : List AV} : bldF e z [] = some z := idE rfl
@[go_sem] theorem bldF_cons {o n : Nat} {z : List AV} {x : X} {t : List (Nat × Nat × X)} : bldF e z ((o, n, x) :: t) = bldK e z o n (cellsOf (x.ev e)) t := idE rfl
@[go_sem] theorem bldK_go {o n : Nat} {z c : List AV} {t : List (Nat × Nat × X)} (h0 : c.length = n) (h : o + n ≤ z.length) : bldK e z o n (some c) t = bldF e (setAt z o c) t := by
  unfold bldK
  simp only
  rw [if_pos ⟨h0, h⟩]
@[go_sem] theorem zeros_1 {z : List AV} : zeros z 1 = z := by simp [zeros]
@[go_sem] theorem zeros_0 {z : List AV} : zeros z 0 = [] := idE rfl
@[go_sem] theorem setAt_nil {z : List AV} {o : Nat} : setAt z o [] = z := idE rfl
@[go_sem] theorem setAt_cons {z t : List AV} {o : Nat} {v : AV} : setAt z o (v :: t) = setAt (z.set o v) (o + 1) t := idE rfl
attribute [go_sem] Int.toNat_natCast Nat.mul_one List.set_cons_zero List.set_cons_succ
def contD (P : Program) (gl : List GOp) (rs : List Nat) (t : List (Nat × List Nat)) (K : Env → Heap → Prop) (e : Env) (d : Option Nat) : AV → Heap → Prop := fun v H' => chkAll gl rs (putE e d v) H' ∧ wpD P gl t K (putE e d v) H'
def stepD (P : Program) (g : GOp) (gl : List GOp) (rs : List Nat) (t : List (Nat × List Nat)) (K : Env → Heap → Prop) (e : Env) (H : Heap) : Prop := gWant g.g e (stepL P g.op e H (contD P gl rs t K e g.dst)) (wpD P gl t K (putE e g.dst (.tup [])) H)
@[go_sem] theorem stepD_none {gl : List GOp} {K : Env → Heap → Prop} {d : Option Nat} {o : IOp} {rs : List Nat} {t : List (Nat × List Nat)} : stepD P ⟨d, o, none⟩ gl rs t K e H = stepL P o e H (contD P gl rs t K e d) := idE rfl
def guardD (P : Program) (v : AV) (want : Bool) (o : IOp) (gl : List GOp) (rs : List Nat) (t : List (Nat × List Nat)) (K : Env → Heap → Prop) (e : Env) (H : Heap) (d : Option Nat) : Prop := match v with
  | .bool b => if b = want then stepL P o e H (contD P gl rs t K e d) else wpD P gl t K (putE e d (.tup [])) H
  | .tup [] => wpD P gl t K (putE e d (.tup [])) H
  | _ => False
@[go_sem] theorem stepD_some {gl : List GOp} {K : Env → Heap → Prop} {d : Option Nat} {o : IOp} {rs : List Nat} {t : List (Nat × List Nat)} {g : Nat} {want : Bool} : stepD P ⟨d, o, some (g, want)⟩ gl rs t K e H = guardD P (e g) want o gl rs t K e H d := idE rfl
section
variable {gl : List GOp} {rs : List Nat} {t : List (Nat × List Nat)} {K : Env → Heap → Prop} {d : Option Nat} {o : IOp}
@[go_sem] theorem guardD_tt : guardD P (.bool true) true o gl rs t K e H d = stepL P o e H (contD P gl rs t K e d) := idE rfl
@[go_sem] theorem guardD_ff : guardD P (.bool false) false o gl rs t K e H d = stepL P o e H (contD P gl rs t K e d) := idE rfl
@[go_sem] theorem guardD_tf : guardD P (.bool true) false o gl rs t K e H d = wpD P gl t K (putE e d (.tup [])) H := idE rfl
@[go_sem] theorem guardD_ft : guardD P (.bool false) true o gl rs t K e H d = wpD P gl t K (putE e d (.tup [])) H := idE rfl
@[go_sem] theorem guardD_und {want : Bool} : guardD P (.tup []) want o gl rs t K e H d = wpD P gl t K (putE e d (.tup [])) H := idE rfl
@[go_sem] theorem contD_go {v : AV} : contD P gl rs t K e d v H = (chkAll gl rs (putE e d v) H ∧ wpD P gl t K (putE e d v) H) := idE rfl
end
@[go_sem] theorem preAll_nil {gl : List GOp} : preAll gl [] e = True := idE rfl
@[go_sem] theorem chkAll_nil {gl : List GOp} : chkAll gl [] e H = True := idE rfl
@[go_sem] theorem preAll_cons {gl : List GOp} {j : Nat} {t : List Nat} : preAll gl (j :: t) e = ((if (gAt gl j).op.quiet then True else (alc e (gAt gl j).op).isSome = true) ∧ preAll gl t e) := idE rfl
def chk1 (g : GOp) (e : Env) (H : Heap) : Prop := if g.op.quiet then (match g.dst with | some d => gq g e H = some (e d) | none => True) else True
@[go_sem] theorem chkAll_cons {gl : List GOp} {j : Nat} {t : List Nat} : chkAll gl (j :: t) e H = (chk1 (gAt gl j) e H ∧ chkAll gl t e H) := idE rfl
@[go_sem] theorem quiet_bslc {a b : Nat} {z : List AV} {p : List (Nat × X)} : IOp.quiet (.bslc a b z p) = false := idE rfl
@[go_sem] theorem quiet_load {x : X} {n : Nat} {ag : Bool} : IOp.quiet (.load x n ag) = true := idE rfl
attribute [go_sem] decide_true decide_false ne_eq not_true_eq_false not_false_eq_true Bool.false_eq_true if_false Bool.not_true Bool.not_false
attribute [go_sem] true_and and_true Option.isSome_some if_true
end
end Go.M2

namespace Go.M2
attribute [go_sem] List.getD_cons_zero List.getD_cons_succ List.map_cons List.map_nil Option.map_some Option.map_none List.cons_append List.nil_append
theorem idP {p : Prop} (h : p) : p := h
theorem bL {a b : Nat} (h : Nat.ble a b = true) : a ≤ b := Nat.le_of_ble_eq_true h
theorem ACall.of {P : Program} {f : FuncId} {args : List AV} {H : Heap} {p : AV → Heap → Prop} (h : ∀ R : AV → Heap → Prop, (∀ r H', p r H' → R r H') → ACall P f args H R) : ACall P f args H p := h p fun _ _ h => h
def Le (H H' : Heap) : Prop := H.size ≤ H'.size ∧ ∀ b, b < H.size → H.blk b = .dead ∨ H'.blk b = H.blk b
theorem Le.refl (H : Heap) : Le H H := ⟨Nat.le_refl _, fun _ _ => .inr rfl⟩
theorem Le.trans {a b c : Heap} (h : Le a b) (k : Le b c) : Le a c :=
  ⟨Nat.le_trans h.1 k.1, fun i hi => by
    rcases h.2 i hi with h1 | h1
    · exact .inl h1
    · rcases k.2 i (Nat.lt_of_lt_of_le hi h.1) with h2 | h2
      · exact .inl (h1 ▸ h2)
      · exact .inr (h2.trans h1)⟩
theorem Le.ext {H H' : Heap} (h : Ext H H') : Le H H' := ⟨h.1, fun b hb => .inr (h.2 b hb)⟩
theorem Le.alloc (H : Heap) (c : List AV) : Le H (H.alloc c) := .ext (.alloc H c)
theorem Le.kill (H : Heap) (b : Nat) : Le (H.kill b) H := ⟨Nat.le_refl _, fun i hi => by
  simp only [Heap.kill, Heap.upd]
  split
  · exact .inl rfl
  · exact .inr rfl⟩
theorem Le.killDead {H H' : Heap} (h : Le H H') {b : Nat} (hb : H.blk b = .dead) : Le H (H'.kill b) := ⟨h.1, fun i hi => by
  simp only [Heap.kill, Heap.upd]
  split
  · rename_i e; subst e; exact .inl hb
  · exact h.2 i hi⟩
theorem Le.updDead {H H' : Heap} (h : Le H H') {b : Nat} (hb : H.blk b = .dead) (x : Blk) : Le H (H'.upd b x) := ⟨h.1, fun i hi => by
  simp only [Heap.upd]
  split
  · rename_i e; subst e; exact .inl hb
  · exact h.2 i hi⟩
theorem kill_dead (H : Heap) (b : Nat) : (H.kill b).blk b = .dead := by simp [Heap.kill, Heap.upd]
theorem kill_ne {H : Heap} {b i : Nat} (h : i ≠ b) : (H.kill b).blk i = H.blk i := by simp [Heap.kill, Heap.upd, h]
theorem Le.cells {H H' : Heap} (h : Le H H') {b : Nat} {c : List AV} {r : Bool} (hb : b < H.size) (hc : H.blk b = .cells c r) : H'.blk b = .cells c r := by
  rcases h.2 b hb with h1 | h1
  · rw [hc] at h1; cases h1
  · rw [h1, hc]
theorem Le.get {H H' : Heap} (h : Le H H') {b o : Nat} {x : AV} (hx : H.get b o = some x) : H'.get b o = some x := by
  have hlt := Heap.get_lt hx
  simp only [Heap.get, Option.bind_eq_some_iff] at hx ⊢
  obtain ⟨c, hc, hy⟩ := hx
  refine ⟨c, ?_, hy⟩
  obtain ⟨r, hr⟩ := Heap.cellsAt_blk hc
  unfold Heap.cellsAt
  rw [if_pos (Nat.lt_of_lt_of_le hlt h.1), h.cells hlt hr]
def Rd (H : Heap) (b o : Nat) (l : List AV) : Prop := ∀ i x, l[i]? = some x → H.get b (o + i) = some x
theorem Rd.le {H H' : Heap} (h : Le H H') {b o : Nat} {l : List AV} (hr : Rd H b o l) : Rd H' b o l := fun i x hi => h.get (hr i x hi)
theorem Rd.nil (H : Heap) (b o : Nat) : Rd H b o [] := fun i x h => by simp at h
theorem Rd.loadN {H : Heap} {b : Nat} : ∀ {l : List AV} {o : Nat}, Rd H b o l → loadN H b o l.length = some l
  | [], o, h => rfl
  | x :: t, o, h => by
    simp only [List.length_cons, M2.loadN]
    have h0 : H.get b o = some x := by simpa using h 0 x rfl
    have ht : Rd H b (o + 1) t := fun i y hi => by
      have := h (i + 1) y (by simpa using hi)
      rwa [show o + 1 + i = o + (i + 1) by omega]
    rw [h0, Rd.loadN ht]
theorem Rd.sub {H : Heap} {b o : Nat} {l : List AV} (h : Rd H b o l) (i n : Nat) : Rd H b (o + i) ((l.drop i).take n) := fun j x hj => by
  have : l[i + j]? = some x := by
    rw [List.getElem?_take] at hj
    split at hj
    · simpa using hj
    · cases hj
  have := h _ _ this
  rwa [show o + i + j = o + (i + j) by omega]
theorem Rd.blk {H : Heap} {b : Nat} {l : List AV} {r : Bool} (hb : b < H.size) (h : H.blk b = .cells l r) : Rd H b 0 l := fun i x hi => by
  unfold Heap.get Heap.cellsAt
  rw [if_pos hb, h]
  simpa using hi
theorem rwCells_of {H : Heap} {b : Nat} {l : List AV} (hb : b < H.size) (h : H.blk b = .cells l true) : H.rwCells b = some l := by
  unfold Heap.rwCells
  rw [if_pos hb, h]
theorem alloc_size (H : Heap) (c : List AV) : (H.alloc c).size = H.size + 1 := idE rfl
theorem alloc_new (H : Heap) (c : List AV) : (H.alloc c).blk H.size = .cells c true := by simp [Heap.alloc, Heap.put]
theorem alloc_old {H : Heap} {c : List AV} {b : Nat} (h : b ≠ H.size) : (H.alloc c).blk b = H.blk b := by simp [Heap.alloc, Heap.put, h]
def chkG (v : AV) (want : Bool) (o : Option AV) (u : AV) : Prop := (match v with
  | .bool b => if b = want then o else some (.tup [])
  | .tup [] => some (.tup [])
  | _ => none) = some u
@[go_sem] theorem chk1_loadG {e : Env} {H : Heap} {d g : Nat} {x : X} {n : Nat} {ag want : Bool} : chk1 ⟨some d, .load x n ag, some (g, want)⟩ e H = chkG (e g) want (loadF H n ag (x.ev e)) (e d) := idE rfl
@[go_sem] theorem chkG_tt {o : Option AV} {u : AV} : chkG (.bool true) true o u = (o = some u) := idE rfl
@[go_sem] theorem chkG_ff {o : Option AV} {u : AV} : chkG (.bool false) false o u = (o = some u) := idE rfl
@[go_sem] theorem chkG_tf {o : Option AV} {u : AV} : chkG (.bool true) false o u = (some (.tup []) = some u) := idE rfl
@[go_sem] theorem chkG_ft {o : Option AV} {u : AV} : chkG (.bool false) true o u = (some (.tup []) = some u) := idE rfl
@[go_sem] theorem chkG_und {want : Bool} {o : Option AV} {u : AV} : chkG (.tup []) want o u = (some (.tup []) = some u) := idE rfl
attribute [go_sem] alloc_size Nat.add_zero Nat.zero_add
section
variable {H : Heap} {b o : Nat} {c l : List AV}
@[go_sem] theorem upd_size {x : Blk} : (H.upd b x).size = H.size := idE rfl
@[go_sem] theorem get_alloc_new (h : b = H.size) : (H.alloc c).get b o = c[o]? := by subst h; simp [Heap.get, Heap.cellsAt, Heap.alloc, Heap.put]
@[go_sem] theorem get_alloc_old (h : b < H.size) : (H.alloc c).get b o = H.get b o := by
  have e : (H.alloc c).blk b = H.blk b := alloc_old (by omega)
  simp [Heap.get, Heap.cellsAt, e, h, alloc_size, show b < H.size + 1 by omega]
@[go_sem] theorem rw_alloc_new (h : b = H.size) : (H.alloc c).rwCells b = some c := by subst h; simp [Heap.rwCells, Heap.alloc, Heap.put]
@[go_sem] theorem rw_alloc_old (h : b < H.size) : (H.alloc c).rwCells b = H.rwCells b := by
  have e : (H.alloc c).blk b = H.blk b := alloc_old (by omega)
  simp [Heap.rwCells, e, h, alloc_size, show b < H.size + 1 by omega]
theorem upd_blk_same' {x : Blk} : (H.upd b x).blk b = x := by simp [Heap.upd]
theorem upd_blk_ne {b' : Nat} {x : Blk} (h : b' ≠ b) : (H.upd b x).blk b' = H.blk b' := by simp [Heap.upd, h]
@[go_sem] theorem rw_upd_same (h : b < H.size) : (H.upd b (.cells c true)).rwCells b = some c := by
  simp [Heap.rwCells, upd_blk_same', upd_size, h]
@[go_sem] theorem rw_upd_ne {b' : Nat} {x : Blk} (h : b' ≠ b) : (H.upd b x).rwCells b' = H.rwCells b' := by
  simp [Heap.rwCells, upd_blk_ne h, upd_size]
@[go_sem] theorem get_upd_same (h : b < H.size) : (H.upd b (.cells c true)).get b o = c[o]? := by
  simp [Heap.get, Heap.cellsAt, upd_blk_same', upd_size, h]
@[go_sem] theorem get_upd_ne {b' : Nat} {x : Blk} (h : b' ≠ b) : (H.upd b x).get b' o = H.get b' o := by
  simp [Heap.get, Heap.cellsAt, upd_blk_ne h, upd_size]
def stoK (n : Nat) (b o : Nat) (cs : Option (List AV)) (c : Option (List AV)) (H : Heap) (K : AV → Heap → Prop) : Prop := match c, cs with
  | some c, some cs => c.length = n ∧ c.all oneA = true ∧ o + n ≤ cs.length ∧ K .junk (H.upd b (.cells (setAt cs o c) true))
  | _, _ => False
@[go_sem] theorem storeP_go {n : Nat} {v : AV} {K : AV → Heap → Prop} : storeP n (.ptr (some (b, o))) v H K = stoK n b o (H.rwCells b) (cellsOf v) H K := by
  unfold storeP stoK
  cases cellsOf v with
  | none => rfl
  | some c => cases h : H.rwCells b <;> simp only [h]
@[go_sem] theorem stoK_1 {v : AV} {K : AV → Heap → Prop} (hv : oneA v = true) (h : o < l.length) : stoK 1 b o (some l) (some [v]) H K = K .junk (H.upd b (.cells (l.set o v) true)) := by
  unfold stoK
  simp [hv, setAt]
  intro; omega
theorem stoK_n {n : Nat} {K : AV → Heap → Prop} (hn : c.length = n) (hv : c.all oneA = true) (h : o + n ≤ l.length) : stoK n b o (some l) (some c) H K = K .junk (H.upd b (.cells (setAt l o c) true)) := by
  unfold stoK
  simp only [hn, hv, h, true_and]
@[go_sem] theorem stoK_2 {v1 v2 : AV} {K : AV → Heap → Prop} (h1 : oneA v1 = true) (h2 : oneA v2 = true) (h : o + 2 ≤ l.length) : stoK 2 b o (some l) (some [v1, v2]) H K = K .junk (H.upd b (.cells (setAt l o [v1, v2]) true)) := stoK_n rfl (by simp [h1, h2]) h
@[go_sem] theorem stoK_3 {v1 v2 v3 : AV} {K : AV → Heap → Prop} (h1 : oneA v1 = true) (h2 : oneA v2 = true) (h3 : oneA v3 = true) (h : o + 3 ≤ l.length) : stoK 3 b o (some l) (some [v1, v2, v3]) H K = K .junk (H.upd b (.cells (setAt l o [v1, v2, v3]) true)) := stoK_n rfl (by simp [h1, h2, h3]) h
@[go_sem] theorem stoK_4 {v1 v2 v3 v4 : AV} {K : AV → Heap → Prop} (h1 : oneA v1 = true) (h2 : oneA v2 = true) (h3 : oneA v3 = true) (h4 : oneA v4 = true) (h : o + 4 ≤ l.length) : stoK 4 b o (some l) (some [v1, v2, v3, v4]) H K = K .junk (H.upd b (.cells (setAt l o [v1, v2, v3, v4]) true)) := stoK_n rfl (by simp [h1, h2, h3, h4]) h
@[go_sem] theorem stoK_5 {v1 v2 v3 v4 v5 : AV} {K : AV → Heap → Prop} (h1 : oneA v1 = true) (h2 : oneA v2 = true) (h3 : oneA v3 = true) (h4 : oneA v4 = true) (h5 : oneA v5 = true) (h : o + 5 ≤ l.length) : stoK 5 b o (some l) (some [v1, v2, v3, v4, v5]) H K = K .junk (H.upd b (.cells (setAt l o [v1, v2, v3, v4, v5]) true)) := stoK_n rfl (by simp [h1, h2, h3, h4, h5]) h
@[go_sem] theorem stoK_6 {v1 v2 v3 v4 v5 v6 : AV} {K : AV → Heap → Prop} (h1 : oneA v1 = true) (h2 : oneA v2 = true) (h3 : oneA v3 = true) (h4 : oneA v4 = true) (h5 : oneA v5 = true) (h6 : oneA v6 = true) (h : o + 6 ≤ l.length) : stoK 6 b o (some l) (some [v1, v2, v3, v4, v5, v6]) H K = K .junk (H.upd b (.cells (setAt l o [v1, v2, v3, v4, v5, v6]) true)) := stoK_n rfl (by simp [h1, h2, h3, h4, h5, h6]) h
@[go_sem] theorem boxP_agg {K : AV → Heap → Prop} : boxP (.agg l) H K = K (.ptr (some (H.size, 0))) (H.alloc l) := idE rfl
def consO (x : Option AV) (l : Option (List AV)) : Option (List AV) := match x, l with
  | some x, some l => some (x :: l)
  | _, _ => none
@[go_sem] theorem consO_go {x : AV} : consO (some x) (some l) = some (x :: l) := idE rfl
@[go_sem] theorem loadN_0 : loadN H b o 0 = some [] := idE rfl
@[go_sem] theorem loadN_1 : loadN H b o 1 = consO (H.get b o) (loadN H b (o + 1) 0) := idE rfl
@[go_sem] theorem loadN_2 : loadN H b o 2 = consO (H.get b o) (loadN H b (o + 1) 1) := idE rfl
@[go_sem] theorem loadN_3 : loadN H b o 3 = consO (H.get b o) (loadN H b (o + 1) 2) := idE rfl
@[go_sem] theorem loadN_4 : loadN H b o 4 = consO (H.get b o) (loadN H b (o + 1) 3) := idE rfl
@[go_sem] theorem loadN_5 : loadN H b o 5 = consO (H.get b o) (loadN H b (o + 1) 4) := idE rfl
@[go_sem] theorem loadN_6 : loadN H b o 6 = consO (H.get b o) (loadN H b (o + 1) 5) := idE rfl
@[go_sem] theorem loadN_7 : loadN H b o 7 = consO (H.get b o) (loadN H b (o + 1) 6) := idE rfl
attribute [go_sem] List.getElem?_cons_zero List.getElem?_cons_succ
@[go_sem] theorem nth_1 {x y : AV} : (x :: y :: l)[1]? = some y := rfl
@[go_sem] theorem nth_2 {x y z : AV} : (x :: y :: z :: l)[2]? = some z := rfl
@[go_sem] theorem nth_3 {x y z u : AV} : (x :: y :: z :: u :: l)[3]? = some u := rfl
@[go_sem] theorem nth_4 {x y z u v : AV} : (x :: y :: z :: u :: v :: l)[4]? = some v := rfl
@[go_sem] theorem nth_5 {x y z u v w : AV} : (x :: y :: z :: u :: v :: w :: l)[5]? = some w := rfl
@[go_sem] theorem set_1 {x y v : AV} : (x :: y :: l).set 1 v = x :: v :: l := rfl
@[go_sem] theorem set_2 {x y z v : AV} : (x :: y :: z :: l).set 2 v = x :: y :: v :: l := rfl
@[go_sem] theorem set_3 {x y z u v : AV} : (x :: y :: z :: u :: l).set 3 v = x :: y :: z :: v :: l := rfl
@[go_sem] theorem set_4 {x y z u w v : AV} : (x :: y :: z :: u :: w :: l).set 4 v = x :: y :: z :: u :: v :: l := rfl
@[go_sem] theorem set_5 {x y z u w t v : AV} : (x :: y :: z :: u :: w :: t :: l).set 5 v = x :: y :: z :: u :: w :: v :: l := rfl
end
def base (H : Heap) : AV → Heap
  | .sl (some (b, _)) _ _ _ _ => H.kill b
  | _ => H
structure Own (sz : Nat) (H : Heap) (v : AV) (l : List AV) : Prop where
  ex : ∃ A n ex k, v = .sl A n n ex k ∧ l.length = n * sz ∧ (A = none → n = 0 ∧ ex = true) ∧ ∀ b o, A = some (b, o) → k = sz ∧ o = 0 ∧ b < H.size ∧ H.blk b = .cells l true
theorem Own.nil {sz : Nat} {H : Heap} {k : Nat} : Own sz H (.sl none 0 0 true k) [] := ⟨none, 0, true, k, rfl, by simp, fun _ => ⟨rfl, rfl⟩, fun _ _ h => nomatch h⟩
theorem Own.new {sz n : Nat} {H : Heap} {l : List AV} {ex : Bool} (h : l.length = n * sz) : Own sz (H.alloc l) (.sl (some (H.size, 0)) n n ex sz) l :=
  ⟨some (H.size, 0), n, ex, sz, rfl, h, fun h => (nomatch h), fun b o e => by cases e; exact ⟨rfl, rfl, Nat.lt_succ_self _, alloc_new H l⟩⟩
theorem Own.len {sz n c k : Nat} {A : AA} {ex : Bool} {H : Heap} {l : List AV} (h : Own sz H (.sl A n c ex k) l) : c = n ∧ l.length = n * sz := by
  obtain ⟨A', n', ex', k', e, h1, _⟩ := h
  cases e; exact ⟨rfl, h1⟩
theorem Own.le {sz : Nat} {H H' : Heap} {v : AV} {l : List AV} (h : Own sz H v l) (hl : Le H H') : Own sz H' v l := by
  obtain ⟨A, n, ex, k, rfl, h1, h2, h3⟩ := h
  refine ⟨A, n, ex, k, rfl, h1, h2, fun b o e => ?_⟩
  obtain ⟨q1, q2, q3, q4⟩ := h3 b o e
  exact ⟨q1, q2, Nat.lt_of_lt_of_le q3 hl.1, hl.cells q3 q4⟩
theorem Own.rd {sz n c k : Nat} {A : AA} {ex : Bool} {H : Heap} {l : List AV} (h : Own sz H (.sl A n c ex k) l) : Rd H A.b A.o l := by
  obtain ⟨A', n', ex', k', e, h1, h2, h3⟩ := h
  cases e
  cases A with
  | none =>
    have := (h2 rfl).1
    subst this
    have : l = [] := List.eq_nil_of_length_eq_zero (by simpa using h1)
    subst this; exact Rd.nil _ _ _
  | some p =>
    obtain ⟨b, o⟩ := p
    obtain ⟨_, rfl, q3, q4⟩ := h3 b o rfl
    exact Rd.blk q3 q4
def Heap.later (H : Heap) (n : Nat) : Heap := ⟨H.size, fun b => if b < n then .dead else H.blk b⟩
theorem later_blk {H : Heap} {n b : Nat} (h : n ≤ b) : (H.later n).blk b = H.blk b := by simp only [Heap.later]; rw [if_neg (by omega)]
theorem Le.rwCells {H H' : Heap} (h : Le H H') {b : Nat} {c : List AV} (hc : H.rwCells b = some c) : H'.rwCells b = some c := by
  obtain ⟨h1, h2⟩ := Heap.rwCells_blk hc
  exact rwCells_of (Nat.lt_of_lt_of_le h1 h.1) (h.cells h1 h2)
def newer (n : Nat) : AV → Prop
  | .sl (some (b, _)) _ _ _ _ => n ≤ b
  | _ => True
theorem newer.mono {n m : Nat} (h : m ≤ n) {v : AV} (hv : newer n v) : newer m v := by
  unfold newer at hv ⊢
  split at hv
  · exact Nat.le_trans h hv
  · trivial
theorem Own.later {sz n : Nat} {H : Heap} {v : AV} {l : List AV} (h : Own sz H v l) (hv : newer n v) : Own sz (H.later n) v l := by
  obtain ⟨A, m, ex, k, rfl, h1, h2, h3⟩ := h
  refine ⟨A, m, ex, k, rfl, h1, h2, fun b o e => ?_⟩
  subst e
  obtain ⟨q1, q2, q3, q4⟩ := h3 b o rfl
  exact ⟨q1, q2, q3, by rw [later_blk hv]; exact q4⟩
def ctr (n : Nat) : AV → Nat
  | .int _ i => n - i.toNat
  | _ => 0
def IsS {α : Type} (sz : Nat) (E : Heap → α → List AV → Prop) (H : Heap) (v : AV) (xs : List α) : Prop :=
  ∃ A c ex k, v = .sl A xs.length c ex k ∧ ∀ i (h : i < xs.length), ∃ cs, cs.length = sz ∧ Rd H A.b (A.o + i * sz) cs ∧ E H xs[i] cs
def EI (H : Heap) (n : Int) (l : List AV) : Prop := l = [.int .i64 n]
def ES {α : Type} (sz : Nat) (E : Heap → α → List AV → Prop) (H : Heap) (xs : List α) (l : List AV) : Prop := ∃ v, l = [v] ∧ IsS sz E H v xs
abbrev IsI : Heap → AV → List Int → Prop := IsS 1 EI
abbrev EII := ES 1 EI
abbrev IsII : Heap → AV → List (List Int) → Prop := IsS 1 EII
def Mono {α : Type} (E : Heap → α → List AV → Prop) : Prop := ∀ H H' x l, Le H H' → E H x l → E H' x l
theorem mono_I : Mono EI := fun _ _ _ _ _ h => h
theorem IsS.le {α : Type} {sz : Nat} {E : Heap → α → List AV → Prop} (hm : Mono E) {H H' : Heap} (h : Le H H') {v : AV} {xs : List α} (hv : IsS sz E H v xs) : IsS sz E H' v xs := by
  obtain ⟨A, c, ex, k, rfl, hr⟩ := hv
  refine ⟨A, c, ex, k, rfl, fun i hi => ?_⟩
  obtain ⟨cs, h1, h2, h3⟩ := hr i hi
  exact ⟨cs, h1, h2.le h, hm _ _ _ _ h h3⟩
theorem mono_S {α : Type} {sz : Nat} {E : Heap → α → List AV → Prop} (hm : Mono E) : Mono (ES sz E) := fun H H' x l h ⟨v, h1, h2⟩ => ⟨v, h1, h2.le hm h⟩
theorem mono_II : Mono EII := mono_S mono_I
theorem IsI.le {H H' : Heap} (h : Le H H') {v : AV} {xs : List Int} (hv : IsI H v xs) : IsI H' v xs := IsS.le mono_I h hv
theorem IsII.le {H H' : Heap} (h : Le H H') {v : AV} {xs : List (List Int)} (hv : IsII H v xs) : IsII H' v xs := IsS.le mono_II h hv
theorem IsI.parts {H : Heap} {v : AV} {xs : List Int} (h : IsI H v xs) : ∃ A c ex k, v = .sl A xs.length c ex k ∧ ∀ i (h : i < xs.length), H.get A.b (A.o + i * 1) = some (.int .i64 xs[i]) := by
  obtain ⟨A, c, ex, k, rfl, hr⟩ := h
  refine ⟨A, c, ex, k, rfl, fun i hi => ?_⟩
  obtain ⟨cs, h1, h2, h3⟩ := hr i hi
  simp only [EI] at h3
  subst h3
  exact h2 0 _ rfl
theorem IsII.parts {H : Heap} {v : AV} {xs : List (List Int)} (h : IsII H v xs) : ∃ A c ex k, v = .sl A xs.length c ex k ∧ ∀ i (h : i < xs.length), ∃ u, H.get A.b (A.o + i * 1) = some u ∧ IsI H u xs[i] := by
  obtain ⟨A, c, ex, k, rfl, hr⟩ := h
  refine ⟨A, c, ex, k, rfl, fun i hi => ?_⟩
  obtain ⟨cs, h1, h2, u, rfl, h4⟩ := hr i hi
  exact ⟨u, h2 0 _ rfl, h4⟩
theorem IsI.rd {H : Heap} {A : AA} {n c k : Nat} {ex : Bool} {xs : List Int} (h : IsI H (.sl A n c ex k) xs) : n = xs.length ∧ Rd H A.b A.o (xs.map (AV.int .i64)) := by
  obtain ⟨A', c', ex', k', e, hr⟩ := h.parts
  cases e
  refine ⟨rfl, fun i x hi => ?_⟩
  simp only [List.getElem?_map, Option.map_eq_some_iff] at hi
  obtain ⟨y, hy, rfl⟩ := hi
  obtain ⟨h1, h2⟩ := List.getElem?_eq_some_iff.1 hy
  have := hr i h1
  rw [Nat.mul_one] at this
  rw [this, h2]
theorem Own.isI {H : Heap} {v : AV} {xs : List Int} (h : Own 1 H v (xs.map (AV.int .i64))) : IsI H v xs := by
  obtain ⟨A, n, ex, k, rfl, h1, h2, h3⟩ := h
  have hr := Own.rd (⟨⟨A, n, ex, k, rfl, h1, h2, h3⟩⟩ : Own 1 H (.sl A n n ex k) (xs.map (AV.int .i64)))
  have hn : n = xs.length := by simpa using h1.symm
  subst hn
  refine ⟨A, _, ex, k, rfl, fun i hi => ⟨[.int .i64 xs[i]], rfl, ?_, rfl⟩⟩
  intro j x hj
  cases j with
  | zero =>
    simp only [List.getElem?_cons_zero, Option.some.injEq] at hj
    subst hj
    have := hr i (.int .i64 xs[i]) (by simp [hi])
    simpa using this
  | succ j => simp at hj
end Go.M2

namespace Go.M2
open Go.RowKit
def avC (N : Nat) : Value → AV
  | .bool b => .bool b
  | .int k n => .int k n
  | .string s => .str s
  | .slice (some a) len cap => if a.block < N ∧ a.spot = none ∧ len ≤ cap then .sl (some (a.block, a.off)) len cap true 0 else if len = 0 ∧ cap = 0 then .emp else .junk
  | .slice none 0 0 => .sl none 0 0 true 0
  | _ => .junk
def rho0 : Nat → BI := fun b => ⟨b, 0, 0, false⟩
theorem avC_VR (N : Nat) (v : Value) : VR N rho0 (avC N v) v := by
  unfold avC
  split
  · exact .bool _
  · exact .int _ _
  · exact .str _
  · rename_i a len cap
    split
    · rename_i h
      obtain ⟨h1, h2, h3⟩ := h
      have := VR.sl (N := N) (ρ := rho0) a.block a.off len cap true 0 cap h1 h3 (Nat.le_refl _) (fun _ => rfl) (fun h => by cases h)
      have e : rA rho0 (some (a.block, a.off)) = some a := by
        cases a with
        | mk b o s => simp only at h2; subst h2; simp [rA, rho0]
      rw [e] at this; exact this
    · split
      · rename_i h; obtain ⟨rfl, rfl⟩ := h; exact .emp _
      · exact .junk _
  · exact .slN 0
  · exact .junk _
def avT (N : Nat) : Value → AV
  | .agg a => .agg (a.toList.map (avC N))
  | v => avC N v
theorem avT_VR (N : Nat) (v : Value) : VR N rho0 (avT N v) v := by
  unfold avT
  split
  · refine .agg _ _ (by simp) fun i x v hx hv => ?_
    simp only [List.getElem?_map, Option.map_eq_some_iff] at hx
    obtain ⟨u, hu, rfl⟩ := hx
    simp only [Array.getElem?_toList] at hu
    rw [hu] at hv; cases hv
    exact avC_VR N _
  · exact avC_VR N _
def heap0 (W : World) : Heap := ⟨W.heap.size, fun b => match W.heap[b]? with
  | some (.cells c _ _) => .cells (c.toList.map (avC W.heap.size)) false
  | _ => .dead⟩
theorem heap0_cells {W : World} {b : Nat} {c : List AV} {r : Bool} (h : (heap0 W).blk b = .cells c r) : r = false ∧ ∃ d t f, W.heap[b]? = some (.cells d t f) ∧ c = d.toList.map (avC W.heap.size) := by
  simp only [heap0] at h
  split at h
  · rename_i d t f e; cases h; exact ⟨rfl, d, t, f, e, rfl⟩
  · cases h
theorem heap0_HI (W : World) (hT : TabOk W) : HI W rho0 (heap0 W) W where
  tab := hT
  below := Below.refl _ _
  bound b hb := hb
  ro b c hb h := hb
  rw b c r hb h := by obtain ⟨rfl, _⟩ := heap0_cells h; rfl
  cell b c r hb h j x hx := by
    obtain ⟨_, d, t, f, e, rfl⟩ := heap0_cells h
    simp only [List.getElem?_map, Option.map_eq_some_iff] at hx
    obtain ⟨v, hv, rfl⟩ := hx
    simp only [Array.getElem?_toList] at hv
    exact ⟨v, by simp [World.cell?, rho0, e, hv], avC_VR _ _⟩
  own b c hb h := by obtain ⟨h1, _⟩ := heap0_cells h; cases h1
  map b es hb h := by
    simp only [heap0] at h
    split at h <;> cases h
  inj b b' hb hb' hne hrw := by
    exfalso
    unfold Heap.isRw at hrw
    rw [if_pos hb] at hrw
    split at hrw
    · rename_i c rw e; obtain ⟨rfl, _⟩ := heap0_cells e; cases hrw
    · rename_i es e
      simp only [heap0] at e
      split at e <;> cases e
    · cases hrw
theorem heap0_get {W : World} {b o : Nat} {v : Value} (h : W.cell? ⟨b, o, none⟩ = some v) : (heap0 W).get b o = some (avC W.heap.size v) := by
  simp only [World.cell?] at h
  split at h
  · rename_i c t f e
    simp only [Option.isSome_none, Bool.false_eq_true, if_false] at h
    have hb : b < W.heap.size := (Array.getElem?_eq_some_iff.1 e).1
    simp only [Heap.get, Heap.cellsAt, heap0, if_pos hb, e, Option.bind_some, List.getElem?_map, Array.getElem?_toList, h, Option.map_some]
  · cases h
theorem calls_of_acall {P : Program} {f : FuncId} {vs : List Value} {W : World} (h : ACall P f (vs.map (avT W.heap.size)) (heap0 W) (fun r _ => r = .bool true)) (hT : TabOk W := by exact trivial) :
    Calls P f vs.toArray W (fun e w' => e = .returned (.bool true) ∧ Below W.heap.size W w') := by
  refine (h.2 W rho0 W vs (heap0_HI W hT) ⟨by simp, fun i x v hx hv => ?_⟩).mono ?_
  · simp only [List.getElem?_map, Option.map_eq_some_iff] at hx
    obtain ⟨u, hu, rfl⟩ := hx
    rw [hu] at hv; cases hv
    exact avT_VR _ _
  · rintro e w' ⟨r, H', ρ', v, rfl, hv, _, hi, rfl⟩
    cases hv
    exact ⟨rfl, hi.below⟩
def InS {α : Type} (sz : Nat) (E : Heap → α → List AV → Prop) (H : Heap) (v : AV) (xs : List α) : Prop := IsS sz E H v xs ∨ (v = .emp ∧ xs = [])
theorem InS.le {α : Type} {sz : Nat} {E : Heap → α → List AV → Prop} (hm : Mono E) {H H' : Heap} (h : Le H H') {v : AV} {xs : List α} (hv : InS sz E H v xs) : InS sz E H' v xs :=
  hv.imp (fun h1 => h1.le hm h) id
theorem InS.len {α : Type} {sz : Nat} {E : Heap → α → List AV → Prop} {H : Heap} {v : AV} {xs : List α} (h : InS sz E H v xs) : lenF v = some (.int .i64 (xs.length : Int)) := by
  rcases h with ⟨A, c, ex, k, rfl, _⟩ | ⟨rfl, rfl⟩
  · rfl
  · rfl
theorem InS.get {α : Type} {E : Heap → α → List AV → Prop} {H : Heap} {v : AV} {xs : List α} (h : InS 1 E H v xs) {i : Nat} (hi : i < xs.length) :
    ∃ A c ex k u, v = .sl A xs.length c ex k ∧ H.get A.b (A.o + i) = some u ∧ E H xs[i] [u] := by
  rcases h with ⟨A, c, ex, k, rfl, hr⟩ | ⟨rfl, rfl⟩
  · obtain ⟨cs, h1, h2, h3⟩ := hr i hi
    match cs, h1 with
    | [u], _ => exact ⟨A, c, ex, k, u, rfl, by have := h2 0 u rfl; simpa using this, h3⟩
  · simp at hi
section
variable {HH : Type} {enc : TypeId × Value → HH} {P : Program} {W : World} {t e : TypeId} {fuel : Nat} {cs : List Value} {x : DataW HH × List MemPlace}
theorem in_int (ht : P.underlying t = some (.int .i64)) (h : DataW.trod enc P W 0 (fun _ => true) true fuel t cs = some x) :
    ∃ n : Int, cs = [.int .i64 n] ∧ -9223372036854775808 ≤ n ∧ n ≤ 9223372036854775807 := by
  obtain ⟨n, h1, _, h3⟩ := DataW.trod_int ht h
  refine ⟨n, h1, ?_⟩
  have h4 : IntKind.i64.min ≤ n ∧ n ≤ IntKind.i64.max := by simpa [Lit.wf] using h3
  have e1 : IntKind.i64.min = -9223372036854775808 := by decide
  have e2 : IntKind.i64.max = 9223372036854775807 := by decide
  omega
theorem list_of {α : Type} {p : Nat → α → Prop} : ∀ (n : Nat), (∀ i, i < n → ∃ y, p i y) → ∃ xs : List α, xs.length = n ∧ ∀ i y, xs[i]? = some y → p i y
  | 0, _ => ⟨[], rfl, fun i y h => by simp at h⟩
  | n + 1, h => by
    obtain ⟨xs, h1, h2⟩ := list_of n (fun i hi => h i (by omega))
    obtain ⟨y, hy⟩ := h n (by omega)
    refine ⟨xs ++ [y], by simp [h1], fun i z hz => ?_⟩
    by_cases hi : i < xs.length
    · rw [List.getElem?_append_left hi] at hz; exact h2 i z hz
    · rw [List.getElem?_append_right (by omega)] at hz
      have : i = n := by
        have := (List.getElem?_eq_some_iff.1 hz).1
        simp at this; omega
      subst this
      rw [h1] at hz
      simp at hz; subst hz; exact hy
theorem in_slice {α : Type} {E : Heap → α → List AV → Prop} {good : α → Prop} {sz : Nat} (ht : P.underlying t = some (.slice e)) (hsz : P.cellsOf e = sz) (h0 : 0 < sz)
    (he : ∀ n cs x, DataW.trod enc P W 0 (fun _ => true) true n e cs = some x → ∃ a, E (heap0 W) a (cs.map (avC W.heap.size)) ∧ good a)
    (h : DataW.trod enc P W 0 (fun _ => true) true fuel t cs = some x) :
    ∃ v xs, cs = [v] ∧ InS sz E (heap0 W) (avC W.heap.size v) xs ∧ (∀ a ∈ xs, good a) ∧ xs.length ≤ 9223372036854775807 := by
  subst hsz
  rcases DataW.trod_slice ht h with ⟨h1, _⟩ | ⟨a, len, cap, elems, rest, n, _, rfl, _, _, hl, hm, hlen, hel, hsp, _⟩
  · exact ⟨_, [], h1, .inl ⟨none, 0, true, 0, rfl, fun i hi => by simp at hi⟩, fun a ha => by simp at ha, by simp⟩
  · obtain ⟨hr1, hr2⟩ := hsp rfl
    -- each element
    have each : ∀ i, i < len → ∃ cs', W.cells? 0 (a.add (i * P.cellsOf e)) (P.cellsOf e) = some cs' ∧ ∃ y, E (heap0 W) y (cs'.map (avC W.heap.size)) ∧ good y := by
      intro i hi
      have h2 := hel i hi
      rw [List.getElem?_eq_getElem (by omega), Option.bind_eq_some_iff] at h2
      obtain ⟨cs', h3, h4⟩ := h2
      exact ⟨cs', h3, he _ _ _ h4⟩
    have addr : 0 < cap → a.block < W.heap.size ∧ a.spot = none := by
      intro hc
      have key : ∃ cs', W.cells? 0 a (P.cellsOf e) = some cs' := by
        by_cases hl0 : 0 < len
        · obtain ⟨cs', h3, _⟩ := each 0 hl0
          exact ⟨cs', by simpa [Addr.add] using h3⟩
        · have h2 := hr2 0 (by omega)
          rw [List.getElem?_eq_getElem (by omega), Option.bind_eq_some_iff] at h2
          obtain ⟨cs', h3, _⟩ := h2
          have : len = 0 := by omega
          subst this
          exact ⟨cs', by simpa [Addr.add] using h3⟩
      obtain ⟨cs', h3⟩ := key
      obtain ⟨_, h4, h5⟩ := World.cells?_some h3
      have h6 := h5 0 h0
      have h7 : ∃ c0, cs'[0]? = some c0 := ⟨cs'[0]'(by omega), List.getElem?_eq_getElem _⟩
      obtain ⟨c0, h7⟩ := h7
      rw [h7] at h6
      simp only [Addr.add, if_true, World.cell?] at h6
      split at h6
      · rename_i c t f e
        refine ⟨(Array.getElem?_eq_some_iff.1 e).1, ?_⟩
        cases hs : a.spot with
        | none => rfl
        | some q => rw [hs] at h6; simp at h6
      · cases h6
    by_cases hin : a.block < W.heap.size ∧ a.spot = none
    · obtain ⟨ha1, ha2⟩ := hin
      obtain ⟨b, o, s⟩ := a
      simp only at ha1 ha2
      subst ha2
      have hall : ∀ i, i < len → ∃ y : α, (∃ cs' : List Value, cs'.length = P.cellsOf e ∧ Rd (heap0 W) b (o + i * P.cellsOf e) (cs'.map (avC W.heap.size)) ∧ E (heap0 W) y (cs'.map (avC W.heap.size))) ∧ good y := by
        intro i hi
        obtain ⟨cs', h3, y, h4, h5⟩ := each i hi
        obtain ⟨_, h6, h7⟩ := World.cells?_some h3
        refine ⟨y, ⟨cs', h6, fun j z hz => ?_, h4⟩, h5⟩
        simp only [List.getElem?_map, Option.map_eq_some_iff] at hz
        obtain ⟨v, hv, rfl⟩ := hz
        have hj : j < P.cellsOf e := by rw [← h6]; exact (List.getElem?_eq_some_iff.1 hv).1
        have h8 := h7 j hj
        rw [hv, add_plain, add_plain] at h8
        exact heap0_get h8
      obtain ⟨xs, hxl, hxs⟩ := list_of len hall
      subst hxl
      refine ⟨_, xs, rfl, .inl ?_, ?_, by unfold maxLen at hm; omega⟩
      · refine ⟨some (b, o), cap, true, 0, ?_, fun i hi => ?_⟩
        · simp only [avC]; rw [if_pos ⟨ha1, trivial, hl⟩]
        · obtain ⟨⟨cs', h3, h4, h5⟩, _⟩ := hxs i xs[i] (List.getElem?_eq_getElem hi)
          exact ⟨_, by simpa using h3, h4, h5⟩
      · intro y hy
        obtain ⟨i, hi⟩ := List.getElem?_of_mem hy
        exact (hxs i y hi).2
    · have hc0 : cap = 0 := by
        rcases Nat.eq_zero_or_pos cap with h | h
        · exact h
        · exact absurd (addr h) hin
      have hl0 : len = 0 := by omega
      subst hc0 hl0
      refine ⟨_, [], rfl, .inr ⟨?_, rfl⟩, fun a ha => by simp at ha, by simp⟩
      simp only [avC]
      rw [if_neg (fun h => hin ⟨h.1, h.2.1⟩)]
      simp
end
end Go.M2

namespace Go.M2
inductive V where
  | sc (a : AV)
  | fs (A : AA) (len cap : Nat) (ex : Bool) (k : Nat) (xs : List V)
  | pf (b o : Nat) (cs : List V)
  | fn (f : Nat) (caps : List V)
  | agg (l : List V)
  | tup (l : List V)
instance : Inhabited V := ⟨.sc .junk⟩
mutual
def er : V → AV
  | .sc a => a
  | .fs A n c ex k _ => .sl A n c ex k
  | .pf b o _ => .ptr (some (b, o))
  | .fn f l => .fn f (erl l)
  | .agg l => .agg (erl l)
  | .tup l => .tup (erl l)
def erl : List V → List AV
  | [] => []
  | v :: t => er v :: erl t
end
theorem erl_map : ∀ l : List V, erl l = l.map er
  | [] => by simp [erl]
  | v :: t => by simp [erl, erl_map t]
theorem erl_length (l : List V) : (erl l).length = l.length := by rw [erl_map]; simp
theorem erl_append (a b : List V) : erl (a ++ b) = erl a ++ erl b := by simp [erl_map]
theorem erl_sc (l : List AV) : erl (l.map .sc) = l := by
  rw [erl_map, List.map_map]
  conv => rhs; rw [← List.map_id l]
  exact List.map_congr_left fun a _ => by simp [er]
theorem erl_get (l : List V) (i : Nat) : (erl l)[i]? = (l[i]?).map er := by rw [erl_map]; simp
theorem erl_drop (l : List V) (i : Nat) : erl (l.drop i) = (erl l).drop i := by simp [erl_map]
theorem erl_take (l : List V) (i : Nat) : erl (l.take i) = (erl l).take i := by simp [erl_map]
mutual
def okV (F : Heap) : V → Prop
  | .sc _ => True
  | .fs A _ _ _ _ xs => Rd F A.b A.o (erl xs) ∧ okL F xs
  | .pf b o cs => Rd F b o (erl cs) ∧ okL F cs
  | .fn _ l => okL F l
  | .agg l => okL F l
  | .tup l => okL F l
def okL (F : Heap) : List V → Prop
  | [] => True
  | v :: t => okV F v ∧ okL F t
end
theorem okL_all {F : Heap} : ∀ {l : List V}, okL F l ↔ ∀ v ∈ l, okV F v
  | [] => by simp [okL]
  | v :: t => by simp [okL, okL_all (l := t)]
mutual
theorem okV.mono {F F' : Heap} (h : Le F F') : ∀ {v : V}, okV F v → okV F' v
  | .sc _, _ => by simp [okV]
  | .fs A _ _ _ _ xs, hv => by simp only [okV] at hv ⊢; exact ⟨hv.1.le h, okL.mono h hv.2⟩
  | .pf b o cs, hv => by simp only [okV] at hv ⊢; exact ⟨hv.1.le h, okL.mono h hv.2⟩
  | .fn _ l, hv => by simp only [okV] at hv ⊢; exact okL.mono h hv
  | .agg l, hv => by simp only [okV] at hv ⊢; exact okL.mono h hv
  | .tup l, hv => by simp only [okV] at hv ⊢; exact okL.mono h hv
theorem okL.mono {F F' : Heap} (h : Le F F') : ∀ {l : List V}, okL F l → okL F' l
  | [], _ => by simp [okL]
  | v :: t, hv => by simp only [okL] at hv ⊢; exact ⟨okV.mono h hv.1, okL.mono h hv.2⟩
end
theorem okL.sub {F : Heap} {l l' : List V} (h : okL F l) (hs : ∀ v ∈ l', v ∈ l) : okL F l' := okL_all.2 fun v hv => okL_all.1 h v (hs v hv)
theorem okL.take {F : Heap} {l : List V} (h : okL F l) (n : Nat) : okL F (l.take n) := h.sub fun v hv => List.mem_of_mem_take hv
theorem okL.drop {F : Heap} {l : List V} (h : okL F l) (n : Nat) : okL F (l.drop n) := h.sub fun v hv => List.mem_of_mem_drop hv
theorem okL.append {F : Heap} {l l' : List V} (h : okL F l) (h' : okL F l') : okL F (l ++ l') := okL_all.2 fun v hv => by
  rcases List.mem_append.1 hv with h1 | h1
  · exact okL_all.1 h v h1
  · exact okL_all.1 h' v h1
theorem okL.get {F : Heap} {l : List V} (h : okL F l) {i : Nat} {v : V} (hv : l[i]? = .some v) : okV F v := okL_all.1 h v (List.mem_of_getElem? hv)
theorem okL.sc {F : Heap} (l : List AV) : okL F (l.map .sc) := okL_all.2 fun v hv => by
  obtain ⟨a, _, rfl⟩ := List.mem_map.1 hv
  simp [okV]
theorem okL.set {F : Heap} {l : List V} (h : okL F l) {v : V} (hv : okV F v) (i : Nat) : okL F (l.set i v) := okL_all.2 fun u hu => by
  rcases List.mem_or_eq_of_mem_set hu with h1 | h1
  · exact okL_all.1 h u h1
  · exact h1 ▸ hv
-- Values that read nothing frozen.
mutual
def flat : V → Prop
  | .sc _ => True
  | .fs .. => False
  | .pf .. => False
  | .fn _ l => flatL l
  | .agg l => flatL l
  | .tup l => flatL l
def flatL : List V → Prop
  | [] => True
  | v :: t => flat v ∧ flatL t
end
mutual
theorem flat.ok {F : Heap} : ∀ {v : V}, flat v → okV F v
  | .sc _, _ => by simp [okV]
  | .fs .., h => by simp [flat] at h
  | .pf .., h => by simp [flat] at h
  | .fn _ l, h => by simp only [flat] at h; simp only [okV]; exact flatL.ok h
  | .agg l, h => by simp only [flat] at h; simp only [okV]; exact flatL.ok h
  | .tup l, h => by simp only [flat] at h; simp only [okV]; exact flatL.ok h
theorem flatL.ok {F : Heap} : ∀ {l : List V}, flatL l → okL F l
  | [], _ => by simp [okL]
  | v :: t, h => by simp only [flatL] at h; simp only [okL]; exact ⟨flat.ok h.1, flatL.ok h.2⟩
end
theorem flatL_all : ∀ {l : List V}, flatL l ↔ ∀ v ∈ l, flat v
  | [] => by simp [flatL]
  | v :: t => by simp [flatL, flatL_all (l := t)]
inductive Cell where
  | cells (l : List V)
  | map (es : List (AV × AV))
instance : Coe (List V) Cell := ⟨.cells⟩
abbrev MH := Nat → Option Cell
def cells? : Option Cell → Option (List V)
  | some (.cells l) => some l
  | _ => none
@[go_sem] theorem cells?_some {l : List V} : cells? (some (.cells l)) = .some l := rfl
@[go_sem] theorem cells?_none : cells? none = none := rfl
theorem cells?_iff {c : Option Cell} {l : List V} (h : cells? c = .some l) : c = .some (.cells l) := by
  unfold cells? at h
  split at h
  · cases h; rfl
  · cases h
def MH.set (M : MH) (b : Nat) (l : List V) : MH := fun i => if i = b then some (.cells l) else M i
def MH.put (M : MH) (b : Nat) (es : List (AV × AV)) : MH := fun i => if i = b then some (.map es) else M i
def MH.del (M : MH) (b : Nat) : MH := fun i => if i = b then none else M i
def Sub (M M' : MH) : Prop := ∀ b l, M b = .some l → M' b = .some l
theorem Sub.refl (M : MH) : Sub M M := fun _ _ h => h
theorem Sub.trans {a b c : MH} (h : Sub a b) (k : Sub b c) : Sub a c := fun i l hi => k i l (h i l hi)
theorem Sub.put {M M' : MH} (h : Sub M M') {b : Nat} {es : List (AV × AV)} (hb : M b = none) : Sub M (M'.put b es) := fun i l' hi => by
  unfold MH.put
  split
  · rename_i e; subst e; rw [hb] at hi; cases hi
  · exact h i l' hi
theorem Sub.set {M M' : MH} (h : Sub M M') {b : Nat} {l : List V} (hb : M b = none) : Sub M (M'.set b l) := fun i l' hi => by
  unfold MH.set
  split
  · rename_i e; subst e; rw [hb] at hi; cases hi
  · exact h i l' hi
theorem Sub.del {M M' : MH} (h : Sub M M') {b : Nat} (hb : M b = none) : Sub M (M'.del b) := fun i l' hi => by
  unfold MH.del
  split
  · rename_i e; subst e; rw [hb] at hi; cases hi
  · exact h i l' hi
theorem Sub.none {M M' : MH} (h : Sub M M') {b : Nat} (hb : M' b = none) : M b = none := by
  cases e : M b with
  | none => rfl
  | some l => rw [h b l e] at hb; cases hb
theorem Sub.set' {M M' : MH} (h : Sub M M') {b : Nat} {l : List V} (hb : M' b = Option.none) : Sub M (M'.set b l) := h.set (h.none hb)
structure SM (M : MH) (H F : Heap) : Prop where
  size : F.size = H.size
  le : ∀ b, b < H.size → F.blk b = .dead ∨ F.blk b = H.blk b
  own : ∀ (b : Nat) (l : List V), M b = .some l → b < H.size ∧ H.blk b = .cells (erl l) true ∧ F.blk b = .dead ∧ okL F l
  map : ∀ b es, M b = .some (.map es) → b < H.size ∧ H.blk b = .map es ∧ F.blk b = .dead
theorem SM.all {M : MH} {H F : Heap} (h : SM M H F) {b : Nat} {c : Cell} (hb : M b = .some c) : b < H.size ∧ F.blk b = .dead := by
  cases c with
  | cells l => exact ⟨(h.own b l hb).1, (h.own b l hb).2.2.1⟩
  | map es => exact ⟨(h.map b es hb).1, (h.map b es hb).2.2⟩
theorem SM.leH {M : MH} {H F : Heap} (h : SM M H F) : Le F H := ⟨Nat.le_of_eq h.size, fun b hb => by
  rcases h.le b (h.size ▸ hb) with h1 | h1
  · exact .inl h1
  · exact .inr h1.symm⟩
theorem SM.fresh {M : MH} {H F : Heap} (h : SM M H F) : M H.size = none := by
  cases e : M H.size with
  | none => rfl
  | some l => have := (h.all e).1; omega
theorem SM.rw {M : MH} {H F : Heap} (h : SM M H F) {b : Nat} {l : List V} (hb : M b = .some l) : H.rwCells b = .some (erl l) := rwCells_of (h.own b l hb).1 (h.own b l hb).2.1
theorem SM.rd {M : MH} {H F : Heap} (h : SM M H F) {b : Nat} {l : List V} (hb : M b = .some l) : Rd H b 0 (erl l) := Rd.blk (h.own b l hb).1 (h.own b l hb).2.1
theorem SM.ok {M : MH} {H F : Heap} (h : SM M H F) {b : Nat} {l : List V} (hb : M b = .some l) : okL F l := (h.own b l hb).2.2.2
theorem SM.sub {M M' : MH} {H F : Heap} (h : SM M H F) (hs : Sub M' M) : SM M' H F := ⟨h.size, h.le, fun b l hb => h.own b l (hs b _ hb), fun b es hb => h.map b es (hs b _ hb)⟩
theorem SM.alloc {M : MH} {H F : Heap} (h : SM M H F) {l : List V} (hl : okL F l) : ∃ F', Le F F' ∧ SM (M.set H.size l) (H.alloc (erl l)) F' := by
  refine ⟨F.put .dead, .ext (.put F _), ?_, ?_, ?_, fun b es hb => ?_⟩
  · simp [Heap.put, alloc_size, h.size]
  · intro b hb
    simp only [Heap.put, alloc_size] at hb ⊢
    rw [h.size]
    by_cases e : b = H.size
    · rw [if_pos e]; exact .inl rfl
    · rw [if_neg e, alloc_old e]; exact h.le b (by omega)
  · intro b l' hb
    have hle : Le F (F.put .dead) := .ext (.put F _)
    simp only [MH.set] at hb
    by_cases e : b = H.size
    · rw [if_pos e] at hb
      cases hb; subst e
      exact ⟨by rw [alloc_size]; omega, alloc_new _ _, by simp [Heap.put, h.size], okL.mono hle hl⟩
    · rw [if_neg e] at hb
      obtain ⟨h1, h2, h3, h4⟩ := h.own b l' hb
      exact ⟨by rw [alloc_size]; omega, by rw [alloc_old e]; exact h2, by simp only [Heap.put]; rw [h.size, if_neg e]; exact h3, okL.mono hle h4⟩
  · simp only [MH.set] at hb
    by_cases e : b = H.size
    · rw [if_pos e] at hb; cases hb
    · rw [if_neg e] at hb
      obtain ⟨h1, h2, h3⟩ := h.map b es hb
      exact ⟨by rw [alloc_size]; omega, by rw [alloc_old e]; exact h2, by simp only [Heap.put]; rw [h.size, if_neg e]; exact h3⟩
theorem SM.mkmap {M : MH} {H F : Heap} (h : SM M H F) : ∃ F', Le F F' ∧ SM (M.put H.size []) (H.put (.map [])) F' := by
  refine ⟨F.put .dead, .ext (.put F _), ?_, ?_, ?_, fun b es hb => ?_⟩
  · simp [Heap.put, h.size]
  · intro b hb
    simp only [Heap.put] at hb ⊢
    rw [h.size]
    by_cases e : b = H.size
    · rw [if_pos e]; exact .inl rfl
    · rw [if_neg e, if_neg e]; exact h.le b (by omega)
  · intro b l' hb
    simp only [MH.put] at hb
    by_cases e : b = H.size
    · rw [if_pos e] at hb; cases hb
    · rw [if_neg e] at hb
      obtain ⟨h1, h2, h3, h4⟩ := h.own b l' hb
      exact ⟨by simp only [Heap.put]; omega, by simp only [Heap.put]; rw [if_neg e]; exact h2, by simp only [Heap.put]; rw [h.size, if_neg e]; exact h3, okL.mono (.ext (.put F _)) h4⟩
  · simp only [MH.put] at hb
    by_cases e : b = H.size
    · rw [if_pos e] at hb; cases hb; subst e
      exact ⟨by simp [Heap.put], by simp [Heap.put], by simp [Heap.put, h.size]⟩
    · rw [if_neg e] at hb
      obtain ⟨h1, h2, h3⟩ := h.map b es hb
      exact ⟨by simp only [Heap.put]; omega, by simp only [Heap.put]; rw [if_neg e]; exact h2, by simp only [Heap.put]; rw [h.size, if_neg e]; exact h3⟩
theorem SM.remap {M : MH} {H F : Heap} (h : SM M H F) {b : Nat} {es es' : List (AV × AV)} (hb : M b = .some (.map es)) : SM (M.put b es') (H.upd b (.map es')) F := by
  obtain ⟨h1, h2, h3⟩ := h.map b es hb
  refine ⟨h.size, fun i hi => ?_, fun i l2 hi => ?_, fun i es2 hi => ?_⟩
  · by_cases e : i = b
    · subst e; exact .inl h3
    · rw [upd_blk_ne e]; exact h.le i hi
  · simp only [MH.put] at hi
    by_cases e : i = b
    · rw [if_pos e] at hi; cases hi
    · rw [if_neg e] at hi
      obtain ⟨q1, q2, q3, q4⟩ := h.own i l2 hi
      exact ⟨q1, by rw [upd_blk_ne e]; exact q2, q3, q4⟩
  · simp only [MH.put] at hi
    by_cases e : i = b
    · rw [if_pos e] at hi; cases hi; subst e
      exact ⟨h1, upd_blk_same', h3⟩
    · rw [if_neg e] at hi
      obtain ⟨q1, q2, q3⟩ := h.map i es2 hi
      exact ⟨q1, by rw [upd_blk_ne e]; exact q2, q3⟩
theorem SM.upd {M : MH} {H F : Heap} (h : SM M H F) {b : Nat} {l l' : List V} (hb : M b = .some l) (hl : okL F l') : SM (M.set b l') (H.upd b (.cells (erl l') true)) F := by
  obtain ⟨h1, h2, h3, h4⟩ := h.own b l hb
  refine ⟨h.size, fun i hi => ?_, fun i l2 hi => ?_, fun i es hi => ?_⟩
  rotate_right
  · simp only [MH.set] at hi
    by_cases e : i = b
    · rw [if_pos e] at hi; cases hi
    · rw [if_neg e] at hi
      obtain ⟨q1, q2, q3⟩ := h.map i es hi
      exact ⟨q1, by rw [upd_blk_ne e]; exact q2, q3⟩
  · by_cases e : i = b
    · subst e; exact .inl h3
    · rw [upd_blk_ne e]; exact h.le i hi
  · simp only [MH.set] at hi
    by_cases e : i = b
    · rw [if_pos e] at hi; cases hi; subst e
      exact ⟨h1, upd_blk_same', h3, hl⟩
    · rw [if_neg e] at hi
      obtain ⟨q1, q2, q3, q4⟩ := h.own i l2 hi
      exact ⟨q1, by rw [upd_blk_ne e]; exact q2, q3, q4⟩
theorem SM.kill {M : MH} {H F : Heap} (h : SM M H F) {b : Nat} {l : List V} (hb : M b = .some l) : SM (M.del b) (H.kill b) F := by
  obtain ⟨h1, h2, h3, h4⟩ := h.own b l hb
  refine ⟨h.size, fun i hi => ?_, fun i l2 hi => ?_, fun i es hi => ?_⟩
  rotate_right
  · simp only [MH.del] at hi
    by_cases e : i = b
    · rw [if_pos e] at hi; cases hi
    · rw [if_neg e] at hi
      obtain ⟨q1, q2, q3⟩ := h.map i es hi
      exact ⟨q1, by rw [kill_ne e]; exact q2, q3⟩
  · by_cases e : i = b
    · subst e; exact .inl h3
    · rw [kill_ne e]; exact h.le i hi
  · simp only [MH.del] at hi
    by_cases e : i = b
    · rw [if_pos e] at hi; cases hi
    · rw [if_neg e] at hi
      obtain ⟨q1, q2, q3, q4⟩ := h.own i l2 hi
      exact ⟨q1, by rw [kill_ne e]; exact q2, q3, q4⟩
theorem SM.freeze {M : MH} {H F : Heap} (h : SM M H F) {b : Nat} {l : List V} (hb : M b = .some l) :
    ∃ F', Le F F' ∧ SM (M.del b) H F' ∧ Rd F' b 0 (erl l) ∧ okL F' l ∧ F'.blk b = .cells (erl l) true := by
  obtain ⟨h1, h2, h3, h4⟩ := h.own b l hb
  have hF : Le F (F.upd b (.cells (erl l) true)) := (Le.refl F).updDead h3 _
  refine ⟨F.upd b (.cells (erl l) true), hF, ⟨h.size, fun i hi => ?_, fun i l2 hi => ?_, fun i es hi => ?_⟩, Rd.blk (by rw [upd_size, h.size]; exact h1) upd_blk_same', okL.mono hF h4, upd_blk_same'⟩
  · by_cases e : i = b
    · subst e; rw [upd_blk_same']; exact .inr h2.symm
    · rw [upd_blk_ne e]; exact h.le i hi
  · simp only [MH.del] at hi
    by_cases e : i = b
    · rw [if_pos e] at hi; cases hi
    · rw [if_neg e] at hi
      obtain ⟨q1, q2, q3, q4⟩ := h.own i l2 hi
      exact ⟨q1, q2, by rw [upd_blk_ne e]; exact q3, okL.mono hF q4⟩
  · simp only [MH.del] at hi
    by_cases e : i = b
    · rw [if_pos e] at hi; cases hi
    · rw [if_neg e] at hi
      obtain ⟨q1, q2, q3⟩ := h.map i es hi
      exact ⟨q1, q2, by rw [upd_blk_ne e]; exact q3⟩
inductive Fz : MH → List V → MH → List V → Prop
  | nil (M : MH) : Fz M [] M []
  | keep {M M' : MH} {l l' : List V} (v : V) : Fz M l M' l' → Fz M (v :: l) M' (v :: l')
  | sl {M M1 M2 : MH} {cs cs' l l' : List V} {b o n c k : Nat} {ex : Bool} : M b = .some cs → Fz (M.del b) cs M1 cs' → Fz M1 l M2 l' → Fz M (.sc (.sl (some (b, o)) n c ex k) :: l) M2 (.fs (some (b, o)) n c ex k (cs'.drop o) :: l')
  | slN {M M' : MH} {l l' : List V} {k : Nat} : Fz M l M' l' → Fz M (.sc (.sl none 0 0 true k) :: l) M' (.fs none 0 0 true k [] :: l')
  | agg {M M1 M2 : MH} {a a' l l' : List V} : Fz M a M1 a' → Fz M1 l M2 l' → Fz M (.agg a :: l) M2 (.agg a' :: l')
  | tup {M M1 M2 : MH} {a a' l l' : List V} : Fz M a M1 a' → Fz M1 l M2 l' → Fz M (.tup a :: l) M2 (.tup a' :: l')
theorem Fz.refl (M : MH) : ∀ l, Fz M l M l
  | [] => .nil M
  | v :: t => .keep v (Fz.refl M t)
theorem Fz.sound {M M' : MH} {l l' : List V} (h : Fz M l M' l') : ∀ {H F : Heap}, SM M H F → okL F l → erl l' = erl l ∧ ∃ F', Le F F' ∧ SM M' H F' ∧ okL F' l' := by
  induction h with
  | nil M => intro H F hs hl; exact ⟨rfl, F, Le.refl F, hs, hl⟩
  | keep v h ih =>
    intro H F hs hl
    simp only [okL] at hl
    obtain ⟨e, F', h1, h2, h3⟩ := ih hs hl.2
    exact ⟨by simp [erl, e], F', h1, h2, by simp only [okL]; exact ⟨okV.mono h1 hl.1, h3⟩⟩
  | @sl M M1 M2 cs cs' l l' b o n c k ex hb h1 h2 ih1 ih2 =>
    intro H F hs hl
    simp only [okL] at hl
    obtain ⟨F1, f1, f2, f3, f4, f5⟩ := hs.freeze hb
    obtain ⟨e1, F2, g1, g2, g3⟩ := ih1 f2 f4
    obtain ⟨e2, F3, k1, k2, k3⟩ := ih2 g2 (okL.mono (f1.trans g1) hl.2)
    refine ⟨by simp [erl, er, e2], F3, (f1.trans g1).trans k1, k2, ?_⟩
    simp only [okL, okV, AA.b_some, AA.o_some]
    refine ⟨⟨?_, okL.mono k1 (g3.drop o)⟩, k3⟩
    intro i x hi
    rw [erl_drop, e1, List.getElem?_drop] at hi
    have := (f3.le (g1.trans k1)) (o + i) x hi
    simpa using this
  | slN h ih =>
    intro H F hs hl
    simp only [okL] at hl
    obtain ⟨e, F', h1, h2, h3⟩ := ih hs hl.2
    exact ⟨by simp [erl, er, e], F', h1, h2, by simp only [okL, okV, erl]; exact ⟨⟨Rd.nil _ _ _, trivial⟩, h3⟩⟩
  | agg h1 h2 ih1 ih2 =>
    intro H F hs hl
    simp only [okL, okV] at hl
    obtain ⟨e1, F1, g1, g2, g3⟩ := ih1 hs hl.1
    obtain ⟨e2, F2, k1, k2, k3⟩ := ih2 g2 (okL.mono g1 hl.2)
    exact ⟨by simp [erl, er, e1, e2], F2, g1.trans k1, k2, by simp only [okL, okV]; exact ⟨okL.mono k1 g3, k3⟩⟩
  | tup h1 h2 ih1 ih2 =>
    intro H F hs hl
    simp only [okL, okV] at hl
    obtain ⟨e1, F1, g1, g2, g3⟩ := ih1 hs hl.1
    obtain ⟨e2, F2, k1, k2, k3⟩ := ih2 g2 (okL.mono g1 hl.2)
    exact ⟨by simp [erl, er, e1, e2], F2, g1.trans k1, k2, by simp only [okL, okV]; exact ⟨okL.mono k1 g3, k3⟩⟩
end Go.M2

namespace Go.M2
abbrev EnvV := Nat → V
def updV (e : EnvV) (d : Nat) (v : V) : EnvV := fun n => if n = d then v else e n
def putV (e : EnvV) : Option Nat → V → EnvV
  | none, _ => e
  | some d, v => updV e d v
def erE (e : EnvV) : Env := fun n => er (e n)
theorem erE_put (e : EnvV) (d : Option Nat) (v : V) : erE (putV e d v) = putE (erE e) d (er v) := by
  cases d with
  | none => rfl
  | some d =>
    funext n
    simp only [erE, putV, putE, updV, upd]
    split <;> rfl
def okE (F : Heap) (e : EnvV) : Prop := ∀ n, okV F (e n)
theorem okE.mono {F F' : Heap} (h : Le F F') {e : EnvV} (he : okE F e) : okE F' e := fun n => okV.mono h (he n)
theorem okE.put {F : Heap} {e : EnvV} (he : okE F e) {v : V} (hv : okV F v) (d : Option Nat) : okE F (putV e d v) := by
  cases d with
  | none => exact he
  | some d =>
    intro n
    simp only [putV, updV]
    split
    · exact hv
    · exact he n
def toV : AV → V
  | .agg l => .agg (l.map .sc)
  | .tup l => .tup (l.map .sc)
  | .fn f l => .fn f (l.map .sc)
  | a => .sc a
theorem er_toV (a : AV) : er (toV a) = a := by cases a <;> simp [toV, er, erl_sc]
theorem ok_toV (F : Heap) (a : AV) : okV F (toV a) := by cases a <;> simp [toV, okV, okL.sc]
def X.evV (e : EnvV) : X → V
  | .t n => e n
  | .c v => toV v
theorem er_ev (e : EnvV) (x : X) : er (x.evV e) = x.ev (erE e) := by
  cases x with
  | t n => rfl
  | c v => exact er_toV v
theorem ok_ev {F : Heap} {e : EnvV} (he : okE F e) (x : X) : okV F (x.evV e) := by
  cases x with
  | t n => exact he n
  | c v => exact ok_toV F v
theorem erl_evs (e : EnvV) (l : List X) : (l.map (X.evV e)).map er = l.map (X.ev (erE e)) := by
  rw [List.map_map]; exact List.map_congr_left fun x _ => er_ev e x
theorem ok_evs {F : Heap} {e : EnvV} (he : okE F e) (l : List X) : okL F (l.map (X.evV e)) := okL_all.2 fun v hv => by
  obtain ⟨x, _, rfl⟩ := List.mem_map.1 hv
  exact ok_ev he x
def setAtG {α : Type} (z : List α) (off : Nat) : List α → List α
  | [] => z
  | x :: t => setAtG (z.set off x) (off + 1) t
theorem erl_set (z : List V) (i : Nat) (v : V) : erl (z.set i v) = (erl z).set i (er v) := by simp [erl_map, List.map_set]
theorem erl_setAt : ∀ (c z : List V) (o : Nat), erl (setAtG z o c) = setAt (erl z) o (erl c)
  | [], z, o => rfl
  | x :: t, z, o => by simp only [setAtG, setAt, erl]; rw [erl_setAt t, erl_set]
theorem okL.setAt {F : Heap} : ∀ {c z : List V} {o : Nat}, okL F z → okL F c → okL F (setAtG z o c)
  | [], z, o, h, _ => h
  | x :: t, z, o, h, hc => by simp only [okL] at hc; show okL F (setAtG (z.set o x) (o + 1) t); exact okL.setAt (okL.set h hc.1 o) hc.2
def cellsV : V → Option (List V)
  | .agg l => some l
  | .tup _ => none
  | .sc a => match a with
    | .junk | .tup _ | .agg _ => none
    | _ => some [.sc a]
  | v => some [v]
theorem cellsV_er {v : V} {c : List V} (h : cellsV v = .some c) : cellsOf (er v) = .some (erl c) := by
  cases v with
  | sc a => cases a <;> simp [cellsV] at h <;> subst h <;> simp [er, erl, cellsOf]
  | fs => simp [cellsV] at h; subst h; simp [er, erl, cellsOf]
  | pf => simp [cellsV] at h; subst h; simp [er, erl, cellsOf]
  | fn => simp [cellsV] at h; subst h; simp [er, erl, cellsOf]
  | agg l => simp [cellsV] at h; subst h; simp [er, cellsOf]
  | tup => simp [cellsV] at h
theorem cellsV_ok {F : Heap} {v : V} {c : List V} (h : cellsV v = .some c) (hv : okV F v) : okL F c := by
  cases v with
  | sc a => cases a <;> simp [cellsV] at h <;> subst h <;> simp [okL, okV]
  | fs => simp [cellsV] at h; subst h; simp only [okL]; exact ⟨hv, trivial⟩
  | pf => simp [cellsV] at h; subst h; simp only [okL]; exact ⟨hv, trivial⟩
  | fn => simp [cellsV] at h; subst h; simp only [okL]; exact ⟨hv, trivial⟩
  | agg l => simp [cellsV] at h; subst h; simpa [okV] using hv
  | tup => simp [cellsV] at h
def pickV (c : AV) (a b : V) : Option V := match c with
  | .bool t => some (if t then a else b)
  | _ => none
def nilckV : V → Option V
  | .sc (.ptr (some p)) => some (.sc (.ptr (some p)))
  | .pf b o cs => some (.pf b o cs)
  | _ => none
def ptrOffV (n : Nat) : V → Option V
  | .sc (.ptr (some (b, o))) => some (.sc (.ptr (some (b, o + n))))
  | .pf b o cs => some (.pf b (o + n) (cs.drop n))
  | _ => none
def partV (off n : Nat) (ag : Bool) : V → Option V
  | .agg l => if ag then (if off + n ≤ l.length then some (.agg ((l.drop off).take n)) else none) else l[off]?
  | _ => none
def iaddrV (sz : Nat) : V → AV → Option V
  | .sc (.sl A n _ _ _), .int _ i => if 0 ≤ i ∧ i < (n : Int) then some (.sc (.ptr (some (A.b, A.o + i.toNat * sz)))) else none
  | .fs A n _ _ _ xs, .int _ i => if 0 ≤ i ∧ i < (n : Int) then some (.pf A.b (A.o + i.toNat * sz) ((xs.drop (i.toNat * sz)).take sz)) else none
  | _, _ => none
def aaddrV (len sz : Nat) : V → AV → Option V
  | .sc (.ptr (some (b, o))), .int _ i => if 0 ≤ i ∧ i < (len : Int) then some (.sc (.ptr (some (b, o + i.toNat * sz)))) else none
  | .pf b o cs, .int _ i => if 0 ≤ i ∧ i < (len : Int) then some (.pf b (o + i.toNat * sz) (cs.drop (i.toNat * sz))) else none
  | _, _ => none
def aidxV (len sz : Nat) (ag : Bool) (x : V) : AV → Option V
  | .int _ i => if 0 ≤ i ∧ i < (len : Int) then partV (i.toNat * sz) sz ag x else none
  | _ => none
def extV (i : Nat) : V → Option V
  | .tup l => l[i]?
  | _ => none
def slcV (sz : Nat) (lo hi mx : Option AV) : V → Option V
  | .sc a => (slcF sz lo hi mx a).map .sc
  | .fs A n c ex k xs => match bnds n c lo hi mx, slcF sz lo hi mx (.sl A n c ex k) with
    | some (l, h, m), some (.sl A' n' c' ex' k') => if h ≤ m then some (.fs A' n' c' ex' k' ((xs.drop (l * sz)).take ((h - l) * sz))) else none
    | _, _ => none
  | _ => none
def bldV (e : EnvV) (z : List V) : List (Nat × Nat × X) → Option (List V)
  | [] => some z
  | (off, n, x) :: t => match cellsV (x.evV e) with
    | some c => if c.length = n ∧ off + n ≤ z.length then bldV e (setAtG z off c) t else none
    | none => none
def bslV (e : EnvV) (sz : Nat) (z : List V) : List (Nat × X) → Option (List V)
  | [] => some z
  | (i, x) :: t => match cellsV (x.evV e) with
    | some c => if c.length = sz ∧ i * sz + sz ≤ z.length then bslV e sz (setAtG z (i * sz) c) t else none
    | none => none
def loadO (n : Nat) (ag : Bool) (l : Option (List V)) : Option V := match l with
  | some l => if ag then (if n ≤ l.length then some (.agg (l.take n)) else none) else l[0]?
  | none => none
def loadV (M : MH) (n : Nat) (ag : Bool) : V → Option V
  | .pf b o cs => loadO n ag (some cs)
  | .sc (.ptr (some (b, o))) => loadO n ag ((cells? (M b)).map (·.drop o))
  | _ => none
def ents? : Option Cell → Option (List (AV × AV))
  | some (.map es) => some es
  | _ => none
@[go_sem] theorem ents?_some {es : List (AV × AV)} : ents? (some (.map es)) = .some es := rfl
theorem ents?_iff {c : Option Cell} {es : List (AV × AV)} (h : ents? c = .some es) : c = .some (.map es) := by
  unfold ents? at h
  split at h
  · cases h; rfl
  · cases h
def lookV (M : MH) (kt : KT) (z : AV) (ok : Bool) (x k : AV) : Option AV := match x with
  | .map none => lookM kt z ok k (some [])
  | .map (some b) => lookM kt z ok k (ents? (M b))
  | _ => none
def mlenV (M : MH) (x : AV) : Option AV := match x with
  | .map none => some (.int .i64 0)
  | .map (some b) => (ents? (M b)).map fun es => .int .i64 es.length
  | _ => none
theorem SM.mapAt {M : MH} {H F : Heap} (h : SM M H F) {b : Nat} {es : List (AV × AV)} (hb : M b = .some (.map es)) : H.mapAt b = .some es := by
  obtain ⟨h1, h2, _⟩ := h.map b es hb
  simp [Heap.mapAt, h1, h2]
theorem lookV_sound {M : MH} {H F : Heap} (hs : SM M H F) {kt : KT} {z x k v : AV} {ok : Bool} (h : lookV M kt z ok x k = .some v) : lookF H kt z ok x k = .some v := by
  unfold lookV at h
  unfold lookF
  split at h
  · exact h
  · rename_i b
    cases hes : ents? (M b) with
    | none =>
      rw [hes] at h
      unfold lookM at h
      split at h
      · rename_i h1; cases h1
      · cases h
    | some es => simp only [hs.mapAt (ents?_iff hes)]; rw [hes] at h; exact h
  · cases h
theorem mlenV_sound {M : MH} {H F : Heap} (hs : SM M H F) {x v : AV} (h : mlenV M x = .some v) : mlenF H x = .some v := by
  unfold mlenV at h
  unfold mlenF
  split at h
  · exact h
  · rename_i b
    obtain ⟨es, hes, rfl⟩ := map_some' h
    simp [hs.mapAt (ents?_iff hes)]
  · cases h
def qopV (o : IOp) (e : EnvV) (M : MH) : Option V := match o with
  | .mv x => some (x.evV e)
  | .pick c a b => pickV (er (c.evV e)) (a.evV e) (b.evV e)
  | .bin op x y => (binF op (er (x.evV e)) (er (y.evV e))).map .sc
  | .beq neg x y => (beqF neg (er (x.evV e)) (er (y.evV e))).map .sc
  | .eqn neg k x => (isNilF k (er (x.evV e))).map fun b => .sc (.bool (if neg then !b else b))
  | .un op x => (unF op (er (x.evV e))).map .sc
  | .nilck x => nilckV (x.evV e)
  | .faddr x off => ptrOffV off (x.evV e)
  | .fld x off n ag => partV off n ag (x.evV e)
  | .iaddr x i sz => iaddrV sz (x.evV e) (er (i.evV e))
  | .aaddr x i len sz => aaddrV len sz (x.evV e) (er (i.evV e))
  | .sidx x i => (sidxF (er (x.evV e)) (er (i.evV e))).map .sc
  | .aidx x i len sz ag => aidxV len sz ag (x.evV e) (er (i.evV e))
  | .ext x i => extV i (x.evV e)
  | .len x => (lenF (er (x.evV e))).map .sc
  | .slen x => (slenF (er (x.evV e))).map .sc
  | .cap x => (capF (er (x.evV e))).map .sc
  | .mnx mx x y => (mnxF mx (er (x.evV e)) (er (y.evV e))).map .sc
  | .slc sz x lo hi mx => slcV sz (lo.map fun y => er (y.evV e)) (hi.map fun y => er (y.evV e)) (mx.map fun y => er (y.evV e)) (x.evV e)
  | .sslc x lo hi => (sslcF (lo.map fun y => er (y.evV e)) (hi.map fun y => er (y.evV e)) (er (x.evV e))).map .sc
  | .mkfn f caps => some (.fn f (caps.map (X.evV e)))
  | .bld z ps => (bldV e (z.map .sc) ps).map .agg
  | .cvi k x => (cviF k (er (x.evV e))).map .sc
  | .load x n ag => loadV M n ag (x.evV e)
  | .eqs kt neg x y => (eqsF kt neg (er (x.evV e)) (er (y.evV e))).map .sc
  | .lookup kt z ok x k => (lookV M kt z ok (er (x.evV e)) (er (k.evV e))).map toV
  | .mlen x => (mlenV M (er (x.evV e))).map .sc
  | _ => none
section
variable {M : MH} {H F : Heap} {e : EnvV}
theorem sc_sound {o : Option AV} {v : V} (h : o.map V.sc = .some v) : o = .some (er v) ∧ okV F v := by
  cases o with
  | none => cases h
  | some a => simp at h; subst h; simp [er, okV]
theorem part_sound {off n : Nat} {ag : Bool} {x v : V} (h : partV off n ag x = .some v) (hx : okV F x) : partF off n ag (er x) = .some (er v) ∧ okV F v := by
  cases x with
  | agg l =>
    simp only [partV] at h
    simp only [okV] at hx
    simp only [er, partF, erl_length]
    cases ag with
    | true =>
      simp only [if_true] at h ⊢
      split at h
      · rename_i hc
        cases h
        rw [if_pos hc]
        exact ⟨by simp [er, erl_take, erl_drop], by simp only [okV]; exact (hx.drop _).take _⟩
      · cases h
    | false =>
      simp only [Bool.false_eq_true, if_false] at h ⊢
      rw [erl_get, h]
      exact ⟨rfl, hx.get h⟩
  | _ => simp [partV] at h
theorem bld_sound : ∀ {ps : List (Nat × Nat × X)} {z l : List V}, bldV e z ps = .some l → okE F e → okL F z → bldF (erE e) (erl z) ps = .some (erl l) ∧ okL F l
  | [], z, l, h, _, hz => by simp only [bldV, Option.some.injEq] at h; subst h; exact ⟨rfl, hz⟩
  | (off, n, x) :: t, z, l, h, he, hz => by
    simp only [bldV] at h
    split at h
    · rename_i c hc
      split at h
      · rename_i hcond
        obtain ⟨h1, h2⟩ := bld_sound h he (hz.setAt (cellsV_ok hc (ok_ev he x)))
        refine ⟨?_, h2⟩
        simp only [bldF]
        have := cellsV_er hc
        rw [er_ev] at this
        rw [this]
        simp only [erl_length]
        rw [if_pos hcond, ← erl_setAt]
        exact h1
      · cases h
    · cases h
theorem bsl_sound {sz : Nat} : ∀ {ps : List (Nat × X)} {z l : List V}, bslV e sz z ps = .some l → okE F e → okL F z → bslF (erE e) sz (erl z) ps = .some (erl l) ∧ okL F l
  | [], z, l, h, _, hz => by simp only [bslV, Option.some.injEq] at h; subst h; exact ⟨rfl, hz⟩
  | (i, x) :: t, z, l, h, he, hz => by
    simp only [bslV] at h
    split at h
    · rename_i c hc
      split at h
      · rename_i hcond
        obtain ⟨h1, h2⟩ := bsl_sound h he (hz.setAt (cellsV_ok hc (ok_ev he x)))
        refine ⟨?_, h2⟩
        simp only [bslF]
        have := cellsV_er hc
        rw [er_ev] at this
        rw [this]
        simp only [erl_length]
        rw [if_pos hcond, ← erl_setAt]
        exact h1
      · cases h
    · cases h
theorem loadO_sound {b o n : Nat} {ag : Bool} {l : List V} {v : V} (h : loadO n ag (some l) = .some v) (hr : Rd H b o (erl l)) (hl : okL F l) : loadF H n ag (.ptr (some (b, o))) = .some (er v) ∧ okV F v := by
  simp only [loadO] at h
  cases ag with
  | true =>
    simp only [if_true] at h
    split at h
    · rename_i hn
      cases h
      have h1 : Rd H b o (erl (l.take n)) := by
        have := hr.sub 0 n
        rw [erl_take]; simpa using this
      have h2 := h1.loadN
      rw [erl_length, List.length_take, Nat.min_eq_left hn] at h2
      refine ⟨?_, by simp only [okV]; exact hl.take n⟩
      simp only [loadF, if_true, h2, er]; rfl
    · cases h
  | false =>
    simp only [Bool.false_eq_true, if_false] at h
    refine ⟨?_, hl.get h⟩
    have := hr 0 (er v) (by rw [erl_get, h]; rfl)
    simp only [loadF, Bool.false_eq_true, if_false]
    simpa using this
theorem slc_sound {sz : Nat} {lo hi mx : Option AV} {x v : V} (h : slcV sz lo hi mx x = .some v) (hx : okV F x) : slcF sz lo hi mx (er x) = .some (er v) ∧ okV F v := by
  cases x with
  | sc a => exact sc_sound h
  | fs A n c ex k xs =>
    simp only [slcV] at h
    split at h
    · rename_i l h' m A' n' c' ex' k' hb hs
      split at h
      · rename_i hhm
        cases h
        refine ⟨hs, ?_⟩
        simp only [okV] at hx ⊢
        refine ⟨?_, (hx.2.drop _).take _⟩
        obtain ⟨l2, h2, m2, hb2, hn2, hr2⟩ := slcF_bnds hs
        rw [hb] at hb2
        cases hb2
        cases hr2
        by_cases hml : m = l
        · have hh : h' - l = 0 := by omega
          rw [hh]; simp [erl]; exact Rd.nil _ _ _
        · rw [if_neg hml]
          simp only [AA.b_some, AA.o_some, erl_take, erl_drop]
          exact hx.1.sub _ _
      · cases h
    · cases h
  | _ => simp [slcV] at h
theorem qopV_sound {q : IOp} {v : V} (h : qopV q e M = .some v) (hs : SM M H F) (he : okE F e) : qop q (erE e) H = .some (er v) ∧ okV F v := by
  have hev := fun x => er_ev e x
  have hok := fun x => ok_ev he x
  cases q with
  | mv x => simp only [qopV, Option.some.injEq] at h; subst h; simp only [qop]; rw [← hev]; exact ⟨rfl, hok x⟩
  | pick c a b =>
    simp only [qopV, hev] at h
    simp only [qop]
    unfold pickV at h
    split at h
    · rename_i t ht
      cases h
      rw [ht]
      simp only [pickF]
      cases t <;> simp [hev, hok]
    · cases h
  | bin op x y => simp only [qopV, hev] at h; exact sc_sound h
  | beq n x y => simp only [qopV, hev] at h; exact sc_sound h
  | eqn n k x =>
    simp only [qopV, hev] at h
    simp only [qop]
    cases hh : isNilF k (x.ev (erE e)) with
    | none => rw [hh] at h; cases h
    | some b => rw [hh] at h; simp at h; subst h; simp [er, okV]
  | un op x => simp only [qopV, hev] at h; exact sc_sound h
  | nilck x =>
    simp only [qopV] at h
    simp only [qop, ← hev]
    unfold nilckV at h
    split at h
    · rename_i p hp; cases h; rw [hp]; exact ⟨rfl, by simp [okV]⟩
    · rename_i b o cs hp; cases h; have := hok x; rw [hp] at this ⊢; exact ⟨rfl, this⟩
    · cases h
  | faddr x off =>
    simp only [qopV] at h
    simp only [qop, ← hev]
    unfold ptrOffV at h
    split at h
    · rename_i b o hp; cases h; rw [hp]; exact ⟨rfl, by simp [okV]⟩
    · rename_i b o cs hp; cases h; have := hok x; rw [hp] at this ⊢
      refine ⟨rfl, ?_⟩
      simp only [okV] at this ⊢
      refine ⟨?_, this.2.drop _⟩
      intro i y hi
      rw [erl_drop, List.getElem?_drop] at hi
      have := this.1 _ _ hi
      rwa [Nat.add_assoc]
    · cases h
  | fld x off n ag => simp only [qopV] at h; simp only [qop, ← hev]; exact part_sound h (hok x)
  | iaddr x i sz =>
    simp only [qopV, hev i] at h
    simp only [qop, ← hev x]
    unfold iaddrV at h
    split at h
    · rename_i A n c ex k kk j hp hj
      split at h
      · rename_i hc; cases h; rw [hp, hj]; simp only [er, iaddrF]; rw [if_pos hc]; exact ⟨rfl, by simp [okV]⟩
      · cases h
    · rename_i A n c ex k xs kk j hp hj
      split at h
      · rename_i hc; cases h; have := hok x; rw [hp] at this ⊢; rw [hj]; simp only [er, iaddrF]; rw [if_pos hc]
        refine ⟨rfl, ?_⟩
        simp only [okV] at this ⊢
        refine ⟨?_, (this.2.drop _).take _⟩
        rw [erl_take, erl_drop]
        exact this.1.sub _ _
      · cases h
    · cases h
  | aaddr x i len sz =>
    simp only [qopV, hev i] at h
    simp only [qop, ← hev x]
    unfold aaddrV at h
    split at h
    · rename_i b o kk j hp hj
      split at h
      · rename_i hc; cases h; rw [hp, hj]; simp only [er, aaddrF]; rw [if_pos hc]; exact ⟨rfl, by simp [okV]⟩
      · cases h
    · rename_i b o cs kk j hp hj
      split at h
      · rename_i hc; cases h; have := hok x; rw [hp] at this ⊢; rw [hj]; simp only [er, aaddrF]; rw [if_pos hc]
        refine ⟨rfl, ?_⟩
        simp only [okV] at this ⊢
        refine ⟨?_, this.2.drop _⟩
        intro i y hi
        rw [erl_drop, List.getElem?_drop] at hi
        have := this.1 _ _ hi
        rwa [Nat.add_assoc]
      · cases h
    · cases h
  | sidx x i => simp only [qopV, hev] at h; exact sc_sound h
  | aidx x i len sz ag =>
    simp only [qopV, hev i] at h
    simp only [qop]
    unfold aidxV at h
    split at h
    · rename_i kk j hj
      split at h
      · rename_i hc
        rw [hj]; simp only [aidxF]; rw [if_pos hc, ← hev x]
        exact part_sound h (hok x)
      · cases h
    · cases h
  | ext x i =>
    simp only [qopV] at h
    simp only [qop, ← hev]
    unfold extV at h
    split at h
    · rename_i l hp
      have := hok x
      rw [hp] at this ⊢
      simp only [okV] at this
      simp only [er, extF]
      rw [erl_get, h]
      exact ⟨rfl, this.get h⟩
    · cases h
  | len x => simp only [qopV, hev] at h; exact sc_sound h
  | slen x => simp only [qopV, hev] at h; exact sc_sound h
  | cap x => simp only [qopV, hev] at h; exact sc_sound h
  | mnx mx x y => simp only [qopV, hev] at h; exact sc_sound h
  | slc sz x lo hi mx =>
    simp only [qopV, hev] at h
    simp only [qop, ← hev x]
    exact slc_sound h (hok x)
  | sslc x lo hi => simp only [qopV, hev] at h; exact sc_sound h
  | mkfn f caps =>
    simp only [qopV, Option.some.injEq] at h; subst h
    simp only [qop, er, okV, erl_map, erl_evs]
    exact ⟨trivial, ok_evs he caps⟩
  | bld z ps =>
    simp only [qopV] at h
    simp only [qop]
    cases hb : bldV e (z.map .sc) ps with
    | none => rw [hb] at h; cases h
    | some l =>
      rw [hb] at h; simp at h; subst h
      obtain ⟨h1, h2⟩ := bld_sound hb he (okL.sc z)
      rw [erl_sc] at h1
      rw [h1]
      exact ⟨rfl, by simpa [okV] using h2⟩
  | cvi k x => simp only [qopV, hev] at h; exact sc_sound h
  | eqs kt neg x y => simp only [qopV, hev] at h; exact sc_sound h
  | lookup kt z ok x k =>
    simp only [qopV, hev] at h
    obtain ⟨a, ha, rfl⟩ := map_some' h
    exact ⟨by rw [er_toV]; exact lookV_sound hs ha, ok_toV F a⟩
  | mlen x =>
    simp only [qopV, hev] at h
    obtain ⟨a, ha, rfl⟩ := map_some' h
    exact ⟨mlenV_sound hs ha, by simp [okV]⟩
  | load x n ag =>
    simp only [qopV] at h
    simp only [qop, ← hev x]
    unfold loadV at h
    split at h
    · rename_i b o cs hp
      have := hok x
      rw [hp] at this ⊢
      simp only [okV] at this
      exact loadO_sound h (this.1.le hs.leH) this.2
    · rename_i b o hp
      rw [hp]
      cases hm : cells? (M b) with
      | none => rw [hm] at h; cases h
      | some l =>
        rw [hm] at h
        have hm := cells?_iff hm
        refine loadO_sound (l := l.drop o) h ?_ ((hs.ok hm).drop o)
        have h1 := hs.rd hm
        intro i x hi
        rw [erl_drop, List.getElem?_drop] at hi
        have := h1 (o + i) x hi
        simpa using this
    · cases h
  | _ => simp [qopV] at h
end
end Go.M2

namespace Go.M2
def VCall (P : Program) (f : FuncId) (args : List V) (M : MH) (R : V → MH → Prop) : Prop :=
  ∀ H F, SM M H F → okL F args → ACall P f (args.map er) H (fun a H' => ∃ r M' F', a = er r ∧ okV F' r ∧ Le F F' ∧ SM M' H' F' ∧ R r M')
def oneV (v : V) : Bool := oneA (er v)
theorem all_oneV : ∀ {l : List V}, l.all oneV = true → (erl l).all oneA = true
  | [], _ => rfl
  | v :: t, h => by
    simp only [List.all_cons, Bool.and_eq_true] at h
    simp only [erl, List.all_cons, Bool.and_eq_true]
    exact ⟨h.1, all_oneV h.2⟩
def cellsS (t : Nat) (x : V) (M : MH) : Option (List V) := if t = 0 then some [] else match x with
  | .fs _ _ _ _ _ ys => if t ≤ ys.length then some (ys.take t) else none
  | .sc (.sl (some (b, o)) _ _ _ _) => match cells? (M b) with
    | some l => if o + t ≤ l.length then some ((l.drop o).take t) else none
    | none => none
  | _ => none
def lenS : V → Option Nat
  | .fs _ n _ _ _ _ => some n
  | .sc (.sl _ n _ _ _) => some n
  | _ => none
def appW (sz by_ : Nat) (s : V) (m : Nat) (new : List V) (M : MH) (K : V → MH → Prop) : Prop := match s with
  | .sc (.sl A n c ex k) => if m = 0 then K s M else
    if n + m ≤ c then match A with
      | none => False
      | some (b, o) => match cells? (M b) with
        | none => False
        | some l => k = sz ∧ new.all oneV = true ∧ o + (n + m) * sz ≤ l.length ∧ K (.sc (.sl (some (b, o)) (n + m) c ex k)) (M.set b (setAtG l (o + n * sz) new))
    else (n + m) * by_ ≤ mostCells ∧ n + m ≤ mostCells ∧ (if ex then match cellsS (n * sz) s M with
      | none => False
      | some old => ∀ b, M b = none → K (.sc (.sl (some (b, 0)) (n + m) (n + m) false sz)) (M.set b (old ++ new))
    else match A with
      | none => False
      | some (b, o) => match cells? (M b) with
        | none => False
        | some l => k = sz ∧ new.all oneV = true ∧ o + n * sz ≤ l.length ∧ ∀ b', M b' = none → K (.sc (.sl (some (b', 0)) (n + m) (n + m) false sz)) ((M.del b).set b' ((l.drop o).take (n * sz) ++ new)))
  | .fs A n c ex k xs => if m = 0 then K s M else
    if n + m ≤ c then False else ex = true ∧ n * sz ≤ xs.length ∧ (n + m) * by_ ≤ mostCells ∧ n + m ≤ mostCells ∧
      ∀ b, M b = none → K (.sc (.sl (some (b, 0)) (n + m) (n + m) false sz)) (M.set b (xs.take (n * sz) ++ new))
  | _ => False
def appV (sz by_ : Nat) (s x : V) (M : MH) (K : V → MH → Prop) : Prop := match lenS x with
  | none => False
  | some m => match cellsS (m * sz) x M with
    | none => False
    | some new => ∃ M2 new', Fz M new M2 new' ∧ appW sz by_ s m new' M2 K
def copyV (sz : Nat) (d s : V) (M : MH) (K : V → MH → Prop) : Prop := match d, lenS s with
  | .sc (.sl A n _ _ _), some m => match cellsS (min m n * sz) s M with
    | none => False
    | some new => if min m n * sz = 0 then K (.sc (.int .i64 ((min m n : Nat) : Int))) M else match A with
      | none => False
      | some (b, o) => match cells? (M b) with
        | none => False
        | some l => new.all oneV = true ∧ o + min m n * sz ≤ l.length ∧ K (.sc (.int .i64 ((min m n : Nat) : Int))) (M.set b (setAtG l o new))
  | _, _ => False
def clearV (z : List AV) (x : V) (M : MH) (K : V → MH → Prop) : Prop := match x with
  | .sc (.sl A n _ _ _) => if n = 0 then K (.sc .junk) M else match A with
    | none => False
    | some (b, o) => match cells? (M b) with
      | none => False
      | some l => z.all oneA = true ∧ o + n * z.length ≤ l.length ∧ K (.sc .junk) (M.set b (setAtG l o ((zeros z n).map .sc)))
  | _ => False
def storeV (n : Nat) (p v : V) (M : MH) (K : V → MH → Prop) : Prop := match p, cellsV v with
  | .sc (.ptr (some (b, o))), some c => match cells? (M b) with
    | none => False
    | some l => c.length = n ∧ c.all oneV = true ∧ o + n ≤ l.length ∧ K (.sc .junk) (M.set b (setAtG l o c))
  | _, _ => False
def mksV (z : List AV) (by_ : Nat) (l : AV) (M : MH) (K : V → MH → Prop) : Prop := match l with
  | .int .i64 n => 0 ≤ n ∧ n.toNat * by_ ≤ mostCells ∧ n.toNat ≤ mostCells ∧ ∀ b, M b = none → K (.sc (.sl (some (b, 0)) n.toNat n.toNat true z.length)) (M.set b ((zeros z n.toNat).map .sc))
  | _ => False
def mkcV (z : List AV) (by_ : Nat) (l c : AV) (M : MH) (K : V → MH → Prop) : Prop := match l, c with
  | .int .i64 n, .int .i64 m => 0 ≤ n ∧ n ≤ m ∧ m.toNat * by_ ≤ mostCells ∧ m.toNat ≤ mostCells ∧ ∀ b, M b = none → K (.sc (.sl (some (b, 0)) n.toNat m.toNat true z.length)) (M.set b ((zeros z m.toNat).map .sc))
  | _, _ => False
def slcdV (sz : Nat) (x : V) (M : MH) (K : V → MH → Prop) : Prop := match x with
  | .sc (.sl A n c ex k) => k = sz ∧ 1 ≤ n ∧ n ≤ c ∧ (if c = 1 ∧ ex = false then K (.sc (.sl A 0 0 true k)) M ∧ K (.sc (.sl (some (A.b, A.o + sz)) 0 0 false k)) M
    else K (.sc (.sl (if c = 1 then A else some (A.b, A.o + sz)) (n - 1) (c - 1) ex k)) M)
  | .fs A n c ex k xs => k = sz ∧ 1 ≤ n ∧ n ≤ c ∧ (if c = 1 ∧ ex = false then K (.fs A 0 0 true k []) M ∧ K (.fs (some (A.b, A.o + sz)) 0 0 false k []) M
    else K (.fs (if c = 1 then A else some (A.b, A.o + sz)) (n - 1) (c - 1) ex k ((xs.drop sz).take ((n - 1) * sz))) M)
  | _ => False
def ovlV (x y : V) (M : MH) (K : V → MH → Prop) : Prop := match x, y with
  | .sc (.sl (some (b1, _)) _ _ _ _), .sc (.sl (some (b2, _)) _ _ _ _) => b1 ≠ b2 ∧ (cells? (M b1)).isSome ∧ (∃ v l, cells? (M b2) = .some (v :: l)) ∧ K (.sc (.bool false)) M
  | _, _ => False
def appzV (z : List AV) (by_ : Nat) (s : V) (l : AV) (M : MH) (K : V → MH → Prop) : Prop := match s, l with
  | .sc (.sl A n c true k), .int .i64 m => 0 < m ∧ c < n + m.toNat ∧ (n + m.toNat) * by_ ≤ mostCells ∧ n + m.toNat ≤ mostCells ∧ (match cellsS (n * z.length) s M with
    | none => False
    | some old => ∀ b, M b = none → K (.sc (.sl (some (b, 0)) (n + m.toNat) (n + m.toNat) false z.length)) (M.set b (old ++ (zeros z m.toNat).map .sc)))
  | _, _ => False
def newP (c : Option (List V)) (M : MH) (K : V → MH → Prop) : Prop := match c with
  | some c => ∀ b, M b = none → K (.sc (.ptr (some (b, 0)))) (M.set b c)
  | none => False
def bslcV (sz len : Nat) (c : Option (List V)) (M : MH) (K : V → MH → Prop) : Prop := match c with
  | some c => ∀ b, M b = none → K (.sc (.sl (some (b, 0)) len len true sz)) (M.set b c)
  | none => False
def callvV (P : Program) (x : V) (args : List V) (M : MH) (K : V → MH → Prop) : Prop := match x with
  | .fn f caps => VCall P f (args ++ caps) M K
  | _ => False
def mapsetV (kt : KT) (x k v : AV) (M : MH) (K : V → MH → Prop) : Prop := match x with
  | .map (some b) => match ents? (M b), keyF kt k k with
    | some es, some _ => match setM kt k v es with
      | some es' => K (.sc .junk) (M.put b es')
      | none => False
    | _, _ => False
  | _ => False
def optV (o : Option V) (M : MH) (K : V → MH → Prop) : Prop := match o with
  | some v => K v M
  | none => False
def stepV (P : Program) (o : IOp) (e : EnvV) (M : MH) (K : V → MH → Prop) : Prop := match o with
  | .alloc z => newP (some (z.map .sc)) M K
  | .box x => newP (cellsV (x.evV e)) M K
  | .bslc sz len z ps => bslcV sz len (bslV e sz ((zeros z len).map .sc) ps) M K
  | .mks z by_ l => mksV z by_ (er (l.evV e)) M K
  | .mkc z by_ l c => mkcV z by_ (er (l.evV e)) (er (c.evV e)) M K
  | .ovl x y => ovlV (x.evV e) (y.evV e) M K
  | .slcd sz x => slcdV sz (x.evV e) M K
  | .bslo sz len z ps => bslcV sz len (bslV e sz ((zeros z len).map .sc) ps) M K
  | .bad => False
  | .store x n v => storeV n (x.evV e) (v.evV e) M K
  | .app sz by_ s x => appV sz by_ (s.evV e) (x.evV e) M K
  | .appz z by_ s l => appzV z by_ (s.evV e) (er (l.evV e)) M K
  | .copy sz d s => copyV sz (d.evV e) (s.evV e) M K
  | .clear z x => clearV z (x.evV e) M K
  | .mkmap => ∀ b, M b = none → K (.sc (.map (some b))) (M.put b [])
  | .mapset kt x k v => mapsetV kt (er (x.evV e)) (er (k.evV e)) (er (v.evV e)) M K
  | .call f args => VCall P f (args.map (X.evV e)) M K
  | .callv x args => callvV P (x.evV e) (args.map (X.evV e)) M K
  | o => optV (qopV o e M) M K
section
variable {P : Program} {M : MH} {H F : Heap} {e : EnvV} {K : V → MH → Prop} {K' : AV → Heap → Prop}
theorem newP_sound {c : List V} (h : newP (some c) M K) (hs : SM M H F) (hc : okL F c) (hk : ∀ v M' H' F', okV F' v → Le F F' → SM M' H' F' → K v M' → K' (er v) H') :
    K' (.ptr (some (H.size, 0))) (H.alloc (erl c)) := by
  obtain ⟨F', h1, h2⟩ := hs.alloc hc
  exact hk (.sc (.ptr (some (H.size, 0)))) _ _ _ (by simp [okV]) h1 h2 (h _ hs.fresh)
theorem newS_sound {c : List V} {n k : Nat} {ex : Bool} (h : ∀ b, M b = none → K (.sc (.sl (some (b, 0)) n n ex k)) (M.set b c)) (hs : SM M H F) (hc : okL F c) (hk : ∀ v M' H' F', okV F' v → Le F F' → SM M' H' F' → K v M' → K' (er v) H') :
    K' (.sl (some (H.size, 0)) n n ex k) (H.alloc (erl c)) := by
  obtain ⟨F', h1, h2⟩ := hs.alloc hc
  exact hk (.sc (.sl (some (H.size, 0)) n n ex k)) _ _ _ (by simp [okV]) h1 h2 (h _ hs.fresh)
theorem cellsS_sound {t : Nat} {x : V} {l : List V} (h : cellsS t x M = .some l) (hs : SM M H F) (hx : okV F x) :
    okL F l ∧ l.length = t ∧ ∀ A n c ex k, er x = .sl A n c ex k → loadN H A.b A.o t = .some (erl l) := by
  unfold cellsS at h
  split at h
  · rename_i ht
    cases h; subst ht
    exact ⟨by simp [okL], rfl, fun _ _ _ _ _ _ => rfl⟩
  · split at h
    · rename_i A n c ex k ys
      split at h
      · rename_i ht
        cases h
        simp only [okV] at hx
        refine ⟨hx.2.take t, by simp; omega, fun A' n' c' ex' k' e => ?_⟩
        simp only [er] at e
        cases e
        have h1 : Rd H A.b A.o (erl (ys.take t)) := by
          have := (hx.1.le hs.leH).sub 0 t
          rw [erl_take]; simpa using this
        have := h1.loadN
        rwa [erl_length, List.length_take, Nat.min_eq_left ht] at this
      · cases h
    · rename_i b o n c ex k
      split at h
      · rename_i l' hm
        have hm := cells?_iff hm
        split at h
        · rename_i ht
          cases h
          refine ⟨((hs.ok hm).drop o).take t, by simp; omega, fun A' n' c' ex' k' e => ?_⟩
          simp only [er] at e
          cases e
          have h1 : Rd H b o (erl ((l'.drop o).take t)) := by
            have := (hs.rd hm).sub o t
            rw [erl_take, erl_drop]; simpa using this
          have := h1.loadN
          rwa [erl_length, List.length_take, List.length_drop, Nat.min_eq_left (by omega)] at this
        · cases h
      · cases h
    · cases h
theorem lenS_er {x : V} {m : Nat} (h : lenS x = .some m) : ∃ A c ex k, er x = .sl A m c ex k := by
  unfold lenS at h
  split at h
  · cases h; exact ⟨_, _, _, _, rfl⟩
  · cases h; exact ⟨_, _, _, _, rfl⟩
  · cases h
theorem appW_sound {sz by_ m : Nat} {s : V} {new : List V} (h : appW sz by_ s m new M K) (hs : SM M H F) (hok : okV F s) (hn : okL F new) (hlen : new.length = m * sz)
    (hk : ∀ v M' H' F', okV F' v → Le F F' → SM M' H' F' → K v M' → K' (er v) H') {A' : AA} {c' k' : Nat} {ex' : Bool} (hl : loadN H A'.b A'.o (m * sz) = .some (erl new)) : appP sz by_ (er s) (.sl A' m c' ex' k') H K' := by
  unfold appW at h
  unfold appP
  split at h
  · rename_i A n c ex k
    simp only [er, hl]
    by_cases hm : m = 0
    · rw [if_pos hm] at h ⊢
      exact hk (.sc (.sl A n c ex k)) _ _ _ hok (Le.refl F) hs h
    · rw [if_neg hm] at h ⊢
      by_cases hc : n + m ≤ c
      · rw [if_pos hc] at h ⊢
        split at h
        · exact h.elim
        · rename_i b o
          split at h
          · exact h.elim
          · rename_i l hml
            have hml := cells?_iff hml
            obtain ⟨h1, h2, h3, h4⟩ := h
            simp only [AA.b_some, AA.o_some, hs.rw hml]
            refine ⟨h1, all_oneV h2, by rw [erl_length]; exact h3, ?_⟩
            rw [← erl_setAt]
            exact hk (.sc (.sl (some (b, o)) (n + m) c ex k)) _ _ _ (by simp [okV]) (Le.refl F) (hs.upd hml ((hs.ok hml).setAt hn)) h4
      · rw [if_neg hc] at h ⊢
        obtain ⟨h1, h2, h3⟩ := h
        refine ⟨h1, h2, ?_⟩
        cases ex with
        | true =>
          simp only [if_true] at h3 ⊢
          split at h3
          · exact h3.elim
          · rename_i old hold
            obtain ⟨q1, q2, q3⟩ := cellsS_sound hold hs hok
            rw [q3 A n c true k rfl]
            simp only
            rw [← erl_append]
            exact newS_sound h3 hs (q1.append hn) hk
        | false =>
          simp only [Bool.false_eq_true, if_false] at h3 ⊢
          split at h3
          · exact h3.elim
          · rename_i b o
            split at h3
            · exact h3.elim
            · rename_i l hml
              have hml := cells?_iff hml
              obtain ⟨q1, q2, q3, q4⟩ := h3
              simp only [AA.b_some, AA.o_some, hs.rw hml]
              refine ⟨rfl, q1, all_oneV q2, by rw [erl_length]; exact q3, ?_⟩
              have hs2 := hs.kill hml
              have e : erl ((l.drop o).take (n * sz) ++ new) = ((erl l).drop o).take (n * sz) ++ erl new := by rw [erl_append, erl_take, erl_drop]
              rw [← e]
              obtain ⟨F', f1, f2⟩ := hs2.alloc ((((hs.ok hml).drop o).take (n * sz)).append hn)
              exact hk (.sc (.sl (some (H.size, 0)) (n + m) (n + m) false sz)) _ _ _ (by simp [okV]) f1 f2 (q4 _ hs.fresh)
  · rename_i A n c ex k xs
    simp only [er, hl]
    by_cases hm : m = 0
    · rw [if_pos hm] at h ⊢
      exact hk (.fs A n c ex k xs) _ _ _ hok (Le.refl F) hs h
    · rw [if_neg hm] at h ⊢
      by_cases hc : n + m ≤ c
      · rw [if_pos hc] at h; exact h.elim
      · rw [if_neg hc] at h ⊢
        obtain ⟨rfl, h0, h1, h2, h3⟩ := h
        refine ⟨h1, h2, ?_⟩
        simp only [if_true]
        have hx : okL F (xs.take (n * sz)) := by simp only [okV] at hok; exact hok.2.take _
        have hr : loadN H A.b A.o (n * sz) = .some (erl (xs.take (n * sz))) := by
          simp only [okV] at hok
          have h1 : Rd H A.b A.o (erl (xs.take (n * sz))) := by
            have := (hok.1.le hs.leH).sub 0 (n * sz)
            rw [erl_take]; simpa using this
          have := h1.loadN
          rwa [erl_length, List.length_take, Nat.min_eq_left h0] at this
        rw [hr]
        simp only
        rw [← erl_append]
        exact newS_sound h3 hs (hx.append hn) hk
  · exact h.elim
theorem app_sound {sz by_ : Nat} {s x : V} (h : appV sz by_ s x M K) (hs : SM M H F) (hos : okV F s) (hox : okV F x) (hk : ∀ v M' H' F', okV F' v → Le F F' → SM M' H' F' → K v M' → K' (er v) H') : appP sz by_ (er s) (er x) H K' := by
  unfold appV at h
  split at h
  · exact h.elim
  · rename_i m hm
    split at h
    · exact h.elim
    · rename_i new hnew
      obtain ⟨M2, new', hz, hw⟩ := h
      obtain ⟨A', c', ex', k', hx⟩ := lenS_er hm
      obtain ⟨q1, q2, q3⟩ := cellsS_sound hnew hs hox
      obtain ⟨e, F', f1, f2, f3⟩ := hz.sound hs q1
      rw [hx]
      have hl := q3 _ _ _ _ _ hx
      rw [← e] at hl
      exact appW_sound hw f2 (okV.mono f1 hos) f3 (by have := congrArg List.length e; rw [erl_length, erl_length] at this; omega) (fun v M' H' F'' a b c d => hk v M' H' F'' a (f1.trans b) c d) hl
theorem copy_sound {sz : Nat} {d s : V} (h : copyV sz d s M K) (hs : SM M H F) (hok : okV F s) (hk : ∀ v M' H' F', okV F' v → Le F F' → SM M' H' F' → K v M' → K' (er v) H') : copyP sz (er d) (er s) H K' := by
  unfold copyV at h
  split at h
  · rename_i A n c ex k m hm
    obtain ⟨A', c', ex', k', hx⟩ := lenS_er hm
    rw [hx]
    simp only [er, copyP]
    split at h
    · exact h.elim
    · rename_i new hnew
      obtain ⟨q1, q2, q3⟩ := cellsS_sound hnew hs hok
      rw [q3 _ _ _ _ _ hx]
      simp only
      split at h
      · rename_i h0
        rw [if_pos h0]
        exact hk (.sc (.int .i64 ((min m n : Nat) : Int))) _ _ _ (by simp [okV]) (Le.refl F) hs h
      · rename_i h0
        rw [if_neg h0]
        split at h
        · exact h.elim
        · rename_i b o
          split at h
          · exact h.elim
          · rename_i l hml
            have hml := cells?_iff hml
            obtain ⟨h1, h2, h3⟩ := h
            simp only [AA.b_some, AA.o_some, hs.rw hml]
            refine ⟨all_oneV h1, by rw [erl_length]; exact h2, ?_⟩
            rw [← erl_setAt]
            exact hk (.sc (.int .i64 ((min m n : Nat) : Int))) _ _ _ (by simp [okV]) (Le.refl F) (hs.upd hml ((hs.ok hml).setAt q1)) h3
  · exact h.elim
theorem clear_sound {z : List AV} {x : V} (h : clearV z x M K) (hs : SM M H F) (hk : ∀ v M' H' F', okV F' v → Le F F' → SM M' H' F' → K v M' → K' (er v) H') : clearP z (er x) H K' := by
  unfold clearV at h
  split at h
  · rename_i A n c ex k
    simp only [er, clearP]
    split at h
    · rename_i h0; rw [if_pos h0]
      exact hk (.sc .junk) _ _ _ (by simp [okV]) (Le.refl F) hs h
    · rename_i h0; rw [if_neg h0]
      split at h
      · exact h.elim
      · rename_i b o
        split at h
        · exact h.elim
        · rename_i l hml
          have hml := cells?_iff hml
          obtain ⟨h1, h2, h3⟩ := h
          simp only [AA.b_some, AA.o_some, hs.rw hml]
          refine ⟨h1, by rw [erl_length]; exact h2, ?_⟩
          have e : setAt (erl l) o (zeros z n) = erl (setAtG l o ((zeros z n).map .sc)) := by rw [erl_setAt, erl_sc]
          rw [e]
          exact hk (.sc .junk) _ _ _ (by simp [okV]) (Le.refl F) (hs.upd hml ((hs.ok hml).setAt (okL.sc _))) h3
  · exact h.elim
theorem store_sound {n : Nat} {p v : V} (h : storeV n p v M K) (hs : SM M H F) (hok : okV F v) (hk : ∀ v M' H' F', okV F' v → Le F F' → SM M' H' F' → K v M' → K' (er v) H') : storeP n (er p) (er v) H K' := by
  unfold storeV at h
  split at h
  · rename_i b o c hc
    split at h
    · exact h.elim
    · rename_i l hml
      have hml := cells?_iff hml
      obtain ⟨h1, h2, h3, h4⟩ := h
      simp only [er, storeP, cellsV_er hc, hs.rw hml]
      refine ⟨by rw [erl_length]; exact h1, all_oneV h2, by rw [erl_length]; exact h3, ?_⟩
      rw [← erl_setAt]
      exact hk (.sc .junk) _ _ _ (by simp [okV]) (Le.refl F) (hs.upd hml ((hs.ok hml).setAt (cellsV_ok hc hok))) h4
  · exact h.elim
theorem call_sound {f : FuncId} {args : List V} (h : VCall P f args M K) (hs : SM M H F) (hok : okL F args) (hk : ∀ v M' H' F', okV F' v → Le F F' → SM M' H' F' → K v M' → K' (er v) H') : ACall P f (args.map er) H K' :=
  (h H F hs hok).mono fun a H' ⟨r, M', F', e, h1, h2, h3, h4⟩ => by subst e; exact hk r M' H' F' h1 h2 h3 h4
theorem stepV_quiet {q : IOp} (h : optV (qopV q e M) M K) (hs : SM M H F) (he : okE F e) (hk : ∀ v M' H' F', okV F' v → Le F F' → SM M' H' F' → K v M' → K' (er v) H') : optP (qop q (erE e) H) H K' := by
  unfold optV at h
  split at h
  · rename_i v hv
    obtain ⟨h1, h2⟩ := qopV_sound hv hs he
    rw [h1]
    exact hk v M H F h2 (Le.refl F) hs h
  · exact h.elim
theorem stepV_sound {q : IOp} (h : stepV P q e M K) (hs : SM M H F) (he : okE F e) (hk : ∀ v M' H' F', okV F' v → Le F F' → SM M' H' F' → K v M' → K' (er v) H') : stepL P q (erE e) H K' := by
  have hev := fun x => er_ev e x
  have hok := fun x => ok_ev he x
  cases q with
  | alloc z => have := newP_sound h hs (okL.sc z) hk; rw [erl_sc] at this; exact this
  | box x =>
    simp only [stepV] at h
    simp only [stepL, boxP]
    cases hc : cellsV (x.evV e) with
    | none => rw [hc] at h; exact h.elim
    | some c =>
      rw [hc] at h
      rw [← hev, cellsV_er hc]
      exact newP_sound h hs (cellsV_ok hc (hok x)) hk
  | bslc sz len z ps =>
    simp only [stepV] at h
    simp only [stepL]
    cases hc : bslV e sz ((zeros z len).map .sc) ps with
    | none => rw [hc] at h; exact h.elim
    | some c =>
      rw [hc] at h
      obtain ⟨h1, h2⟩ := bsl_sound hc he (okL.sc _)
      rw [erl_sc] at h1
      rw [h1]
      exact newS_sound h hs h2 hk
  | mks z by_ l =>
    simp only [stepV, hev] at h
    simp only [stepL]
    unfold mksV at h
    split at h
    · rename_i n hn
      obtain ⟨h1, h2, h3, h4⟩ := h
      rw [hn]
      refine ⟨h1, h2, h3, ?_⟩
      have := newS_sound h4 hs (okL.sc _) hk
      rwa [erl_sc] at this
    · exact h.elim
  | mkc z by_ l c =>
    simp only [stepV, hev] at h
    simp only [stepL]
    unfold mkcV at h
    split at h
    · rename_i n m hn hm
      obtain ⟨h0, h1, h2, h3, h4⟩ := h
      rw [hn, hm]
      refine ⟨h0, h1, h2, h3, ?_⟩
      obtain ⟨F', g1, g2⟩ := hs.alloc (okL.sc (F := F) (zeros z m.toNat))
      have := hk (.sc (.sl (some (H.size, 0)) n.toNat m.toNat true z.length)) _ _ _ (by simp [okV]) g1 g2 (h4 _ hs.fresh)
      rwa [erl_sc] at this
    · exact h.elim
  | bad => exact h.elim
  | bslo sz len z ps =>
    simp only [stepV] at h
    simp only [stepL]
    cases hc : bslV e sz ((zeros z len).map .sc) ps with
    | none => rw [hc] at h; exact h.elim
    | some c =>
      rw [hc] at h
      obtain ⟨h1, h2⟩ := bsl_sound hc he (okL.sc _)
      rw [erl_sc] at h1
      rw [h1]
      exact newS_sound h hs h2 hk
  | slcd sz x =>
    simp only [stepV] at h
    simp only [stepL, ← hev]
    unfold slcdV at h
    split at h
    · rename_i A n c ex k q
      rw [q]
      simp only [er, slcdP]
      obtain ⟨h1, h2, h3, h4⟩ := h
      refine ⟨h1, h2, h3, ?_⟩
      split at h4
      · rename_i hc
        rw [if_pos hc]
        exact ⟨hk (.sc _) _ _ _ (by simp [okV]) (Le.refl F) hs h4.1, hk (.sc _) _ _ _ (by simp [okV]) (Le.refl F) hs h4.2⟩
      · rename_i hc
        rw [if_neg hc]
        exact hk (.sc _) _ _ _ (by simp [okV]) (Le.refl F) hs h4
    · rename_i A n c ex k xs q
      have hx := hok x
      rw [q] at hx ⊢
      simp only [er, slcdP]
      simp only [okV] at hx
      obtain ⟨h1, h2, h3, h4⟩ := h
      refine ⟨h1, h2, h3, ?_⟩
      split at h4
      · rename_i hc
        rw [if_pos hc]
        exact ⟨hk (.fs ..) _ _ _ (by simp only [okV, erl]; exact ⟨Rd.nil _ _ _, trivial⟩) (Le.refl F) hs h4.1, hk (.fs ..) _ _ _ (by simp only [okV, erl]; exact ⟨Rd.nil _ _ _, trivial⟩) (Le.refl F) hs h4.2⟩
      · rename_i hc
        rw [if_neg hc]
        refine hk (.fs ..) _ _ _ ?_ (Le.refl F) hs h4
        simp only [okV]
        refine ⟨?_, (hx.2.drop _).take _⟩
        by_cases hc1 : c = 1
        · have : n - 1 = 0 := by omega
          rw [this, Nat.zero_mul]
          simp only [List.take_zero, erl]
          exact Rd.nil _ _ _
        · rw [if_neg hc1, erl_take, erl_drop]
          simp only [AA.b_some, AA.o_some]
          exact hx.1.sub _ _
    · exact h.elim
  | ovl x y =>
    simp only [stepV] at h
    simp only [stepL, ← hev]
    unfold ovlV at h
    split at h
    · rename_i b1 o1 n1 c1 e1 k1 b2 o2 n2 c2 e2 k2 q1 q2
      obtain ⟨h1, h2, ⟨v, l, h3⟩, h4⟩ := h
      obtain ⟨l1, h2⟩ := Option.isSome_iff_exists.1 h2
      simp only [q1, q2, er, ovlP]
      have h2 := cells?_iff h2
      have h3 := cells?_iff h3
      refine ⟨h1, by rw [hs.rw h2]; rfl, ⟨er v, erl l, by rw [hs.rw h3]; simp [erl]⟩, ?_⟩
      exact hk (.sc (.bool false)) _ _ _ (by simp [okV]) (Le.refl F) hs h4
    · exact h.elim
  | store x n v => simp only [stepL, ← hev]; exact store_sound h hs (hok v) hk
  | app sz by_ s x => simp only [stepL, ← hev]; exact app_sound h hs (hok s) (hok x) hk
  | copy sz d s => simp only [stepL, ← hev]; exact copy_sound h hs (hok s) hk
  | clear z x => simp only [stepL, ← hev]; exact clear_sound h hs hk
  | call f args =>
    simp only [stepL, ← erl_evs]
    exact call_sound h hs (ok_evs he args) hk
  | callv x args =>
    simp only [stepV] at h
    simp only [stepL, ← hev]
    unfold callvV at h
    split at h
    · rename_i f caps hx
      have h0 := hok x
      rw [hx] at h0 ⊢
      simp only [er, callvP]
      have := call_sound h hs ((ok_evs he args).append (by simpa [okV] using h0)) hk
      rw [List.map_append, erl_evs, ← erl_map] at this
      exact this
    · exact h.elim
  | mv x => exact stepV_quiet (q := .mv x) h hs he hk
  | mkfn f caps => exact stepV_quiet (q := .mkfn f caps) h hs he hk
  | appz z by_ s l =>
    simp only [stepV, hev] at h
    simp only [stepL]
    unfold appzV at h
    split at h
    · rename_i A n c k m hA hm
      obtain ⟨h0, h1, h2, h3, h4⟩ := h
      split at h4
      · exact h4.elim
      · rename_i old hold
        obtain ⟨q1, q2, q3⟩ := cellsS_sound hold hs (hok s)
        have e1 : s.ev (erE e) = .sl A n c true k := by rw [← hev, hA]; simp [er]
        rw [e1, hm]
        refine ⟨h0, h1, h2, h3, ?_⟩
        rw [q3 A n c true k (by rw [hA]; simp [er])]
        simp only
        have e2 : erl old ++ zeros z m.toNat = erl (old ++ (zeros z m.toNat).map .sc) := by rw [erl_append, erl_sc]
        rw [e2]
        exact newS_sound h4 hs (q1.append (okL.sc _)) hk
    · exact h.elim
  | mkmap =>
    simp only [stepV] at h
    simp only [stepL]
    obtain ⟨F', h1, h2⟩ := hs.mkmap
    exact hk (.sc (.map (some H.size))) _ _ _ (by simp [okV]) h1 h2 (h _ hs.fresh)
  | mapset kt x k v =>
    simp only [stepV, hev] at h
    simp only [stepL]
    unfold mapsetV at h
    split at h
    · rename_i b hxb
      rw [hxb]
      simp only [mapsetP]
      split at h
      · rename_i es q hes hkk
        split at h
        · rename_i es' hset
          have hb := ents?_iff hes
          rw [hs.mapAt hb, hkk]
          simp only [hset]
          exact hk (.sc .junk) _ _ _ (by simp [okV]) (Le.refl F) (hs.remap hb) h
        · exact h.elim
      · exact h.elim
    · exact h.elim
  | _ => exact stepV_quiet h hs he hk
end
end Go.M2

namespace Go.M2
def gWantV (g : Option (Nat × Bool)) (e : EnvV) (A B : Prop) : Prop := match g with
  | none => A
  | some (t, want) => match er (e t) with
    | .bool b => if b = want then A else B
    | .tup [] => B
    | _ => False
def noV : V := .sc (.tup [])
def wpLV (P : Program) : List GOp → (EnvV → MH → Prop) → EnvV → MH → Prop
  | [], K, e, M => K e M
  | g :: t, K, e, M => gWantV g.g e (stepV P g.op e M fun v M' => wpLV P t K (putV e g.dst v) M') (wpLV P t K (putV e g.dst noV) M)
def gqV (g : GOp) (e : EnvV) (M : MH) : Option V := match g.g with
  | none => qopV g.op e M
  | some (t, want) => match er (e t) with
    | .bool b => if b = want then qopV g.op e M else some noV
    | .tup [] => some noV
    | _ => none
def chkAllV (gl : List GOp) (rs : List Nat) (e : EnvV) (M : MH) : Prop := match rs with
  | [] => True
  | j :: t => (if (gAt gl j).op.quiet then (match (gAt gl j).dst with | some d => ∃ v, gqV (gAt gl j) e M = .some v ∧ er v = er (e d) | none => True) else True) ∧ chkAllV gl t e M
def alcV (e : EnvV) : IOp → Option (List V)
  | .alloc z => some (z.map .sc)
  | .bslc sz len z ps => bslV e sz ((zeros z len).map .sc) ps
  | .mks z by_ l => (mksC z by_ (er (l.evV e))).map (List.map .sc)
  | _ => none
def preAllV (gl : List GOp) (rs : List Nat) (e : EnvV) : Prop := match rs with
  | [] => True
  | j :: t => (if (gAt gl j).op.quiet then True else (alcV e (gAt gl j).op).isSome = true) ∧ preAllV gl t e
def wpDV (P : Program) (gl : List GOp) : List (Nat × List Nat) → (EnvV → MH → Prop) → EnvV → MH → Prop
  | [], K, e, M => K e M
  | (i, rs) :: t, K, e, M => preAllV gl rs e ∧ gWantV (gAt gl i).g e
      (stepV P (gAt gl i).op e M fun v M' => chkAllV gl rs (putV e (gAt gl i).dst v) M' ∧ wpDV P gl t K (putV e (gAt gl i).dst v) M')
      (wpDV P gl t K (putV e (gAt gl i).dst noV) M)
def keepV (k : List Nat) (e : EnvV) : EnvV := match k with
  | [] => fun _ => .sc .junk
  | s :: t => updV (keepV t e) s (e s)
def kpV (k : Option (List Nat)) (e : EnvV) : EnvV := match k with
  | none => e
  | some l => keepV l e
theorem erE_keep (k : List Nat) (e : EnvV) : erE (keepV k e) = keepA k (erE e) := by
  induction k with
  | nil => funext n; simp [erE, keepV, keepA, er]
  | cons s k ih =>
    have := erE_put (keepV k e) (some s) (e s)
    simp only [putV, putE] at this
    simp only [keepV, keepA, this, ih]; rfl
theorem erE_kp (k : Option (List Nat)) (e : EnvV) : erE (kpV k e) = kpA k (erE e) := by
  cases k with
  | none => rfl
  | some l => exact erE_keep l e
theorem okE.keep {F : Heap} {e : EnvV} (he : okE F e) (k : List Nat) : okE F (keepV k e) := by
  induction k with
  | nil => intro n; simp [keepV, okV]
  | cons s k ih => exact ih.put (he s) (some s)
def FzE (e : EnvV) (M : MH) (e' : EnvV) (M' : MH) : Prop := ∀ H F, SM M H F → okE F e → ∃ F', Le F F' ∧ SM M' H F' ∧ okE F' e' ∧ erE e' = erE e
theorem FzE.refl (e : EnvV) (M : MH) : FzE e M e M := fun H F hs he => ⟨F, Le.refl F, hs, he, rfl⟩
theorem FzE.trans {e1 e2 e3 : EnvV} {M1 M2 M3 : MH} (h : FzE e1 M1 e2 M2) (k : FzE e2 M2 e3 M3) : FzE e1 M1 e3 M3 := fun H F hs he => by
  obtain ⟨F1, a1, a2, a3, a4⟩ := h H F hs he
  obtain ⟨F2, b1, b2, b3, b4⟩ := k H F1 a2 a3
  exact ⟨F2, a1.trans b1, b2, b3, b4.trans a4⟩
theorem FzE.cells {e : EnvV} {M M1 : MH} {b : Nat} {l l' : List V} (hb : M b = .some l) (hz : Fz M l M1 l') (hb1 : M1 b = .some l) : FzE e M e (M1.set b l') := fun H F hs he => by
  obtain ⟨h0, F', h1, h2, h3⟩ := hz.sound hs (hs.own _ _ hb).2.2.2
  refine ⟨F', h1, ⟨h2.size, h2.le, fun i l2 hi => ?_, fun i es hi => ?_⟩, he.mono h1, rfl⟩
  · simp only [MH.set] at hi
    split at hi
    · rename_i e; cases hi; subst e
      obtain ⟨q1, q2, q3, q4⟩ := h2.own _ _ hb1
      exact ⟨q1, by rw [h0]; exact q2, q3, h3⟩
    · exact h2.own i l2 hi
  · simp only [MH.set] at hi
    split at hi
    · cases hi
    · exact h2.map i es hi
theorem FzE.slot {e : EnvV} {M M1 : MH} {d : Nat} {v v' : V} (hd : e d = v) (hz : Fz M [v] M1 [v']) : FzE e M (putV e (some d) v') M1 := fun H F hs he => by
  obtain ⟨h0, F', h1, h2, h3⟩ := hz.sound hs (by simp only [okL]; exact ⟨hd ▸ he d, trivial⟩)
  simp only [okL] at h3
  refine ⟨F', h1, h2, (he.mono h1).put h3.1 _, ?_⟩
  rw [erE_put]
  simp only [erl, List.cons.injEq, and_true] at h0
  rw [h0, ← hd]
  funext n
  simp only [putE, upd, erE]
  split
  · rename_i e; rw [e]
  · rfl
theorem okE.kp {F : Heap} {e : EnvV} (he : okE F e) (k : Option (List Nat)) : okE F (kpV k e) := by
  cases k with
  | none => exact he
  | some l => exact he.keep l
def wpKV (P : Program) : List (GOp × Option (List Nat)) → (EnvV → MH → Prop) → EnvV → MH → Prop
  | [], K, e, M => K e M
  | (g, k) :: t, K, e, M => gWantV g.g e (stepV P g.op e M fun v M' => wpKV P t K (kpV k (putV e g.dst v)) M') (wpKV P t K (kpV k (putV e g.dst noV)) M)
abbrev PostV := EX → EnvV → MH → Prop
def thenQV (K : EnvV → MH → Prop) (Q : PostV) : PostV
  | .normal, e, M => K e M
  | x, e, M => Q x e M
def blockQV (id : Nat) (Q : PostV) : PostV
  | .exit i, e, M => if i = id then Q .normal e M else Q (.exit i) e M
  | x, e, M => Q x e M
def wpV (P : Program) : IR → PostV → EnvV → MH → Prop
  | .skip, Q, e, M => Q .normal e M
  | .ops l, Q, e, M => wpLV P l (Q .normal) e M
  | .dops l s, Q, e, M => wpDV P l s (Q .normal) e M
  | .kops l, Q, e, M => wpKV P l (Q .normal) e M
  | .kd l s k, Q, e, M => wpDV P l s (fun e' M' => Q .normal (keepV k e') M') e M
  | .seq a b, Q, e, M => wpV P a (thenQV (wpV P b Q) Q) e M
  | .cond c a b, Q, e, M => condP (er (c.evV e)) (wpV P a Q e M) (wpV P b Q e M)
  | .block id a, Q, e, M => wpV P a (blockQV id Q) e M
  | .loop a, Q, e, M => ∃ (I : EnvV → MH → Prop) (μ : EnvV → MH → Nat), (∃ e0 M0, FzE e M e0 M0 ∧ I e0 M0) ∧ ∀ e M, I e M → wpV P a (thenQV (fun e' M' => ∃ e1 M1, FzE e' M' e1 M1 ∧ I e1 M1 ∧ μ e1 M1 < μ e M) Q) e M
  | .exit id, Q, e, M => Q (.exit id) e M
  | .ret, Q, e, M => Q .ret e M
def dn (F0 : Heap) (K : EnvV → MH → Prop) (e' : Env) (H : Heap) : Prop := ∃ e M F, e' = erE e ∧ okE F e ∧ SM M H F ∧ Le F0 F ∧ K e M
theorem dn.mk {F0 F H : Heap} {K : EnvV → MH → Prop} {e : EnvV} {M : MH} (he : okE F e) (hs : SM M H F) (hF : Le F0 F) (h : K e M) : dn F0 K (erE e) H := ⟨e, M, F, rfl, he, hs, hF, h⟩
section
variable {P : Program}
theorem gWant_er {g : Option (Nat × Bool)} {e : EnvV} {A B A' B' : Prop} (h : gWantV g e A B) (ha : A → A') (hb : B → B') : gWant g (erE e) A' B' := by
  unfold gWantV at h
  unfold gWant
  split at h
  · exact ha h
  · rename_i t want
    simp only [erE]
    split at h
    · rename_i b hb'
      rw [hb']
      simp only
      split at h
      · rename_i hw; rw [if_pos hw]; exact ha h
      · rename_i hw; rw [if_neg hw]; exact hb h
    · rename_i hb'; rw [hb']; exact hb h
    · exact h.elim
theorem wpLV_sound : ∀ {gl : List GOp} {K : EnvV → MH → Prop} {e : EnvV} {M : MH} {H F F0 : Heap} {K' : Env → Heap → Prop}, wpLV P gl K e M → SM M H F → okE F e → Le F0 F → (∀ e' H', dn F0 K e' H' → K' e' H') → wpL P gl K' (erE e) H
  | [], K, e, M, H, F, F0, K', h, hs, he, hF, hk => hk _ _ (dn.mk he hs hF h)
  | g :: t, K, e, M, H, F, F0, K', h, hs, he, hF, hk => by
    simp only [wpLV] at h
    simp only [wpL]
    refine gWant_er h (fun h => ?_) (fun h => ?_)
    · refine stepV_sound h hs he fun v M' H' F' hv hle hs' h' => ?_
      rw [← erE_put]
      exact wpLV_sound h' hs' ((he.mono hle).put hv _) (hF.trans hle) hk
    · have := wpLV_sound h hs (he.put (v := noV) (by simp [noV, okV]) _) hF hk
      rwa [erE_put] at this
theorem wpKV_sound : ∀ {gl : List (GOp × Option (List Nat))} {K : EnvV → MH → Prop} {e : EnvV} {M : MH} {H F F0 : Heap} {K' : Env → Heap → Prop}, wpKV P gl K e M → SM M H F → okE F e → Le F0 F → (∀ e' H', dn F0 K e' H' → K' e' H') → wpKA P gl K' (erE e) H
  | [], K, e, M, H, F, F0, K', h, hs, he, hF, hk => hk _ _ (dn.mk he hs hF h)
  | (g, k) :: t, K, e, M, H, F, F0, K', h, hs, he, hF, hk => by
    simp only [wpKV] at h
    simp only [wpKA]
    refine gWant_er h (fun h => ?_) (fun h => ?_)
    · refine stepV_sound h hs he fun v M' H' F' hv hle hs' h' => ?_
      rw [← erE_put, ← erE_kp]
      exact wpKV_sound h' hs' (((he.mono hle).put hv _).kp k) (hF.trans hle) hk
    · have := wpKV_sound h hs ((he.put (v := noV) (by simp [noV, okV]) g.dst).kp k) hF hk
      rwa [erE_kp, erE_put] at this
theorem gqV_sound {g : GOp} {e : EnvV} {M : MH} {H F : Heap} {v : V} (h : gqV g e M = .some v) (hs : SM M H F) (he : okE F e) : gq g (erE e) H = .some (er v) := by
  obtain ⟨d, op, g⟩ := g
  cases g with
  | none => exact (qopV_sound h hs he).1
  | some tw =>
    obtain ⟨t, want⟩ := tw
    simp only [gqV] at h
    simp only [gq, erE]
    split at h
    · rename_i b hb
      rw [hb]
      simp only
      split at h
      · rename_i hw; rw [if_pos hw]; exact (qopV_sound h hs he).1
      · rename_i hw; rw [if_neg hw]; cases h; simp [er, noV]
    · rename_i hb; rw [hb]; cases h; simp [er, noV]
    · cases h
theorem chkAllV_sound {gl : List GOp} {e : EnvV} {M : MH} {H F : Heap} (hs : SM M H F) (he : okE F e) : ∀ {rs : List Nat}, chkAllV gl rs e M → chkAll gl rs (erE e) H
  | [], _ => trivial
  | j :: t, h => by
    simp only [chkAllV] at h
    simp only [chkAll]
    refine ⟨?_, chkAllV_sound hs he h.2⟩
    have h1 := h.1
    by_cases hq : (gAt gl j).op.quiet = true
    · rw [if_pos hq] at h1 ⊢
      cases hd : (gAt gl j).dst with
      | none => trivial
      | some d =>
        rw [hd] at h1
        obtain ⟨v, hv, hvd⟩ := h1
        have := gqV_sound hv hs he
        simp only [this, hvd, erE]
    · rw [if_neg hq]; trivial
theorem alcV_sound {e : EnvV} {q : IOp} {F : Heap} (he : okE F e) (h : (alcV e q).isSome = true) : (alc (erE e) q).isSome = true := by
  cases q with
  | alloc z => rfl
  | bslc sz len z ps =>
    simp only [alcV] at h
    cases hb : bslV e sz ((zeros z len).map .sc) ps with
    | none => rw [hb] at h; cases h
    | some l =>
      have := (bsl_sound hb he (okL.sc _)).1
      rw [erl_sc] at this
      simp only [alc, this]; rfl
  | mks z by_ l =>
    simp only [alcV] at h
    simp only [alc]
    rw [← er_ev]
    cases hc : mksC z by_ (er (l.evV e)) with
    | none => rw [hc] at h; cases h
    | some _ => rfl
  | _ => simp [alcV] at h
theorem preAllV_sound {gl : List GOp} {e : EnvV} {F : Heap} (he : okE F e) : ∀ {rs : List Nat}, preAllV gl rs e → preAll gl rs (erE e)
  | [], _ => trivial
  | j :: t, h => by
    simp only [preAllV] at h
    simp only [preAll]
    refine ⟨?_, preAllV_sound he h.2⟩
    have h1 := h.1
    split at h1
    · rename_i hq; rw [if_pos hq]; trivial
    · rename_i hq; rw [if_neg hq]; exact alcV_sound he h1
theorem wpDV_sound {gl : List GOp} : ∀ {s : List (Nat × List Nat)} {K : EnvV → MH → Prop} {e : EnvV} {M : MH} {H F F0 : Heap} {K' : Env → Heap → Prop}, wpDV P gl s K e M → SM M H F → okE F e → Le F0 F → (∀ e' H', dn F0 K e' H' → K' e' H') → wpD P gl s K' (erE e) H
  | [], K, e, M, H, F, F0, K', h, hs, he, hF, hk => hk _ _ (dn.mk he hs hF h)
  | (i, rs) :: t, K, e, M, H, F, F0, K', h, hs, he, hF, hk => by
    simp only [wpDV] at h
    simp only [wpD]
    refine ⟨preAllV_sound he h.1, gWant_er h.2 (fun h => ?_) (fun h => ?_)⟩
    · refine stepV_sound h hs he fun v M' H' F' hv hle hs' h' => ?_
      rw [← erE_put]
      have he' := (he.mono hle).put hv (gAt gl i).dst
      exact ⟨chkAllV_sound hs' he' h'.1, wpDV_sound h'.2 hs' he' (hF.trans hle) hk⟩
    · have := wpDV_sound h hs (he.put (v := noV) (by simp [noV, okV]) _) hF hk
      rwa [erE_put] at this
theorem wpV_sound : ∀ (ir : IR) {Q : PostV} {Q' : Post} {e : EnvV} {M : MH} {H F F0 : Heap}, wpV P ir Q e M → SM M H F → okE F e → Le F0 F → (∀ x e' H', dn F0 (Q x) e' H' → Q' x e' H') → wp P ir Q' (erE e) H
  | .skip, Q, Q', e, M, H, F, F0, h, hs, he, hF, hk => hk _ _ _ (dn.mk he hs hF h)
  | .ops l, Q, Q', e, M, H, F, F0, h, hs, he, hF, hk => wpLV_sound h hs he hF (hk .normal)
  | .dops l s, Q, Q', e, M, H, F, F0, h, hs, he, hF, hk => wpDV_sound h hs he hF (hk .normal)
  | .kops l, Q, Q', e, M, H, F, F0, h, hs, he, hF, hk => wpKV_sound h hs he hF (hk .normal)
  | .kd l s k, Q, Q', e, M, H, F, F0, h, hs, he, hF, hk => by
    refine wpDV_sound h hs he hF ?_
    rintro e' H' ⟨e1, M1, F1, rfl, h1, h2, h3, h4⟩
    rw [← erE_keep]
    exact hk .normal _ _ (dn.mk (h1.keep k) h2 h3 h4)
  | .seq a b, Q, Q', e, M, H, F, F0, h, hs, he, hF, hk => by
    refine wpV_sound a (Q := thenQV (wpV P b Q) Q) h hs he hF ?_
    rintro x e' H' ⟨e1, M1, F1, rfl, h1, h2, h3, h4⟩
    cases x with
    | normal => exact wpV_sound b h4 h2 h1 h3 hk
    | exit i => exact hk _ _ _ (dn.mk h1 h2 h3 h4)
    | ret => exact hk _ _ _ (dn.mk h1 h2 h3 h4)
  | .cond c a b, Q, Q', e, M, H, F, F0, h, hs, he, hF, hk => by
    simp only [wpV, er_ev] at h
    simp only [wp]
    unfold condP at h ⊢
    split at h
    · rename_i t ht
      split at h
      · rename_i hb; rw [if_pos hb]; exact wpV_sound a h hs he hF hk
      · rename_i hb; rw [if_neg hb]; exact wpV_sound b h hs he hF hk
    · exact h.elim
  | .block id a, Q, Q', e, M, H, F, F0, h, hs, he, hF, hk => by
    refine wpV_sound a (Q := blockQV id Q) h hs he hF ?_
    rintro x e' H' ⟨e1, M1, F1, rfl, h1, h2, h3, h4⟩
    cases x with
    | normal => exact hk _ _ _ (dn.mk h1 h2 h3 h4)
    | exit i =>
      simp only [blockQV] at h4
      simp only [blockQ]
      split at h4
      · rename_i hi; rw [if_pos hi]; exact hk _ _ _ (dn.mk h1 h2 h3 h4)
      · rename_i hi; rw [if_neg hi]; exact hk _ _ _ (dn.mk h1 h2 h3 h4)
    | ret => exact hk _ _ _ (dn.mk h1 h2 h3 h4)
  | .loop a, Q, Q', e, M, H, F, F0, h, hs, he, hF, hk => by
    obtain ⟨I, μ, ⟨e0, M0, hz0, h0⟩, hr⟩ := h
    obtain ⟨Fz0, z1, z2, z3, z4⟩ := hz0 H F hs he
    -- the least measure of what may stand above
    let J : Nat → Env → Heap → Prop := fun n e' H' => ∃ e1 M1 F1, e' = erE e1 ∧ okE F1 e1 ∧ SM M1 H' F1 ∧ Le F0 F1 ∧ I e1 M1 ∧ μ e1 M1 = n
    let I' : Env → Heap → Prop := fun e' H' => ∃ n, J n e' H'
    have least : ∀ e' H', I' e' H' → ∃ n, J n e' H' ∧ ∀ m, J m e' H' → n ≤ m := by
      intro e' H' ⟨n, hn⟩
      induction n using Nat.strongRecOn with
      | _ n ih =>
        by_cases hm : ∃ m, m < n ∧ J m e' H'
        · obtain ⟨m, h1, h2⟩ := hm; exact ih m h1 h2
        · exact ⟨n, hn, fun m hm' => Nat.le_of_not_lt fun hlt => hm ⟨m, hlt, hm'⟩⟩
    let μ' : Env → Heap → Nat := fun e' H' => @dite _ (I' e' H') (Classical.propDecidable _) (fun h => Classical.choose (least e' H' h)) (fun _ => 0)
    have hμ : ∀ e' H' (h : I' e' H'), J (μ' e' H') e' H' ∧ ∀ m, J m e' H' → μ' e' H' ≤ m := by
      intro e' H' h
      have e1 : μ' e' H' = Classical.choose (least e' H' h) := by simp only [μ']; rw [dif_pos h]
      rw [e1]
      exact Classical.choose_spec (least e' H' h)
    refine ⟨I', μ', ⟨_, e0, M0, Fz0, z4.symm, z3, z2, hF.trans z1, h0, rfl⟩, fun e' H' hI => ?_⟩
    obtain ⟨⟨e1, M1, F1, rfl, q1, q2, q3, q4, q5⟩, _⟩ := hμ e' H' hI
    refine wpV_sound a (hr e1 M1 q4) q2 q1 q3 ?_
    rintro x e'' H'' ⟨e2, M2, F2, rfl, k1, k2, k3, k4⟩
    cases x with
    | normal =>
      obtain ⟨e3, M3, y1, y2, y3⟩ := k4
      obtain ⟨F3, z1, z2, z3, z4⟩ := y1 _ _ k2 k1
      have hI2 : I' (erE e2) H'' := ⟨_, e3, M3, F3, z4.symm, z3, z2, k3.trans z1, y2, rfl⟩
      refine ⟨hI2, ?_⟩
      have := (hμ _ _ hI2).2 _ ⟨e3, M3, F3, z4.symm, z3, z2, k3.trans z1, y2, rfl⟩
      rw [← q5]
      exact Nat.lt_of_le_of_lt this y3
    | exit i => exact hk _ _ _ (dn.mk k1 k2 k3 k4)
    | ret => exact hk _ _ _ (dn.mk k1 k2 k3 k4)
  | .exit id, Q, Q', e, M, H, F, F0, h, hs, he, hF, hk => hk _ _ _ (dn.mk he hs hF h)
  | .ret, Q, Q', e, M, H, F, F0, h, hs, he, hF, hk => hk _ _ _ (dn.mk he hs hF h)
def resV3 (e : EnvV) (M : MH) : RV → Option V
  | .t n => some (e n)
  | .c a n ag => loadV M n ag (e a)
def resVs3 (e : EnvV) (M : MH) : List RV → Option (List V)
  | [] => some []
  | r :: t => match resV3 e M r, resVs3 e M t with
    | some x, some l => some (x :: l)
    | _, _ => none
def retV3 (rs : List RV) (e : EnvV) (M : MH) : Option V := match resVs3 e M rs with
  | some [x] => some x
  | some l => some (.tup l)
  | none => none
def retPV (rs : List RV) (R : V → MH → Prop) (e : EnvV) (M : MH) : Prop := optV (retV3 rs e M) M R
def postV (rs : List RV) (R : V → MH → Prop) : PostV
  | .normal, e, M => retPV rs R e M
  | .ret, e, M => retPV rs R e M
  | .exit _, _, _ => False
def envV (args : List V) : EnvV := fun n => args.getD n (.sc .junk)
theorem erE_env (args : List V) : erE (envV args) = env0 (args.map er) := by
  funext n
  simp only [erE, envV, env0, List.getD, List.getElem?_map]
  cases args[n]? <;> simp [er]
theorem okE_env {F : Heap} {args : List V} (h : okL F args) : okE F (envV args) := by
  intro n
  simp only [envV, List.getD]
  cases hn : args[n]? with
  | none => simp [okV]
  | some v => exact h.get hn
theorem load_sound {M : MH} {H F : Heap} {n : Nat} {ag : Bool} {x v : V} (h : loadV M n ag x = .some v) (hs : SM M H F) (hx : okV F x) : loadF H n ag (er x) = .some (er v) ∧ okV F v := by
  unfold loadV at h
  split at h
  · rename_i b o cs
    simp only [okV] at hx
    exact loadO_sound h (hx.1.le hs.leH) hx.2
  · rename_i b o
    cases hm : cells? (M b) with
    | none => rw [hm] at h; cases h
    | some l =>
      rw [hm] at h
      have hm := cells?_iff hm
      refine loadO_sound (l := l.drop o) h ?_ ((hs.ok hm).drop o)
      have h1 := hs.rd hm
      intro i x hi
      rw [erl_drop, List.getElem?_drop] at hi
      have := h1 (o + i) x hi
      simpa using this
  · cases h
theorem resVs_sound {M : MH} {H F : Heap} {e : EnvV} (hs : SM M H F) (he : okE F e) : ∀ {rs : List RV} {l : List V}, resVs3 e M rs = .some l → resVs (erE e) H rs = .some (erl l) ∧ okL F l
  | [], l, h => by simp only [resVs3, Option.some.injEq] at h; subst h; exact ⟨rfl, by simp [okL]⟩
  | r :: t, l, h => by
    simp only [resVs3] at h
    split at h
    · rename_i x l' hx hl
      cases h
      obtain ⟨h1, h2⟩ := resVs_sound hs he hl
      have : resV (erE e) H r = .some (er x) ∧ okV F x := by
        cases r with
        | t n => simp only [resV3, Option.some.injEq] at hx; subst hx; exact ⟨rfl, he n⟩
        | c a n ag => exact load_sound hx hs (he a)
      simp only [resVs, this.1, h1, erl, okL]
      exact ⟨trivial, this.2, h2⟩
    · cases h
theorem retPV_sound {rs : List RV} {R : V → MH → Prop} {e : EnvV} {M : MH} {H F : Heap} {R' : AV → Heap → Prop} (h : retPV rs R e M) (hs : SM M H F) (he : okE F e) (hr : ∀ v, okV F v → R v M → R' (er v) H) : retP rs R' (erE e) H := by
  unfold retPV optV at h
  split at h
  · rename_i v hv
    unfold retV3 at hv
    split at hv
    · rename_i x hx
      cases hv
      obtain ⟨h1, h2⟩ := resVs_sound hs he hx
      simp only [okL] at h2
      unfold retP retV
      rw [h1]
      exact hr _ h2.1 h
    · rename_i l hne hl
      cases hv
      obtain ⟨h1, h2⟩ := resVs_sound hs he hl
      unfold retP retV
      rw [h1]
      have h3 := hr (.tup l) (by simpa [okV] using h2) h
      simp only [er] at h3
      match l, hne with
      | [], _ => exact h3
      | [x], hne => exact absurd rfl (hne x)
      | x :: y :: t, _ => exact h3
    · cases hv
  · exact h.elim
theorem VCall.mono {f : FuncId} {args : List V} {M : MH} {R R' : V → MH → Prop} (h : VCall P f args M R) (hr : ∀ r M', R r M' → R' r M') : VCall P f args M R' :=
  fun H F hs ha => (h H F hs ha).mono fun a H' ⟨r, M', F', h1, h2, h3, h4, h5⟩ => ⟨r, M', F', h1, h2, h3, h4, hr _ _ h5⟩
theorem vcall_of_wp {n : Nat} {f : FuncId} {rs : List RV} {body : IR} {args : List V} {M : MH} {R : V → MH → Prop}
    (ha : ∀ (args : List AV) (H : Heap) (R : AV → Heap → Prop), args.length = n → wp P body (postQ rs R) (env0 args) H → ACall P f args H R) (hl : args.length = n)
    (h : wpV P body (postV rs R) (envV args) M) : VCall P f args M R := by
  intro H F hs hok
  refine ha _ _ _ (by simpa using hl) ?_
  rw [← erE_env]
  refine wpV_sound body h hs (okE_env hok) (Le.refl F) ?_
  rintro x e' H' ⟨e1, M1, F1, rfl, h1, h2, h3, h4⟩
  cases x with
  | normal => exact retPV_sound h4 h2 h1 fun v hv hr => ⟨v, M1, F1, rfl, hv, h3, h2, hr⟩
  | ret => exact retPV_sound h4 h2 h1 fun v hv hr => ⟨v, M1, F1, rfl, hv, h3, h2, hr⟩
  | exit i => exact h4.elim
theorem VCall.of {f : FuncId} {args : List V} {M : MH} {p : V → MH → Prop} (h : ∀ R : V → MH → Prop, (∀ r r' M' M1 M2, Sub M1 M' → Fz M1 [r] M2 [r'] → p r' M2 → R r M') → VCall P f args M R) : VCall P f args M p := by
  intro H F hs hok
  refine (h (fun r M' => ∃ r' M1 M2, Sub M1 M' ∧ Fz M1 [r] M2 [r'] ∧ p r' M2) (fun r r' M' M1 M2 h1 h2 h3 => ⟨r', M1, M2, h1, h2, h3⟩) H F hs hok).mono ?_
  rintro a H' ⟨r, M', F', rfl, h1, h2, h3, r', M1, M2, k1, k2, k3⟩
  obtain ⟨e, F2, g1, g2, g3⟩ := k2.sound (h3.sub k1) (by simp only [okL]; exact ⟨h1, trivial⟩)
  simp only [erl, List.cons.injEq, and_true] at e
  simp only [okL] at g3
  exact ⟨r', M2, F2, e.symm, g3.1, h2.trans g1, g2, k3⟩
theorem VCall.give {f : FuncId} {args args' : List V} {M M' : MH} {R : V → MH → Prop} (hz : Fz M args M' args') (h : VCall P f args' M' R) : VCall P f args M R := by
  intro H F hs hok
  obtain ⟨e, F2, g1, g2, g3⟩ := hz.sound hs hok
  have := h H F2 g2 g3
  rw [← erl_map, e, erl_map] at this
  exact this.mono fun a H' ⟨r, M1, F', h1, h2, h3, h4, h5⟩ => ⟨r, M1, F', h1, h2, g1.trans h3, h4, h5⟩
theorem VCall.lend {f : FuncId} {a1 a2 : List V} {b o n c k : Nat} {ex : Bool} {l : List V} {M : MH} {R R' : V → MH → Prop} (hb : M b = .some l)
    (h : VCall P f (a1 ++ .fs (some (b, o)) n c ex k (l.drop o) :: a2) (M.del b) R')
    (hr : ∀ r M', M' b = none → R' r M' → flat r ∧ (∀ (i : Nat) (l' : List V), M' i = .some l' → (M.del b) i = .some l' ∨ flatL l') ∧ R r (M'.set b l)) : VCall P f (a1 ++ .sc (.sl (some (b, o)) n c ex k) :: a2) M R := by
  intro H F hs hok
  obtain ⟨F1, f1, f2, f3, f4, f5⟩ := hs.freeze hb
  have hokM := hs.own b l hb
  have ha : okL F1 (a1 ++ .fs (some (b, o)) n c ex k (l.drop o) :: a2) := by
    refine okL_all.2 fun v hv => ?_
    rcases List.mem_append.1 hv with h1 | h1
    · exact okV.mono f1 (okL_all.1 hok v (List.mem_append_left _ h1))
    · rcases List.mem_cons.1 h1 with rfl | h1
      · simp only [okV, AA.b_some, AA.o_some]
        refine ⟨?_, f4.drop o⟩
        intro i x hi
        rw [erl_drop, List.getElem?_drop] at hi
        have := f3 _ _ hi
        simpa using this
      · exact okV.mono f1 (okL_all.1 hok v (List.mem_append_right _ (List.mem_cons_of_mem _ h1)))
  have := h H F1 f2 ha
  have e : (a1 ++ V.fs (some (b, o)) n c ex k (l.drop o) :: a2).map er = (a1 ++ V.sc (.sl (some (b, o)) n c ex k) :: a2).map er := by simp [er]
  rw [e] at this
  refine this.mono ?_
  rintro a H' ⟨r, M', F', rfl, k1, k2, k3, k4⟩
  have hbF : F'.blk b = .cells (erl l) true := k2.cells (by rw [f2.size]; exact hokM.1) f5
  have hb' : M' b = none := by
    cases hm : M' b with
    | none => rfl
    | some l2 => have := (k3.all hm).2; rw [hbF] at this; cases this
  obtain ⟨q1, q2, q3⟩ := hr r M' hb' k4
  have hbsz : b < H'.size := by
    have h1 : b < F1.size := by rw [f2.size]; exact hokM.1
    have h2 := k2.1
    have h3 := k3.size
    omega
  have hF : Le F (F'.kill b) := (f1.trans k2).killDead hokM.2.2.1
  refine ⟨r, M'.set b l, F'.kill b, rfl, q1.ok, hF, ⟨k3.size, fun i hi => ?_, fun i l' hi => ?_, fun i es hi => ?_⟩, q3⟩
  · by_cases e : i = b
    · subst e; exact .inl (kill_dead _ _)
    · rw [kill_ne e]; exact k3.le i hi
  · simp only [MH.set] at hi
    by_cases e : i = b
    · rw [if_pos e] at hi
      cases hi; subst e
      refine ⟨hbsz, ?_, kill_dead _ _, okL.mono hF hokM.2.2.2⟩
      rcases k3.le i hbsz with h1 | h1
      · rw [hbF] at h1; cases h1
      · rw [← h1]; exact hbF
    · rw [if_neg e] at hi
      obtain ⟨p1, p2, p3, p4⟩ := k3.own i l' hi
      refine ⟨p1, p2, by rw [kill_ne e]; exact p3, ?_⟩
      rcases q2 i l' hi with h1 | h1
      · simp only [MH.del] at h1
        rw [if_neg e] at h1
        exact okL.mono hF (hs.own i l' h1).2.2.2
      · exact h1.ok
  · simp only [MH.set] at hi
    by_cases e : i = b
    · rw [if_pos e] at hi; cases hi
    · rw [if_neg e] at hi
      obtain ⟨p1, p2, p3⟩ := k3.map i es hi
      exact ⟨p1, p2, by rw [kill_ne e]; exact p3⟩
end
end Go.M2

namespace Go.M2
section
variable {P : Program} {Q : PostV} {e : EnvV} {M : MH} {K : V → MH → Prop}
def condVW (P : Program) (c : X) (a b : IR) (Q : PostV) (e : EnvV) (M : MH) : Prop := condP (er (c.evV e)) (wpV P a Q e M) (wpV P b Q e M)
def condVV (P : Program) (c : AV) (a b : IR) (Q : PostV) (e : EnvV) (M : MH) : Prop := condP c (wpV P a Q e M) (wpV P b Q e M)
@[go_sem] theorem condVW_V {c : X} {a b : IR} : condVW P c a b Q e M = condVV P (er (c.evV e)) a b Q e M := idE rfl
@[go_sem] theorem condVV_true {a b : IR} : condVV P (.bool true) a b Q e M = wpV P a Q e M := idE rfl
@[go_sem] theorem condVV_false {a b : IR} : condVV P (.bool false) a b Q e M = wpV P b Q e M := idE rfl
theorem cond_split {a b : IR} {t : Bool} (h1 : t = true → wpV P a Q e M) (h2 : t = false → wpV P b Q e M) : condVV P (.bool t) a b Q e M := by
  cases t
  · exact h2 rfl
  · exact h1 rfl
theorem cond_dec {a b : IR} {p : Prop} [Decidable p] (h1 : p → wpV P a Q e M) (h2 : ¬ p → wpV P b Q e M) : condVV P (.bool (decide p)) a b Q e M :=
  cond_split (fun h => h1 (of_decide_eq_true h)) (fun h => h2 (of_decide_eq_false h))
@[go_sem] theorem wpV_skip : wpV P .skip Q e M = Q .normal e M := idE rfl
@[go_sem] theorem wpV_ret : wpV P .ret Q e M = Q .ret e M := idE rfl
@[go_sem] theorem wpV_exit {i : Nat} : wpV P (.exit i) Q e M = Q (.exit i) e M := idE rfl
@[go_sem] theorem wpV_seq {a b : IR} : wpV P (.seq a b) Q e M = wpV P a (thenQV (wpV P b Q) Q) e M := idE rfl
@[go_sem] theorem thenQV_normal {K : EnvV → MH → Prop} : thenQV K Q .normal e M = K e M := idE rfl
@[go_sem] theorem thenQV_exit {K : EnvV → MH → Prop} {i : Nat} : thenQV K Q (.exit i) e M = Q (.exit i) e M := idE rfl
@[go_sem] theorem thenQV_ret {K : EnvV → MH → Prop} : thenQV K Q .ret e M = Q .ret e M := idE rfl
@[go_sem] theorem blockQV_normal {i : Nat} : blockQV i Q .normal e M = Q .normal e M := idE rfl
@[go_sem] theorem blockQV_ret {i : Nat} : blockQV i Q .ret e M = Q .ret e M := idE rfl
@[go_sem] theorem blockQV_exit {i j : Nat} : blockQV i Q (.exit j) e M = if j = i then Q .normal e M else Q (.exit j) e M := idE rfl
@[go_sem] theorem postV_normal {rs : List RV} {R : V → MH → Prop} : postV rs R .normal e M = retPV rs R e M := idE rfl
@[go_sem] theorem postV_ret {rs : List RV} {R : V → MH → Prop} : postV rs R .ret e M = retPV rs R e M := idE rfl
@[go_sem] theorem retPV_0 {R : V → MH → Prop} : retPV [] R e M = R (.tup []) M := idE rfl
@[go_sem] theorem retPV_1 {R : V → MH → Prop} {a : Nat} : retPV [.t a] R e M = R (e a) M := idE rfl
@[go_sem] theorem retPV_2 {R : V → MH → Prop} {a b : Nat} : retPV [.t a, .t b] R e M = R (.tup [e a, e b]) M := idE rfl
@[go_sem] theorem retPV_3 {R : V → MH → Prop} {a b c : Nat} : retPV [.t a, .t b, .t c] R e M = R (.tup [e a, e b, e c]) M := idE rfl
@[go_sem] theorem retPV_c {R : V → MH → Prop} {a n : Nat} {ag : Bool} : retPV [.c a n ag] R e M = optV (loadV M n ag (e a)) M R := by
  unfold retPV retV3 optV
  simp only [resVs3, resV3]
  cases loadV M n ag (e a) <;> rfl
def opt2 (o : Option V) (f : V → Prop) : Prop := match o with
  | some v => f v
  | none => False
@[go_sem] theorem opt2_some {v : V} {f : V → Prop} : opt2 (some v) f = f v := idE rfl
@[go_sem] theorem retPV_ct {R : V → MH → Prop} {a n b : Nat} {ag : Bool} : retPV [.c a n ag, .t b] R e M = opt2 (loadV M n ag (e a)) (fun x => R (.tup [x, e b]) M) := by
  unfold retPV retV3 optV opt2
  simp only [resVs3, resV3]
  cases loadV M n ag (e a) <;> rfl
@[go_sem] theorem retPV_ctt {R : V → MH → Prop} {a n b c : Nat} {ag : Bool} : retPV [.c a n ag, .t b, .t c] R e M = opt2 (loadV M n ag (e a)) (fun x => R (.tup [x, e b, e c]) M) := by
  unfold retPV retV3 optV opt2
  simp only [resVs3, resV3]
  cases loadV M n ag (e a) <;> rfl
@[go_sem] theorem retPV_cc {R : V → MH → Prop} {a n b m : Nat} {ag ag' : Bool} : retPV [.c a n ag, .c b m ag'] R e M = opt2 (loadV M n ag (e a)) (fun x => opt2 (loadV M m ag' (e b)) (fun y => R (.tup [x, y]) M)) := by
  unfold retPV retV3 optV opt2
  simp only [resVs3, resV3]
  cases loadV M n ag (e a) <;> cases loadV M m ag' (e b) <;> rfl
@[go_sem] theorem retPV_tc {R : V → MH → Prop} {a n b : Nat} {ag : Bool} : retPV [.t b, .c a n ag] R e M = opt2 (loadV M n ag (e a)) (fun x => R (.tup [e b, x]) M) := by
  unfold retPV retV3 optV opt2
  simp only [resVs3, resV3]
  cases loadV M n ag (e a) <;> rfl
def contV (P : Program) (t : List GOp) (K : EnvV → MH → Prop) (e : EnvV) (d : Option Nat) : V → MH → Prop := fun v M' => wpLV P t K (putV e d v) M'
@[go_sem] theorem contV_go {t : List GOp} {K : EnvV → MH → Prop} {d : Option Nat} {v : V} : contV P t K e d v M = wpLV P t K (putV e d v) M := idE rfl
@[go_sem] theorem wpLV_nil {K : EnvV → MH → Prop} : wpLV P [] K e M = K e M := idE rfl
@[go_sem] theorem wpLV_cons {t : List GOp} {K : EnvV → MH → Prop} {d : Option Nat} {o : IOp} : wpLV P (⟨d, o, none⟩ :: t) K e M = stepV P o e M (contV P t K e d) := idE rfl
def guardV (P : Program) (v : AV) (want : Bool) (o : IOp) (t : List GOp) (K : EnvV → MH → Prop) (e : EnvV) (M : MH) (d : Option Nat) : Prop := match v with
  | .bool b => if b = want then stepV P o e M (contV P t K e d) else wpLV P t K (putV e d noV) M
  | .tup [] => wpLV P t K (putV e d noV) M
  | _ => False
section
variable {t : List GOp} {K : EnvV → MH → Prop} {d : Option Nat} {o : IOp}
@[go_sem] theorem wpLV_consG {g : Nat} {want : Bool} : wpLV P (⟨d, o, some (g, want)⟩ :: t) K e M = guardV P (er (e g)) want o t K e M d := idE rfl
@[go_sem] theorem guardV_tt : guardV P (.bool true) true o t K e M d = stepV P o e M (contV P t K e d) := idE rfl
@[go_sem] theorem guardV_ff : guardV P (.bool false) false o t K e M d = stepV P o e M (contV P t K e d) := idE rfl
@[go_sem] theorem guardV_tf : guardV P (.bool true) false o t K e M d = wpLV P t K (putV e d noV) M := idE rfl
@[go_sem] theorem guardV_ft : guardV P (.bool false) true o t K e M d = wpLV P t K (putV e d noV) M := idE rfl
@[go_sem] theorem guardV_und {want : Bool} : guardV P (.tup []) want o t K e M d = wpLV P t K (putV e d noV) M := idE rfl
end
def contK (P : Program) (t : List (GOp × Option (List Nat))) (K : EnvV → MH → Prop) (e : EnvV) (d : Option Nat) (k : Option (List Nat)) : V → MH → Prop := fun v M' => wpKV P t K (kpV k (putV e d v)) M'
def guardK (P : Program) (v : AV) (want : Bool) (o : IOp) (t : List (GOp × Option (List Nat))) (K : EnvV → MH → Prop) (e : EnvV) (M : MH) (d : Option Nat) (k : Option (List Nat)) : Prop := match v with
  | .bool b => if b = want then stepV P o e M (contK P t K e d k) else wpKV P t K (kpV k (putV e d noV)) M
  | .tup [] => wpKV P t K (kpV k (putV e d noV)) M
  | _ => False
section
variable {t : List (GOp × Option (List Nat))} {K : EnvV → MH → Prop} {d : Option Nat} {o : IOp} {k : Option (List Nat)}
@[go_sem] theorem contK_go {v : V} : contK P t K e d k v M = wpKV P t K (kpV k (putV e d v)) M := idE rfl
@[go_sem] theorem wpKV_nil : wpKV P [] K e M = K e M := idE rfl
@[go_sem] theorem wpKV_cons : wpKV P ((⟨d, o, none⟩, k) :: t) K e M = stepV P o e M (contK P t K e d k) := idE rfl
@[go_sem] theorem wpKV_consG {g : Nat} {want : Bool} : wpKV P ((⟨d, o, some (g, want)⟩, k) :: t) K e M = guardK P (er (e g)) want o t K e M d k := idE rfl
@[go_sem] theorem guardK_tt : guardK P (.bool true) true o t K e M d k = stepV P o e M (contK P t K e d k) := idE rfl
@[go_sem] theorem guardK_ff : guardK P (.bool false) false o t K e M d k = stepV P o e M (contK P t K e d k) := idE rfl
@[go_sem] theorem guardK_tf : guardK P (.bool true) false o t K e M d k = wpKV P t K (kpV k (putV e d noV)) M := idE rfl
@[go_sem] theorem guardK_ft : guardK P (.bool false) true o t K e M d k = wpKV P t K (kpV k (putV e d noV)) M := idE rfl
@[go_sem] theorem guardK_und {want : Bool} : guardK P (.tup []) want o t K e M d k = wpKV P t K (kpV k (putV e d noV)) M := idE rfl
theorem guardK_split {b want : Bool} (h1 : b = true → guardK P (.bool true) want o t K e M d k) (h2 : b = false → guardK P (.bool false) want o t K e M d k) : guardK P (.bool b) want o t K e M d k := by
  cases b
  · exact h2 rfl
  · exact h1 rfl
theorem guardK_dec {p : Prop} [Decidable p] {want : Bool} (h1 : p → guardK P (.bool true) want o t K e M d k) (h2 : ¬ p → guardK P (.bool false) want o t K e M d k) : guardK P (.bool (decide p)) want o t K e M d k :=
  guardK_split (fun h => h1 (of_decide_eq_true h)) (fun h => h2 (of_decide_eq_false h))
end
@[go_sem] theorem kpV_none : kpV none e = e := idE rfl
@[go_sem] theorem kpV_some {l : List Nat} : kpV (some l) e = keepV l e := idE rfl
@[go_sem] theorem keepV_nil : keepV [] e = fun _ => .sc .junk := idE rfl
@[go_sem] theorem keepV_cons {s : Nat} {l : List Nat} : keepV (s :: l) e = updV (keepV l e) s (e s) := idE rfl
@[go_sem] theorem putV_none {v : V} : putV e none v = e := idE rfl
@[go_sem] theorem putV_some {d : Nat} {v : V} : putV e (some d) v = updV e d v := idE rfl
@[go_sem] theorem updV_get {d n : Nat} {v : V} : updV e d v n = if n = d then v else e n := idE rfl
@[go_sem] theorem envV_get {l : List V} {n : Nat} : envV l n = l.getD n (.sc .junk) := idE rfl
@[go_sem] theorem XV_t {n : Nat} : (X.t n).evV e = e n := idE rfl
@[go_sem] theorem XV_int {k : IntKind} {n : Int} : (X.c (.int k n)).evV e = .sc (.int k n) := idE rfl
@[go_sem] theorem XV_bool {b : Bool} : (X.c (.bool b)).evV e = .sc (.bool b) := idE rfl
@[go_sem] theorem XV_str {b : ByteArray} : (X.c (.str b)).evV e = .sc (.str b) := idE rfl
@[go_sem] theorem XV_ptr {A : AA} : (X.c (.ptr A)).evV e = .sc (.ptr A) := idE rfl
@[go_sem] theorem XV_sl {A : AA} {n c k : Nat} {ex : Bool} : (X.c (.sl A n c ex k)).evV e = .sc (.sl A n c ex k) := idE rfl
@[go_sem] theorem XV_nilFn : (X.c .nilFn).evV e = .sc .nilFn := idE rfl
@[go_sem] theorem XV_fn {f : Nat} {l : List AV} : (X.c (.fn f l)).evV e = .fn f (l.map .sc) := idE rfl
@[go_sem] theorem XV_agg {l : List AV} : (X.c (.agg l)).evV e = .agg (l.map .sc) := idE rfl
@[go_sem] theorem optV_some {v : V} : optV (some v) M K = K v M := idE rfl
@[go_sem] theorem er_sc {a : AV} : er (.sc a) = a := by simp [er]
@[go_sem] theorem er_fs {A : AA} {n c k : Nat} {ex : Bool} {xs : List V} : er (.fs A n c ex k xs) = .sl A n c ex k := by simp [er]
@[go_sem] theorem er_pf {b o : Nat} {cs : List V} : er (.pf b o cs) = .ptr (some (b, o)) := by simp [er]
@[go_sem] theorem er_fn {f : Nat} {l : List V} : er (.fn f l) = .fn f (l.map er) := by simp [er, erl_map]
@[go_sem] theorem er_noV : er noV = .tup [] := by simp [er, noV]
@[go_sem] theorem sv_mv {x : X} : stepV P (.mv x) e M K = K (x.evV e) M := idE rfl
@[go_sem] theorem sv_pick {a b c : X} : stepV P (.pick c a b) e M K = optV (pickV (er (c.evV e)) (a.evV e) (b.evV e)) M K := idE rfl
@[go_sem] theorem sv_bin {op : BinOp} {x y : X} : stepV P (.bin op x y) e M K = optV ((binF op (er (x.evV e)) (er (y.evV e))).map .sc) M K := idE rfl
@[go_sem] theorem sv_beq {n : Bool} {x y : X} : stepV P (.beq n x y) e M K = optV ((beqF n (er (x.evV e)) (er (y.evV e))).map .sc) M K := idE rfl
@[go_sem] theorem sv_un {op : UnOp} {x : X} : stepV P (.un op x) e M K = optV ((unF op (er (x.evV e))).map .sc) M K := idE rfl
@[go_sem] theorem sv_eqn {n : Bool} {k : NK} {x : X} : stepV P (.eqn n k x) e M K = optV ((isNilF k (er (x.evV e))).map fun b => .sc (.bool (if n then !b else b))) M K := idE rfl
@[go_sem] theorem sv_nilck {x : X} : stepV P (.nilck x) e M K = optV (nilckV (x.evV e)) M K := idE rfl
@[go_sem] theorem sv_faddr {x : X} {n : Nat} : stepV P (.faddr x n) e M K = optV (ptrOffV n (x.evV e)) M K := idE rfl
@[go_sem] theorem sv_fld {x : X} {o n : Nat} {ag : Bool} : stepV P (.fld x o n ag) e M K = optV (partV o n ag (x.evV e)) M K := idE rfl
@[go_sem] theorem sv_iaddr {x i : X} {n : Nat} : stepV P (.iaddr x i n) e M K = optV (iaddrV n (x.evV e) (er (i.evV e))) M K := idE rfl
@[go_sem] theorem sv_aaddr {x i : X} {l n : Nat} : stepV P (.aaddr x i l n) e M K = optV (aaddrV l n (x.evV e) (er (i.evV e))) M K := idE rfl
@[go_sem] theorem sv_aidx {x i : X} {l n : Nat} {ag : Bool} : stepV P (.aidx x i l n ag) e M K = optV (aidxV l n ag (x.evV e) (er (i.evV e))) M K := idE rfl
@[go_sem] theorem sv_sidx {x i : X} : stepV P (.sidx x i) e M K = optV ((sidxF (er (x.evV e)) (er (i.evV e))).map .sc) M K := idE rfl
@[go_sem] theorem sv_ext {x : X} {n : Nat} : stepV P (.ext x n) e M K = optV (extV n (x.evV e)) M K := idE rfl
@[go_sem] theorem sv_len {x : X} : stepV P (.len x) e M K = optV ((lenF (er (x.evV e))).map .sc) M K := idE rfl
@[go_sem] theorem sv_slen {x : X} : stepV P (.slen x) e M K = optV ((slenF (er (x.evV e))).map .sc) M K := idE rfl
@[go_sem] theorem sv_cap {x : X} : stepV P (.cap x) e M K = optV ((capF (er (x.evV e))).map .sc) M K := idE rfl
@[go_sem] theorem sv_mnx {m : Bool} {x y : X} : stepV P (.mnx m x y) e M K = optV ((mnxF m (er (x.evV e)) (er (y.evV e))).map .sc) M K := idE rfl
@[go_sem] theorem sv_slc {n : Nat} {x : X} {a b c : Option X} : stepV P (.slc n x a b c) e M K = optV (slcV n (a.map fun y => er (y.evV e)) (b.map fun y => er (y.evV e)) (c.map fun y => er (y.evV e)) (x.evV e)) M K := idE rfl
@[go_sem] theorem sv_sslc {x : X} {a b : Option X} : stepV P (.sslc x a b) e M K = optV ((sslcF (a.map fun y => er (y.evV e)) (b.map fun y => er (y.evV e)) (er (x.evV e))).map .sc) M K := idE rfl
@[go_sem] theorem sv_mkfn {f : Nat} {c : List X} : stepV P (.mkfn f c) e M K = K (.fn f (c.map (X.evV e))) M := idE rfl
@[go_sem] theorem sv_bld {z : List AV} {p : List (Nat × Nat × X)} : stepV P (.bld z p) e M K = optV ((bldV e (z.map .sc) p).map .agg) M K := idE rfl
@[go_sem] theorem sv_cvi {k : IntKind} {x : X} : stepV P (.cvi k x) e M K = optV ((cviF k (er (x.evV e))).map .sc) M K := idE rfl
@[go_sem] theorem sv_load {x : X} {n : Nat} {ag : Bool} : stepV P (.load x n ag) e M K = optV (loadV M n ag (x.evV e)) M K := idE rfl
@[go_sem] theorem sv_alloc {z : List AV} : stepV P (.alloc z) e M K = newP (some (z.map .sc)) M K := idE rfl
@[go_sem] theorem sv_box {x : X} : stepV P (.box x) e M K = newP (cellsV (x.evV e)) M K := idE rfl
@[go_sem] theorem sv_bslc {a b : Nat} {z : List AV} {p : List (Nat × X)} : stepV P (.bslc a b z p) e M K = bslcV a b (bslV e a ((zeros z b).map .sc) p) M K := idE rfl
@[go_sem] theorem sv_mks {z : List AV} {b : Nat} {l : X} : stepV P (.mks z b l) e M K = mksV z b (er (l.evV e)) M K := idE rfl
@[go_sem] theorem sv_mkc {z : List AV} {b : Nat} {l c : X} : stepV P (.mkc z b l c) e M K = mkcV z b (er (l.evV e)) (er (c.evV e)) M K := idE rfl
@[go_sem] theorem sv_bslo {a b : Nat} {z : List AV} {p : List (Nat × X)} : stepV P (.bslo a b z p) e M K = bslcV a b (bslV e a ((zeros z b).map .sc) p) M K := idE rfl
@[go_sem] theorem sv_slcd {n : Nat} {x : X} : stepV P (.slcd n x) e M K = slcdV n (x.evV e) M K := idE rfl
@[go_sem] theorem sv_ovl {x y : X} : stepV P (.ovl x y) e M K = ovlV (x.evV e) (y.evV e) M K := idE rfl
@[go_sem] theorem sv_appz {z : List AV} {b : Nat} {s l : X} : stepV P (.appz z b s l) e M K = appzV z b (s.evV e) (er (l.evV e)) M K := idE rfl
@[go_sem] theorem sv_store {x v : X} {n : Nat} : stepV P (.store x n v) e M K = storeV n (x.evV e) (v.evV e) M K := idE rfl
@[go_sem] theorem sv_app {s x : X} {n b : Nat} : stepV P (.app n b s x) e M K = appV n b (s.evV e) (x.evV e) M K := idE rfl
@[go_sem] theorem sv_copy {s x : X} {n : Nat} : stepV P (.copy n s x) e M K = copyV n (s.evV e) (x.evV e) M K := idE rfl
@[go_sem] theorem sv_clear {x : X} {z : List AV} : stepV P (.clear z x) e M K = clearV z (x.evV e) M K := idE rfl
@[go_sem] theorem sv_mkmap : stepV P .mkmap e M K = ∀ b, M b = none → K (.sc (.map (some b))) (M.put b []) := idE rfl
@[go_sem] theorem sv_mapset {kt : KT} {x k v : X} : stepV P (.mapset kt x k v) e M K = mapsetV kt (er (x.evV e)) (er (k.evV e)) (er (v.evV e)) M K := idE rfl
@[go_sem] theorem sv_lookup {kt : KT} {z : AV} {ok : Bool} {x k : X} : stepV P (.lookup kt z ok x k) e M K = optV ((lookV M kt z ok (er (x.evV e)) (er (k.evV e))).map toV) M K := idE rfl
@[go_sem] theorem sv_mlen {x : X} : stepV P (.mlen x) e M K = optV ((mlenV M (er (x.evV e))).map .sc) M K := idE rfl
@[go_sem] theorem sv_eqs {kt : KT} {n : Bool} {x y : X} : stepV P (.eqs kt n x y) e M K = optV ((eqsF kt n (er (x.evV e)) (er (y.evV e))).map .sc) M K := idE rfl
@[go_sem] theorem keyF_i {a b : Int} : keyF .i (.int .i64 a) (.int .i64 b) = .some (decide (a = b)) := idE rfl
@[go_sem] theorem keyF_s {a b : ByteArray} : keyF .s (.str a) (.str b) = .some (decide (a = b)) := idE rfl
@[go_sem] theorem keyF_l2 {a b c d : Int} : keyF (.l 2) (.agg [.int .i64 a, .int .i64 b]) (.agg [.int .i64 c, .int .i64 d]) = .some (decide ([a, b] = [c, d])) := idE rfl
@[go_sem] theorem keyF_l3 {a b x c d y : Int} : keyF (.l 3) (.agg [.int .i64 a, .int .i64 b, .int .i64 x]) (.agg [.int .i64 c, .int .i64 d, .int .i64 y]) = .some (decide ([a, b, x] = [c, d, y])) := idE rfl
@[go_sem] theorem eqsF_0 {kt : KT} {x y : AV} : eqsF kt false x y = (keyF kt x y).map AV.bool := by
  unfold eqsF; cases keyF kt x y <;> rfl
@[go_sem] theorem eqsF_1 {kt : KT} {x y : AV} : eqsF kt true x y = (keyF kt x y).map fun b => AV.bool (!b) := by
  unfold eqsF; cases keyF kt x y <;> rfl
def lokR (z : AV) (ok : Bool) (r : Option (Option AV)) : Option AV := match r with
  | some (some v) => some (if ok then .tup [v, .bool true] else v)
  | some none => some (if ok then .tup [z, .bool false] else z)
  | none => none
def lokM (kt : KT) (z : AV) (ok : Bool) (k : AV) (c : Option Bool) (es : Option (List (AV × AV))) : Option AV := match c, es with
  | some _, some es => lokR z ok (findM kt k es)
  | _, _ => none
@[go_sem] theorem lookV_go {kt : KT} {z k : AV} {ok : Bool} {b : Nat} : lookV M kt z ok (.map (some b)) k = lokM kt z ok k (keyF kt k k) (ents? (M b)) := by
  unfold lookV lookM lokM lokR
  cases h1 : keyF kt k k <;> cases h2 : ents? (M b) <;> simp only [h1, h2] <;> rfl
@[go_sem] theorem lokM_go {kt : KT} {z k : AV} {ok r : Bool} {es : List (AV × AV)} : lokM kt z ok k (some r) (some es) = lokR z ok (findM kt k es) := idE rfl
@[go_sem] theorem lokR_10 {z v : AV} : lokR z false (some (some v)) = .some v := idE rfl
@[go_sem] theorem lokR_11 {z v : AV} : lokR z true (some (some v)) = .some (.tup [v, .bool true]) := idE rfl
@[go_sem] theorem lokR_00 {z : AV} : lokR z false (some none) = .some z := idE rfl
@[go_sem] theorem lokR_01 {z : AV} : lokR z true (some none) = .some (.tup [z, .bool false]) := idE rfl
@[go_sem] theorem mlenV_go {b : Nat} : mlenV M (.map (some b)) = (ents? (M b)).map fun es => .int .i64 es.length := idE rfl
def mpsM (b : Nat) (r : Option (List (AV × AV))) (M : MH) (K : V → MH → Prop) : Prop := match r with
  | some es => K (.sc .junk) (M.put b es)
  | none => False
def mpsV (kt : KT) (b : Nat) (k v : AV) (es : Option (List (AV × AV))) (c : Option Bool) (M : MH) (K : V → MH → Prop) : Prop := match es, c with
  | some es, some _ => mpsM b (setM kt k v es) M K
  | _, _ => False
@[go_sem] theorem mapsetV_go {kt : KT} {k v : AV} {b : Nat} : mapsetV kt (.map (some b)) k v M K = mpsV kt b k v (ents? (M b)) (keyF kt k k) M K := by
  unfold mapsetV mpsV mpsM
  cases h1 : keyF kt k k <;> cases h2 : ents? (M b) <;> simp only [h2] <;> rfl
@[go_sem] theorem mpsV_go {kt : KT} {k v : AV} {b : Nat} {es : List (AV × AV)} {r : Bool} : mpsV kt b k v (some es) (some r) M K = mpsM b (setM kt k v es) M K := idE rfl
@[go_sem] theorem mpsM_go {b : Nat} {es : List (AV × AV)} : mpsM b (some es) M K = K (.sc .junk) (M.put b es) := idE rfl
@[go_sem] theorem toV_int {k : IntKind} {n : Int} : toV (.int k n) = .sc (.int k n) := idE rfl
@[go_sem] theorem toV_bool {b : Bool} : toV (.bool b) = .sc (.bool b) := idE rfl
@[go_sem] theorem toV_t2 {a b : AV} : toV (.tup [a, b]) = .tup [.sc a, .sc b] := idE rfl
@[go_sem] theorem sv_call {f : Nat} {a : List X} : stepV P (.call f a) e M K = VCall P f (a.map (X.evV e)) M K := idE rfl
@[go_sem] theorem sv_callv {x : X} {a : List X} : stepV P (.callv x a) e M K = callvV P (x.evV e) (a.map (X.evV e)) M K := idE rfl
@[go_sem] theorem callvV_fn {f : Nat} {c a : List V} : callvV P (.fn f c) a M K = VCall P f (a ++ c) M K := idE rfl
section
variable {k : IntKind} {a b : Int}
@[go_sem] theorem pickV_go {x : Bool} {u v : V} : pickV (.bool x) u v = .some (if x then u else v) := idE rfl
@[go_sem] theorem pickV_t {u v : V} : pickV (.bool true) u v = .some u := idE rfl
@[go_sem] theorem pickV_f {u v : V} : pickV (.bool false) u v = .some v := idE rfl
@[go_sem] theorem nilckV_sc {p : Nat × Nat} : nilckV (.sc (.ptr (some p))) = .some (.sc (.ptr (some p))) := idE rfl
@[go_sem] theorem nilckV_pf {x o : Nat} {cs : List V} : nilckV (.pf x o cs) = .some (.pf x o cs) := idE rfl
@[go_sem] theorem ptrOffV_sc {x o n : Nat} : ptrOffV n (.sc (.ptr (some (x, o)))) = .some (.sc (.ptr (some (x, o + n)))) := idE rfl
@[go_sem] theorem ptrOffV_pf {x o n : Nat} {cs : List V} : ptrOffV n (.pf x o cs) = .some (.pf x (o + n) (cs.drop n)) := idE rfl
@[go_sem] theorem extV_go {l : List V} {n : Nat} : extV n (.tup l) = l[n]? := idE rfl
@[go_sem] theorem partV_1 {l : List V} {o n : Nat} : partV o n false (.agg l) = l[o]? := idE rfl
@[go_sem] theorem partV_n {l : List V} {o n : Nat} (h : o + n ≤ l.length) : partV o n true (.agg l) = .some (.agg ((l.drop o).take n)) := by simp only [partV, if_true]; rw [if_pos h]
@[go_sem] theorem iaddrV_sc {A : AA} {n c kk sz : Nat} {ex : Bool} {k' : IntKind} (h0 : 0 ≤ a) (h1 : a < (n : Int)) : iaddrV sz (.sc (.sl A n c ex kk)) (.int k' a) = .some (.sc (.ptr (some (A.b, A.o + a.toNat * sz)))) := by
  simp only [iaddrV]; rw [if_pos ⟨h0, h1⟩]
@[go_sem] theorem iaddrV_fs {A : AA} {n c kk sz : Nat} {ex : Bool} {k' : IntKind} {xs : List V} (h0 : 0 ≤ a) (h1 : a < (n : Int)) : iaddrV sz (.fs A n c ex kk xs) (.int k' a) = .some (.pf A.b (A.o + a.toNat * sz) ((xs.drop (a.toNat * sz)).take sz)) := by
  simp only [iaddrV]; rw [if_pos ⟨h0, h1⟩]
def loadM (n : Nat) (ag : Bool) (o : Nat) (l : Option (List V)) : Option V := loadO n ag (l.map (·.drop o))
@[go_sem] theorem loadV_sc {x o n : Nat} {ag : Bool} : loadV M n ag (.sc (.ptr (some (x, o)))) = loadM n ag o (cells? (M x)) := idE rfl
@[go_sem] theorem loadV_pf {x o n : Nat} {ag : Bool} {cs : List V} : loadV M n ag (.pf x o cs) = loadM n ag 0 (some cs) := idE rfl
@[go_sem] theorem loadM_1 {n o : Nat} {l : List V} : loadM n false o (some l) = l[o]? := by simp [loadM, loadO]
@[go_sem] theorem loadM_n {n o : Nat} {l : List V} (h : o + n ≤ l.length) : loadM n true o (some l) = .some (.agg ((l.drop o).take n)) := by
  simp only [loadM, Option.map_some, loadO, if_true]
  rw [if_pos (by rw [List.length_drop]; omega)]
@[go_sem] theorem cellsV_int : cellsV (.sc (.int k a)) = .some [.sc (.int k a)] := idE rfl
@[go_sem] theorem cellsV_bool {x : Bool} : cellsV (.sc (.bool x)) = .some [.sc (.bool x)] := idE rfl
@[go_sem] theorem cellsV_str {x : ByteArray} : cellsV (.sc (.str x)) = .some [.sc (.str x)] := idE rfl
@[go_sem] theorem cellsV_sl {A : AA} {n c kk : Nat} {ex : Bool} : cellsV (.sc (.sl A n c ex kk)) = .some [.sc (.sl A n c ex kk)] := idE rfl
@[go_sem] theorem cellsV_fs {A : AA} {n c kk : Nat} {ex : Bool} {xs : List V} : cellsV (.fs A n c ex kk xs) = .some [.fs A n c ex kk xs] := idE rfl
@[go_sem] theorem cellsV_agg {l : List V} : cellsV (.agg l) = .some l := idE rfl
@[go_sem] theorem cellsV_ptr {A : AA} : cellsV (.sc (.ptr A)) = .some [.sc (.ptr A)] := idE rfl
@[go_sem] theorem cellsV_fn {f : Nat} {l : List V} : cellsV (.fn f l) = .some [.fn f l] := idE rfl
@[go_sem] theorem cellsV_nilFn : cellsV (.sc .nilFn) = .some [.sc .nilFn] := idE rfl
@[go_sem] theorem lenS_fs {A : AA} {n c kk : Nat} {ex : Bool} {xs : List V} : lenS (.fs A n c ex kk xs) = .some n := idE rfl
@[go_sem] theorem lenS_sc {A : AA} {n c kk : Nat} {ex : Bool} : lenS (.sc (.sl A n c ex kk)) = .some n := idE rfl
end
@[go_sem] theorem newP_some {c : List V} : newP (some c) M K = ∀ b, M b = none → K (.sc (.ptr (some (b, 0)))) (M.set b c) := idE rfl
@[go_sem] theorem bslcV_some {n m : Nat} {c : List V} : bslcV n m (some c) M K = ∀ b, M b = none → K (.sc (.sl (some (b, 0)) m m true n)) (M.set b c) := idE rfl
def bslKV (e : EnvV) (n : Nat) (z : List V) (i : Nat) (c : Option (List V)) (t : List (Nat × X)) : Option (List V) := match c with
  | some c => if c.length = n ∧ i * n + n ≤ z.length then bslV e n (setAtG z (i * n) c) t else none
  | none => none
@[go_sem] theorem bslV_nil {n : Nat} {z : List V} : bslV e n z [] = .some z := idE rfl
@[go_sem] theorem bslV_cons {n i : Nat} {z : List V} {x : X} {t : List (Nat × X)} : bslV e n z ((i, x) :: t) = bslKV e n z i (cellsV (x.evV e)) t := idE rfl
@[go_sem] theorem bslKV_1 {i : Nat} {z : List V} {v : V} {t : List (Nat × X)} (h : i + 1 ≤ z.length) : bslKV e 1 z i (some [v]) t = bslV e 1 (z.set i v) t := by
  unfold bslKV
  simp only [List.length_cons, List.length_nil, Nat.mul_one]
  rw [if_pos ⟨trivial, h⟩]
  rfl
@[go_sem] theorem bslKV_n {n i : Nat} {z c : List V} {t : List (Nat × X)} (h0 : c.length = n) (h : i * n + n ≤ z.length) : bslKV e n z i (some c) t = bslV e n (setAtG z (i * n) c) t := by
  unfold bslKV
  simp only
  rw [if_pos ⟨h0, h⟩]
def bldKV (e : EnvV) (z : List V) (o n : Nat) (c : Option (List V)) (t : List (Nat × Nat × X)) : Option (List V) := match c with
  | some c => if c.length = n ∧ o + n ≤ z.length then bldV e (setAtG z o c) t else none
  | none => none
@[go_sem] theorem bldV_nil {z : List V} : bldV e z [] = .some z := idE rfl
@[go_sem] theorem bldV_cons {o n : Nat} {z : List V} {x : X} {t : List (Nat × Nat × X)} : bldV e z ((o, n, x) :: t) = bldKV e z o n (cellsV (x.evV e)) t := idE rfl
@[go_sem] theorem bldKV_go {o n : Nat} {z c : List V} {t : List (Nat × Nat × X)} (h0 : c.length = n) (h : o + n ≤ z.length) : bldKV e z o n (some c) t = bldV e (setAtG z o c) t := by
  unfold bldKV
  simp only
  rw [if_pos ⟨h0, h⟩]
@[go_sem] theorem setAtG_nil {α : Type} {z : List α} {o : Nat} : setAtG z o [] = z := idE rfl
@[go_sem] theorem setAtG_cons {α : Type} {z t : List α} {o : Nat} {v : α} : setAtG z o (v :: t) = setAtG (z.set o v) (o + 1) t := idE rfl
attribute [go_sem] List.length_cons List.length_nil List.length_map
@[go_sem] theorem bnot_dec {p : Prop} [Decidable p] : (!(decide p)) = decide (¬p) := by by_cases h : p <;> simp [h]
@[go_sem] theorem bin_quoN {a b : Int} (h0 : 0 ≤ a) (h1 : 0 < b) (h2 : a ≤ 9223372036854775807) : binF .quo (.int .i64 a) (.int .i64 b) = .some (.int .i64 (a / b)) := by
  have hb : b ≠ 0 := by omega
  have hq : a.tdiv b = a / b := Int.tdiv_eq_ediv_of_nonneg h0
  have q1 : 0 ≤ a / b := Int.ediv_nonneg h0 (by omega)
  have q2 : a / b ≤ a := Int.ediv_le_self _ h0
  simp only [binF, isSh, intBin, hb, if_false, if_true, Bool.false_eq_true, hq]
  rw [IntWalk.i64_in _ ⟨by omega, by omega⟩]
@[go_sem] theorem bin_remN {k : IntKind} {a b : Int} (h0 : 0 ≤ a) (h1 : 0 < b) : binF .rem (.int k a) (.int k b) = .some (.int k (a % b)) := by
  have hb : b ≠ 0 := by omega
  have hq : a.tmod b = a % b := Int.tmod_eq_emod_of_nonneg h0
  simp [binF, isSh, intBin, hb, hq]
def contDV (P : Program) (gl : List GOp) (rs : List Nat) (t : List (Nat × List Nat)) (K : EnvV → MH → Prop) (e : EnvV) (d : Option Nat) : V → MH → Prop := fun v M' => chkAllV gl rs (putV e d v) M' ∧ wpDV P gl t K (putV e d v) M'
def stepDV (P : Program) (g : GOp) (gl : List GOp) (rs : List Nat) (t : List (Nat × List Nat)) (K : EnvV → MH → Prop) (e : EnvV) (M : MH) : Prop := gWantV g.g e (stepV P g.op e M (contDV P gl rs t K e g.dst)) (wpDV P gl t K (putV e g.dst noV) M)
section
variable {gl : List GOp} {rs : List Nat} {t : List (Nat × List Nat)} {K : EnvV → MH → Prop} {d : Option Nat} {o : IOp}
@[go_sem] theorem wpDV_nil : wpDV P gl [] K e M = K e M := idE rfl
@[go_sem] theorem wpDV_cons {i : Nat} : wpDV P gl ((i, rs) :: t) K e M = (preAllV gl rs e ∧ stepDV P (gAt gl i) gl rs t K e M) := idE rfl
@[go_sem] theorem stepDV_none : stepDV P ⟨d, o, none⟩ gl rs t K e M = stepV P o e M (contDV P gl rs t K e d) := idE rfl
def guardDV (P : Program) (v : AV) (want : Bool) (o : IOp) (gl : List GOp) (rs : List Nat) (t : List (Nat × List Nat)) (K : EnvV → MH → Prop) (e : EnvV) (M : MH) (d : Option Nat) : Prop := match v with
  | .bool b => if b = want then stepV P o e M (contDV P gl rs t K e d) else wpDV P gl t K (putV e d noV) M
  | .tup [] => wpDV P gl t K (putV e d noV) M
  | _ => False
@[go_sem] theorem stepDV_some {g : Nat} {want : Bool} : stepDV P ⟨d, o, some (g, want)⟩ gl rs t K e M = guardDV P (er (e g)) want o gl rs t K e M d := idE rfl
@[go_sem] theorem guardDV_tt : guardDV P (.bool true) true o gl rs t K e M d = stepV P o e M (contDV P gl rs t K e d) := idE rfl
@[go_sem] theorem guardDV_ff : guardDV P (.bool false) false o gl rs t K e M d = stepV P o e M (contDV P gl rs t K e d) := idE rfl
@[go_sem] theorem guardDV_tf : guardDV P (.bool true) false o gl rs t K e M d = wpDV P gl t K (putV e d noV) M := idE rfl
@[go_sem] theorem guardDV_ft : guardDV P (.bool false) true o gl rs t K e M d = wpDV P gl t K (putV e d noV) M := idE rfl
@[go_sem] theorem guardDV_und {want : Bool} : guardDV P (.tup []) want o gl rs t K e M d = wpDV P gl t K (putV e d noV) M := idE rfl
theorem guardD3_split {b want : Bool} (h1 : b = true → guardDV P (.bool true) want o gl rs t K e M d) (h2 : b = false → guardDV P (.bool false) want o gl rs t K e M d) : guardDV P (.bool b) want o gl rs t K e M d := by
  cases b
  · exact h2 rfl
  · exact h1 rfl
theorem guardD3_dec {p : Prop} [Decidable p] {want : Bool} (h1 : p → guardDV P (.bool true) want o gl rs t K e M d) (h2 : ¬ p → guardDV P (.bool false) want o gl rs t K e M d) : guardDV P (.bool (decide p)) want o gl rs t K e M d :=
  guardD3_split (fun h => h1 (of_decide_eq_true h)) (fun h => h2 (of_decide_eq_false h))
@[go_sem] theorem contDV_go {v : V} : contDV P gl rs t K e d v M = (chkAllV gl rs (putV e d v) M ∧ wpDV P gl t K (putV e d v) M) := idE rfl
end
@[go_sem] theorem preAllV_nil {gl : List GOp} : preAllV gl [] e = True := idE rfl
@[go_sem] theorem chkAllV_nil {gl : List GOp} : chkAllV gl [] e M = True := idE rfl
@[go_sem] theorem preAllV_cons {gl : List GOp} {j : Nat} {t : List Nat} : preAllV gl (j :: t) e = ((if (gAt gl j).op.quiet then True else (alcV e (gAt gl j).op).isSome = true) ∧ preAllV gl t e) := idE rfl
def chkO (o : Option V) (u : V) : Prop := ∃ v, o = .some v ∧ er v = er u
@[go_sem] theorem chkO_some {v u : V} : chkO (some v) u = (er v = er u) := by simp [chkO]
def chkV1 (g : GOp) (e : EnvV) (M : MH) : Prop := if g.op.quiet then (match g.dst with | some d => chkO (gqV g e M) (e d) | none => True) else True
@[go_sem] theorem chkAllV_cons {gl : List GOp} {j : Nat} {t : List Nat} : chkAllV gl (j :: t) e M = (chkV1 (gAt gl j) e M ∧ chkAllV gl t e M) := idE rfl
@[go_sem] theorem chkV1_lookup {d : Nat} {x k : X} {kt : KT} {z : AV} {ok : Bool} : chkV1 ⟨some d, .lookup kt z ok x k, none⟩ e M = chkO ((lookV M kt z ok (er (x.evV e)) (er (k.evV e))).map toV) (e d) := idE rfl
@[go_sem] theorem chkV1_mlen {d : Nat} {x : X} : chkV1 ⟨some d, .mlen x, none⟩ e M = chkO ((mlenV M (er (x.evV e))).map .sc) (e d) := idE rfl
@[go_sem] theorem chkV1_load {d : Nat} {x : X} {n : Nat} {ag : Bool} : chkV1 ⟨some d, .load x n ag, none⟩ e M = chkO (loadV M n ag (x.evV e)) (e d) := idE rfl
@[go_sem] theorem chkV1_bslc {d : Option Nat} {a b : Nat} {z : List AV} {p : List (Nat × X)} {g : Option (Nat × Bool)} : chkV1 ⟨d, .bslc a b z p, g⟩ e M = True := idE rfl
@[go_sem] theorem chkV1_alloc {d : Option Nat} {z : List AV} {g : Option (Nat × Bool)} : chkV1 ⟨d, .alloc z, g⟩ e M = True := idE rfl
def chkGV (v : AV) (want : Bool) (o : Option V) (u : V) : Prop := chkO (match v with
  | .bool b => if b = want then o else some noV
  | .tup [] => some noV
  | _ => none) u
@[go_sem] theorem chkV1_loadG {d g : Nat} {x : X} {n : Nat} {ag want : Bool} : chkV1 ⟨some d, .load x n ag, some (g, want)⟩ e M = chkGV (er (e g)) want (loadV M n ag (x.evV e)) (e d) := idE rfl
@[go_sem] theorem chkGV_tt {o : Option V} {u : V} : chkGV (.bool true) true o u = chkO o u := idE rfl
@[go_sem] theorem chkGV_ff {o : Option V} {u : V} : chkGV (.bool false) false o u = chkO o u := idE rfl
@[go_sem] theorem chkGV_tf {o : Option V} {u : V} : chkGV (.bool true) false o u = chkO (some noV) u := idE rfl
@[go_sem] theorem chkGV_ft {o : Option V} {u : V} : chkGV (.bool false) true o u = chkO (some noV) u := idE rfl
@[go_sem] theorem chkGV_und {want : Bool} {o : Option V} {u : V} : chkGV (.tup []) want o u = chkO (some noV) u := idE rfl
@[go_sem] theorem alcV_bslc {a b : Nat} {z : List AV} {p : List (Nat × X)} : alcV e (.bslc a b z p) = bslV e a ((zeros z b).map .sc) p := idE rfl
@[go_sem] theorem quiet_alloc {z : List AV} : IOp.quiet (.alloc z) = false := idE rfl
@[go_sem] theorem alcV_alloc {z : List AV} : alcV e (.alloc z) = .some (z.map .sc) := idE rfl
@[go_sem] theorem set_same {b : Nat} {l : List V} : M.set b l b = .some l := by simp [MH.set]
@[go_sem] theorem set_ne {b b' : Nat} {l : List V} (h : b' ≠ b) : M.set b l b' = M b' := by simp [MH.set, h]
@[go_sem] theorem set_ne' {b b' : Nat} {l : List V} (h : b ≠ b') : M.set b l b' = M b' := by simp [MH.set, Ne.symm h]
@[go_sem] theorem put_same {b : Nat} {es : List (AV × AV)} : M.put b es b = .some (.map es) := by simp [MH.put]
@[go_sem] theorem put_ne {b b' : Nat} {es : List (AV × AV)} (h : b' ≠ b) : M.put b es b' = M b' := by simp [MH.put, h]
@[go_sem] theorem put_ne' {b b' : Nat} {es : List (AV × AV)} (h : b ≠ b') : M.put b es b' = M b' := by simp [MH.put, Ne.symm h]
@[go_sem] theorem put_put {b : Nat} {es es' : List (AV × AV)} : (M.put b es).put b es' = M.put b es' := by
  funext i; simp only [MH.put]; split <;> rfl
@[go_sem] theorem set_set {b : Nat} {l l' : List V} : (M.set b l).set b l' = M.set b l' := by
  funext i; simp only [MH.set]; split <;> rfl
@[go_sem] theorem del_set {b : Nat} {l : List V} (h : M b = none) : (M.set b l).del b = M := by
  funext i; simp only [MH.set, MH.del]; split
  · rename_i e; subst e; exact h.symm
  · rfl
theorem del_ne {b b' : Nat} (h : b' ≠ b) : M.del b b' = M b' := by simp [MH.del, h]
theorem fresh_set {b b' : Nat} {l : List V} (h : M.set b l b' = none) : b' ≠ b ∧ M b' = none := by
  simp only [MH.set] at h
  split at h
  · cases h
  · exact ⟨by assumption, h⟩
def stoV (n b o : Nat) (cs : Option (List V)) (c : Option (List V)) (M : MH) (K : V → MH → Prop) : Prop := match c, cs with
  | some c, some l => c.length = n ∧ c.all oneV = true ∧ o + n ≤ l.length ∧ K (.sc .junk) (M.set b (setAtG l o c))
  | _, _ => False
@[go_sem] theorem storeV_go {n b o : Nat} {v : V} : storeV n (.sc (.ptr (some (b, o)))) v M K = stoV n b o (cells? (M b)) (cellsV v) M K := by
  unfold storeV stoV
  cases cellsV v with
  | none => rfl
  | some c => cases h : cells? (M b) <;> simp only [h]
section
variable {l c : List V} {b o : Nat}
@[go_sem] theorem stoV_1 {v : V} (hv : oneV v = true) (h : o < l.length) : stoV 1 b o (some l) (some [v]) M K = K (.sc .junk) (M.set b (l.set o v)) := by
  unfold stoV
  simp [hv, setAtG]
  intro; omega
theorem stoV_n {n : Nat} (hn : c.length = n) (hv : c.all oneV = true) (h : o + n ≤ l.length) : stoV n b o (some l) (some c) M K = K (.sc .junk) (M.set b (setAtG l o c)) := by
  unfold stoV
  simp only [hn, hv, h, true_and]
@[go_sem] theorem stoV_2 {v1 v2 : V} (h1 : oneV v1 = true) (h2 : oneV v2 = true) (h : o + 2 ≤ l.length) : stoV 2 b o (some l) (some [v1, v2]) M K = K (.sc .junk) (M.set b (setAtG l o [v1, v2])) := stoV_n rfl (by simp [h1, h2]) h
@[go_sem] theorem stoV_3 {v1 v2 v3 : V} (h1 : oneV v1 = true) (h2 : oneV v2 = true) (h3 : oneV v3 = true) (h : o + 3 ≤ l.length) : stoV 3 b o (some l) (some [v1, v2, v3]) M K = K (.sc .junk) (M.set b (setAtG l o [v1, v2, v3])) := stoV_n rfl (by simp [h1, h2, h3]) h
@[go_sem] theorem stoV_4 {v1 v2 v3 v4 : V} (h1 : oneV v1 = true) (h2 : oneV v2 = true) (h3 : oneV v3 = true) (h4 : oneV v4 = true) (h : o + 4 ≤ l.length) : stoV 4 b o (some l) (some [v1, v2, v3, v4]) M K = K (.sc .junk) (M.set b (setAtG l o [v1, v2, v3, v4])) := stoV_n rfl (by simp [h1, h2, h3, h4]) h
@[go_sem] theorem stoV_5 {v1 v2 v3 v4 v5 : V} (h1 : oneV v1 = true) (h2 : oneV v2 = true) (h3 : oneV v3 = true) (h4 : oneV v4 = true) (h5 : oneV v5 = true) (h : o + 5 ≤ l.length) : stoV 5 b o (some l) (some [v1, v2, v3, v4, v5]) M K = K (.sc .junk) (M.set b (setAtG l o [v1, v2, v3, v4, v5])) := stoV_n rfl (by simp [h1, h2, h3, h4, h5]) h
@[go_sem] theorem stoV_6 {v1 v2 v3 v4 v5 v6 : V} (h1 : oneV v1 = true) (h2 : oneV v2 = true) (h3 : oneV v3 = true) (h4 : oneV v4 = true) (h5 : oneV v5 = true) (h6 : oneV v6 = true) (h : o + 6 ≤ l.length) : stoV 6 b o (some l) (some [v1, v2, v3, v4, v5, v6]) M K = K (.sc .junk) (M.set b (setAtG l o [v1, v2, v3, v4, v5, v6])) := stoV_n rfl (by simp [h1, h2, h3, h4, h5, h6]) h
@[go_sem] theorem oneV_int {k : IntKind} {n : Int} : oneV (.sc (.int k n)) = true := by simp [oneV, er, oneA]
@[go_sem] theorem oneV_bool {x : Bool} : oneV (.sc (.bool x)) = true := by simp [oneV, er, oneA]
@[go_sem] theorem oneV_str {x : ByteArray} : oneV (.sc (.str x)) = true := by simp [oneV, er, oneA]
@[go_sem] theorem oneV_sl {A : AA} {n c k : Nat} {ex : Bool} : oneV (.sc (.sl A n c ex k)) = true := by simp [oneV, er, oneA]
@[go_sem] theorem oneV_ptr {A : AA} : oneV (.sc (.ptr A)) = true := by simp [oneV, er, oneA]
@[go_sem] theorem oneV_fs {A : AA} {n c k : Nat} {ex : Bool} {xs : List V} : oneV (.fs A n c ex k xs) = true := by simp [oneV, er, oneA]
@[go_sem] theorem oneV_fn {f : Nat} {xs : List V} : oneV (.fn f xs) = true := by simp [oneV, er, oneA]
@[go_sem] theorem nthV_1 {x y : V} : (x :: y :: l)[1]? = .some y := rfl
@[go_sem] theorem nthV_2 {x y z : V} : (x :: y :: z :: l)[2]? = .some z := rfl
@[go_sem] theorem nthV_3 {x y z u : V} : (x :: y :: z :: u :: l)[3]? = .some u := rfl
@[go_sem] theorem nthV_4 {x y z u v : V} : (x :: y :: z :: u :: v :: l)[4]? = .some v := rfl
@[go_sem] theorem nthV_5 {x y z u v w : V} : (x :: y :: z :: u :: v :: w :: l)[5]? = .some w := rfl
@[go_sem] theorem nthV_6 {x y z u v w r : V} : (x :: y :: z :: u :: v :: w :: r :: l)[6]? = .some r := rfl
@[go_sem] theorem setV_1 {x y v : V} : (x :: y :: l).set 1 v = x :: v :: l := rfl
@[go_sem] theorem setV_2 {x y z v : V} : (x :: y :: z :: l).set 2 v = x :: y :: v :: l := rfl
@[go_sem] theorem setV_3 {x y z u v : V} : (x :: y :: z :: u :: l).set 3 v = x :: y :: z :: v :: l := rfl
@[go_sem] theorem setV_4 {x y z u w v : V} : (x :: y :: z :: u :: w :: l).set 4 v = x :: y :: z :: u :: v :: l := rfl
@[go_sem] theorem setV_5 {x y z u w t v : V} : (x :: y :: z :: u :: w :: t :: l).set 5 v = x :: y :: z :: u :: w :: v :: l := rfl
@[go_sem] theorem setV_6 {x y z u w t r v : V} : (x :: y :: z :: u :: w :: t :: r :: l).set 6 v = x :: y :: z :: u :: w :: t :: v :: l := rfl
end
attribute [go_sem] List.drop_zero List.drop_succ_cons List.take_zero List.take_succ_cons List.take_nil List.drop_nil
theorem loop_k {a : IR} (I : EnvV → MH → Prop) (μ : EnvV → MH → Nat) (h0 : I e M)
    (hr : ∀ e M, I e M → ∀ K : EnvV → MH → Prop, (∀ e' M', I e' M' → μ e' M' < μ e M → K e' M') → wpV P a (thenQV K Q) e M) : wpV P (.loop a) Q e M :=
  ⟨I, μ, ⟨e, M, .refl _ _, h0⟩, fun e M hI => hr e M hI _ fun e' M' h1 h2 => ⟨e', M', .refl _ _, h1, h2⟩⟩
end
end Go.M2
