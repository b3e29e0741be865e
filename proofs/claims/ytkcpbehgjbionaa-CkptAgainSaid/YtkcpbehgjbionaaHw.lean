/- Plain tools of this session: what a Go function's frame, blocks and slices are known to hold, and steps over it; for any program. -/
import Derived.Below
import Derived.Maps.AppendAt
import Derived.Lib.ConvBytes
import Derived.Lib.AppendStr
import Derived.Laws.BytesArg
import Derived.Laws.MakeOwn
import Derived.Laws.Slices
import Derived.Lib.SlBytesConst
import Derived.Orders
import Derived.KernelRfl
import Derived.RowKit
import Derived.RowKit3
import Derived.WalkKit
import Derived.LoopN
import Derived.Laws.StructEq
import Derived.Laws.Small
import Derived.Deep.AppendSrc
import Derived.MapKept
import Derived.Laws.BytesArg
set_option linter.unusedVariables false
set_option linter.unusedSimpArgs false
namespace Go.Hw
open Go.RowKit

/-! ### 1. What is known of a frame -/
abbrev Fr := List (Nat × Value)
def lk (t : Nat) : Fr → Option Value
  | [] => none
  | x :: r => if t = x.1 then some x.2 else lk t r
def evF (fr : Fr) : Operand → Option Value
  | .tmp t => lk t fr
  | .const v => some v
  | .func f => some (.func (.func f) #[] #[])
  | .global _ => none
def evs (fr : Fr) : List Operand → Option (List Value)
  | [] => some []
  | x :: r => match evF fr x, evs fr r with
    | some v, some l => some (v :: l)
    | _, _ => none
def sel (fr : Fr) : List Nat → Option Fr
  | [] => some []
  | t :: r => match lk t fr, sel fr r with
    | some v, some l => some ((t, v) :: l)
    | _, _ => none
structure Fits (n : Nat) (fr : Fr) (a : Act) : Prop where
  size : a.tmps.size = n
  defers : a.defers = []
  at_ : ∀ t v, lk t fr = some v → a.tmps[t]? = some v
theorem Fits.ev {n : Nat} {fr : Fr} {a : Act} (h : Fits n fr a) {x : Operand} {v : Value} (e : evF fr x = some v) : a.eval x = v := by
  cases x with
  | tmp t => simp [Act.eval, h.at_ t v e, Array.getD_eq_getD_getElem?]
  | const u => simp [evF] at e; simp [Act.eval, e]
  | func f => simp [evF] at e; simp [Act.eval, e]
  | «global» g => simp [evF] at e
theorem Fits.evs {n : Nat} {fr : Fr} {a : Act} (h : Fits n fr a) : ∀ {l : List Operand} {vs : List Value}, evs fr l = some vs → l.map a.eval = vs
  | [], vs, e => by simp [Hw.evs] at e; simp [e]
  | x :: r, vs, e => by
    unfold Hw.evs at e
    split at e
    · rename_i v l h1 h2
      injection e with e
      subst e
      simp [h.ev h1, h.evs h2]
    · cases e
theorem Fits.put {n : Nat} {fr : Fr} {a : Act} (h : Fits n fr a) {d : Nat} (hd : d < n) (v : Value) : Fits n ((d, v) :: fr) (a.put (some d) v) := by
  refine ⟨by simp [Act.put, h.size], by simp [Act.put, h.defers], fun t u hu => ?_⟩
  unfold lk at hu
  by_cases e : t = d
  · subst e
    simp at hu
    subst hu
    simp [Act.put, h.size, hd]
  · simp [e] at hu
    have := h.at_ t u hu
    simp only [Act.put]
    rw [Array.getElem?_setIfInBounds_ne (fun e' => e e'.symm)]
    exact this
theorem lk_sel {fr : Fr} : ∀ {l : List Nat} {fr' : Fr}, sel fr l = some fr' → ∀ t v, lk t fr' = some v → lk t fr = some v
  | [], fr', e, t, v, h => by simp [sel] at e; subst e; simp [lk] at h
  | u :: r, fr', e, t, v, h => by
    unfold sel at e
    split at e
    · rename_i x l h1 h2
      injection e with e
      subst e
      unfold lk at h
      by_cases et : t = u
      · subst et; simp at h; subst h; exact h1
      · simp [et] at h; exact lk_sel h2 t v h
    · cases e
theorem Fits.sub {n : Nat} {fr fr' : Fr} {a : Act} (h : Fits n fr a) (hs : ∀ t v, lk t fr' = some v → lk t fr = some v) : Fits n fr' a := ⟨h.size, h.defers, fun t v hv => h.at_ t v (hs t v hv)⟩
theorem Fits.sel {n : Nat} {fr fr' : Fr} {a : Act} {l : List Nat} (h : Fits n fr a) (e : sel fr l = some fr') : Fits n fr' a := h.sub (lk_sel e)
/-- A destination that may be none. -/
def putF (fr : Fr) (d : Option Nat) (v : Value) : Fr := match d with | some d => (d, v) :: fr | none => fr
theorem Fits.putF {n : Nat} {fr : Fr} {a : Act} (h : Fits n fr a) {d : Option Nat} (hd : ∀ t, d = some t → t < n) (v : Value) : Fits n (putF fr d v) (a.put d v) := by
  cases d with
  | none => exact h
  | some d => exact h.put (hd d rfl) v

/-! ### 2. Code and what is left of it -/
def isSeq : Code → Bool | .seq _ _ => true | _ => false
def cA : Code → Code | .seq a _ => a | .cond _ a _ => a | .loop a => a | .block _ a => a | _ => .skip
def cB : Code → Code | .seq _ b => b | .cond _ _ b => b | _ => .skip
def blockId : Code → Option Nat | .block i _ => some i | _ => none
def isLoop : Code → Bool | .loop _ => true | _ => false
def isSkip : Code → Bool | .skip => true | .label _ => true | _ => false
def isRet : Code → Bool | .ret => true | _ => false
def exitId : Code → Option Nat | .exit i => some i | _ => none
def condOf : Code → Option Operand | .cond c _ _ => some c | _ => none
def opsOf : Code → List Oper | .region _ ops _ => ops.toList | _ => []
def drawOf : Code → Option Bool | .region _ _ d => some d | _ => none
inductive KI where
  | code (c : Code)
  | block (id : Nat)
  | loop (n : Nat) (c : Code)
section
variable {P : Program}
def Qk (P : Program) (Rf : Exit → Act → World → Prop) : List KI → Exit → Act → World → Prop
  | [] => Rf
  | .code c :: k => Exit.then (c.wp P (Qk P Rf k)) (Qk P Rf k)
  | .block id :: k => Exit.inBlock id (Qk P Rf k)
  | .loop n c :: k => Exit.then (Code.rounds P c (Qk P Rf k) n) (Qk P Rf k)
def unw (id : Nat) : List KI → Option (List KI)
  | [] => none
  | .block i :: k => if id = i then some k else unw id k
  | .code _ :: k => unw id k
  | .loop _ _ :: k => unw id k
theorem Qk_ret {Rf : Exit → Act → World → Prop} {a : Act} {w : World} (h : Rf .ret a w) : ∀ k, Qk P Rf k .ret a w
  | [] => h
  | .code c :: k => Qk_ret h k
  | .block id :: k => Qk_ret h k
  | .loop n c :: k => Qk_ret h k
theorem Qk_exit {Rf : Exit → Act → World → Prop} {a : Act} {w : World} {id : Nat} : ∀ {k k' : List KI}, unw id k = some k' → Qk P Rf k' .normal a w → Qk P Rf k (.exit id) a w
  | [], _, e, _ => by cases e
  | .code c :: k, k', e, h => Qk_exit (k := k) e h
  | .loop n c :: k, k', e, h => Qk_exit (k := k) e h
  | .block i :: k, k', e, h => by
    unfold unw at e
    show Exit.inBlock i (Qk P Rf k) (.exit id) a w
    simp only [Exit.inBlock]
    by_cases hi : id = i
    · simp [hi] at e ⊢; subst e; exact h
    · simp [hi] at e ⊢; exact Qk_exit e h

/-- From here on (k is what is left) the function comes to its end, whatever the frame and the world, if they are as told. -/
def J (P : Program) (Rf : Exit → Act → World → Prop) (n : Nat) (k : List KI) (fr : Fr) (S : World → Prop) : Prop := ∀ a w, Fits n fr a → S w → Qk P Rf k .normal a w
variable {Rf : Exit → Act → World → Prop} {n : Nat} {k : List KI} {fr : Fr} {S : World → Prop} {c : Code}
theorem J.seq (hc : isSeq c = true) (h : J P Rf n (.code (cA c) :: .code (cB c) :: k) fr S) : J P Rf n (.code c :: k) fr S := fun a w hf hS => by
  cases c <;> simp [isSeq] at hc
  exact wp_seq (h a w hf hS)
theorem J.block {id : Nat} (hc : blockId c = some id) (h : J P Rf n (.code (cA c) :: .block id :: k) fr S) : J P Rf n (.code c :: k) fr S := fun a w hf hS => by
  cases c <;> simp [blockId] at hc
  subst hc
  exact wp_block (h a w hf hS)
theorem J.skip (hc : isSkip c = true) (h : J P Rf n k fr S) : J P Rf n (.code c :: k) fr S := fun a w hf hS => by
  cases c <;> simp [isSkip] at hc
  · exact wp_skip (h a w hf hS)
  · exact wp_label (h a w hf hS)
theorem J.enter (m : Nat) (hc : isLoop c = true) (h : J P Rf n (.loop m (cA c) :: k) fr S) : J P Rf n (.code c :: k) fr S := fun a w hf hS => by
  cases c <;> simp [isLoop] at hc
  exact wp_loop_rounds m (h a w hf hS)
theorem J.round {m : Nat} (h : J P Rf n (.code c :: .loop m c :: k) fr S) : J P Rf n (.loop (m + 1) c :: k) fr S := h
theorem J.out {id : Nat} (h : J P Rf n k fr S) : J P Rf n (.block id :: k) fr S := fun a w hf hS => h a w hf hS
theorem J.exit {id : Nat} {k' : List KI} (hc : exitId c = some id) (hk : unw id k = some k') (h : J P Rf n k' fr S) : J P Rf n (.code c :: k) fr S := fun a w hf hS => by
  cases c <;> simp [exitId] at hc
  subst hc
  exact wp_exit (Qk_exit hk (h a w hf hS))
theorem J.cond {o : Operand} (t : Bool) (hc : condOf c = some o) (hv : evF fr o = some (.bool t)) (h : J P Rf n (.code (if t then cA c else cB c) :: k) fr S) : J P Rf n (.code c :: k) fr S := fun a w hf hS => by
  cases c <;> simp [condOf] at hc
  subst hc
  refine wp_cond (hf.ev hv) ?_
  cases t
  · exact h a w hf hS
  · exact h a w hf hS
theorem J.ret (hc : isRet c = true) (h : ∀ a w, Fits n fr a → S w → Rf .ret a w) : J P Rf n (.code c :: k) fr S := fun a w hf hS => by
  cases c <;> simp [isRet] at hc
  exact wp_ret (Qk_ret (h a w hf hS) k)
theorem J.sel {fr' : Fr} (l : List Nat) (e : sel fr l = some fr') (h : J P Rf n k fr' S) : J P Rf n k fr S := fun a w hf hS => h a w (hf.sel e) hS
theorem J.mono {S' : World → Prop} (hs : ∀ w, S w → S' w) (h : J P Rf n k fr S') : J P Rf n k fr S := fun a w hf hS => h a w hf (hs w hS)
theorem J.ex {ι : Type} {S' : ι → World → Prop} (h : ∀ i, J P Rf n k fr (S' i)) : J P Rf n k fr (fun w => ∃ i, S' i w) := fun a w hf ⟨i, hS⟩ => h i a w hf hS
/-- A region in its text's order. -/
def O (P : Program) (Rf : Exit → Act → World → Prop) (n : Nat) (k : List KI) (ops : Array Oper) (l : List Oper) (fr : Fr) (S : World → Prop) : Prop := ∀ a w, Fits n fr a → S w → wpList P ops (Qk P Rf k) l a w
theorem J.region (hc : drawOf c = some false) (h : O P Rf n k (opsOf c).toArray (opsOf c) fr S) : J P Rf n (.code c :: k) fr S := fun a w hf hS => by
  cases c with
  | region id ops d =>
    simp [drawOf] at hc
    subst hc
    have := h a w hf hS
    simp only [opsOf, Array.toArray_toList] at this
    exact wp_region_list this
  | _ => simp [drawOf] at hc
theorem O.nil {ops : Array Oper} {l : List Oper} (hl : l.isEmpty = true) (h : J P Rf n k fr S) : O P Rf n k ops l fr S := fun a w hf hS => by
  cases l with
  | nil => exact wpList_nil (h a w hf hS)
  | cons _ _ => simp at hl
theorem O.sel {ops : Array Oper} {l : List Oper} {fr' : Fr} (is : List Nat) (e : Hw.sel fr is = some fr') (h : O P Rf n k ops l fr' S) : O P Rf n k ops l fr S := fun a w hf hS => h a w (hf.sel e) hS
theorem O.mono {ops : Array Oper} {l : List Oper} {S' : World → Prop} (hs : ∀ w, S w → S' w) (h : O P Rf n k ops l fr S') : O P Rf n k ops l fr S := fun a w hf hS => h a w hf (hs w hS)
theorem O.ex {ops : Array Oper} {l : List Oper} {ι : Type} {S' : ι → World → Prop} (h : ∀ i, O P Rf n k ops l fr (S' i)) : O P Rf n k ops l fr (fun w => ∃ i, S' i w) := fun a w hf ⟨i, hS⟩ => h i a w hf hS

/-! ### 3. One operation, wherever it stands -/
/-- o, done in any frame and world that are as told, leaves some v i in its destination and the world as S' i tells. -/
def Ev (P : Program) (o : Oper) (fr : Fr) (S : World → Prop) {ι : Type} (v : ι → Value) (S' : ι → World → Prop) : Prop :=
  ∀ n a w, Fits n fr a → S w → ∀ (K : Act → World → Prop) (Q : Exit → Act → World → Prop), (∀ i w', S' i w' → K (a.put o.dst (v i)) w') → o.wp P a w K Q
theorem O.ev {ops : Array Oper} {l : List Oper} {o : Oper} {ι : Type} {v : ι → Value} {S' : ι → World → Prop} (hl : l.head? = some o) (hg : o.guard.isNone = true) (hd : (match o.dst with | some d => decide (d < n) | none => true) = true)
    (he : Ev P o fr S v S') (h : ∀ i, O P Rf n k ops l.tail (putF fr o.dst (v i)) (S' i)) : O P Rf n k ops l fr S := fun a w hf hS => by
  cases l with
  | nil => simp at hl
  | cons x r =>
    simp at hl
    subst hl
    refine wpList_plain (by simpa using hg) fun K hK => he n a w hf hS K _ fun i w' hS' => hK _ _ (h i _ w' (hf.putF (fun t e => ?_) _) hS')
    rw [e] at hd
    simpa using hd
end

/-! ### 4. Worlds -/
/-- What may have turned between w and w' lies in X. -/
def Away (X : Nat → Nat → Prop) (w w' : World) : Prop := w.heap.size ≤ w'.heap.size ∧ ∀ b o, b < w.heap.size → ¬ X b o → w'.cell? ⟨b, o, none⟩ = w.cell? ⟨b, o, none⟩
theorem Away.refl (X : Nat → Nat → Prop) (w : World) : Away X w w := ⟨Nat.le_refl _, fun _ _ _ _ => rfl⟩
theorem Away.mono {X Y : Nat → Nat → Prop} {w w' : World} (h : Away X w w') (hx : ∀ b o, X b o → Y b o) : Away Y w w' := ⟨h.1, fun b o hb hy => h.2 b o hb (fun hx' => hy (hx b o hx'))⟩
/-- Of the old blocks those of L alone may have turned. -/
structure Keep (L : List Nat) (w w' : World) : Prop where
  os : w'.os = w.os
  tape : w'.tape = w.tape
  output : w'.output = w.output
  size : w.heap.size ≤ w'.heap.size
  block : ∀ b, b < w.heap.size → b ∉ L → w'.heap[b]? = w.heap[b]?
theorem Keep.refl (L : List Nat) (w : World) : Keep L w w := ⟨rfl, rfl, rfl, Nat.le_refl _, fun _ _ _ => rfl⟩
theorem Keep.trans {L L' : List Nat} {w w1 w2 : World} (h : Keep L w w1) (k : Keep L' w1 w2) (hl : ∀ b, b ∈ L' → b ∈ L ∨ w.heap.size ≤ b) : Keep L w w2 :=
  ⟨k.os.trans h.os, k.tape.trans h.tape, k.output.trans h.output, Nat.le_trans h.size k.size, fun b hb hn => by
    refine (k.block b (Nat.lt_of_lt_of_le hb h.size) (fun hb' => ?_)).trans (h.block b hb hn)
    rcases hl b hb' with h1 | h1
    · exact hn h1
    · omega⟩
theorem Keep.mono {L L' : List Nat} {w w' : World} (h : Keep L w w') (hl : ∀ b, b ∈ L → b ∈ L') : Keep L' w w' := ⟨h.os, h.tape, h.output, h.size, fun b hb hn => h.block b hb (fun hb' => hn (hl b hb'))⟩
theorem Keep.cell {L : List Nat} {w w' : World} (h : Keep L w w') {p : Addr} (hb : p.block < w.heap.size) (hn : p.block ∉ L) : w'.cell? p = w.cell? p := World.cell?_of_block (w := w) (h.block p.block hb hn)
theorem Keep.below {w w' : World} (h : Keep [] w w') : Below w.heap.size w w' := ⟨h.os, h.tape, h.output, h.size, fun b hb => h.block b hb (by simp)⟩
theorem Keep.drew {L : List Nat} {w w' : World} (h : Keep L w w') : Keep L w w'.drew := ⟨h.os, h.tape, h.output, h.size, h.block⟩
theorem Keep.alloc (L : List Nat) (w : World) (o : Obj) : Keep L w (w.alloc o) := ⟨rfl, rfl, rfl, by simp, fun b hb _ => Below.heap_alloc w o b hb⟩
theorem Keep.setCell {L : List Nat} (w : World) {p : Addr} (hp : p.block ∈ L) (u : Value) : Keep L w (w.setCell p u) := ⟨rfl, rfl, rfl, by simp [World.setCell], fun b hb hn => Below.heap_setCell w p u b (fun e => hn (e ▸ hp))⟩
theorem lt_of_heap {w : World} {g : Nat} {o : Obj} (h : w.heap[g]? = some o) : g < w.heap.size := (Array.getElem?_eq_some_iff.1 h).1

/-! ### 5. Kinds: what a value's cells say -/
structure Kd (α : Type) where
  sz : Nat
  K : World → α → List Value → Prop
  len : ∀ {w x cs}, K w x cs → cs.length = sz
  one : ∀ {w x cs}, K w x cs → ∀ u ∈ cs, u.oneCell' = true
  mono : ∀ {w w' x cs}, Away (fun _ _ => False) w w' → K w x cs → K w' x cs
/-- A slice that lies at A and has the capacity c reads as xs. -/
def Rd {α : Type} (d : Kd α) (A : Option Addr) (c : Nat) (xs : List α) (w : World) : Prop :=
  xs.length ≤ c ∧ ∀ (j : Nat) (x : α), xs[j]? = some x → ∃ b o cs, A = some ⟨b, o, none⟩ ∧ d.K w x cs ∧ ∀ (i : Nat) (u : Value), cs[i]? = some u → w.cell? ⟨b, o + j * d.sz + i, none⟩ = some u
theorem cell_lt {w : World} {p : Addr} {u : Value} (h : w.cell? p = some u) : p.block < w.heap.size := World.block_lt_of_cell? w p h
theorem Rd.mono {α : Type} {d : Kd α} {A : Option Addr} {c : Nat} {xs : List α} {w w' : World} (hw : Away (fun _ _ => False) w w') (h : Rd d A c xs w) : Rd d A c xs w' :=
  ⟨h.1, fun j x hx => by
    obtain ⟨b, o, cs, e, hK, hc⟩ := h.2 j x hx
    exact ⟨b, o, cs, e, d.mono hw hK, fun i u hu => by
      have := hc i u hu
      rw [hw.2 b _ (cell_lt this) (fun h => h)]
      exact this⟩⟩
namespace Kd
def scalar {α : Type} (enc : α → Value) (h1 : ∀ x, (enc x).oneCell' = true) : Kd α where
  sz := 1
  K := fun _ x cs => cs = [enc x]
  len := fun h => by rw [h]; rfl
  one := fun h u hu => by rw [h] at hu; rw [List.mem_singleton.1 hu]; exact h1 _
  mono := fun _ h => h
def int (k : IntKind) : Kd Int := scalar (Value.int k) (fun _ => rfl)
def bool : Kd Bool := scalar Value.bool (fun _ => rfl)
def string : Kd ByteArray := scalar Value.string (fun _ => rfl)
def slice {α : Type} (d : Kd α) : Kd (List α) where
  sz := 1
  K := fun w xs cs => ∃ A c, cs = [.slice A xs.length c] ∧ Rd d A c xs w
  len := by rintro w x cs ⟨A, c, rfl, _⟩; rfl
  one := by rintro w x cs ⟨A, c, rfl, _⟩ u hu; rw [List.mem_singleton.1 hu]; rfl
  mono := by rintro w w' x cs hw ⟨A, c, rfl, h⟩; exact ⟨A, c, rfl, h.mono hw⟩
end Kd
/-! ### 6. What is known of the world in a function's body -/
/-- What is read: the memory that is known, as rows of cells (block, place of the first, cells). -/
abbrev Mem := List (Nat × Nat × List Value)
def RowAt (x : Nat × Nat × List Value) (w : World) : Prop := ∀ (i : Nat) (u : Value), x.2.2[i]? = some u → w.cell? ⟨x.1, x.2.1 + i, none⟩ = some u
structure Box where
  g : Nat
  cs : List Value
  t : TypeId
structure Row where
  v : Value
  e : TypeId
  sz : Nat
  n : Nat
  Q : List Value → World → Prop
def ownB (v : Value) : List Nat := match v with | .slice (some a) _ _ => [a.block] | _ => []
def keys (bx : List Box) (rw : List Row) : List Nat := bx.map (·.g) ++ rw.flatMap (fun r => ownB r.v)
def XL (X : Nat → Nat → Prop) (L : List Nat) : Nat → Nat → Prop := fun b o => X b o ∨ b ∈ L
theorem mem_ownB {v : Value} {b : Nat} : b ∈ ownB v ↔ v.ownBlock = some b := by
  cases v <;> simp [ownB, Value.ownBlock]
  rename_i a _ _
  cases a <;> simp
  exact eq_comm
structure St (X : Nat → Nat → Prop) (w0 : World) (L0 : List Nat) (bx : List Box) (rw : List Row) (ro : Mem) (φ : List (World → Prop)) (w : World) : Prop where
  xb : ∀ b o, X b o → b < w0.heap.size ∧ b ∉ L0
  keep : Keep L0 w0 w
  own : ∀ b, b ∈ keys bx rw → b ∈ L0 ∨ w0.heap.size ≤ b
  nodup : (keys bx rw).Nodup
  boxes : ∀ p, p ∈ bx → w.heap[p.g]? = some (.cells p.cs.toArray p.t (0, 0))
  rows : ∀ r, r ∈ rw → ∃ cells, w.ownsRow 0 r.e r.sz r.v r.n cells ∧ ∀ w', Away (XL X (keys bx rw)) w w' → r.Q cells w'
  ros : ∀ x, x ∈ ro → ∀ w', Away (XL X (keys bx rw)) w w' → RowAt x w'
  facts : ∀ f, f ∈ φ → ∀ w', Away (XL X (keys bx rw)) w w' → f w'
theorem own_lt {w : World} {base : Nat} {e : TypeId} {sz n : Nat} {v : Value} {xs : List Value} (h : w.ownsRow base e sz v n xs) {b : Nat} (hb : b ∈ ownB v) : b < w.heap.size := by
  rcases h.2 with ⟨rfl, _⟩ | ⟨g, cap, cur, rfl, _, hh, _⟩
  · simp [ownB] at hb
  · simp [ownB] at hb
    subst hb
    exact lt_of_heap hh
section
variable {X : Nat → Nat → Prop} {w0 : World} {L0 : List Nat} {bx bx' : List Box} {rw rw' : List Row} {ro ro' : Mem} {φ φ' : List (World → Prop)} {w w' : World}
theorem St.lt (h : St X w0 L0 bx rw ro φ w) {b : Nat} (hb : b ∈ keys bx rw) : b < w.heap.size := by
  rcases List.mem_append.1 hb with hb | hb
  · obtain ⟨p, hp, rfl⟩ := List.mem_map.1 hb
    exact lt_of_heap (h.boxes p hp)
  · obtain ⟨r, hr, hb⟩ := List.mem_flatMap.1 hb
    obtain ⟨cells, ho, _⟩ := h.rows r hr
    exact own_lt ho hb
theorem St.away (h : St X w0 L0 bx rw ro φ w) (hk : Keep (keys bx rw) w w') : Away (XL X (keys bx rw)) w w' :=
  ⟨hk.size, fun b o hb hn => hk.cell (p := ⟨b, o, none⟩) hb (fun hb' => hn (.inr hb'))⟩
/-- What is known goes on: what has turned is this function's own, or new. -/
theorem St.onward (h : St X w0 L0 bx rw ro φ w) (hk : Keep (keys bx rw) w w') {L : List Nat} (hL : ∀ b, b ∈ L → b ∈ keys bx rw ∨ w.heap.size ≤ b) {w2 : World} (h2 : Away (XL X L) w' w2) : Away (XL X (keys bx rw)) w w2 := by
  refine ⟨Nat.le_trans hk.size h2.1, fun b o hb hn => ?_⟩
  rw [h2.2 b o (Nat.lt_of_lt_of_le hb hk.size) ?_, (h.away hk).2 b o hb hn]
  rintro (hx | hx)
  · exact hn (.inl hx)
  · rcases hL b hx with h1 | h1
    · exact hn (.inr h1)
    · omega
theorem St.next (h : St X w0 L0 bx rw ro φ w) (hk : Keep (keys bx rw) w w') (hL : ∀ b, b ∈ keys bx' rw' → b ∈ keys bx rw ∨ w.heap.size ≤ b) (hd : (keys bx' rw').Nodup)
    (hb : ∀ p, p ∈ bx' → w'.heap[p.g]? = some (.cells p.cs.toArray p.t (0, 0)))
    (hr : ∀ r, r ∈ rw' → ∃ cells, w'.ownsRow 0 r.e r.sz r.v r.n cells ∧ ∀ w2, Away (XL X (keys bx' rw')) w' w2 → r.Q cells w2)
    (ho : ∀ x, x ∈ ro' → x ∈ ro ∨ ∀ w2, Away (XL X (keys bx' rw')) w' w2 → RowAt x w2) (hf : ∀ f, f ∈ φ' → f ∈ φ ∨ ∀ w2, Away (XL X (keys bx' rw')) w' w2 → f w2) : St X w0 L0 bx' rw' ro' φ' w' := by
  refine ⟨h.xb, h.keep.trans hk h.own, fun b hb' => ?_, hd, hb, hr, fun x hx w2 h2 => ?_, fun f hf' w2 h2 => ?_⟩
  · rcases hL b hb' with h1 | h1
    · exact h.own b h1
    · exact .inr (Nat.le_trans h.keep.size h1)
  · rcases ho x hx with h1 | h1
    · exact h.ros x h1 w2 (h.onward hk hL h2)
    · exact h1 w2 h2
  · rcases hf f hf' with h1 | h1
    · exact h.facts f h1 w2 (h.onward hk hL h2)
    · exact h1 w2 h2
/-- A row that nobody has touched. -/
theorem St.row_on (h : St X w0 L0 bx rw ro φ w) (hk : Keep (keys bx rw) w w') (hL : ∀ b, b ∈ keys bx' rw' → b ∈ keys bx rw ∨ w.heap.size ≤ b) {r : Row} (hr : r ∈ rw) (hs : ∀ b, b ∈ ownB r.v → w'.heap[b]? = w.heap[b]?) :
    ∃ cells, w'.ownsRow 0 r.e r.sz r.v r.n cells ∧ ∀ w2, Away (XL X (keys bx' rw')) w' w2 → r.Q cells w2 := by
  obtain ⟨cells, ho, hq⟩ := h.rows r hr
  refine ⟨cells, ⟨ho.1, ?_⟩, fun w2 h2 => hq w2 (h.onward hk hL h2)⟩
  rcases ho.2 with h2 | ⟨g, cap, cur, e, hg, hh, r'⟩
  · exact .inl h2
  · exact .inr ⟨g, cap, cur, e, hg, by rw [hs g (by rw [e]; simp [ownB])]; exact hh, r'⟩
/-- A call that turned nothing of what there was. -/
theorem St.kept (h : St X w0 L0 bx rw ro φ w) (hk : Keep [] w w') : St X w0 L0 bx rw ro φ w' :=
  h.next (hk.mono (by simp)) (fun b hb => .inl hb) h.nodup (fun p hp => by rw [hk.block p.g (lt_of_heap (h.boxes p hp)) (by simp)]; exact h.boxes p hp)
    (fun r hr => h.row_on (hk.mono (by simp)) (fun b hb => .inl hb) hr (fun b hb => hk.block b (h.lt (List.mem_append_right _ (List.mem_flatMap.2 ⟨r, hr, hb⟩))) (by simp))) (fun x hx => .inl hx) (fun f hf => .inl hf)
theorem St.fact (h : St X w0 L0 bx rw ro φ w) (i : Nat) {f : World → Prop} (hf : φ[i]? = some f) : ∀ w', Away (XL X (keys bx rw)) w w' → f w' := h.facts f (List.mem_of_getElem? hf)
theorem St.now (h : St X w0 L0 bx rw ro φ w) (i : Nat) {f : World → Prop} (hf : φ[i]? = some f) : f w := h.fact i hf w (Away.refl _ _)
theorem St.add (h : St X w0 L0 bx rw ro φ w) {f : World → Prop} (hf : ∀ w', Away (XL X (keys bx rw)) w w' → f w') : St X w0 L0 bx rw ro (f :: φ) w :=
  ⟨h.xb, h.keep, h.own, h.nodup, h.boxes, h.rows, h.ros, fun g hg => by rcases List.mem_cons.1 hg with rfl | hg; exact hf; exact h.facts g hg⟩
def pick {α : Type} (l : List α) (is : List Nat) : Option (List α) := match is with
  | [] => some []
  | i :: r => match l[i]?, pick l r with
    | some x, some y => some (x :: y)
    | _, _ => none
theorem pick_mem {α : Type} {l : List α} : ∀ {is : List Nat} {y : List α}, pick l is = some y → ∀ x, x ∈ y → x ∈ l
  | [], y, e, x, h => by simp [pick] at e; subst e; simp at h
  | i :: r, y, e, x, h => by
    unfold pick at e
    split at e
    · rename_i u v h1 h2
      injection e with e
      subst e
      rcases List.mem_cons.1 h with rfl | h
      · exact List.mem_of_getElem? h1
      · exact pick_mem h2 x h
    · cases e
theorem St.facts_sel (is : List Nat) (e : pick φ is = some φ') (h : St X w0 L0 bx rw ro φ w) : St X w0 L0 bx rw ro φ' w := ⟨h.xb, h.keep, h.own, h.nodup, h.boxes, h.rows, h.ros, fun f hf => h.facts f (pick_mem e f hf)⟩
/-- Boxes and rows in another order, or fewer of them. -/
theorem St.sub (h : St X w0 L0 bx rw ro φ w) (hb : ∀ p, p ∈ bx' → p ∈ bx) (hr : ∀ r, r ∈ rw' → r ∈ rw) (hd : (keys bx' rw').Nodup) : St X w0 L0 bx' rw' ro φ w := by
  have hL : ∀ b, b ∈ keys bx' rw' → b ∈ keys bx rw := by
    intro b hb'
    rcases List.mem_append.1 hb' with h1 | h1
    · obtain ⟨p, hp, rfl⟩ := List.mem_map.1 h1
      exact List.mem_append_left _ (List.mem_map.2 ⟨p, hb p hp, rfl⟩)
    · obtain ⟨r, hr', h1⟩ := List.mem_flatMap.1 h1
      exact List.mem_append_right _ (List.mem_flatMap.2 ⟨r, hr r hr', h1⟩)
  exact h.next (Keep.refl _ _) (fun b hb' => .inl (hL b hb')) hd (fun p hp => h.boxes p (hb p hp)) (fun r hr' => h.row_on (Keep.refl _ _) (fun b hb' => .inl (hL b hb')) (hr r hr') (fun _ _ => rfl)) (fun x hx => .inl hx) (fun f hf => .inl hf)
end

/-! ### 7. Operations that compute, read or write what is known -/
section
variable {P : Program}
def szB (P : Program) (t : TypeId) : Option Nat := (P.info? t).map (·.size)
def aggB (P : Program) (t : TypeId) : Option Bool := match P.underlying t with | some (.struct _) => some true | some (.array _ _) => some true | some _ => some false | none => none
def fieldOff (P : Program) (s : TypeId) (f : Nat) : Option (Nat × TypeId) := match P.underlying s with
  | some (.struct fs) => match fs[f]? with
    | some fd => match szB P fd.type with
      | some (_ + 1) => some (fd.offset, fd.type)
      | _ => none
    | none => none
  | _ => none
theorem run_sizeOf {t : TypeId} {n : Nat} (h : szB P t = some n) (w : World) : (sizeOf t).run P w = .ok n w := by
  unfold szB at h
  obtain ⟨i, hi, rfl⟩ := Option.map_eq_some_iff.1 h
  simp [sizeOf, typeInfo, hi]
theorem run_isAgg {t : TypeId} {b : Bool} (h : aggB P t = some b) (w : World) : (isAgg t).run P w = .ok b w := by
  unfold aggB at h
  split at h <;> simp at h <;> subst h <;> rename_i hu
  · simp [isAgg, run_underlying hu]
  · simp [isAgg, run_underlying hu]
  · simp only [isAgg, Sem.run_bind, run_underlying hu, Result.andThen_ok]
    first | rfl | (split <;> simp_all)
theorem run_fieldAt {s : TypeId} {f b o off : Nat} {ft : TypeId} (h : fieldOff P s f = some (off, ft)) (w : World) : (Instr.fieldAt s (.pointer (some ⟨b, o, none⟩)) f).run P w = .ok (.pointer (some ⟨b, o + off, none⟩)) w := by
  unfold fieldOff at h
  split at h
  · rename_i fs hu
    split at h
    · rename_i fd hfd
      split at h
      · rename_i m hm
        simp at h
        obtain ⟨rfl, rfl⟩ := h
        have hs := run_sizeOf hm w
        simp [Instr.fieldAt, run_underlying hu, hfd, Instr.sureAddr, fieldPlace, hs]
        unfold Addr.add
        split <;> simp_all
      · cases h
    · cases h
  · cases h
/-- What an operation on plain values answers. -/
def binV (op : BinOp) (x y : Value) : Option Value := match x, y with
  | .int k a, .int k' b => if k = k' then (match op with
    | .add => some (.int k (k.wrap (a + b)))
    | .sub => some (.int k (k.wrap (a - b)))
    | .mul => some (.int k (k.wrap (a * b)))
    | .and => some (.int k (k.wrap ((BitVec.ofInt k.bits a &&& BitVec.ofInt k.bits b).toNat : Nat)))
    | .or => some (.int k (k.wrap ((BitVec.ofInt k.bits a ||| BitVec.ofInt k.bits b).toNat : Nat)))
    | .xor => some (.int k (k.wrap ((BitVec.ofInt k.bits a ^^^ BitVec.ofInt k.bits b).toNat : Nat)))
    | .eql => some (.bool (a == b))
    | .neq => some (.bool (a != b))
    | .lss => some (.bool (decide (a < b)))
    | .leq => some (.bool (decide (a ≤ b)))
    | .gtr => some (.bool (decide (a > b)))
    | .geq => some (.bool (decide (a ≥ b)))
    | _ => none) else none
  | .string a, .string b => (match op with
    | .eql => some (.bool (a.toList == b.toList))
    | .neq => some (.bool (!(a.toList == b.toList)))
    | .lss => some (.bool (Op.bytesLess a.toList b.toList))
    | .leq => some (.bool (Op.bytesLess a.toList b.toList || a.toList == b.toList))
    | .gtr => some (.bool (!(Op.bytesLess a.toList b.toList || a.toList == b.toList)))
    | .geq => some (.bool (!(Op.bytesLess a.toList b.toList)))
    | _ => none)
  | _, _ => none
theorem run_binV {op : BinOp} {x y v : Value} (h : binV op x y = some v) (t : TypeId) (ox oy : Operand) (w : World) : (do eqGuard op t ox oy x y; binOp op t x y : Sem Value).run P w = .ok v w := by
  unfold binV at h
  split at h
  · rename_i k a k' b
    by_cases hk : k = k'
    · subst hk
      simp only [if_true] at h
      cases op <;> simp only [Option.some.injEq, reduceCtorEq] at h <;> subst h <;> simp [eqGuard, binOp, Op.intArith, Op.intCmp, Op.intBits]
    · simp [hk] at h
  · rename_i a b
    cases op <;> simp only [Option.some.injEq, reduceCtorEq] at h <;> subst h <;> simp [eqGuard, binOp, Op.stringOp]
  · cases h
def lenV (P : Program) (t : TypeId) (x : Value) : Option Value := match P.underlying t, x with
  | some .string, .string s => some (goInt (s.size : Nat))
  | some (.slice _), .slice _ n _ => some (goInt (n : Nat))
  | _, _ => none
theorem run_lenV {t ty : TypeId} {x v : Value} (h : lenV P t x = some v) (w : World) : (Builtin.len_ #[t] ty #[x]).run P w = .ok v w := by
  unfold lenV at h
  split at h
  · rename_i hu
    simp at h
    subst h
    simp [Builtin.len_, run_underlying hu]
  · rename_i hu
    simp at h
    subst h
    simp [Builtin.len_, run_underlying hu]
  · cases h
def convV (P : Program) (src dst : TypeId) (x : Value) : Option Value := match P.underlying src, P.underlying dst, x with
  | some _, some (.int k), .int _ n => some (.int k (k.wrap n))
  | some _, some .string, .string s => some (.string s)
  | _, _, _ => none
theorem run_convV {src dst : TypeId} {x v : Value} (h : convV P src dst x = some v) (w : World) : (convert src dst x).run P w = .ok v w := by
  unfold convV at h
  split at h
  · rename_i d k q n h1 h2
    simp at h
    subst h
    simp [convert, run_underlying h1, run_underlying h2, Conv.intToInt]
  · rename_i d s h1 h2
    simp at h
    subst h
    simp [convert, run_underlying h1, run_underlying h2]
  · cases h
def unV (op : UnOp) (x : Value) : Option Value := match op, x with
  | .neg, .int k n => some (.int k (k.wrap (0 - n)))
  | .not, .bool b => some (.bool (!b))
  | .xor, .int k n => some (.int k (k.wrap ((BitVec.ofInt k.bits (if k.signed then -1 else k.max) ^^^ BitVec.ofInt k.bits n).toNat : Nat)))
  | _, _ => none
theorem run_unV {op : UnOp} {x v : Value} (h : unV op x = some v) (w : World) : (Op.unary op x).run P w = .ok v w := by
  unfold unV at h
  split at h <;> simp at h <;> subst h <;> simp [Op.unary, Op.intArith, Op.intBits]
def minV (x y : Value) : Option Value := match x, y with
  | .int k a, .int k' b => if k = k' then some (.int k (if b < a then b else a)) else none
  | _, _ => none
def maxV (x y : Value) : Option Value := match x, y with
  | .int k a, .int k' b => if k = k' then some (.int k (if b > a then b else a)) else none
  | _, _ => none
theorem run_minV {ts : Array TypeId} {ty : TypeId} {x y v : Value} (h : minV x y = some v) (w : World) : (Builtin.min_ ts ty #[x, y]).run P w = .ok v w := by
  unfold minV at h
  split at h
  · rename_i k a k' b
    by_cases hk : k = k'
    · subst hk; simp at h; subst h; simp [Builtin.min_, List.foldlM, Builtin.min2]
    · simp [hk] at h
  · cases h
theorem run_maxV {ts : Array TypeId} {ty : TypeId} {x y v : Value} (h : maxV x y = some v) (w : World) : (Builtin.max_ ts ty #[x, y]).run P w = .ok v w := by
  unfold maxV at h
  split at h
  · rename_i k a k' b
    by_cases hk : k = k'
    · subst hk; simp at h; subst h; simp [Builtin.max_, List.foldlM, Builtin.max2]
    · simp [hk] at h
  · cases h
def memOf (bx : List Box) (ro : Mem) : Mem := bx.map (fun b => (b.g, 0, b.cs)) ++ ro
def MemAt (m : Mem) (w : World) : Prop := ∀ x, x ∈ m → RowAt x w
/-- A load: which row, and which place in it; the equations that it asks for. -/
def loadV (P : Program) (m : Mem) (k i : Nat) (t : TypeId) (x : Value) : Option (Value × List (Nat × Nat)) := match x, m[k]? with
  | .pointer (some ⟨b, o, none⟩), some (g, o0, cs) => match aggB P t, szB P t with
    | some true, some n => if ((cs.drop i).take n).length = n then some (.agg ((cs.drop i).take n).toArray, [(b, g), (o, o0 + i)]) else none
    | some false, some _ => match cs[i]? with
      | some v => some (v, [(b, g), (o, o0 + i)])
      | none => none
    | _, _ => none
  | _, _ => none
theorem run_loadV {m : Mem} {k i : Nat} {t : TypeId} {x v : Value} {es : List (Nat × Nat)} {w : World} (h : loadV P m k i t x = some (v, es)) (hm : MemAt m w) (he : ∀ e, e ∈ es → e.1 = e.2) : (Instr.loadAt t x).run P w = .ok v w := by
  unfold loadV at h
  split at h
  · rename_i b o g o0 cs hk
    have hmem := hm _ (List.mem_of_getElem? hk)
    simp only [RowAt] at hmem
    split at h
    · rename_i n ha hs
      split at h
      · rename_i hl
        simp only [Option.some.injEq, Prod.mk.injEq] at h
        obtain ⟨rfl, rfl⟩ := h
        have e1 := he (b, g) (by simp)
        have e2 := he (o, o0 + i) (by simp)
        simp only at e1 e2
        subst e1 e2
        have hc := run_loadCells_list (P := P) w ⟨b, o0 + i, none⟩ ((cs.drop i).take n) (fun j u hu => by
          have hj : j < n := by have := (List.getElem?_eq_some_iff.1 hu).1; omega
          rw [List.getElem?_take_of_lt hj, List.getElem?_drop] at hu
          have := hmem _ _ hu
          rw [show (⟨b, o0 + i, none⟩ : Addr).add j = ⟨b, o0 + (i + j), none⟩ by unfold Addr.add; split <;> simp_all [Nat.add_assoc]]
          exact this)
        rw [hl] at hc
        simp [Instr.loadAt, Instr.sureAddr, loadVar, run_isAgg ha, run_sizeOf hs, hc]
      · cases h
    · rename_i n ha hs
      split at h
      · rename_i u hu
        simp only [Option.some.injEq, Prod.mk.injEq] at h
        obtain ⟨rfl, rfl⟩ := h
        have e1 := he (b, g) (by simp)
        have e2 := he (o, o0 + i) (by simp)
        simp only at e1 e2
        subst e1 e2
        have := hmem _ _ hu
        simp [Instr.loadAt, Instr.sureAddr, loadVar, run_isAgg ha, load, Sem.run, this]
      · cases h
    · cases h
  · cases h
/-- A store into a box: its cells behind it. -/
def storeV (P : Program) (bx : List Box) (k i : Nat) (t : TypeId) (x y : Value) : Option (List Value × List (Nat × Nat)) := match x, bx[k]?, szB P t with
  | .pointer (some ⟨b, o, none⟩), some p, some n => if y.cells.toList.length = n ∧ y.cells.toList.all (·.oneCell') = true ∧ i + n ≤ p.cs.length then some (p.cs.take i ++ y.cells.toList ++ p.cs.drop (i + n), [(b, p.g), (o, i)]) else none
  | _, _, _ => none
theorem run_storeV {bx : List Box} {k i : Nat} {t : TypeId} {x y : Value} {cs' : List Value} {es : List (Nat × Nat)} {w : World} (h : storeV P bx k i t x y = some (cs', es)) (hb : ∀ p, p ∈ bx → w.heap[p.g]? = some (.cells p.cs.toArray p.t (0, 0))) (he : ∀ e, e ∈ es → e.1 = e.2) :
    ∃ p w', bx[k]? = some p ∧ (Instr.storeAt t x y).run P w = .ok () w' ∧ Keep [p.g] w w' ∧ w'.heap[p.g]? = some (.cells cs'.toArray p.t (0, 0)) := by
  unfold storeV at h
  split at h
  · rename_i b o p n hp hs
    split at h
    · rename_i hc
      obtain ⟨h1, h2, h3⟩ := hc
      simp only [Option.some.injEq, Prod.mk.injEq] at h
      obtain ⟨rfl, rfl⟩ := h
      have e1 := he (b, p.g) (by simp)
      have e2 := he (o, i) (by simp)
      simp only at e1 e2
      subst e1 e2
      have hg := hb p (List.mem_of_getElem? hp)
      have hr := run_storeCells_at (P := P) p.g o p.t y.cells.toList 0 p.cs.toArray w hg (by simp at h1 ⊢; omega) (fun v hv => by simpa using List.all_eq_true.1 h2 v hv)
      refine ⟨p, w.setRow p.g (List.take (o + 0) p.cs.toArray.toList ++ y.cells.toList ++ List.drop (o + 0 + y.cells.toList.length) p.cs.toArray.toList).toArray, hp, ?_, ?_, ?_⟩
      · have : y.cells.size = n := by simpa using h1
        simp [Instr.storeAt, Instr.sureAddr, storeVar, run_sizeOf hs, this, hr]
      · exact ⟨rfl, rfl, rfl, by simp [World.setRow], fun b' hb' hn => setRow_other w p.g b' _ (by simpa using hn)⟩
      · have := setRow_heap w p.g p.cs.toArray (p.cs.take o ++ y.cells.toList ++ p.cs.drop (o + n)).toArray p.t (0, 0) hg
        simpa [h1, Nat.add_zero] using this
    · cases h
  · cases h

inductive PR where
  | val (v : Value) (es : List (Nat × Nat))
  | upd (k : Nat) (cs : List Value) (es : List (Nat × Nat))
def evParts (fr : Fr) : List (Nat × Operand) → Option (List (Nat × Value))
  | [] => some []
  | x :: r => match evF fr x.2, evParts fr r with
    | some v, some l => some ((x.1, v) :: l)
    | _, _ => none
theorem Fits.parts {n : Nat} {fr : Fr} {a : Act} (h : Fits n fr a) : ∀ {l : List (Nat × Operand)} {vs : List (Nat × Value)}, evParts fr l = some vs → l.map (fun x => (x.1, a.eval x.2)) = vs
  | [], vs, e => by simp [evParts] at e; simp [e]
  | x :: r, vs, e => by
    unfold evParts at e
    split at e
    · rename_i v l h1 h2
      injection e with e
      subst e
      simp [h.ev h1, h.parts h2]
    · cases e
def fieldV (P : Program) (s : TypeId) (x : Value) (f : Nat) : Option Value := match x, fieldOff P s f with
  | .agg cs, some (off, ft) => match aggB P ft, szB P ft with
    | some true, some n => some (.agg (cs.extract off (off + n)))
    | some false, _ => cs[off]?
    | _, _ => none
  | _, _ => none
theorem run_fieldV {s : TypeId} {x v : Value} {f : Nat} (h : fieldV P s x f = some v) (w : World) : (Instr.field s x f).run P w = .ok v w := by
  unfold fieldV at h
  split at h
  · rename_i cs off ft hfo
    unfold fieldOff at hfo
    split at hfo
    · rename_i fs hu
      split at hfo
      · rename_i fd hfd
        split at hfo
        · rename_i m hm
          simp at hfo
          obtain ⟨rfl, rfl⟩ := hfo
          split at h
          · rename_i n ha hs
            simp at h
            subst h
            simp [Instr.field, run_underlying hu, hfd, asAgg, part, run_isAgg ha, run_sizeOf hs]
          · rename_i ha
            simp [Instr.field, run_underlying hu, hfd, asAgg, part, run_isAgg ha, h]
          · cases h
        · cases hfo
      · cases hfo
    · cases hfo
  · cases h
def callV (P : Program) (c : Call) (fr : Fr) : Option Value := match c.callee, c.args.toList, c.argTypes.toList with
  | .builtin .len, [x], [t] => (evF fr x).bind (lenV P t)
  | .builtin .min, [x, y], _ => match evF fr x, evF fr y with
    | some u, some v => minV u v
    | _, _ => none
  | .builtin .max, [x, y], _ => match evF fr x, evF fr y with
    | some u, some v => maxV u v
    | _, _ => none
  | _, _, _ => none
theorem run_callV {c : Call} {fr : Fr} {n : Nat} {a : Act} {v : Value} {ty : TypeId} (h : callV P c fr = some v) (hf : Fits n fr a) (w : World) : (do let d ← resolve a.eval c ty; invoke d.target d.args : Sem Next).run P w = .ok (.value v) w := by
  unfold callV at h
  split at h
  · rename_i x t hc ha ht
    obtain ⟨u, hu, h⟩ := Option.bind_eq_some_iff.1 h
    have h1 : c.args = #[x] := by rw [← Array.toArray_toList (xs := c.args), ha]
    have h2 : c.argTypes = #[t] := by rw [← Array.toArray_toList (xs := c.argTypes), ht]
    simp [resolve, hc, h1, h2, invoke, builtin, hf.ev hu, run_lenV h]
  · rename_i ts x y hc ha
    split at h
    · rename_i u v' hu hv
      have h1 : c.args = #[x, y] := by rw [← Array.toArray_toList (xs := c.args), ha]
      simp [resolve, hc, h1, invoke, builtin, hf.ev hu, hf.ev hv, run_minV h]
    · cases h
  · rename_i ts x y hc ha
    split at h
    · rename_i u v' hu hv
      have h1 : c.args = #[x, y] := by rw [← Array.toArray_toList (xs := c.args), ha]
      simp [resolve, hc, h1, invoke, builtin, hf.ev hu, hf.ev hv, run_maxV h]
    · cases h
  · cases h
def pure1 (P : Program) (bx : List Box) (ro : Mem) (h : Nat × Nat) (fr : Fr) (o : Oper) : Option PR := match o.op with
  | .move x => (evF fr x).map (.val · [])
  | .assign x => (evF fr x).map (.val · [])
  | .pick c a b => match evF fr c with
    | some (.bool true) => (evF fr a).map (.val · [])
    | some (.bool false) => (evF fr b).map (.val · [])
    | _ => none
  | .nilCheck x => match evF fr x with
    | some (.pointer (some p)) => some (.val (.pointer (some p)) [])
    | _ => none
  | .fieldAddr s x f => match evF fr x, fieldOff P s f with
    | some (.pointer (some ⟨b, o, none⟩)), some (off, _) => some (.val (.pointer (some ⟨b, o + off, none⟩)) [])
    | _, _ => none
  | .field s x f => (evF fr x).bind fun u => (fieldV P s u f).map (.val · [])
  | .load t x => (evF fr x).bind fun u => (loadV P (memOf bx ro) h.1 h.2 t u).map fun r => .val r.1 r.2
  | .store t x y => match evF fr x, evF fr y with
    | some u, some v => (storeV P bx h.1 h.2 t u v).map fun r => .upd h.1 r.1 r.2
    | _, _ => none
  | .extract x i => match evF fr x with
    | some (.tuple vs) => vs[i]?.map (.val · [])
    | _ => none
  | .binOp op _ x y _ => match evF fr x, evF fr y with
    | some u, some v => (binV op u v).map (.val · [])
    | _, _ => none
  | .unOp op _ x => (evF fr x).bind fun u => (unV op u).map (.val · [])
  | .convert s d x => (evF fr x).bind fun u => (convV P s d u).map (.val · [])
  | .build t parts => (evParts fr parts.toList).bind fun ps => (P.built t ps).map fun cs => .val (.agg cs) []
  | .makeFunc fn f c => match evs fr f.toList, evs fr c.toList with
    | some x, some y => some (.val (.func fn x.toArray y.toArray) [])
    | _, _ => none
  | .call c => (callV P c fr).map (.val · [])
  | _ => none
theorem pure1_val {bx : List Box} {ro : Mem} {h : Nat × Nat} {fr : Fr} {o : Oper} {v : Value} {es : List (Nat × Nat)} {n : Nat} {a : Act} {w : World} (e : pure1 P bx ro h fr o = some (.val v es)) (hf : Fits n fr a) (hm : MemAt (memOf bx ro) w) (he : ∀ x, x ∈ es → x.1 = x.2) :
    (execOp a.eval o).run P w = .ok (.value v) w := by
  unfold pure1 at e
  unfold execOp
  split at e <;> rename_i ho <;> simp only [ho]
  · simp at e; obtain ⟨u, hu, rfl, rfl⟩ := e; simp [hf.ev hu]
  · simp at e; obtain ⟨u, hu, rfl, rfl⟩ := e; simp [hf.ev hu]
  · split at e
    · rename_i hc; simp at e; obtain ⟨u, hu, rfl, rfl⟩ := e; simp [hf.ev hu, hf.ev hc, asBool]
    · rename_i hc; simp at e; obtain ⟨u, hu, rfl, rfl⟩ := e; simp [hf.ev hu, hf.ev hc, asBool]
    · cases e
  · split at e
    · rename_i p hp; simp at e; obtain ⟨rfl, rfl⟩ := e; simp [hf.ev hp]
    · cases e
  · split at e
    · rename_i b o' off ft h1 h2; simp at e; obtain ⟨rfl, rfl⟩ := e; simp [hf.ev h1, run_fieldAt h2]
    · cases e
  · obtain ⟨u, hu, e⟩ := Option.bind_eq_some_iff.1 e
    obtain ⟨x, hx, e⟩ := Option.map_eq_some_iff.1 e
    simp at e; obtain ⟨rfl, rfl⟩ := e; simp [hf.ev hu, run_fieldV hx]
  · obtain ⟨u, hu, e⟩ := Option.bind_eq_some_iff.1 e
    obtain ⟨⟨x, es'⟩, hx, e⟩ := Option.map_eq_some_iff.1 e
    simp at e; obtain ⟨rfl, rfl⟩ := e; simp [hf.ev hu, run_loadV hx hm he]
  · split at e
    · obtain ⟨x, hx, e⟩ := Option.map_eq_some_iff.1 e; cases e
    · cases e
  · split at e
    · rename_i vs hv; simp at e; obtain ⟨u, hu, rfl, rfl⟩ := e; simp [hf.ev hv, Instr.extract, hu]
    · cases e
  · split at e
    · rename_i u u' h1 h2
      obtain ⟨x, hx, e⟩ := Option.map_eq_some_iff.1 e
      simp at e; obtain ⟨rfl, rfl⟩ := e
      have := run_binV (P := P) hx
      simp only [hf.ev h1, hf.ev h2]
      rw [Sem.run_bind, this]
      rfl
    · cases e
  · obtain ⟨u, hu, e⟩ := Option.bind_eq_some_iff.1 e
    obtain ⟨x, hx, e⟩ := Option.map_eq_some_iff.1 e
    simp at e; obtain ⟨rfl, rfl⟩ := e; simp [hf.ev hu, run_unV hx]
  · obtain ⟨u, hu, e⟩ := Option.bind_eq_some_iff.1 e
    obtain ⟨x, hx, e⟩ := Option.map_eq_some_iff.1 e
    simp at e; obtain ⟨rfl, rfl⟩ := e; simp [hf.ev hu, run_convV hx]
  · rename_i t parts
    obtain ⟨ps, hps, e⟩ := Option.bind_eq_some_iff.1 e
    obtain ⟨cs, hcs, e⟩ := Option.map_eq_some_iff.1 e
    simp at e; obtain ⟨rfl, rfl⟩ := e
    have hp := hf.parts hps
    have := run_build (P := P) w t (parts.map fun x => (x.1, a.eval x.2)) cs (by rw [Array.toList_map, hp]; exact hcs)
    rw [Sem.run_bind, this]
    rfl
  · split at e
    · rename_i x y h1 h2
      simp at e; obtain ⟨rfl, rfl⟩ := e
      have e1 := hf.evs h1
      have e2 := hf.evs h2
      simp [Instr.makeFunc, ← e1, ← e2]
      constructor <;> (apply Array.ext'; simp)
    · cases e
  · rename_i c
    obtain ⟨x, hx, e⟩ := Option.map_eq_some_iff.1 e
    simp at e; obtain ⟨rfl, rfl⟩ := e
    exact run_callV hx hf w
  · cases e
theorem pure1_upd {bx : List Box} {ro : Mem} {h : Nat × Nat} {fr : Fr} {o : Oper} {k : Nat} {cs : List Value} {es : List (Nat × Nat)} {n : Nat} {a : Act} {w : World} (e : pure1 P bx ro h fr o = some (.upd k cs es)) (hf : Fits n fr a) (hb : ∀ p, p ∈ bx → w.heap[p.g]? = some (.cells p.cs.toArray p.t (0, 0))) (he : ∀ x, x ∈ es → x.1 = x.2) :
    ∃ p w', bx[k]? = some p ∧ (execOp a.eval o).run P w = .ok .skip w' ∧ Keep [p.g] w w' ∧ w'.heap[p.g]? = some (.cells cs.toArray p.t (0, 0)) := by
  unfold pure1 at e
  unfold execOp
  split at e <;> rename_i ho <;> simp only [ho]
  all_goals try (simp at e; done)
  all_goals try (split at e <;> simp at e; done)
  all_goals try (obtain ⟨u, hu, e⟩ := Option.bind_eq_some_iff.1 e; obtain ⟨x, hx, e⟩ := Option.map_eq_some_iff.1 e; simp at e; done)
  · split at e
    · rename_i u v h1 h2
      obtain ⟨⟨x, es'⟩, hx, e⟩ := Option.map_eq_some_iff.1 e
      simp at e
      obtain ⟨rfl, rfl, rfl⟩ := e
      obtain ⟨p, w', hp, hr, hk, hh⟩ := run_storeV hx hb he
      exact ⟨p, w', hp, by simp [hf.ev h1, hf.ev h2, hr], hk, hh⟩
    · cases e
end

/-! ### 8. Many of them at once -/
section
variable {P : Program} {X : Nat → Nat → Prop} {w0 : World} {L0 : List Nat} {bx bx' : List Box} {rw rw' : List Row} {ro ro' : Mem} {φ φ' : List (World → Prop)} {w w' : World}
def setBox (bx : List Box) (k : Nat) (cs : List Value) : List Box := match bx, k with
  | [], _ => []
  | b :: r, 0 => ⟨b.g, cs, b.t⟩ :: r
  | b :: r, k + 1 => b :: setBox r k cs
theorem setBox_g (cs : List Value) : ∀ (bx : List Box) (k : Nat), (setBox bx k cs).map (·.g) = bx.map (·.g)
  | [], _ => rfl
  | b :: r, 0 => rfl
  | b :: r, k + 1 => by simp [setBox, setBox_g cs r k]
theorem keys_setBox (bx : List Box) (k : Nat) (cs : List Value) (rw : List Row) : keys (setBox bx k cs) rw = keys bx rw := by simp [keys, setBox_g]
theorem mem_setBox {cs : List Value} : ∀ {bx : List Box} {k : Nat} {p q : Box}, bx[k]? = some p → (bx.map (·.g)).Nodup → q ∈ setBox bx k cs → q = ⟨p.g, cs, p.t⟩ ∨ (q ∈ bx ∧ q.g ≠ p.g)
  | [], k, p, q, h, _, _ => by simp at h
  | b :: r, 0, p, q, h, hn, hq => by
    simp at h
    subst h
    simp only [setBox] at hq
    rcases List.mem_cons.1 hq with rfl | hq
    · exact .inl rfl
    · refine .inr ⟨List.mem_cons_of_mem _ hq, fun e => ?_⟩
      simp only [List.map_cons, List.nodup_cons] at hn
      exact hn.1 (e ▸ List.mem_map.2 ⟨q, hq, rfl⟩)
  | b :: r, k + 1, p, q, h, hn, hq => by
    simp only [List.getElem?_cons_succ] at h
    simp only [List.map_cons, List.nodup_cons] at hn
    simp only [setBox] at hq
    rcases List.mem_cons.1 hq with rfl | hq
    · refine .inr ⟨List.mem_cons_self, fun e => hn.1 (e ▸ List.mem_map.2 ⟨p, List.mem_of_getElem? h, rfl⟩)⟩
    · rcases mem_setBox h hn.2 hq with h1 | ⟨h1, h2⟩
      · exact .inl h1
      · exact .inr ⟨List.mem_cons_of_mem _ h1, h2⟩
theorem St.nodup_bx (h : St X w0 L0 bx rw ro φ w) : (bx.map (·.g)).Nodup := (List.nodup_append.1 h.nodup).1
theorem St.ne_row (h : St X w0 L0 bx rw ro φ w) {p : Box} (hp : p ∈ bx) {r : Row} (hr : r ∈ rw) : p.g ∉ ownB r.v := fun hb =>
  (List.nodup_append.1 h.nodup).2.2 p.g (List.mem_map.2 ⟨p, hp, rfl⟩) p.g (List.mem_flatMap.2 ⟨r, hr, hb⟩) rfl
theorem St.stored (h : St X w0 L0 bx rw ro φ w) {k : Nat} {p : Box} (hp : bx[k]? = some p) {cs : List Value} (hk : Keep [p.g] w w') (hh : w'.heap[p.g]? = some (.cells cs.toArray p.t (0, 0))) : St X w0 L0 (setBox bx k cs) rw ro φ w' := by
  have hpm := List.mem_of_getElem? hp
  have hin : p.g ∈ keys bx rw := List.mem_append_left _ (List.mem_map.2 ⟨p, hpm, rfl⟩)
  have hkk : Keep (keys bx rw) w w' := hk.mono (fun b hb => by rw [List.mem_singleton.1 hb]; exact hin)
  refine h.next hkk (fun b hb => .inl (by rwa [keys_setBox] at hb)) (by rw [keys_setBox]; exact h.nodup) (fun q hq => ?_) (fun r hr => ?_) (fun x hx => .inl hx) (fun f hf => .inl hf)
  · rcases mem_setBox hp h.nodup_bx hq with rfl | ⟨h1, h2⟩
    · exact hh
    · rw [hk.block q.g (lt_of_heap (h.boxes q h1)) (by simpa using h2)]
      exact h.boxes q h1
  · refine h.row_on hkk (fun b hb => .inl (by rwa [keys_setBox] at hb)) hr (fun b hb => hk.block b (h.lt (List.mem_append_right _ (List.mem_flatMap.2 ⟨r, hr, hb⟩))) ?_)
    intro e
    rw [List.mem_singleton.1 e] at hb
    exact h.ne_row hpm hr hb
theorem St.mem (h : St X w0 L0 bx rw ro φ w) : MemAt (memOf bx ro) w := by
  intro x hx
  rcases List.mem_append.1 hx with hx | hx
  · obtain ⟨p, hp, rfl⟩ := List.mem_map.1 hx
    intro i u hu
    have := h.boxes p hp
    simp [World.cell?, this, hu]
  · exact h.ros x hx w (Away.refl _ _)
def dstOk (n : Nat) (o : Oper) : Bool := match o.dst with | some d => decide (d < n) | none => true
def wantV (ops : Array Oper) (fr : Fr) (o : Oper) : Option Bool := match o.guard with
  | none => some true
  | some (j, want) => match (ops[j]?).bind (·.dst) with
    | some d => match lk d fr with
      | some (.bool b) => some (b == want)
      | some (.tuple _) => some false
      | _ => none
    | none => none
theorem wanted_of {ops : Array Oper} {fr : Fr} {o : Oper} {b : Bool} {n : Nat} {a : Act} (h : wantV ops fr o = some b) (hf : Fits n fr a) : Region.wanted o (yielded ops a.tmps) = b := by
  unfold wantV at h
  unfold Region.wanted
  split at h
  · rename_i hg; simp at h; subst h; simp [hg]
  · rename_i j want hg
    rw [hg]
    simp only
    split at h
    · rename_i d hd
      unfold yielded
      rw [hd]
      split at h
      · rename_i b' hb; simp at h; subst h
        rw [Option.bind_some, hf.at_ _ _ hb]
        cases b' <;> cases want <;> rfl
      · rename_i hb; simp at h; subst h
        rw [Option.bind_some, hf.at_ _ _ hb]
        cases want <;> rfl
      · cases h
    · cases h
def isMem (o : Oper) : Bool := match o.op with | .load _ _ => true | .store _ _ _ => true | _ => false
/-- hs: for each load and store, where in what is known it falls. -/
def pureN (P : Program) (n : Nat) (ops : Array Oper) (ro : Mem) : List (Nat × Nat) → List Oper → Fr → List Box → Option (Fr × List Box × List (Nat × Nat))
  | _, [], fr, bx => some (fr, bx, [])
  | hs, o :: l, fr, bx => if dstOk n o then
      match wantV ops fr o with
      | some true => match pure1 P bx ro (hs.headD (0, 0)) fr o with
        | some (.val v es) => (pureN P n ops ro (if isMem o then hs.tail else hs) l (putF fr o.dst v) bx).map fun r => (r.1, r.2.1, es ++ r.2.2)
        | some (.upd k cs es) => (pureN P n ops ro (if isMem o then hs.tail else hs) l (putF fr o.dst undef) (setBox bx k cs)).map fun r => (r.1, r.2.1, es ++ r.2.2)
        | none => none
      | some false => pureN P n ops ro hs l (putF fr o.dst undef) bx
      | none => none
    else none
variable {Rf : Exit → Act → World → Prop} {n : Nat} {k : List KI} {ops : Array Oper}
theorem dstOk_put {o : Oper} (h : dstOk n o = true) : ∀ t, o.dst = some t → t < n := by
  intro t e
  unfold dstOk at h
  rw [e] at h
  simpa using h
theorem O_pureN {l2 : List Oper} : ∀ {l : List Oper} {hs : List (Nat × Nat)} {fr : Fr} {bx : List Box} {fr' : Fr} {bx' : List Box} {es : List (Nat × Nat)}, Hw.pureN P n ops ro hs l fr bx = some (fr', bx', es) → (∀ x, x ∈ es → x.1 = x.2) →
    O P Rf n k ops l2 fr' (St X w0 L0 bx' rw ro φ) → O P Rf n k ops (l ++ l2) fr (St X w0 L0 bx rw ro φ)
  | [], hs, fr, bx, fr', bx', es, h, he, hk => by
    simp [Hw.pureN] at h
    obtain ⟨rfl, rfl, rfl⟩ := h
    exact hk
  | o :: l, hs, fr, bx, fr', bx', es, h, he, hk => by
    unfold Hw.pureN at h
    split at h
    · rename_i hd
      split at h
      · rename_i hw
        split at h
        · rename_i v es1 h1
          obtain ⟨⟨f2, b2, e2⟩, h2, h3⟩ := Option.map_eq_some_iff.1 h
          simp only [Prod.mk.injEq] at h3
          obtain ⟨rfl, rfl, rfl⟩ := h3
          have ih := O_pureN h2 (fun x hx => he x (List.mem_append_right _ hx)) hk
          intro a w hf hS
          refine wpList_step fun K hK => ?_
          rw [wanted_of hw hf]
          simp only [if_true]
          unfold Oper.wp
          rw [pure1_val h1 hf hS.mem (fun x hx => he x (List.mem_append_left _ hx))]
          exact hK _ _ (ih _ _ (hf.putF (dstOk_put hd) v) hS)
        · rename_i j cs es1 h1
          obtain ⟨⟨f2, b2, e2⟩, h2, h3⟩ := Option.map_eq_some_iff.1 h
          simp only [Prod.mk.injEq] at h3
          obtain ⟨rfl, rfl, rfl⟩ := h3
          have ih := O_pureN h2 (fun x hx => he x (List.mem_append_right _ hx)) hk
          intro a w hf hS
          refine wpList_step fun K hK => ?_
          rw [wanted_of hw hf]
          simp only [if_true]
          obtain ⟨p, w1, hp, hr, hk1, hh⟩ := pure1_upd h1 hf hS.boxes (fun x hx => he x (List.mem_append_left _ hx))
          unfold Oper.wp
          rw [hr]
          exact hK _ _ (ih _ _ (hf.putF (dstOk_put hd) undef) (hS.stored hp hk1 hh))
        · cases h
      · rename_i hw
        have ih := O_pureN h he hk
        intro a w hf hS
        refine wpList_step fun K hK => ?_
        rw [wanted_of hw hf]
        simp only [Bool.false_eq_true, if_false]
        exact hK _ _ (ih _ _ (hf.putF (dstOk_put hd) undef) hS)
      · cases h
    · cases h
def dup (l : List Nat) : List (Nat × Nat) := l.map fun x => (x, x)
/-- m operations at once; ids: the slots that are still told. -/
theorem O.pure (m : Nat) (hs : List (Nat × Nat)) (ids : List Nat) (es : List Nat) {l : List Oper} {fr : Fr} {fr' : Fr} {bx' : List Box} (h : ((Hw.pureN P n ops ro hs (l.take m) fr bx).bind fun r => (Hw.sel r.1 ids).map fun f => (f, r.2.1, r.2.2)) = some (fr', bx', dup es))
    (hk : O P Rf n k ops (l.drop m) fr' (St X w0 L0 bx' rw ro φ)) : O P Rf n k ops l fr (St X w0 L0 bx rw ro φ) := by
  obtain ⟨⟨f2, b2, e2⟩, h1, h2⟩ := Option.bind_eq_some_iff.1 h
  obtain ⟨f3, h3, h4⟩ := Option.map_eq_some_iff.1 h2
  simp only [Prod.mk.injEq] at h4
  obtain ⟨rfl, rfl, rfl⟩ := h4
  have := O_pureN (l2 := l.drop m) h1 (fun x hx => by obtain ⟨y, _, rfl⟩ := List.mem_map.1 hx; rfl) (O.sel ids h3 hk)
  rwa [List.take_append_drop] at this
end

/-! ### 9. Operations that make, call, index, append, cut -/
section
variable {P : Program} {X : Nat → Nat → Prop} {w0 : World} {L0 : List Nat} {bx bx' : List Box} {rw rw' : List Row} {ro ro' : Mem} {φ φ' : List (World → Prop)} {w w' : World} {o : Oper} {fr : Fr}
theorem Ev.of_run {S : World → Prop} {ι : Type} {v : ι → Value} {S' : ι → World → Prop} (h : ∀ n a w, Fits n fr a → S w → ∃ i w', (execOp a.eval o).run P w = .ok (.value (v i)) w' ∧ S' i w') : Ev P o fr S v S' := fun n a w hf hS K Q hK => by
  obtain ⟨i, w', hr, hS'⟩ := h n a w hf hS
  unfold Oper.wp
  rw [hr]
  exact hK i w' hS'
/-- A new block that is this function's own. -/
theorem St.made (h : St X w0 L0 bx rw ro φ w) (cs : List Value) (t : TypeId) : St X w0 L0 (⟨w.heap.size, cs, t⟩ :: bx) rw ro φ (w.alloc (.cells cs.toArray t)) := by
  have hk : Keep (keys bx rw) w (w.alloc (.cells cs.toArray t)) := Keep.alloc _ _ _
  have hL : ∀ b, b ∈ keys (⟨w.heap.size, cs, t⟩ :: bx) rw → b ∈ keys bx rw ∨ w.heap.size ≤ b := by
    intro b hb
    simp only [keys, List.map_cons, List.cons_append, List.mem_cons] at hb
    rcases hb with rfl | hb
    · exact .inr (Nat.le_refl _)
    · exact .inl hb
  refine h.next hk hL ?_ (fun q hq => ?_) (fun r hr => h.row_on hk hL hr (fun b hb => Below.heap_alloc _ _ _ (h.lt (List.mem_append_right _ (List.mem_flatMap.2 ⟨r, hr, hb⟩))))) (fun x hx => .inl hx) (fun f hf => .inl hf)
  · simp only [keys, List.map_cons, List.cons_append, List.nodup_cons]
    exact ⟨fun hb => by have := h.lt (b := w.heap.size) hb; omega, h.nodup⟩
  · rcases List.mem_cons.1 hq with rfl | hq
    · exact heap_alloc_new w _
    · rw [Below.heap_alloc _ _ _ (lt_of_heap (h.boxes q hq))]
      exact h.boxes q hq
theorem Ev.alloc {t : TypeId} {z : Value} (ho : o.op = .alloc t) (hz : (P.info? t).bind (·.zero) = some z) :
    Ev P o fr (St X w0 L0 bx rw ro φ) (fun g : Nat => .pointer (some ⟨g, 0, none⟩)) (fun g => St X w0 L0 (⟨g, z.cells.toList, t⟩ :: bx) rw ro φ) := Ev.of_run fun n a w hf hS => by
  obtain ⟨i, hi, hz⟩ := Option.bind_eq_some_iff.1 hz
  refine ⟨w.heap.size, w.alloc (.cells z.cells.toList.toArray t), ?_, hS.made _ _⟩
  unfold execOp
  simp [ho, Instr.alloc, zeroValue, typeInfo, hi, hz, newVar, newRow]
theorem Ev.box {t : TypeId} {x : Operand} {v : Value} (ho : o.op = .box t x) (hv : evF fr x = some v) :
    Ev P o fr (St X w0 L0 bx rw ro φ) (fun g : Nat => .pointer (some ⟨g, 0, none⟩)) (fun g => St X w0 L0 (⟨g, v.cells.toList, t⟩ :: bx) rw ro φ) := Ev.of_run fun n a w hf hS => by
  refine ⟨w.heap.size, w.alloc (.cells v.cells.toList.toArray t), ?_, hS.made _ _⟩
  unfold execOp
  simp [ho, Instr.box, hf.ev hv, newVar, newRow]
/-- A function's contract: it leaves what was there alone; what it answers, and what is known of it, wherever X turns. -/
def Con (P : Program) (g : FuncId) (vs : List Value) (X : Nat → Nat → Prop) (w : World) {ι : Type} (v : ι → Value) (F : ι → List (World → Prop)) : Prop :=
  Calls P g vs.toArray w fun e w' => Keep [] w w' ∧ ∃ i, e = .returned (v i) ∧ ∀ f, f ∈ F i → ∀ w2, Away X w' w2 → f w2
def callable (P : Program) (g : FuncId) : Bool := match P.funcs[g]? with | some fn => !(fn.name == "runtime.NumGoroutine") && fn.body.isSome | none => false
def callOf (o : Oper) : Option (FuncId × List Operand) := match o.op with
  | .call c => match c.callee with
    | .value (.func g) => some (g, c.args.toList)
    | _ => none
  | _ => none
theorem run_call {g : FuncId} {xs : List Operand} {vs : List Value} {n : Nat} {a : Act} (ho : callOf o = some (g, xs)) (hc : callable P g = true) (hv : evs fr xs = some vs) (hf : Fits n fr a) (w : World) : (execOp a.eval o).run P w = .ok (.enter g vs.toArray) w := by
  unfold callOf at ho
  split at ho
  · rename_i c hc1
    split at ho
    · rename_i g' hc2
      simp at ho
      obtain ⟨rfl, rfl⟩ := ho
      unfold callable at hc
      split at hc
      · rename_i fn hfn
        simp only [Bool.and_eq_true, Bool.not_eq_true'] at hc
        have hb : fn.body.isNone = false := by cases h : fn.body <;> simp_all
        have he := hf.evs hv
        have he2 : Array.map a.eval c.args = vs.toArray := by rw [← he]; apply Array.ext'; simp
        unfold execOp
        have hn : (fn.name == "runtime.NumGoroutine") = false := by simpa using hc.1
        have hb2 : fn.body ≠ none := fun h => by simp [h] at hb
        simp only [hc1, resolve, hc2, Act.eval, Deferred.ofValue, invoke, callFunc, Sem.run_bind, Sem.run_pure, Result.andThen_ok, he2, Array.empty_append, Array.append_empty]
        simp [program, Sem.run, hfn, hn, hb]
        have hn2 : ¬ fn.name = "runtime.NumGoroutine" := by simpa using hn
        simp [hn2, hb2]
      · cases hc
    · cases ho
  · cases ho
theorem St.called (h : St X w0 L0 bx rw ro φ w) (hk : Keep [] w w') {F : List (World → Prop)} (hF : ∀ f, f ∈ F → ∀ w2, Away (XL X (keys bx rw)) w' w2 → f w2) : St X w0 L0 bx rw ro (F ++ φ) w' := by
  have h1 := h.kept hk
  exact ⟨h1.xb, h1.keep, h1.own, h1.nodup, h1.boxes, h1.rows, h1.ros, fun f hf => by
    rcases List.mem_append.1 hf with hf | hf
    · exact hF f hf
    · exact h1.facts f hf⟩
theorem Ev.call {g : FuncId} {xs : List Operand} {vs : List Value} {ι : Type} {v : ι → Value} {F : ι → List (World → Prop)} (ho : callOf o = some (g, xs)) (hc : callable P g = true) (hv : evs fr xs = some vs)
    (h : ∀ w, St X w0 L0 bx rw ro φ w → Con P g vs (XL X (keys bx rw)) w v F) : Ev P o fr (St X w0 L0 bx rw ro φ) v (fun i => St X w0 L0 bx rw ro (F i ++ φ)) := fun n a w hf hS K Q hK => by
  unfold Oper.wp
  rw [run_call ho hc hv hf w]
  refine Calls.mono (h w hS) (fun e w1 he => ?_)
  obtain ⟨hk, i, rfl, hF⟩ := he
  exact hK i w1 (hS.called hk hF)
/-- What the cells of a value of a kind are. -/
def Lay {α : Type} (d : Kd α) (y : α) {ι : Type} (cells : ι → List Value) (F : ι → List (World → Prop)) : Prop :=
  ∀ (X : Nat → Nat → Prop) (w : World) (cs : List Value), (∀ w', Away X w w' → d.K w' y cs) → ∃ i, cs = cells i ∧ ∀ f, f ∈ F i → ∀ w', Away X w w' → f w'
theorem Lay.int (k : IntKind) (y : Int) : Lay (Kd.int k) y (fun _ : Unit => [.int k y]) (fun _ => []) := fun X w cs h => ⟨(), h w (Away.refl _ _), by simp⟩
theorem Lay.bool (y : Bool) : Lay Kd.bool y (fun _ : Unit => [.bool y]) (fun _ => []) := fun X w cs h => ⟨(), h w (Away.refl _ _), by simp⟩
theorem Lay.string (y : ByteArray) : Lay Kd.string y (fun _ : Unit => [.string y]) (fun _ => []) := fun X w cs h => ⟨(), h w (Away.refl _ _), by simp⟩
theorem Lay.slice {α : Type} (d : Kd α) (y : List α) : Lay (Kd.slice d) y (fun p : Option Addr × Nat => [.slice p.1 y.length p.2]) (fun p => [Rd d p.1 p.2 y]) := fun X w cs h => by
  obtain ⟨A, c, rfl, _⟩ := h w (Away.refl _ _)
  refine ⟨(A, c), rfl, fun f hf w' hw => ?_⟩
  obtain ⟨A', c', e, h'⟩ := h w' hw
  simp only [List.cons.injEq, Value.slice.injEq, and_true, true_and] at e
  obtain ⟨rfl, rfl⟩ := e
  rw [List.mem_singleton.1 hf]
  exact h'
def sliceElem (P : Program) (t : TypeId) : Option TypeId := match P.underlying t with | some (.slice e) => some e | _ => none
theorem sliceElem_some {t e : TypeId} (h : sliceElem P t = some e) : P.underlying t = some (.slice e) := by
  unfold sliceElem at h
  split at h
  · simp at h; subst h; assumption
  · cases h
theorem cell_set {w : World} {p : Addr} {u : Value} (hp : p.spot = none) (h : w.cell? p = some u) (v : Value) : (w.setCell p v).cell? p = some v := by
  unfold World.cell? at h
  split at h
  · rename_i c e f hh
    simp only [hp, Option.isSome_none, Bool.false_eq_true, if_false] at h
    have hlt : p.off < c.size := (Array.getElem?_eq_some_iff.1 h).1
    simp [World.cell?, World.setCell, Array.getElem?_modify, hh, hp, hlt]
  · cases h
theorem cell_set_ne {w : World} {p q : Addr} (h : p.block ≠ q.block ∨ p.off ≠ q.off) (v : Value) : (w.setCell p v).cell? q = w.cell? q := by
  by_cases hb : p.block = q.block
  · have ho : p.off ≠ q.off := by rcases h with h | h; exact absurd hb h; exact h
    simp only [World.cell?, World.setCell, Array.getElem?_modify, hb, if_true]
    cases hh : w.heap[q.block]? with
    | none => simp
    | some ob =>
      cases ob <;> simp
      split
      · rfl
      · split
        · rfl
        · rw [Array.getElem?_setIfInBounds_ne ho]
  · simp only [World.cell?, World.setCell, Array.getElem?_modify, if_neg hb]
/-- What stays read whatever X turns does not lie in X. -/
theorem Rd.at0 {α : Type} {d : Kd α} {A : Option Addr} {c : Nat} {xs : List α} {X : Nat → Nat → Prop} {w : World} (h : ∀ w', Away X w w' → Rd d A c xs w') {j : Nat} {y : α} (hy : xs[j]? = some y) :
    ∃ b o cs, A = some ⟨b, o, none⟩ ∧ ∀ w', Away X w w' → d.K w' y cs ∧ RowAt (b, o + j * d.sz, cs) w' := by
  obtain ⟨b, o, cs, hA, hK, hc⟩ := (h w (Away.refl _ _)).2 j y hy
  have hX : ∀ i, i < cs.length → ¬ X b (o + j * d.sz + i) := by
    intro i hi hx
    have hci := hc i cs[i] (List.getElem?_eq_getElem hi)
    have ha : Away X w (w.setCell ⟨b, o + j * d.sz + i, none⟩ (.tuple #[])) := by
      refine ⟨by simp [World.setCell], fun b' o' hb' hn => cell_set_ne ?_ _⟩
      by_cases hbb : b = b'
      · refine .inr (fun e => hn ?_)
        simp only at e
        rw [← hbb, ← e]
        exact hx
      · exact .inl hbb
    obtain ⟨b', o', cs', hA', hK', hc'⟩ := (h _ ha).2 j y hy
    rw [hA] at hA'
    simp only [Option.some.injEq, Addr.mk.injEq, and_true] at hA'
    obtain ⟨rfl, rfl⟩ := hA'
    have hi' : i < cs'.length := by rw [d.len hK', ← d.len hK]; exact hi
    have h1 := hc' i cs'[i] (List.getElem?_eq_getElem hi')
    rw [cell_set rfl hci] at h1
    have h2 := d.one hK' cs'[i] (List.getElem_mem hi')
    rw [← Option.some.inj h1] at h2
    simp [Value.oneCell'] at h2
  refine ⟨b, o, cs, hA, fun w' hw => ?_⟩
  have hcell : RowAt (b, o + j * d.sz, cs) w' := by
    intro i u hu
    have h1 := hc i u hu
    rw [hw.2 b _ (cell_lt h1) (hX i (List.getElem?_eq_some_iff.1 hu).1)]
    exact h1
  obtain ⟨b', o', cs', hA', hK', hc'⟩ := (h w' hw).2 j y hy
  rw [hA] at hA'
  simp only [Option.some.injEq, Addr.mk.injEq, and_true] at hA'
  obtain ⟨rfl, rfl⟩ := hA'
  have hl : cs'.length = cs.length := by rw [d.len hK, d.len hK']
  have : cs' = cs := by
    apply List.ext_getElem hl
    intro i h1 h2
    have e1 := hc' i _ (List.getElem?_eq_getElem h1)
    have e2 := hcell i _ (List.getElem?_eq_getElem h2)
    simp only at e2
    rw [e1] at e2
    exact Option.some.inj e2
  subst this
  exact ⟨hK', hcell⟩
/-- A row that is read: element j of it, laid open. -/
theorem Rd.at_ {α : Type} {d : Kd α} {A : Option Addr} {c : Nat} {xs : List α} {X : Nat → Nat → Prop} {w : World} (h : ∀ w', Away X w w' → Rd d A c xs w') {j : Nat} {y : α} (hy : xs[j]? = some y) {ι : Type} {cells : ι → List Value} {F : ι → List (World → Prop)} (ho : Lay d y cells F) :
    ∃ b o i, A = some ⟨b, o, none⟩ ∧ (∀ w', Away X w w' → RowAt (b, o + j * d.sz, cells i) w') ∧ ∀ f, f ∈ F i → ∀ w', Away X w w' → f w' := by
  obtain ⟨b, o, cs, hA, key⟩ := Rd.at0 h hy
  obtain ⟨i, rfl, hF⟩ := ho X w cs (fun w' hw => (key w' hw).1)
  exact ⟨b, o, i, hA, fun w' hw => (key w' hw).2, hF⟩
/-- xs[i] of a slice that is read: the address, and the element's cells laid open. -/
theorem Ev.indexAddr {α : Type} {d : Kd α} {t e : TypeId} {x y : Operand} {A : Option Addr} {c : Nat} {xs : List α} {k : IntKind} {i : Int} {z : α} (j : Nat) (ho : o.op = .indexAddr t x y) (ht : (sliceElem P t).bind (szB P) = some d.sz) (hx : evF fr x = some (.slice A xs.length c)) (hi : evF fr y = some (.int k i))
    (h0 : 0 ≤ i) (hz : xs[i.toNat]? = some z) (hj : φ[j]? = some (Rd d A c xs)) {ι : Type} {cells : ι → List Value} {F : ι → List (World → Prop)} (hop : Lay d z cells F) :
    Ev P o fr (St X w0 L0 bx rw ro φ) (fun p : Nat × Nat × ι => .pointer (some ⟨p.1, p.2.1, none⟩)) (fun p => St X w0 L0 bx rw ((p.1, p.2.1, cells p.2.2) :: ro) (F p.2.2 ++ φ)) := Ev.of_run fun n a w hf hS => by
  obtain ⟨b, o', i', rfl, hr, hF⟩ := Rd.at_ (hS.fact j hj) hz hop
  obtain ⟨e', he, hs⟩ := Option.bind_eq_some_iff.1 ht
  have hl : i.toNat < xs.length := (List.getElem?_eq_some_iff.1 hz).1
  refine ⟨(b, o' + i.toNat * d.sz, i'), w, ?_, ⟨hS.xb, hS.keep, hS.own, hS.nodup, hS.boxes, hS.rows, fun p hp => ?_, fun f hf => ?_⟩⟩
  · have hlt : i < (xs.length : Int) := by omega
    have ha : (⟨b, o', none⟩ : Addr).add (i.toNat * d.sz) = ⟨b, o' + i.toNat * d.sz, none⟩ := by unfold Addr.add; split <;> simp_all
    unfold execOp
    simp [ho, hf.ev hx, hf.ev hi, Instr.indexAt, asIntOf, run_underlying (sliceElem_some he), h0, hlt, run_sizeOf hs, ha]
  · rcases List.mem_cons.1 hp with rfl | hp
    · exact hr
    · exact hS.ros p hp
  · rcases List.mem_append.1 hf with hf | hf
    · exact hF f hf
    · exact hS.facts f hf
end

/-! ### 10. Rows of this function's own -/
section
variable {P : Program} {X : Nat → Nat → Prop} {w0 : World} {L0 : List Nat} {bx bx' : List Box} {rw rw' : List Row} {ro ro' : Mem} {φ φ' : List (World → Prop)} {w w' : World} {o : Oper} {fr : Fr}
variable {α : Type} {d : Kd α} {e : TypeId} {v : Value} {xs ys : List α}
def Els {α : Type} (d : Kd α) (xs : List α) (cells : List Value) (w : World) : Prop := ∀ (j : Nat) (y : α), xs[j]? = some y → d.K w y ((cells.drop (j * d.sz)).take d.sz)
def mkRow {α : Type} (d : Kd α) (e : TypeId) (v : Value) (xs : List α) : Row := ⟨v, e, d.sz, xs.length, fun cells w => Els d xs cells w⟩
theorem Els.nil (d : Kd α) (cells : List Value) (w : World) : Els d [] cells w := fun j y h => by simp at h
theorem Els.cons {y : α} {c cells : List Value} (hK : d.K w y c) (h : Els d xs cells w) : Els d (y :: xs) (c ++ cells) w := fun j z hz => by
  have hl := d.len hK
  cases j with
  | zero =>
    simp at hz
    subst hz
    rw [Nat.zero_mul, List.drop_zero, List.take_append_of_le_length (by omega), List.take_of_length_le (by omega)]
    exact hK
  | succ j =>
    simp only [List.getElem?_cons_succ] at hz
    have := h j z hz
    rw [show (j + 1) * d.sz = c.length + j * d.sz by rw [hl, Nat.add_mul, Nat.one_mul, Nat.add_comm], ← List.drop_drop, List.drop_left]
    exact this
theorem Els.append {c1 c2 : List Value} (h1 : Els d xs c1 w) (hl : c1.length = xs.length * d.sz) (h2 : Els d ys c2 w) : Els d (xs ++ ys) (c1 ++ c2) w := fun j z hz => by
  by_cases hj : j < xs.length
  · rw [List.getElem?_append_left hj] at hz
    have h3 : j * d.sz + d.sz ≤ c1.length := by rw [hl, ← Nat.succ_mul]; exact Nat.mul_le_mul_right _ hj
    rw [List.drop_append_of_le_length (by omega), List.take_append_of_le_length (by rw [List.length_drop]; omega)]
    exact h1 j z hz
  · rw [List.getElem?_append_right (by omega)] at hz
    have := h2 _ z hz
    have h3 : j * d.sz = c1.length + (j - xs.length) * d.sz := by rw [hl, ← Nat.add_mul]; congr 1; omega
    rw [h3, ← List.drop_drop, List.drop_left]
    exact this
theorem ownB_nodup (v : Value) : (ownB v).Nodup := by
  unfold ownB
  split <;> simp
theorem St.head {r r' : Row} (h : St X w0 L0 bx (r :: rw) ro φ w) (hk : Keep (ownB r.v) w w') (hb : ∀ b, b ∈ ownB r'.v → b ∈ ownB r.v ∨ w.heap.size ≤ b)
    (hr : ∃ cells, w'.ownsRow 0 r'.e r'.sz r'.v r'.n cells ∧ ∀ w2, Away (XL X (keys bx (r' :: rw))) w' w2 → r'.Q cells w2) : St X w0 L0 bx (r' :: rw) ro φ w' := by
  have hsub : ∀ b, b ∈ ownB r.v → b ∈ keys bx (r :: rw) := fun b hb' => List.mem_append_right _ (List.mem_flatMap.2 ⟨r, List.mem_cons_self, hb'⟩)
  have hkk : Keep (keys bx (r :: rw)) w w' := hk.mono hsub
  have hL : ∀ b, b ∈ keys bx (r' :: rw) → b ∈ keys bx (r :: rw) ∨ w.heap.size ≤ b := by
    intro b hb'
    rcases List.mem_append.1 hb' with h1 | h1
    · exact .inl (List.mem_append_left _ h1)
    · simp only [List.flatMap_cons, List.mem_append] at h1
      rcases h1 with h1 | h1
      · rcases hb b h1 with h2 | h2
        · exact .inl (hsub b h2)
        · exact .inr h2
      · exact .inl (List.mem_append_right _ (by simp only [List.flatMap_cons, List.mem_append]; exact .inr h1))
  have hnd := h.nodup
  simp only [keys, List.flatMap_cons, List.nodup_append] at hnd
  obtain ⟨n1, ⟨n2, n3, n4⟩, n5⟩ := hnd
  have hother : ∀ s, s ∈ rw → ∀ b, b ∈ ownB s.v → b ∉ ownB r.v ∧ b < w.heap.size := fun s hs b hb' =>
    ⟨fun hb2 => n4 b hb2 b (List.mem_flatMap.2 ⟨s, hs, hb'⟩) rfl, h.lt (List.mem_append_right _ (List.mem_flatMap.2 ⟨s, List.mem_cons_of_mem _ hs, hb'⟩))⟩
  refine h.next hkk hL ?_ (fun q hq => ?_) (fun s hs => ?_) (fun x hx => .inl hx) (fun f hf => .inl hf)
  · simp only [keys, List.flatMap_cons, List.nodup_append]
    refine ⟨n1, ⟨ownB_nodup _, n3, fun a ha b hb' hab => ?_⟩, fun a ha b hb' hab => ?_⟩
    · subst hab
      obtain ⟨s, hs, hb2⟩ := List.mem_flatMap.1 hb'
      have := hother s hs a hb2
      rcases hb a ha with h2 | h2
      · exact this.1 h2
      · omega
    · subst hab
      rcases List.mem_append.1 hb' with h1 | h1
      · rcases hb a h1 with h2 | h2
        · exact n5 a ha a (List.mem_append_left _ h2) rfl
        · obtain ⟨p, hp, rfl⟩ := List.mem_map.1 ha
          have := lt_of_heap (h.boxes p hp)
          omega
      · exact n5 a ha a (List.mem_append_right _ h1) rfl
  · rw [hk.block q.g (lt_of_heap (h.boxes q hq)) (fun hb2 => n5 q.g (List.mem_map.2 ⟨q, hq, rfl⟩) q.g (List.mem_append_left _ hb2) rfl)]
    exact h.boxes q hq
  · rcases List.mem_cons.1 hs with rfl | hs
    · exact hr
    · exact h.row_on hkk hL (List.mem_cons_of_mem _ hs) (fun b hb' => hk.block b (hother s hs b hb').2 (hother s hs b hb').1)
theorem St.nilrow (h : St X w0 L0 bx rw ro φ w) (d : Kd α) (e : TypeId) : St X w0 L0 bx (mkRow d e (.slice none 0 0) ([] : List α) :: rw) ro φ w := by
  have hkeys : keys bx (mkRow d e (.slice none 0 0) ([] : List α) :: rw) = keys bx rw := by simp [keys, mkRow, ownB]
  refine ⟨h.xb, h.keep, by rw [hkeys]; exact h.own, by rw [hkeys]; exact h.nodup, h.boxes, fun r hr => ?_, by rw [hkeys]; exact h.ros, by rw [hkeys]; exact h.facts⟩
  rcases List.mem_cons.1 hr with rfl | hr
  · exact ⟨[], ⟨by simp [mkRow], .inl ⟨rfl, rfl⟩⟩, fun _ _ => Els.nil _ _ _⟩
  · rw [hkeys]; exact h.rows r hr
/-- A row is given up: from now on it is only read. -/
theorem St.freeze (h : St X w0 L0 bx (mkRow d e v xs :: rw) ro φ w) : ∃ A c, v = .slice A xs.length c ∧ St X w0 L0 bx rw ro (Rd d A c xs :: φ) w := by
  obtain ⟨cells, ho, hq⟩ := h.rows _ List.mem_cons_self
  have hsub : ∀ b, b ∈ keys bx rw → b ∈ keys bx (mkRow d e v xs :: rw) := by
    intro b hb
    simp only [keys, List.flatMap_cons, List.mem_append] at hb ⊢
    rcases hb with hb | hb
    · exact .inl hb
    · exact .inr (.inr hb)
  have hnd := h.nodup
  simp only [keys, List.flatMap_cons, List.nodup_append] at hnd
  obtain ⟨n1, ⟨n2, n3, n4⟩, n5⟩ := hnd
  have hnd' : (keys bx rw).Nodup := by
    simp only [keys, List.nodup_append]
    exact ⟨n1, n3, fun a ha b hb => n5 a ha b (List.mem_append_right _ hb)⟩
  have hS := h.sub (bx' := bx) (rw' := rw) (fun p hp => hp) (fun r hr => List.mem_cons_of_mem _ hr) hnd'
  have hform : ∃ A c, v = .slice A xs.length c ∧ xs.length ≤ c ∧ ∀ w', Away (XL X (keys bx rw)) w w' → ∀ j y, xs[j]? = some y → ∃ b, A = some ⟨b, 0, none⟩ ∧ RowAt (b, j * d.sz, (cells.drop (j * d.sz)).take d.sz) w' := by
    rcases ho.2 with ⟨hv, hn⟩ | ⟨g, cap, cur, hv, _, hh, hcap, _, hsz, htake⟩
    · have hv' : v = .slice none 0 0 := hv
      have hn' : xs.length = 0 := hn
      have hx : xs = [] := List.eq_nil_of_length_eq_zero hn'
      subst hx
      exact ⟨none, 0, hv', Nat.le_refl _, fun w' _ j y hy => by simp at hy⟩
    · have hv' : v = .slice (some ⟨g, 0, none⟩) xs.length cap := hv
      have hcap' : xs.length ≤ cap := hcap
      have hsz' : cur.size = cap * d.sz := hsz
      have htake' : cur.toList.take (xs.length * d.sz) = cells := htake
      refine ⟨some ⟨g, 0, none⟩, cap, hv', hcap', fun w' hw j y hy => ⟨g, rfl, fun i u hu => ?_⟩⟩
      have hg : g ∈ ownB v := by rw [hv']; simp [ownB]
      have hgk : ¬ XL X (keys bx rw) g (j * d.sz + i) := by
        rintro (hx | hx)
        · have := h.xb g _ hx
          rcases h.own g (by simp only [keys, List.flatMap_cons, List.mem_append]; exact .inr (.inl hg)) with h1 | h1
          · exact this.2 h1
          · omega
        · rcases List.mem_append.1 hx with h1 | h1
          · exact n5 g h1 g (List.mem_append_left _ hg) rfl
          · exact n4 g hg g h1 rfl
      rw [hw.2 g _ (lt_of_heap hh) hgk]
      have hj : j < xs.length := (List.getElem?_eq_some_iff.1 hy).1
      have hi : i < d.sz := by
        have := (List.getElem?_eq_some_iff.1 hu).1
        simp only [List.length_take] at this
        omega
      rw [List.getElem?_take_of_lt hi, List.getElem?_drop, ← htake'] at hu
      have hlt : j * d.sz + i < xs.length * d.sz := by
        have : j * d.sz + d.sz ≤ xs.length * d.sz := by rw [← Nat.succ_mul]; exact Nat.mul_le_mul_right _ hj
        omega
      rw [List.getElem?_take_of_lt hlt] at hu
      simp only [World.cell?, hh]
      simpa using hu
  obtain ⟨A, c, hv, hle, hread⟩ := hform
  refine ⟨A, c, hv, hS.add (fun w' hw => ⟨hle, fun j y hy => ?_⟩)⟩
  obtain ⟨b, rfl, hrow⟩ := hread w' hw j y hy
  refine ⟨b, 0, _, rfl, ?_, fun i u hu => by have := hrow i u hu; simpa using this⟩
  have hw2 : Away (XL X (keys bx (mkRow d e v xs :: rw))) w w' := hw.mono (fun b o hx => by
    rcases hx with hx | hx
    · exact .inl hx
    · exact .inr (hsub b hx))
  exact hq w' hw2 j y hy
end

/-! ### 11. Literals, appends -/
section
variable {P : Program} {X : Nat → Nat → Prop} {w0 : World} {L0 : List Nat} {bx bx' : List Box} {rw rw' : List Row} {ro ro' : Mem} {φ φ' : List (World → Prop)} {w w' : World} {o : Oper} {fr : Fr}
variable {α : Type} {d : Kd α} {e : TypeId} {v : Value} {xs ys : List α}
def bsV (P : Program) (t : TypeId) (len : Nat) (parts : List (Nat × Value)) : Option (TypeId × List Value) := match sliceElem P t with
  | some e => match P.info? e with
    | some ie => match ie.zero with
      | some z => if len * ie.size ≤ 16777216 then (Instr.fill (fun i => some (i * ie.size, ie.size)) ((Array.range (len * ie.size)).map ((if len * ie.size = 0 then #[] else z.cells)[· % (if len * ie.size = 0 then #[] else z.cells).size]!)) parts).map fun c => (e, c.toList) else none
      | none => none
    | none => none
  | none => none
theorem run_bsV {t : TypeId} {len : Nat} {parts : Array (Nat × Value)} {cs : List Value} (h : bsV P t len parts.toList = some (e, cs)) (w : World) : (Instr.buildSlice t len parts).run P w = .ok (.slice (some ⟨w.heap.size, 0, none⟩) len len) (w.alloc (.cells cs.toArray e)) := by
  unfold bsV at h
  split at h
  · rename_i e' he
    split at h
    · rename_i ie hie
      split at h
      · rename_i z hz
        split at h
        · rename_i hs
          obtain ⟨c, hc, h2⟩ := Option.map_eq_some_iff.1 h
          simp only [Prod.mk.injEq] at h2
          obtain ⟨rfl, rfl⟩ := h2
          by_cases h0 : len * ie.size = 0
          · simp only [h0, if_true] at hc
            simp [Instr.buildSlice, run_underlying (sliceElem_some he), sizeOf, typeInfo, zeroValue, hie, hz, h0, newRow]
            try simp at hc
            simp [hc]
          · simp only [h0, if_false] at hc
            have hs2 : ¬ len * ie.size > 2 ^ 24 := by omega
            simp [Instr.buildSlice, run_underlying (sliceElem_some he), sizeOf, typeInfo, zeroValue, hie, hz, h0, hs2, newRow]
            try simp at hc
            simp [hc]
        · cases h
      · cases h
    · cases h
  · cases h
/-- A literal. -/
theorem Ev.lit {t : TypeId} {len : Nat} {parts : Array (Nat × Operand)} {ps : List (Nat × Value)} {cs : List Value} (d : Kd α) (xs : List α) (ho : o.op = .buildSlice t len parts) (hp : evParts fr parts.toList = some ps) (hb : bsV P t len ps = some (e, cs)) (hl : xs.length = len) (hc : cs.length = len * d.sz) (hm : len ≤ maxLen)
    (hK : ∀ w', (∀ f, f ∈ φ → f w') → Els d xs cs w') :
    Ev P o fr (St X w0 L0 bx rw ro φ) (fun g : Nat => .slice (some ⟨g, 0, none⟩) len len) (fun g => St X w0 L0 bx (mkRow d e (.slice (some ⟨g, 0, none⟩) len len) xs :: rw) ro φ) := Ev.of_run fun n a w hf hS => by
  refine ⟨w.heap.size, w.alloc (.cells cs.toArray e), ?_, ?_⟩
  · have hp2 := hf.parts hp
    unfold execOp
    simp only [ho]
    rw [Sem.run_bind, run_bsV (parts := parts.map fun x => (x.1, a.eval x.2)) (e := e) (cs := cs) (by rw [Array.toList_map, hp2]; exact hb)]
    rfl
  · have hk : Keep (keys bx rw) w (w.alloc (.cells cs.toArray e)) := Keep.alloc _ _ _
    have hL : ∀ b, b ∈ keys bx (mkRow d e (.slice (some ⟨w.heap.size, 0, none⟩) len len) xs :: rw) → b ∈ keys bx rw ∨ w.heap.size ≤ b := by
      intro b hb
      simp only [keys, List.flatMap_cons, List.mem_append, mkRow, ownB, List.mem_singleton] at hb
      rcases hb with hb | hb | hb
      · exact .inl (List.mem_append_left _ hb)
      · exact .inr (by omega)
      · exact .inl (List.mem_append_right _ hb)
    refine hS.next hk hL ?_ (fun q hq => ?_) (fun r hr => ?_) (fun x hx => .inl hx) (fun f hf => .inl hf)
    · have hnd := hS.nodup
      have hfresh : ∀ b, b ∈ keys bx rw → b ≠ w.heap.size := fun b hb => by have := hS.lt hb; omega
      simp only [keys, List.nodup_append] at hnd
      simp only [keys, List.flatMap_cons, List.nodup_append, mkRow, ownB]
      refine ⟨hnd.1, ⟨by simp, hnd.2.1, fun a ha b hb hab => ?_⟩, fun a ha b hb hab => ?_⟩
      · subst hab
        exact hfresh a (List.mem_append_right _ hb) (by simpa using ha)
      · subst hab
        rcases List.mem_append.1 hb with h1 | h1
        · exact hfresh a (List.mem_append_left _ ha) (by simpa using h1)
        · exact hnd.2.2 a ha a h1 rfl
    · rw [Below.heap_alloc _ _ _ (lt_of_heap (hS.boxes q hq))]
      exact hS.boxes q hq
    · rcases List.mem_cons.1 hr with rfl | hr
      · refine ⟨cs, ?_, fun w2 h2 => hK w2 (fun f hf => hS.facts f hf w2 (hS.onward hk hL h2))⟩
        have := World.ownsRow_lit (base := 0) (e := e) (size := d.sz) w cs.toArray len (Nat.zero_le _) hm (by simpa using hc)
        simpa [mkRow, hl] using this
      · exact hS.row_on hk hL hr (fun b hb => Below.heap_alloc _ _ _ (hS.lt (List.mem_append_right _ (List.mem_flatMap.2 ⟨r, hr, hb⟩))))
theorem Keep.of_grown {row : Option Nat} {L : List Nat} (h : w.grownBy w' row) (hl : ∀ b, row = some b → b ∈ L) : Keep L w w' := ⟨h.os, h.tape, h.output, h.size, fun b hb hn => h.block b hb (fun e => hn (hl b e.symm))⟩
/-- What append needs to know of types. -/
def apT (P : Program) (t e : TypeId) (sz bytes : Nat) : Bool := match sliceElem P t, P.info? e with
  | some e', some i => e' == e && i.size == sz && i.bytes == bytes && (match i.zero with | some z => z.cells.size == sz | none => false)
  | _, _ => false
def appOf (o : Oper) : Option (Operand × Operand × TypeId) := match o.op with
  | .call c => match c.callee, c.args.toList, c.argTypes.toList with
    | .builtin .append, [x, y], [t, t'] => if t = t' then some (x, y, t) else none
    | _, _, _ => none
  | _ => none
theorem run_appOf {x y : Operand} {t : TypeId} {n : Nat} {a : Act} {u s : Value} (ho : appOf o = some (x, y, t)) (hf : Fits n fr a) (hx : evF fr x = some u) (hy : evF fr y = some s) {r : Value} (h : (Builtin.append_ #[t, t] o.type #[u, s]).run P w = .ok r w') : (execOp a.eval o).run P w = .ok (.value r) w' := by
  unfold appOf at ho
  split at ho
  · rename_i c hc
    split at ho
    · rename_i x' y' t1 t2 h1 h2 h3
      by_cases ht : t1 = t2
      · simp only [ht, if_true, Option.some.injEq, Prod.mk.injEq] at ho
        obtain ⟨rfl, rfl, rfl⟩ := ho
        have ha : c.args = #[x', y'] := by rw [← Array.toArray_toList (xs := c.args), h2]
        have hb : c.argTypes = #[t2, t2] := by rw [← Array.toArray_toList (xs := c.argTypes), h3, ht]
        unfold execOp
        simp [hc, resolve, h1, ha, hb, invoke, builtin, hf.ev hx, hf.ev hy, h]
      · simp [ht] at ho
    · cases ho
  · cases ho
theorem apT_spec {t : TypeId} {sz bytes : Nat} (h : apT P t e sz bytes = true) : P.underlying t = some (.slice e) ∧ ∃ i z, P.info? e = some i ∧ i.size = sz ∧ i.bytes = bytes ∧ i.zero = some z ∧ z.cells.size = sz := by
  unfold apT at h
  split at h
  · rename_i e' i h1 h2
    simp only [Bool.and_eq_true, beq_iff_eq] at h
    obtain ⟨⟨⟨rfl, h3⟩, h4⟩, h5⟩ := h
    refine ⟨sliceElem_some h1, i, ?_⟩
    cases hz : i.zero with
    | none => simp [hz] at h5
    | some z => exact ⟨z, h2, h3, h4, rfl, by simpa [hz] using h5⟩
  · cases h
theorem locB {v v' : Value} (h : v'.ownBlock = v.ownBlock ∨ v'.ownBlock = some w.heap.size) : ∀ b, b ∈ ownB v' → b ∈ ownB v ∨ w.heap.size ≤ b := by
  intro b hb
  rw [mem_ownB] at hb ⊢
  rcases h with h | h
  · exact .inl (h ▸ hb)
  · rw [h] at hb
    injection hb with hb
    exact .inr (by omega)
/-- append(row, literal). -/
theorem Ev.appLit {x y : Operand} {t : TypeId} {bytes g m : Nat} (ho : appOf o = some (x, y, t)) (hx : evF fr x = some v) (hy : evF fr y = some (.slice (some ⟨g, 0, none⟩) m m)) (hm : ys.length = m) (ht : apT P t e d.sz bytes = true) (hs : 0 < d.sz ∧ 0 < bytes) (hlim : (xs.length + ys.length) * bytes ≤ 140737488355328) :
    Ev P o fr (St X w0 L0 bx (mkRow d e (.slice (some ⟨g, 0, none⟩) m m) ys :: mkRow d e v xs :: rw) ro φ) (fun p : Option Addr × Nat => .slice p.1 (xs ++ ys).length p.2) (fun p => St X w0 L0 bx (mkRow d e (.slice p.1 (xs ++ ys).length p.2) (xs ++ ys) :: rw) ro φ) := Ev.of_run fun n a w hf hS => by
  subst hm
  obtain ⟨hu, i, z, hi, h1, h2, hz, hzs⟩ := apT_spec ht
  obtain ⟨cy, hoy, hqy⟩ := hS.rows _ List.mem_cons_self
  obtain ⟨cx, hox, hqx⟩ := hS.rows _ (List.mem_cons_of_mem _ List.mem_cons_self)
  have hlim2 : xs.length + ys.length ≤ 140737488355328 := Nat.le_trans (Nat.le_mul_of_pos_right _ hs.2) hlim
  have hone : ∀ u, u ∈ cy → u.oneCell' = true := by
    intro u hu
    obtain ⟨q, hq, rfl⟩ := List.getElem_of_mem hu
    have hE : Els d ys cy w := hqy w (Away.refl _ _)
    have hlen : cy.length = ys.length * d.sz := hoy.1
    have hj : q / d.sz < ys.length := by rw [Nat.div_lt_iff_lt_mul hs.1, ← hlen]; exact hq
    refine d.one (hE (q / d.sz) ys[q / d.sz] (List.getElem?_eq_getElem hj)) _ (List.mem_of_getElem? (i := q % d.sz) ?_)
    rw [List.getElem?_take_of_lt (Nat.mod_lt _ hs.1), List.getElem?_drop, Nat.div_add_mod' q d.sz, List.getElem?_eq_getElem hq]
  obtain ⟨v', w', hr, ho', hg', _, hloc⟩ := run_append_own_at (P := P) w 0 t o.type e i z d.sz bytes hu hi hz h1 h2 hzs hs.1 v xs.length cx hox ⟨g, 0, none⟩ ys.length ys.length cy hoy.1 (fun j u hj => hoy.cells (g := g) rfl j u hj) hone (by simp only [maxLen]; omega) hlim (Nat.zero_le _)
  have hdrop := hS.sub (bx' := bx) (rw' := mkRow d e v xs :: rw) (fun p hp => hp) (fun r hr => List.mem_cons_of_mem _ hr) (by
    have hnd := hS.nodup
    simp only [keys, List.flatMap_cons, List.nodup_append] at hnd
    simp only [keys, List.flatMap_cons, List.nodup_append]
    exact ⟨hnd.1, hnd.2.1.2.1, fun a ha b hb => hnd.2.2 a ha b (List.mem_append_right _ hb)⟩)
  obtain ⟨A, c, rfl⟩ : ∃ A c, v' = .slice A (xs.length + ys.length) c := by
    rcases ho'.2 with ⟨rfl, hn⟩ | ⟨g', cap, cur, rfl, _⟩
    · exact ⟨none, 0, by rw [hn]⟩
    · exact ⟨_, cap, rfl⟩
  have hlen : (xs ++ ys).length = xs.length + ys.length := List.length_append
  refine ⟨(A, c), w', ?_, ?_⟩
  · rw [hlen]
    exact run_appOf ho hf hx hy hr
  · simp only [hlen]
    have hk : Keep (ownB v) w w' := Keep.of_grown hg' (fun b hb => mem_ownB.2 hb)
    have hbnew := locB (v := v) (v' := .slice A (xs.length + ys.length) c) (w := w) hloc
    have hall : Keep (keys bx (mkRow d e (.slice (some ⟨g, 0, none⟩) ys.length ys.length) ys :: mkRow d e v xs :: rw)) w w' := hk.mono (fun b hb => List.mem_append_right _ (List.mem_flatMap.2 ⟨_, List.mem_cons_of_mem _ List.mem_cons_self, hb⟩))
    refine hdrop.head (r' := mkRow d e (.slice A (xs.length + ys.length) c) (xs ++ ys)) hk hbnew ⟨cx ++ cy, by simpa [mkRow, hlen] using ho', fun w2 h2 => ?_⟩
    have hold : Away (XL X (keys bx (mkRow d e (.slice (some ⟨g, 0, none⟩) ys.length ys.length) ys :: mkRow d e v xs :: rw))) w w2 := by
      refine hS.onward hall (fun b hb => ?_) h2
      simp only [keys, List.flatMap_cons, List.mem_append] at hb ⊢
      rcases hb with hb | hb | hb
      · exact .inl (.inl hb)
      · rcases hbnew b hb with h3 | h3
        · exact .inl (.inr (.inr (.inl h3)))
        · exact .inr h3
      · exact .inl (.inr (.inr (.inr hb)))
    exact Els.append (hqx w2 hold) hox.1 (hqy w2 hold)
end

/-! ### 12. Slices that are read: gathered, appended, cut -/
section
variable {P : Program} {X : Nat → Nat → Prop} {w0 : World} {L0 : List Nat} {bx bx' : List Box} {rw rw' : List Row} {ro ro' : Mem} {φ φ' : List (World → Prop)} {w w' : World} {o : Oper} {fr : Fr}
variable {α : Type} {d : Kd α} {e : TypeId} {v : Value} {xs ys : List α}
theorem Rd.gather {A : Option Addr} {c : Nat} (h : ∀ w', Away X w w' → Rd d A c xs w') :
    ∃ cy : List Value, cy.length = xs.length * d.sz ∧ (∀ w', Away X w w' → Els d xs cy w') ∧ (xs = [] ∨ ∃ b o, A = some ⟨b, o, none⟩ ∧ ∀ w', Away X w w' → RowAt (b, o, cy) w') := by
  cases hx : xs with
  | nil => exact ⟨[], by simp, fun w' _ => Els.nil _ _ _, .inl rfl⟩
  | cons x0 xr =>
    rw [← hx]
    obtain ⟨b, o, cs0, hA, _⟩ := Rd.at0 h (j := 0) (y := x0) (by rw [hx]; rfl)
    have key : ∀ j y, xs[j]? = some y → ∃ cs, cs.length = d.sz ∧ ∀ w', Away X w w' → d.K w' y cs ∧ RowAt (b, o + j * d.sz, cs) w' := by
      intro j y hy
      obtain ⟨b', o', cs, hA', hk⟩ := Rd.at0 h hy
      rw [hA] at hA'
      simp only [Option.some.injEq, Addr.mk.injEq, and_true] at hA'
      obtain ⟨rfl, rfl⟩ := hA'
      exact ⟨cs, d.len (hk w (Away.refl _ _)).1, hk⟩
    let cy := (List.range (xs.length * d.sz)).map fun q => (w.cell? ⟨b, o + q, none⟩).getD undef
    have hcy : ∀ j y cs, xs[j]? = some y → cs.length = d.sz → RowAt (b, o + j * d.sz, cs) w → (cy.drop (j * d.sz)).take d.sz = cs := by
      intro j y cs hy hl hr
      have hj : j < xs.length := (List.getElem?_eq_some_iff.1 hy).1
      have hle : j * d.sz + d.sz ≤ xs.length * d.sz := by rw [← Nat.succ_mul]; exact Nat.mul_le_mul_right _ hj
      apply List.ext_getElem
      · simp [cy, hl]; omega
      · intro i h1 h2
        have hi : i < d.sz := by omega
        have := hr i cs[i] (List.getElem?_eq_getElem h2)
        simp only [Nat.add_assoc] at this
        simp [cy, this]
    have hlen : cy.length = xs.length * d.sz := by simp [cy]
    refine ⟨cy, hlen, fun w' hw j y hy => ?_, .inr ⟨b, o, hA, fun w' hw q u hq => ?_⟩⟩
    · obtain ⟨cs, hl, hk⟩ := key j y hy
      rw [hcy j y cs hy hl (hk w (Away.refl _ _)).2]
      exact (hk w' hw).1
    · have hql : q < xs.length * d.sz := by have : q < cy.length := (List.getElem?_eq_some_iff.1 hq).1; omega
      have hs0 : 0 < d.sz := by
        rcases Nat.eq_zero_or_pos d.sz with h0 | h0
        · rw [h0] at hql; simp at hql
        · exact h0
      have hj : q / d.sz < xs.length := by rw [Nat.div_lt_iff_lt_mul hs0]; exact hql
      obtain ⟨cs, hl, hk⟩ := key (q / d.sz) xs[q / d.sz] (List.getElem?_eq_getElem hj)
      have h1 := hcy _ _ cs (List.getElem?_eq_getElem hj) hl (hk w (Away.refl _ _)).2
      have h2 : cs[q % d.sz]? = some u := by
        rw [← h1, List.getElem?_take_of_lt (Nat.mod_lt _ hs0), List.getElem?_drop, Nat.div_add_mod' q d.sz]
        exact hq
      have h3 := (hk w' hw).2 _ _ h2
      simp only [Nat.add_assoc, Nat.div_add_mod' q d.sz] at h3
      exact h3
theorem one_of_els {cells : List Value} (hE : Els d xs cells w) (hl : cells.length = xs.length * d.sz) (hs : 0 < d.sz) : ∀ u, u ∈ cells → u.oneCell' = true := by
  intro u hu
  obtain ⟨q, hq, rfl⟩ := List.getElem_of_mem hu
  have hj : q / d.sz < xs.length := by rw [Nat.div_lt_iff_lt_mul hs, ← hl]; exact hq
  refine d.one (hE (q / d.sz) xs[q / d.sz] (List.getElem?_eq_getElem hj)) _ (List.mem_of_getElem? (i := q % d.sz) ?_)
  rw [List.getElem?_take_of_lt (Nat.mod_lt _ hs), List.getElem?_drop, Nat.div_add_mod' q d.sz, List.getElem?_eq_getElem hq]
/-- append(row, ys...), ys read. -/
theorem Ev.appSl {x y : Operand} {t : TypeId} {bytes c : Nat} {A : Option Addr} (j : Nat) (ho : appOf o = some (x, y, t)) (hx : evF fr x = some v) (hy : evF fr y = some (.slice A ys.length c)) (hj : φ[j]? = some (Rd d A c ys)) (ht : apT P t e d.sz bytes = true) (hs : 0 < d.sz ∧ 0 < bytes) (hlim : (xs.length + ys.length) * bytes ≤ 140737488355328) :
    Ev P o fr (St X w0 L0 bx (mkRow d e v xs :: rw) ro φ) (fun p : Option Addr × Nat => .slice p.1 (xs ++ ys).length p.2) (fun p => St X w0 L0 bx (mkRow d e (.slice p.1 (xs ++ ys).length p.2) (xs ++ ys) :: rw) ro φ) := Ev.of_run fun n a w hf hS => by
  obtain ⟨hu, i, z, hi, h1, h2, hz, hzs⟩ := apT_spec ht
  obtain ⟨cx, hox', hqx⟩ := hS.rows _ List.mem_cons_self
  have hox : w.ownsRow 0 e d.sz v xs.length cx := hox'
  obtain ⟨cy, hly, hqy, hat⟩ := Rd.gather (hS.fact j hj)
  have hlim2 : xs.length + ys.length ≤ 140737488355328 := Nat.le_trans (Nat.le_mul_of_pos_right _ hs.2) hlim
  have hone := one_of_els (hqy w (Away.refl _ _)) hly hs.1
  have hrun : ∃ v' w', (Builtin.append_ #[t, t] o.type #[v, .slice A ys.length c]).run P w = .ok v' w' ∧ w'.ownsRow 0 e d.sz v' (xs.length + ys.length) (cx ++ cy) ∧ w.grownBy w' v.ownBlock ∧ (v'.ownBlock = v.ownBlock ∨ v'.ownBlock = some w.heap.size) := by
    have some_case : ∀ ad : Addr, A = some ad → (∀ q u, cy[q]? = some u → w.cell? (ad.add q) = some u) → ∃ v' w', (Builtin.append_ #[t, t] o.type #[v, .slice A ys.length c]).run P w = .ok v' w' ∧ w'.ownsRow 0 e d.sz v' (xs.length + ys.length) (cx ++ cy) ∧ w.grownBy w' v.ownBlock ∧ (v'.ownBlock = v.ownBlock ∨ v'.ownBlock = some w.heap.size) := by
      rintro ad rfl hc
      obtain ⟨v', w', hr, ho', hg', _, hloc⟩ := run_append_own_at (P := P) w 0 t o.type e i z d.sz bytes hu hi hz h1 h2 hzs hs.1 v xs.length cx hox ad ys.length c cy hly hc hone (by simp only [maxLen]; omega) hlim (Nat.zero_le _)
      exact ⟨v', w', hr, ho', hg', hloc⟩
    rcases hat with rfl | ⟨b, o', rfl, hrow⟩
    · have : cy = [] := List.eq_nil_of_length_eq_zero (by simpa using hly)
      subst this
      cases A with
      | some ad => exact some_case ad rfl (fun q u hq => by simp at hq)
      | none =>
        refine ⟨v, w, ?_, by simpa using hox, World.grownBy.refl w _, .inl rfl⟩
        rcases hox.2 with ⟨rfl, hn⟩ | ⟨g, cap, cur, hv, _, _, hcap, _⟩
        · simp [Builtin.append_, run_underlying hu, sizeOf, typeInfo, hi, Builtin.lenOf, Builtin.firstCells]
        · have hv' : v = .slice (some ⟨g, 0, none⟩) xs.length cap := hv
          have hcap' : xs.length ≤ cap := hcap
          subst hv'
          simp [Builtin.append_, run_underlying hu, sizeOf, typeInfo, hi, Builtin.lenOf, Builtin.firstCells, hcap', storeCells]
    · refine some_case _ rfl (fun q u hq => ?_)
      have := hrow w (Away.refl _ _) q u hq
      rw [show (⟨b, o', none⟩ : Addr).add q = ⟨b, o' + q, none⟩ by unfold Addr.add; split <;> simp_all]
      exact this
  obtain ⟨v', w', hr, ho', hg', hloc⟩ := hrun
  obtain ⟨A', c', rfl⟩ : ∃ A c, v' = .slice A (xs.length + ys.length) c := by
    rcases ho'.2 with ⟨rfl, hn⟩ | ⟨g', cap, cur, rfl, _⟩
    · exact ⟨none, 0, by rw [hn]⟩
    · exact ⟨_, cap, rfl⟩
  have hlen : (xs ++ ys).length = xs.length + ys.length := List.length_append
  refine ⟨(A', c'), w', ?_, ?_⟩
  · rw [hlen]
    exact run_appOf ho hf hx hy hr
  · simp only [hlen]
    have hk : Keep (ownB v) w w' := Keep.of_grown hg' (fun b hb => mem_ownB.2 hb)
    have hbnew := locB (v := v) (v' := .slice A' (xs.length + ys.length) c') (w := w) hloc
    have hall : Keep (keys bx (mkRow d e v xs :: rw)) w w' := hk.mono (fun b hb => List.mem_append_right _ (List.mem_flatMap.2 ⟨_, List.mem_cons_self, hb⟩))
    refine hS.head (r' := mkRow d e (.slice A' (xs.length + ys.length) c') (xs ++ ys)) hk hbnew ⟨cx ++ cy, by simpa [mkRow, hlen] using ho', fun w2 h2 => ?_⟩
    have hold : Away (XL X (keys bx (mkRow d e v xs :: rw))) w w2 := by
      refine hS.onward hall (fun b hb => ?_) h2
      simp only [keys, List.flatMap_cons, List.mem_append] at hb ⊢
      rcases hb with hb | hb | hb
      · exact .inl (.inl hb)
      · rcases hbnew b hb with h3 | h3
        · exact .inl (.inr (.inl h3))
        · exact .inr h3
      · exact .inl (.inr (.inr hb))
    exact Els.append (hqx w2 hold) hox.1 (hqy w2 hold)
/-- xs[lo:hi] and its kin, of what is read; without a capacity of its own. -/
def cutL {α : Type} (xs : List α) (lo hi : Nat) : List α := (xs.take hi).drop lo
theorem cutL_length {α : Type} {xs : List α} {lo hi : Nat} (h : hi ≤ xs.length) : (cutL xs lo hi).length = hi - lo := by simp [cutL]; omega
theorem Rd.cut {A : Option Addr} {c lo hi m : Nat} (h : Rd d A c xs w) (h1 : lo ≤ hi) (h2 : hi ≤ xs.length) (h3 : hi ≤ m) : Rd d (if m = lo then A else A.map (·.add (lo * d.sz))) (m - lo) (cutL xs lo hi) w := by
  refine ⟨by rw [cutL_length h2]; omega, fun j y hy => ?_⟩
  have hj : lo + j < hi := by have := (List.getElem?_eq_some_iff.1 hy).1; rw [cutL_length h2] at this; omega
  have hy' : xs[lo + j]? = some y := by
    rw [cutL, List.getElem?_drop, List.getElem?_take_of_lt hj] at hy
    exact hy
  obtain ⟨b, o, cs, rfl, hK, hc⟩ := h.2 _ _ hy'
  refine ⟨b, o + lo * d.sz, cs, ?_, hK, fun i u hu => ?_⟩
  · rw [if_neg (by omega)]
    simp only [Option.map_some, Addr.add]
    split <;> simp_all
  · have := hc i u hu
    rw [Nat.add_mul, ← Nat.add_assoc] at this
    exact this
def cutOf (o : Oper) : Option (TypeId × Operand × Option Operand × Option Operand × Option Operand) := match o.op with
  | .slice t x lo hi mx => some (t, x, lo, hi, mx)
  | _ => none
def evO (fr : Fr) (x : Option Operand) : Option (Option Value) := match x with
  | none => some none
  | some p => (evF fr p).map some
/-- A bound's value, or its default. -/
inductive Bd : Option Value → Nat → Nat → Prop
  | dflt (d : Nat) : Bd none d d
  | val (k : IntKind) (i : Int) (d : Nat) (h : 0 ≤ i) : Bd (some (.int k i)) i.toNat d
theorem Fits.evO {n : Nat} {fr : Fr} {a : Act} (h : Fits n fr a) {x : Option Operand} {v : Option Value} (e : Hw.evO fr x = some v) : x.map a.eval = v := by
  cases x with
  | none => simp [Hw.evO] at e; subst e; rfl
  | some p =>
    simp only [Hw.evO] at e
    obtain ⟨u, hu, rfl⟩ := Option.map_eq_some_iff.1 e
    simp [h.ev hu]
theorem run_sb {k : IntKind} {i : Int} {y : Nat} (c : BoundsCode) (h0 : 0 ≤ i) (h : i ≤ y) : (Instr.sliceBound (.int k i) y c).run P w = .ok i.toNat w := by simp [Instr.sliceBound, asIntOf, h0, h]
theorem run_bounds {lo hi : Option Value} {l h len cap : Nat} (hl : Bd lo l 0) (hh : Bd hi h len) (h1 : l ≤ h) (h2 : h ≤ cap) : (Instr.sliceBounds true len cap lo hi none).run P w = .ok (l, h, cap) w := by
  cases hl with
  | dflt => cases hh with
    | dflt => simp [Instr.sliceBounds]
    | val k i d hi => simp [Instr.sliceBounds, run_sb _ hi (show i ≤ (cap : Int) by omega)]
  | val k i d hi => cases hh with
    | dflt => simp [Instr.sliceBounds, run_sb _ hi (show i ≤ (h : Int) by omega)]
    | val k' i' d' hi' => simp [Instr.sliceBounds, run_sb _ hi (show i ≤ (i'.toNat : Int) by omega), run_sb _ hi' (show i' ≤ (cap : Int) by omega)]
theorem run_bounds3 {lo hi mx : Option Value} {l h m len cap : Nat} (hl : Bd lo l 0) (hh : ∃ k i, hi = some (.int k i) ∧ 0 ≤ i ∧ i.toNat = h) (hm : ∃ k i, mx = some (.int k i) ∧ 0 ≤ i ∧ i.toNat = m) (h1 : l ≤ h) (h2 : h ≤ m) (h3 : m ≤ cap) : (Instr.sliceBounds true len cap lo hi mx).run P w = .ok (l, h, m) w := by
  obtain ⟨k1, i1, rfl, g1, rfl⟩ := hh
  obtain ⟨k2, i2, rfl, g2, rfl⟩ := hm
  cases hl with
  | dflt => simp [Instr.sliceBounds, run_sb _ g2 (show i2 ≤ (cap : Int) by omega), run_sb _ g1 (show i1 ≤ (i2.toNat : Int) by omega)]
  | val k i d hi => simp [Instr.sliceBounds, run_sb _ g2 (show i2 ≤ (cap : Int) by omega), run_sb _ g1 (show i1 ≤ (i2.toNat : Int) by omega), run_sb _ hi (show i ≤ (i1.toNat : Int) by omega)]
theorem Ev.cut {t : TypeId} {x : Operand} {lo hi : Option Operand} {vlo vhi : Option Value} {A : Option Addr} {c l h : Nat} (j : Nat) (ho : cutOf o = some (t, x, lo, hi, none)) (ht : (sliceElem P t).bind (szB P) = some d.sz) (hx : evF fr x = some (.slice A xs.length c)) (hlo : evO fr lo = some vlo) (hhi : evO fr hi = some vhi)
    (hl : Bd vlo l 0) (hh : Bd vhi h xs.length) (h1 : l ≤ h) (h2 : h ≤ xs.length) (hj : φ[j]? = some (Rd d A c xs)) :
    Ev P o fr (St X w0 L0 bx rw ro φ) (fun p : Option Addr × Nat => .slice p.1 (cutL xs l h).length p.2) (fun p => St X w0 L0 bx rw ro (Rd d p.1 p.2 (cutL xs l h) :: φ)) := Ev.of_run fun n a w hf hS => by
  have hc : xs.length ≤ c := (hS.now j hj).1
  obtain ⟨e', he, hs⟩ := Option.bind_eq_some_iff.1 ht
  refine ⟨((if c = l then A else A.map (·.add (l * d.sz))), c - l), w, ?_, hS.add (fun w' hw => (hS.fact j hj w' hw).cut h1 h2 (by omega))⟩
  unfold cutOf at ho
  split at ho
  · rename_i t' x' lo' hi' mx' ho'
    simp only [Option.some.injEq, Prod.mk.injEq] at ho
    obtain ⟨rfl, rfl, rfl, rfl, rfl⟩ := ho
    have e1 := hf.evO hlo
    have e2 := hf.evO hhi
    unfold execOp
    simp only [ho', e1, e2, hf.ev hx, Option.map_none]
    simp [Instr.sliceAt, Instr.slice, run_underlying (sliceElem_some he), run_bounds hl hh h1 (Nat.le_trans h2 hc), run_sizeOf hs, cutL_length h2]
  · cases ho
theorem Ev.cut3 {t : TypeId} {x : Operand} {lo hi mx : Option Operand} {vlo vhi vmx : Option Value} {A : Option Addr} {c l h : Nat} (j : Nat) (ho : cutOf o = some (t, x, lo, hi, mx)) (ht : (sliceElem P t).bind (szB P) = some d.sz) (hx : evF fr x = some (.slice A xs.length c)) (hlo : evO fr lo = some vlo) (hhi : evO fr hi = some vhi) (hmx : evO fr mx = some vmx)
    (hl : Bd vlo l 0) (hh : ∃ k i, vhi = some (.int k i) ∧ 0 ≤ i ∧ i.toNat = h) (hm : ∃ k i, vmx = some (.int k i) ∧ 0 ≤ i ∧ i.toNat = h) (h1 : l ≤ h) (h2 : h ≤ xs.length) (hj : φ[j]? = some (Rd d A c xs)) :
    Ev P o fr (St X w0 L0 bx rw ro φ) (fun p : Option Addr => .slice p (cutL xs l h).length (cutL xs l h).length) (fun p => St X w0 L0 bx rw ro (Rd d p (cutL xs l h).length (cutL xs l h) :: φ)) := Ev.of_run fun n a w hf hS => by
  have hc : xs.length ≤ c := (hS.now j hj).1
  obtain ⟨e', he, hs⟩ := Option.bind_eq_some_iff.1 ht
  refine ⟨(if h = l then A else A.map (·.add (l * d.sz))), w, ?_, hS.add (fun w' hw => by have := (hS.fact j hj w' hw).cut h1 h2 (Nat.le_refl h); rwa [← cutL_length (xs := xs) (lo := l) h2] at this)⟩
  unfold cutOf at ho
  split at ho
  · rename_i t' x' lo' hi' mx' ho'
    simp only [Option.some.injEq, Prod.mk.injEq] at ho
    obtain ⟨rfl, rfl, rfl, rfl, rfl⟩ := ho
    have e1 := hf.evO hlo
    have e2 := hf.evO hhi
    have e3 := hf.evO hmx
    unfold execOp
    simp only [ho', e1, e2, e3, hf.ev hx]
    simp [Instr.sliceAt, Instr.slice, run_underlying (sliceElem_some he), run_bounds3 hl hh hm h1 (Nat.le_refl h) (Nat.le_trans h2 hc), run_sizeOf hs, cutL_length h2]
  · cases ho
end

/-! ### 13. A function's end, and its begin -/
section
variable {P : Program} {X : Nat → Nat → Prop} {w0 : World} {L0 : List Nat} {bx bx' : List Box} {rw rw' : List Row} {ro ro' : Mem} {φ φ' : List (World → Prop)} {w w' : World} {fr : Fr}
def resV (P : Program) (m : Mem) : List (Nat × Nat) → List ResultVar → Fr → Option (List Value × List (Nat × Nat))
  | _, [], _ => some ([], [])
  | hs, .tmp t :: r, fr => match lk t fr, resV P m hs r fr with
    | some v, some l => some (v :: l.1, l.2)
    | _, _ => none
  | hs, .cell a t :: r, fr => match (lk a fr).bind (loadV P m (hs.headD (0, 0)).1 (hs.headD (0, 0)).2 t), resV P m hs.tail r fr with
    | some x, some l => some (x.1 :: l.1, x.2 ++ l.2)
    | _, _ => none
def retV (vs : List Value) : Value := match vs with | [v] => v | _ => .tuple vs.toArray
theorem loadAt_loadVar {t : TypeId} {x v : Value} (h : (Instr.loadAt t x).run P w = .ok v w) {b o : Nat} (hx : x = .pointer (some ⟨b, o, none⟩)) : (do loadVar t (← asAddr x) : Sem Value).run P w = .ok v w := by
  subst hx
  simpa [Instr.loadAt, Instr.sureAddr, asAddr] using h
theorem loadV_pointer {m : Mem} {k i : Nat} {t : TypeId} {x v : Value} {es : List (Nat × Nat)} (h : loadV P m k i t x = some (v, es)) : ∃ b o, x = .pointer (some ⟨b, o, none⟩) := by
  unfold loadV at h
  split at h
  · rename_i b o g o0 cs hk; exact ⟨b, o, rfl⟩
  · cases h
theorem run_resV {m : Mem} {n : Nat} {a : Act} (hf : Fits n fr a) (hm : MemAt m w) : ∀ {rs : List ResultVar} {hs : List (Nat × Nat)} {vs : List Value} {es : List (Nat × Nat)}, resV P m hs rs fr = some (vs, es) → (∀ e, e ∈ es → e.1 = e.2) →
    (rs.mapM fun (r : ResultVar) => (match r with | .tmp t => pure (a.tmps.getD t undef) | .cell x t => do loadVar t (← asAddr (a.tmps.getD x undef)) : Sem Value)).run P w = .ok vs w
  | [], hs, vs, es, h, he => by
    simp [resV] at h
    obtain ⟨rfl, rfl⟩ := h
    rfl
  | .tmp t :: r, hs, vs, es, h, he => by
    unfold resV at h
    split at h
    · rename_i v l h1 h2
      simp only [Option.some.injEq, Prod.mk.injEq] at h
      obtain ⟨rfl, rfl⟩ := h
      have ih := run_resV hf hm h2 he
      have ht := hf.at_ _ _ h1
      rw [List.mapM_cons, Sem.run_bind, Sem.run_pure, Result.andThen_ok, Sem.run_bind, ih, Result.andThen_ok, Sem.run_pure]
      simp [Array.getD_eq_getD_getElem?, ht]
    · cases h
  | .cell x t :: r, hs, vs, es, h, he => by
    unfold resV at h
    split at h
    · rename_i v l h1 h2
      simp only [Option.some.injEq, Prod.mk.injEq] at h
      obtain ⟨rfl, rfl⟩ := h
      obtain ⟨p, hp, h1⟩ := Option.bind_eq_some_iff.1 h1
      have ih := run_resV hf hm h2 (fun e hx => he e (List.mem_append_right _ hx))
      have ht := hf.at_ _ _ hp
      have hl := run_loadV (v := v.1) (es := v.2) h1 hm (fun e hx => he e (List.mem_append_left _ hx))
      obtain ⟨b, o, hb⟩ := loadV_pointer (v := v.1) (es := v.2) h1
      have h3 := loadAt_loadVar hl hb
      have ht2 : a.tmps.getD x undef = p := by simp [Array.getD_eq_getD_getElem?, ht]
      rw [List.mapM_cons, Sem.run_bind]
      simp only [ht2]
      rw [h3, Result.andThen_ok, Sem.run_bind, ih, Result.andThen_ok, Sem.run_pure]
    · cases h
theorem run_results {fn : Func} {m : Mem} {n : Nat} {a : Act} {hs : List (Nat × Nat)} {vs : List Value} {es : List (Nat × Nat)} (hf : Fits n fr a) (hm : MemAt m w) (h : resV P m hs fn.results.toList fr = some (vs, es)) (he : ∀ e, e ∈ es → e.1 = e.2) : (results fn a.tmps).run P w = .ok (retV vs) w := by
  have := run_resV (P := P) hf hm h he
  unfold results
  rw [Array.mapM_eq_mapM_toList]
  simp only [Sem.run_bind]
  rw [show (List.toArray <$> fn.results.toList.mapM _ : Sem (Array Value)) = (do let l ← fn.results.toList.mapM _; pure l.toArray) from rfl, Sem.run_bind]
  erw [this]
  simp only [Result.andThen_ok, Sem.run_pure]
  cases vs with
  | nil => rfl
  | cons v r => cases r with
    | nil => simp [retV]
    | cons v' r' => simp [retV]
/-- The end: what is answered, and what is known of it. -/
theorem J.done {fn : Func} {n : Nat} {k : List KI} {c : Code} {ι : Type} {v : ι → Value} {F : ι → List (World → Prop)} (hs : List (Nat × Nat)) (es : List Nat) (is : List Nat) (i : ι) {vs : List Value} (hc : isRet c = true) (h : resV P (memOf bx ro) hs fn.results.toList fr = some (vs, dup es)) (hv : v i = retV vs) (hF : pick φ is = some (F i)) (hL : L0 = []) :
    J P (bodyPost P fn fun e w' => Keep [] w0 w' ∧ ∃ i, e = .returned (v i) ∧ ∀ f, f ∈ F i → ∀ w2, Away X w' w2 → f w2) n (.code c :: k) fr (St X w0 L0 bx rw ro φ) := J.ret hc fun a w hf hS => by
  subst hL
  refine ⟨hf.defers, retV vs, run_results hf hS.mem h (fun x hx => by obtain ⟨y, _, rfl⟩ := List.mem_map.1 hx; rfl), hS.keep, i, by rw [hv], fun f hf' w2 h2 => hS.facts f (pick_mem hF f hf') w2 (h2.mono (fun b o hx => .inl hx))⟩
def argsF (vs : List Value) : Fr := vs.zipIdx.map fun x => (x.2, x.1)
theorem lk_args : ∀ (vs : List Value) (k t : Nat) (u : Value), lk t ((vs.zipIdx k).map fun x => (x.2, x.1)) = some u → k ≤ t ∧ vs[t - k]? = some u
  | [], k, t, u, h => by simp [lk] at h
  | v :: r, k, t, u, h => by
    simp only [List.zipIdx_cons, List.map_cons, lk] at h
    by_cases e : t = k
    · subst e; simp at h; subst h; simp
    · simp only [e, if_false] at h
      obtain ⟨h1, h2⟩ := lk_args r (k + 1) t u h
      refine ⟨by omega, ?_⟩
      rw [show t - k = (t - (k + 1)) + 1 by omega]
      simpa using h2
theorem fits_args {fn : Func} {vs : List Value} (h : vs.length ≤ fn.ntmps) : Fits fn.ntmps (argsF vs) { tmps := vs.toArray ++ Array.replicate (fn.ntmps - vs.toArray.size) undef, defers := [] } := by
  refine ⟨by simp; omega, rfl, fun t u hu => ?_⟩
  obtain ⟨_, h2⟩ := lk_args vs 0 t u hu
  have hlt : t < vs.length := (List.getElem?_eq_some_iff.1 (by simpa using h2)).1
  simp at h2
  obtain ⟨h3, h4⟩ := List.getElem?_eq_some_iff.1 h2
  simp [Array.getElem?_append, hlt, h4]
theorem St.start (hX : ∀ b o, X b o → b < w.heap.size) (hφ : ∀ f, f ∈ φ → ∀ w', Away X w w' → f w') : St X w [] [] [] [] φ w :=
  ⟨fun b o hx => ⟨hX b o hx, by simp⟩, Keep.refl _ _, fun b hb => by simp [keys] at hb, by simp [keys], fun p hp => by simp at hp, fun r hr => by simp at hr, fun x hx => by simp at hx, fun f hf w' hw => hφ f hf w' (hw.mono (fun b o hx => by rcases hx with hx | hx; exact hx; simp [keys] at hx))⟩
theorem Con.of {g : FuncId} {fn : Func} {c : Code} {vs : List Value} {ι : Type} {v : ι → Value} {F : ι → List (World → Prop)} (φ : List (World → Prop)) (hf : P.funcs[g]? = some fn) (hb : fn.body = some c) (hn : vs.length ≤ fn.ntmps) (hX : ∀ b o, X b o → b < w.heap.size) (hφ : ∀ f, f ∈ φ → ∀ w', Away X w w' → f w')
    (h : J P (bodyPost P fn fun e w' => Keep [] w w' ∧ ∃ i, e = .returned (v i) ∧ ∀ f, f ∈ F i → ∀ w2, Away X w' w2 → f w2) fn.ntmps [.code c] (argsF vs) (St X w [] [] [] [] φ)) : Con P g vs X w v F :=
  calls_of_wp hf hb (h _ w (fits_args hn) (St.start hX hφ))
end

/-! ### 14. A region whose order is open -/
section
variable {P : Program} {Q : Exit → Act → World → Prop} {ops : Array Oper} {fr : Fr}
def lst (b : Array Bool) (i : Nat) : Bool := b.getD i true
def dp (ops : Array Oper) (i : Nat) : List Nat := match ops[i]? with
  | some o => (o.after.toList.filter (Region.binds .any)).map (·.on)
  | none => []
theorem mem_ready {b : Array Bool} {i : Nat} : i ∈ Region.ready .any ops b ↔ i < ops.size ∧ lst b i = false ∧ ∀ j, j ∈ dp ops i → b.getD j false = true := by
  unfold Region.ready
  rw [List.mem_filter, List.mem_range]
  constructor
  · rintro ⟨h1, h2⟩
    refine ⟨h1, ?_⟩
    simp only [Bool.and_eq_true, Bool.not_eq_true', Array.getElem?_eq_getElem h1, Option.map_some, Option.getD_some] at h2
    refine ⟨h2.1, fun j hj => ?_⟩
    unfold dp at hj
    rw [Array.getElem?_eq_getElem h1] at hj
    simp only [List.mem_map, List.mem_filter] at hj
    obtain ⟨e, ⟨he, hb⟩, rfl⟩ := hj
    have := Array.all_eq_true'.1 h2.2 e (Array.mem_toList_iff.1 he)
    simpa [hb] using this
  · rintro ⟨h1, h2, h3⟩
    refine ⟨h1, ?_⟩
    simp only [Bool.and_eq_true, Bool.not_eq_true', Array.getElem?_eq_getElem h1, Option.map_some, Option.getD_some]
    refine ⟨h2, Array.all_eq_true'.2 (fun e he => ?_)⟩
    by_cases hb : Region.binds .any e = true
    · have := h3 e.on (by
        unfold dp
        rw [Array.getElem?_eq_getElem h1]
        simp only [List.mem_map, List.mem_filter]
        exact ⟨e, ⟨Array.mem_toList_iff.2 he, hb⟩, rfl⟩)
      simp [this]
    · simp [hb]
def left (b : Array Bool) : Nat := (b.toList.filter (!·)).length
theorem left_set {b : Array Bool} {i : Nat} (hi : i < b.size) (hb : lst b i = false) : left (b.setIfInBounds i true) + 1 = left b := by
  unfold left
  rw [Array.toList_setIfInBounds]
  have hb' : b.toList[i]? = some false := by
    unfold lst at hb
    rw [Array.getD_eq_getD_getElem?, Array.getElem?_eq_getElem hi] at hb
    rw [Array.getElem?_toList, Array.getElem?_eq_getElem hi]
    simpa using hb
  generalize b.toList = l at hb'
  clear hb hi
  induction l generalizing i with
  | nil => simp at hb'
  | cons x r ih =>
    cases i with
    | zero => simp at hb'; subst hb'; simp
    | succ i =>
      simp only [List.getElem?_cons_succ] at hb'
      have := ih hb'
      simp only [List.set_cons_succ, List.filter_cons]
      split <;> (try simp only [List.length_cons]) <;> omega
def backB (ops : Array Oper) : Bool := (List.range ops.size).all fun i => (dp ops i).all fun j => decide (j < i)
theorem ready_nil {b : Array Bool} (hs : b.size = ops.size) (hb : backB ops = true) (hr : Region.ready .any ops b = []) : ∀ i, i < ops.size → b.getD i false = true := by
  intro i
  induction i using Nat.strongRecOn with
  | _ i ih =>
    intro hi
    cases hl : lst b i with
    | true =>
      unfold lst at hl
      rw [Array.getD_eq_getD_getElem?, Array.getElem?_eq_getElem (by omega)] at hl ⊢
      exact hl
    | false =>
      have : i ∈ Region.ready .any ops b := mem_ready.2 ⟨hi, hl, fun j hj => by
        have h1 := List.all_eq_true.1 hb i (List.mem_range.2 hi)
        have h2 := List.all_eq_true.1 h1 j hj
        exact ih j (by simpa using h2) (by have : j < i := by simpa using h2
                                           omega)⟩
      rw [hr] at this
      cases this
/-- What has been done or can be told: the operation, its destination, the value. -/
abbrev Av := List (Nat × Option Nat × Value)
def inAv (av : Av) (i : Nat) : Bool := av.any fun x => x.1 == i
def fits (ops : Array Oper) (frB : Fr) (av : Av) (n : Nat) (b : Array Bool) (a : Act) : Prop :=
  a.tmps.size = n ∧ a.defers = [] ∧ (∀ x, x ∈ av → b.getD x.1 false = true → ∀ t, x.2.1 = some t → a.tmps[t]? = some x.2.2) ∧
    ∀ t v, lk t frB = some v → (∀ i o, ops[i]? = some o → b.getD i false = true → o.dst ≠ some t) → a.tmps[t]? = some v
/-- The slots that operation i may look at. -/
def opFr (ops : Array Oper) (frB : Fr) (av : Av) (i : Nat) : Fr :=
  av.filterMap (fun x => match x.2.1 with | some t => if (dp ops i).contains x.1 then some (t, x.2.2) else none | none => none) ++
    frB.filter fun x => (List.range ops.size).all fun j => match ops[j]? with | some o => o.dst != some x.1 || (dp ops j).contains i | none => true
def uniqB (ops : Array Oper) : Bool := (ops.toList.filterMap (·.dst)).Nodup
theorem lk_append {t : Nat} {v : Value} {l : Fr} : ∀ {fr : Fr}, lk t (fr ++ l) = some v → (t, v) ∈ fr ∨ lk t l = some v
  | [], h => .inr h
  | x :: r, h => by
    simp only [List.cons_append, lk] at h
    by_cases e : t = x.1
    · simp [e] at h; subst h; subst e; exact .inl List.mem_cons_self
    · simp [e] at h
      rcases lk_append h with h1 | h1
      · exact .inl (List.mem_cons_of_mem _ h1)
      · exact .inr h1
theorem lk_filter {t : Nat} {v : Value} {p : Nat × Value → Bool} (hp : ∀ u u', p (t, u) = p (t, u')) : ∀ {fr : Fr}, lk t (fr.filter p) = some v → lk t fr = some v ∧ p (t, v) = true
  | [], h => by simp [lk] at h
  | x :: r, h => by
    rw [List.filter_cons] at h
    by_cases hx : p x = true
    · rw [if_pos hx] at h
      unfold lk at h ⊢
      by_cases e : t = x.1
      · simp only [e, if_true] at h ⊢
        refine ⟨h, ?_⟩
        injection h with h
        subst h
        exact hx
      · simp only [e, if_false] at h ⊢
        exact lk_filter hp h
    · rw [if_neg hx] at h
      have ih := lk_filter hp h
      refine ⟨?_, ih.2⟩
      unfold lk
      by_cases e : t = x.1
      · exfalso
        apply hx
        have : x = (t, x.2) := by rw [e]
        rw [this, hp x.2 v]
        exact ih.2
      · simp only [e, if_false]
        exact ih.1
theorem fits_op {frB : Fr} {av : Av} {n : Nat} {b : Array Bool} {a : Act} {i : Nat} (h : fits ops frB av n b a) (hc : ∀ j, b.getD j false = true → ∀ k, k ∈ dp ops j → b.getD k false = true) (hi : lst b i = false) (hd : ∀ j, j ∈ dp ops i → b.getD j false = true) (hsz : i < b.size) : Fits n (opFr ops frB av i) a := by
  obtain ⟨h1, h2, h3, h4⟩ := h
  refine ⟨h1, h2, fun t v hv => ?_⟩
  rcases lk_append hv with hm | hm
  · obtain ⟨x, hx, he⟩ := List.mem_filterMap.1 hm
    split at he
    · rename_i t' ht
      split at he
      · rename_i hcn
        simp only [Option.some.injEq, Prod.mk.injEq] at he
        obtain ⟨rfl, rfl⟩ := he
        exact h3 x hx (hd _ (List.contains_iff_mem.1 hcn)) _ ht
      · cases he
    · cases he
  · obtain ⟨hl, hp⟩ := lk_filter (fun _ _ => rfl) hm
    refine h4 t v hl (fun j o ho hj he => ?_)
    have hjl : j < ops.size := (Array.getElem?_eq_some_iff.1 ho).1
    have := List.all_eq_true.1 hp j (List.mem_range.2 hjl)
    rw [ho] at this
    simp only [he, bne_self_eq_false, Bool.false_or] at this
    have hb := hc j hj i (List.contains_iff_mem.1 this)
    unfold lst at hi
    rw [Array.getD_eq_getD_getElem?, Array.getElem?_eq_getElem hsz] at hi hb
    simp at hi hb
    rw [hi] at hb
    cases hb

def shutB (ops : Array Oper) (b : Array Bool) : Prop := ∀ j, b.getD j false = true → ∀ k, k ∈ dp ops j → b.getD k false = true
variable {Rf : Exit → Act → World → Prop} {n : Nat} {k : List KI} {frB : Fr}
/-- From a stage of the region on: av is what has been done or can be told, todo what of it may still come. -/
def D (P : Program) (Rf : Exit → Act → World → Prop) (n : Nat) (k : List KI) (ops : Array Oper) (frB : Fr) (av : Av) (todo : List Nat) (S : World → Prop) : Prop :=
  ∀ b a w, b.size = ops.size → shutB ops b → (∀ i, b.getD i false = true → inAv av i = true) → (∀ i, inAv av i = true → i ∉ todo → b.getD i false = true) → fits ops frB av n b a → S w → wpAny P .any ops (Qk P Rf k) (left b) b a w
def okAv (ops : Array Oper) (av : Av) (todo : List Nat) : Bool := decide (av.map (·.1)).Nodup && av.all (fun x => match ops[x.1]? with | some o => o.dst == x.2.1 | none => false) && todo.all (inAv av)
def cands (ops : Array Oper) (av : Av) : List Nat := (List.range ops.size).filter fun i => !inAv av i && (dp ops i).all (inAv av)
def avVal (av : Av) (i : Nat) : Value := match av.find? (fun x => x.1 == i) with | some x => x.2.2 | none => undef
def pureD (P : Program) (n : Nat) (ops : Array Oper) (bx : List Box) (ro : Mem) (frB : Fr) (av : Av) : List (Nat × Nat) → List Nat → Option (List Value × List (Nat × Nat))
  | _, [] => some ([], [])
  | hs, i :: r => match ops[i]? with
    | some o => if dstOk n o then
        match wantV ops (opFr ops frB av i) o with
        | some true => match pure1 P bx ro (hs.headD (0, 0)) (opFr ops frB av i) o with
          | some (.val v es) => (pureD P n ops bx ro frB av (if isMem o then hs.tail else hs) r).map fun x => (v :: x.1, es ++ x.2)
          | _ => none
        | some false => (pureD P n ops bx ro frB av hs r).map fun x => (undef :: x.1, x.2)
        | none => none
      else none
    | none => none
theorem pureD_at {bx : List Box} {ro : Mem} {av : Av} {a : Act} {w : World} (hm : MemAt (memOf bx ro) w) {i : Nat} : ∀ {todo : List Nat} {hs : List (Nat × Nat)} {vs : List Value} {es : List (Nat × Nat)}, pureD P n ops bx ro frB av hs todo = some (vs, es) → (∀ x, x ∈ es → x.1 = x.2) → i ∈ todo → Fits n (opFr ops frB av i) a →
    ∃ (o : Oper) (q : Nat) (v : Value), ops[i]? = some o ∧ todo[q]? = some i ∧ vs[q]? = some v ∧ dstOk n o = true ∧ ((Region.wanted o (yielded ops a.tmps) = true ∧ (execOp a.eval o).run P w = .ok (.value v) w) ∨ (Region.wanted o (yielded ops a.tmps) = false ∧ v = undef))
  | [], _, _, _, _, _, hi, _ => by simp at hi
  | j :: r, hs, vs, es, h, he, hi, hf => by
    unfold pureD at h
    split at h
    · rename_i o ho
      split at h
      · rename_i hd
        split at h
        · rename_i hw
          split at h
          · rename_i v es1 h1
            obtain ⟨⟨v2, e2⟩, h2, h3⟩ := Option.map_eq_some_iff.1 h
            simp only [Prod.mk.injEq] at h3
            obtain ⟨rfl, rfl⟩ := h3
            by_cases hij : i = j
            · subst hij
              exact ⟨o, 0, v, ho, rfl, rfl, hd, .inl ⟨wanted_of hw hf, pure1_val h1 hf hm (fun x hx => he x (List.mem_append_left _ hx))⟩⟩
            · obtain ⟨o', q, v', g1, g2, g3, g4, g5⟩ := pureD_at hm h2 (fun x hx => he x (List.mem_append_right _ hx)) (by rcases List.mem_cons.1 hi with h | h; exact absurd h hij; exact h) hf
              exact ⟨o', q + 1, v', g1, by simpa using g2, by simpa using g3, g4, g5⟩
          · cases h
        · rename_i hw
          obtain ⟨⟨v2, e2⟩, h2, h3⟩ := Option.map_eq_some_iff.1 h
          simp only [Prod.mk.injEq] at h3
          obtain ⟨rfl, rfl⟩ := h3
          by_cases hij : i = j
          · subst hij
            exact ⟨o, 0, undef, ho, rfl, rfl, hd, .inr ⟨wanted_of hw hf, rfl⟩⟩
          · obtain ⟨o', q, v', g1, g2, g3, g4, g5⟩ := pureD_at hm h2 he (by rcases List.mem_cons.1 hi with h | h; exact absurd h hij; exact h) hf
            exact ⟨o', q + 1, v', g1, by simpa using g2, by simpa using g3, g4, g5⟩
        · cases h
      · cases h
    · cases h
theorem getD_set {b : Array Bool} {i j : Nat} (hi : i < b.size) : (b.setIfInBounds i true).getD j false = if j = i then true else b.getD j false := by
  by_cases h : j = i
  · subst h; simp [Array.getD_eq_getD_getElem?, hi]
  · simp only [h, if_false, Array.getD_eq_getD_getElem?]
    rw [Array.getElem?_setIfInBounds_ne (fun e => h e.symm)]
theorem shut_set {b : Array Bool} {i : Nat} (hi : i < b.size) (h : shutB ops b) (hd : ∀ j, j ∈ dp ops i → b.getD j false = true) : shutB ops (b.setIfInBounds i true) := by
  intro j hj k hk
  rw [getD_set hi] at hj ⊢
  by_cases hki : k = i
  · simp [hki]
  · simp only [hki, if_false]
    by_cases hji : j = i
    · subst hji; exact hd k hk
    · simp only [hji, if_false] at hj; exact h j hj k hk
theorem inAv_iff {av : Av} {i : Nat} : inAv av i = true ↔ ∃ x, x ∈ av ∧ x.1 = i := by simp [inAv, List.any_eq_true]
theorem uniq_dst (h : uniqB ops = true) {i j : Nat} {oi oj : Oper} (hi : ops[i]? = some oi) (hj : ops[j]? = some oj) {t : Nat} (h1 : oi.dst = some t) (h2 : oj.dst = some t) : i = j := by
  unfold uniqB at h
  have hn : (ops.toList.filterMap (·.dst)).Nodup := of_decide_eq_true h
  have hi' : ops.toList[i]? = some oi := by simpa using hi
  have hj' : ops.toList[j]? = some oj := by simpa using hj
  generalize ops.toList = l at hn hi' hj'
  clear hi hj h
  induction l generalizing i j with
  | nil => simp at hi'
  | cons x r ih =>
    rw [List.filterMap_cons] at hn
    cases i with
    | zero =>
      cases j with
      | zero => rfl
      | succ j =>
        simp at hi' hj'
        subst hi'
        rw [h1] at hn
        simp only [List.nodup_cons] at hn
        exact absurd (List.mem_filterMap.2 ⟨oj, List.mem_of_getElem? hj', h2⟩) hn.1
    | succ i =>
      cases j with
      | zero =>
        simp at hi' hj'
        subst hj'
        rw [h2] at hn
        simp only [List.nodup_cons] at hn
        exact absurd (List.mem_filterMap.2 ⟨oi, List.mem_of_getElem? hi', h1⟩) hn.1
      | succ j =>
        simp at hi' hj'
        have hn' : (r.filterMap (·.dst)).Nodup := by
          split at hn
          · exact hn
          · exact (List.nodup_cons.1 hn).2
        rw [ih hn' hi' hj']
/-- Operation i, of destination d, has put v: what is told then. -/
theorem fits_put {av av' : Av} {b : Array Bool} {a : Act} {i : Nat} {o : Oper} {v : Value} (h : fits ops frB av n b a) (hu : uniqB ops = true) (ho : ops[i]? = some o) (hd : dstOk n o = true) (hi : i < b.size)
    (hav : ∀ x, x ∈ av' → (x.1 = i ∧ x.2.1 = o.dst ∧ x.2.2 = v) ∨ (x.1 ≠ i ∧ x ∈ av) ∨ (x.1 ≠ i ∧ b.getD x.1 false = false)) (hok : ∀ x, x ∈ av' → ∃ o', ops[x.1]? = some o' ∧ o'.dst = x.2.1) : fits ops frB av' n (b.setIfInBounds i true) (a.put o.dst v) := by
  obtain ⟨h1, h2, h3, h4⟩ := h
  refine ⟨?_, ?_, fun x hx hb t ht => ?_, fun t u hl hno => ?_⟩
  · cases hdst : o.dst <;> simp [Act.put, h1]
  · cases hdst : o.dst <;> simp [Act.put, h2]
  · rcases hav x hx with ⟨e1, e2, e3⟩ | ⟨e1, e2⟩ | ⟨e1, e2⟩
    · rw [← e2, ht, e3]
      have : t < n := dstOk_put hd t (by rw [← e2, ht])
      simp [Act.put, h1, this]
    · rw [getD_set hi, if_neg e1] at hb
      have := h3 x e2 hb t ht
      cases hdst : o.dst with
      | none => exact this
      | some t' =>
        have hne : t' ≠ t := by
          rintro rfl
          obtain ⟨o', ho', hd'⟩ := hok x hx
          exact e1 (uniq_dst hu ho' ho (by rw [hd', ht]) hdst)
        simp only [Act.put]
        rw [Array.getElem?_setIfInBounds_ne hne]
        exact this
    · rw [getD_set hi, if_neg e1, e2] at hb
      cases hb
  · have h5 := h4 t u hl (fun j o' ho' hj => hno j o' ho' (by rw [getD_set hi]; split <;> simp_all))
    have h6 := hno i o ho (by rw [getD_set hi]; simp)
    cases hdst : o.dst with
    | none => exact h5
    | some t' =>
      have hne : t' ≠ t := by rintro rfl; exact h6 hdst
      simp only [Act.put]
      rw [Array.getElem?_setIfInBounds_ne hne]
      exact h5

def allAv (ops : Array Oper) (av : Av) : Bool := (List.range ops.size).all (inAv av)
def endFr (ops : Array Oper) (frB : Fr) (av : Av) : Fr :=
  av.filterMap (fun x => match x.2.1 with | some t => some (t, x.2.2) | none => none) ++ frB.filter fun x => (List.range ops.size).all fun j => match ops[j]? with | some o => o.dst != some x.1 | none => true
def nextOk (ops : Array Oper) (av : Av) (todo : List Nat) (i : Nat) (new : Av) (todo' : List Nat) : Bool :=
  new.all (fun x => !inAv av x.1 && x.1 != i && todo'.contains x.1 && (match ops[x.1]? with | some o => o.dst == x.2.1 | none => false)) && av.all (fun x => todo'.contains x.1 || !todo.contains x.1 || (dp ops i).contains x.1)
/-- Operation i comes: what it leaves, and the stage behind it. -/
def EvStep (P : Program) (Rf : Exit → Act → World → Prop) (n : Nat) (k : List KI) (ops : Array Oper) (frB : Fr) (av : Av) (todo : List Nat) (S : World → Prop) (i : Nat) : Prop :=
  ∃ o, ops[i]? = some o ∧ dstOk n o = true ∧ wantV ops (opFr ops frB av i) o = some true ∧ ∃ (ι : Type) (v : ι → Value) (S' : ι → World → Prop), Ev P o (opFr ops frB av i) S v S' ∧
    ∀ x, ∃ (new : Av) (todo' : List Nat), nextOk ops av todo i new todo' = true ∧ D P Rf n k ops frB ((i, o.dst, v x) :: (av ++ new)) todo' (S' x)
/-- Operation i leaves the world alone, and answers what av tells. -/
def Qu (P : Program) (o : Oper) (fr : Fr) (S : World → Prop) (v : Value) : Prop := ∀ n a w, Fits n fr a → S w → (execOp a.eval o).run P w = .ok (.value v) w
def AllQu (P : Program) (n : Nat) (ops : Array Oper) (frB : Fr) (av : Av) (S : World → Prop) : List Nat → Prop
  | [] => True
  | i :: r => (∃ o, ops[i]? = some o ∧ dstOk n o = true ∧ wantV ops (opFr ops frB av i) o = some true ∧ Qu P o (opFr ops frB av i) S (avVal av i)) ∧ AllQu P n ops frB av S r
theorem AllQu.at_ {av : Av} {S : World → Prop} {i : Nat} : ∀ {qs : List Nat}, AllQu P n ops frB av S qs → i ∈ qs → ∃ o, ops[i]? = some o ∧ dstOk n o = true ∧ wantV ops (opFr ops frB av i) o = some true ∧ Qu P o (opFr ops frB av i) S (avVal av i)
  | [], _, h => by cases h
  | j :: r, ⟨h1, h2⟩, h => by
    rcases List.mem_cons.1 h with rfl | h
    · exact h1
    · exact h2.at_ h
def AllEv (P : Program) (Rf : Exit → Act → World → Prop) (n : Nat) (k : List KI) (ops : Array Oper) (frB : Fr) (av : Av) (todo : List Nat) (S : World → Prop) : List Nat → Prop
  | [] => True
  | i :: r => EvStep P Rf n k ops frB av todo S i ∧ AllEv P Rf n k ops frB av todo S r
theorem AllEv.at_ {av : Av} {todo : List Nat} {S : World → Prop} {i : Nat} : ∀ {cs : List Nat}, AllEv P Rf n k ops frB av todo S cs → i ∈ cs → EvStep P Rf n k ops frB av todo S i
  | [], _, h => by cases h
  | j :: r, ⟨h1, h2⟩, h => by
    rcases List.mem_cons.1 h with rfl | h
    · exact h1
    · exact h2.at_ h
theorem fits_end {av : Av} {b : Array Bool} {a : Act} (h : fits ops frB av n b a) (hall : ∀ i, i < ops.size → b.getD i false = true) (hok : ∀ x, x ∈ av → x.1 < ops.size) : Fits n (endFr ops frB av) a := by
  obtain ⟨h1, h2, h3, h4⟩ := h
  refine ⟨h1, h2, fun t v hv => ?_⟩
  rcases lk_append hv with hm | hm
  · obtain ⟨x, hx, he⟩ := List.mem_filterMap.1 hm
    split at he
    · rename_i t' ht
      simp only [Option.some.injEq, Prod.mk.injEq] at he
      obtain ⟨rfl, rfl⟩ := he
      exact h3 x hx (hall _ (hok x hx)) _ ht
    · cases he
  · obtain ⟨hl, hp⟩ := lk_filter (fun _ _ => rfl) hm
    refine h4 t v hl (fun j o ho hj he => ?_)
    have hjl : j < ops.size := (Array.getElem?_eq_some_iff.1 ho).1
    have := List.all_eq_true.1 hp j (List.mem_range.2 hjl)
    rw [ho] at this
    simp [he] at this
variable {X : Nat → Nat → Prop} {w0 : World} {L0 : List Nat} {bx : List Box} {rw : List Row} {ro : Mem} {φ : List (World → Prop)}
theorem D_core {av : Av} {tp qs : List Nat} (hs : List (Nat × Nat)) (es : List Nat) {cs : List Nat} (hu : uniqB ops = true) (hback : backB ops = true) (hok : okAv ops av (tp ++ qs) = true)
    (hp : pureD P n ops bx ro frB av hs tp = some (tp.map (avVal av), dup es)) (hq : AllQu P n ops frB av (St X w0 L0 bx rw ro φ) qs) (hc : cands ops av = cs)
    (hev : AllEv P Rf n k ops frB av (tp ++ qs) (St X w0 L0 bx rw ro φ) cs) (hfin : allAv ops av = true → J P Rf n k (endFr ops frB av) (St X w0 L0 bx rw ro φ)) : D P Rf n k ops frB av (tp ++ qs) (St X w0 L0 bx rw ro φ) := by
  have hqd : ∀ i, i ∈ tp ++ qs → ∀ a w, Fits n (opFr ops frB av i) a → St X w0 L0 bx rw ro φ w → ∃ (o : Oper), ops[i]? = some o ∧ dstOk n o = true ∧ ((Region.wanted o (yielded ops a.tmps) = true ∧ (execOp a.eval o).run P w = .ok (.value (avVal av i)) w) ∨ (Region.wanted o (yielded ops a.tmps) = false ∧ avVal av i = undef)) := by
    intro i hi a w hf hS
    rcases List.mem_append.1 hi with hi | hi
    · obtain ⟨o, q, v, ho, hq', hv, hd, hrun⟩ := pureD_at (hS.mem) hp (fun x hx => by obtain ⟨y, _, rfl⟩ := List.mem_map.1 hx; rfl) hi hf
      have hval : v = avVal av i := by
        rw [List.getElem?_map, hq'] at hv
        simpa using hv.symm
      subst hval
      exact ⟨o, ho, hd, hrun⟩
    · obtain ⟨o, ho, hd, hw, hQ⟩ := hq.at_ hi
      exact ⟨o, ho, hd, .inl ⟨wanted_of hw hf, hQ n a w hf hS⟩⟩
  clear hp hq
  generalize htd : tp ++ qs = todo at *
  intro b a w hsz hsh hsub hlist hfits hS
  simp only [okAv, Bool.and_eq_true, decide_eq_true_eq, List.all_eq_true] at hok
  obtain ⟨⟨hnd, hdst⟩, htodo⟩ := hok
  have hdst' : ∀ x, x ∈ av → ∃ o', ops[x.1]? = some o' ∧ o'.dst = x.2.1 := by
    intro x hx
    have := hdst x hx
    cases ho : ops[x.1]? with
    | none => simp [ho] at this
    | some o' => exact ⟨o', rfl, by simpa [ho] using this⟩
  have final : ∀ b a w, b.size = ops.size → (∀ i, b.getD i false = true → inAv av i = true) → fits ops frB av n b a → St X w0 L0 bx rw ro φ w → Region.ready .any ops b = [] → Qk P Rf k .normal a w := by
    intro b a w hsz hsub hfits hS hr
    have hall := ready_nil hsz hback hr
    exact hfin (List.all_eq_true.2 (fun i hi => hsub i (hall i (List.mem_range.1 hi)))) a w (fits_end hfits hall (fun x hx => by obtain ⟨o', ho', _⟩ := hdst' x hx; exact (Array.getElem?_eq_some_iff.1 ho').1)) hS
  generalize hm : left b = m
  induction m generalizing b a w with
  | zero =>
    have hr : Region.ready .any ops b = [] := by
      refine List.eq_nil_iff_forall_not_mem.2 (fun i hi => ?_)
      obtain ⟨h1, h2, _⟩ := mem_ready.1 hi
      have := left_set (b := b) (by omega) h2
      omega
    exact ⟨hr, final b a w hsz hsub hfits hS hr⟩
  | succ m ih =>
    refine ⟨fun hr => final b a w hsz hsub hfits hS hr, fun i hi => ?_⟩
    obtain ⟨hi1, hi2, hi3⟩ := mem_ready.1 hi
    have hib : i < b.size := by omega
    have hleft := left_set hib hi2
    have hbf : b.getD i false = false := by
      unfold lst at hi2
      rw [Array.getD_eq_getD_getElem?, Array.getElem?_eq_getElem hib] at hi2 ⊢
      simpa using hi2
    have hF := fits_op hfits hsh hi2 hi3 hib
    by_cases hav : inAv av i = true
    · have hit : i ∈ todo := by
        by_cases h : i ∈ todo
        · exact h
        · have := hlist i hav h
          rw [hbf] at this
          cases this
      obtain ⟨o, ho, hd, hrun⟩ := hqd i hit a w hF hS
      obtain ⟨v, hval⟩ : ∃ v, v = avVal av i := ⟨_, rfl⟩
      rw [← hval] at hrun
      have hnext : ∀ w', St X w0 L0 bx rw ro φ w' → wpAny P .any ops (Qk P Rf k) m (b.setIfInBounds i true) (a.put o.dst v) w' := by
        intro w' hS'
        refine ih _ _ _ (by simpa using hsz) (shut_set hib hsh hi3) (fun j hj => ?_) (fun j hj hjt => ?_) (fits_put hfits hu ho hd hib (fun x hx => ?_) hdst') hS' (by omega)
        · rw [getD_set hib] at hj
          by_cases hji : j = i
          · rw [hji]; exact hav
          · rw [if_neg hji] at hj; exact hsub j hj
        · rw [getD_set hib]
          split
          · rfl
          · exact hlist j hj hjt
        · by_cases hxi : x.1 = i
          · refine .inl ⟨hxi, ?_, ?_⟩
            · obtain ⟨o', ho', hd'⟩ := hdst' x hx
              rw [hxi, ho] at ho'
              injection ho' with ho'
              rw [← hd', ho']
            · rw [hval]
              unfold avVal
              have : av.find? (fun y => y.1 == i) = some x := by
                clear hfits hlist hsub ih hev hc hfin final hdst hdst' htodo hval hF hqd
                induction av with
                | nil => simp at hx
                | cons y r ih =>
                  simp only [List.map_cons, List.nodup_cons] at hnd
                  rw [List.find?_cons]
                  rcases List.mem_cons.1 hx with rfl | hx
                  · simp [hxi]
                  · have : (y.1 == i) = false := by
                      simp only [beq_eq_false_iff_ne]
                      intro e
                      exact hnd.1 (e ▸ hxi ▸ List.mem_map.2 ⟨x, hx, rfl⟩)
                    rw [this]
                    exact ih hnd.2 (by simp only [inAv, List.any_eq_true]; exact ⟨x, hx, by simpa using hxi⟩) hx
              rw [this]
          · exact .inr (.inl ⟨hxi, hx⟩)
      unfold wpOp
      rw [ho]
      simp only
      rcases hrun with ⟨h1, h2⟩ | ⟨h1, h2⟩
      · rw [if_pos h1]
        refine .inl ?_
        unfold Oper.wp
        rw [h2]
        exact hnext w hS
      · rw [h1]
        simp only [Bool.false_eq_true, if_false]
        rw [← h2]
        exact hnext w hS
    · have hic : i ∈ cs := by
        rw [← hc]
        unfold cands
        rw [List.mem_filter, List.mem_range]
        refine ⟨hi1, ?_⟩
        simp only [Bool.and_eq_true, List.all_eq_true]
        exact ⟨by simpa using hav, fun j hj => hsub j (hi3 j hj)⟩
      obtain ⟨o, ho, hd, hw, ι, v, S', hE, hnx⟩ := hev.at_ hic
      unfold wpOp
      rw [ho]
      simp only
      rw [if_pos (wanted_of hw hF)]
      refine .inl (hE n a w hF hS _ _ (fun x w' hS' => ?_))
      obtain ⟨new, todo', hnok, hD⟩ := hnx x
      simp only [nextOk, Bool.and_eq_true, List.all_eq_true, Bool.or_eq_true, Bool.not_eq_true', bne_iff_ne, ne_eq] at hnok
      obtain ⟨hn1, hn2⟩ := hnok
      have hm2 : left (b.setIfInBounds i true) = m := by omega
      have hnewf : ∀ y, y ∈ new → b.getD y.1 false = false := by
        intro y hy
        cases hb : b.getD y.1 false with
        | false => rfl
        | true =>
          have h1 := hsub y.1 hb
          have h2 := (hn1 y hy).1.1.1
          rw [h1] at h2
          cases h2
      rw [← hm2]
      refine hD _ _ _ (by simpa using hsz) (shut_set hib hsh hi3) (fun j hj => ?_) (fun j hj hjt => ?_) (fits_put hfits hu ho hd hib (fun y hy => ?_) (fun y hy => ?_)) hS'
      · rw [getD_set hib] at hj
        by_cases hji : j = i
        · rw [hji]; simp [inAv]
        · rw [if_neg hji] at hj
          obtain ⟨y, hy, he⟩ := inAv_iff.1 (hsub j hj)
          exact inAv_iff.2 ⟨y, List.mem_cons_of_mem _ (List.mem_append_left _ hy), he⟩
      · rw [getD_set hib]
        split
        · rfl
        · rename_i hji
          obtain ⟨y, hy, he⟩ := inAv_iff.1 hj
          rcases List.mem_cons.1 hy with rfl | hy
          · exact absurd he.symm hji
          · rcases List.mem_append.1 hy with hy | hy
            · rcases hn2 y hy with (h1 | h1) | h1
              · exact absurd (List.contains_iff_mem.1 (he ▸ h1)) hjt
              · refine hlist j (inAv_iff.2 ⟨y, hy, he⟩) (fun h => ?_)
                rw [he] at h1
                rw [List.contains_iff_mem.2 h] at h1
                cases h1
              · exact hi3 j (he ▸ List.contains_iff_mem.1 h1)
            · have := (hn1 y hy).1.2
              exact absurd (List.contains_iff_mem.1 (he ▸ this)) hjt
      · rcases List.mem_cons.1 hy with rfl | hy
        · exact .inl ⟨rfl, rfl, rfl⟩
        · rcases List.mem_append.1 hy with hy | hy
          · refine .inr (.inl ⟨fun e => ?_, hy⟩)
            exact hav (inAv_iff.2 ⟨y, hy, e⟩)
          · exact .inr (.inr ⟨(hn1 y hy).1.1.2, hnewf y hy⟩)
      · rcases List.mem_cons.1 hy with rfl | hy
        · exact ⟨o, ho, rfl⟩
        · rcases List.mem_append.1 hy with hy | hy
          · exact hdst' y hy
          · have := (hn1 y hy).2
            cases ho2 : ops[y.1]? with
            | none => simp [ho2] at this
            | some o' => exact ⟨o', rfl, by simpa [ho2] using this⟩
theorem left_init (m : Nat) : left (Array.replicate m false) = m := by simp [left]
theorem J.draw {c : Code} {S : World → Prop} (hm : P.follows .mixedOrders = true) (hc : drawOf c = some true) (hS : ∀ w, S w → S w.drew) (av : Av) (todo : List Nat) (hin : av.all (fun x => todo.contains x.1) = true) (hok : av.all (fun x => match (opsOf c).toArray[x.1]? with | some o => o.dst == x.2.1 | none => false) = true)
    (h : D P Rf n k (opsOf c).toArray fr av todo S) : J P Rf n (.code c :: k) fr S := fun a w hf hS0 => by
  cases c with
  | region id ops d =>
    simp [drawOf] at hc
    subst hc
    simp only [opsOf, Array.toArray_toList] at h
    refine wp_region_any hm ?_
    have h2 := h (Array.replicate ops.size false) a w.drew (by simp) (fun j hj => by simp [Array.getD_eq_getD_getElem?, Array.getElem?_replicate] at hj; split at hj <;> simp_all) (fun j hj => by simp [Array.getD_eq_getD_getElem?, Array.getElem?_replicate] at hj; split at hj <;> simp_all)
      (fun j hj hjt => by
        obtain ⟨y, hy, he⟩ := inAv_iff.1 hj
        have := List.all_eq_true.1 hin y hy
        exact absurd (List.contains_iff_mem.1 (he ▸ this)) hjt)
      ⟨hf.size, hf.defers, fun x _ hb => by simp [Array.getD_eq_getD_getElem?, Array.getElem?_replicate] at hb; split at hb <;> simp_all, fun t v hl _ => hf.at_ t v hl⟩ (hS w hS0)
    rw [left_init] at h2
    exact h2
  | _ => simp [drawOf] at hc
end

/-! ### 15. For the printed proofs -/
abbrev Hd := Option Addr × Nat
theorem bindE {α β : Type} {o : Option α} {f : α → Option β} {r : β} (h : o.bind f = some r) : ∃ x, o = some x ∧ f x = some r := Option.bind_eq_some_iff.1 h
theorem condE {α : Type} {t : Bool} {a b : α} {r : α} (h : cond t a b = r) : (t = true ∧ a = r) ∨ (t = false ∧ b = r) := by cases t; exact .inr ⟨rfl, h⟩; exact .inl ⟨rfl, h⟩
def idxO {α : Type} (xs : List α) (i : Int) : Option α := if 0 ≤ i then xs[i.toNat]? else none
theorem idxE {α : Type} {xs : List α} {i : Int} {x : α} (h : idxO xs i = some x) : 0 ≤ i ∧ xs[i.toNat]? = some x := by
  unfold idxO at h
  split at h
  · exact ⟨by assumption, h⟩
  · cases h
def cutO {α : Type} (xs : List α) (lo hi : Int) : Option (List α) := if 0 ≤ lo ∧ lo ≤ hi ∧ hi ≤ xs.length then some (cutL xs lo.toNat hi.toNat) else none
theorem cutE {α : Type} {xs : List α} {lo hi : Int} {y : List α} (h : cutO xs lo hi = some y) : 0 ≤ lo ∧ lo ≤ hi ∧ hi ≤ xs.length ∧ y = cutL xs lo.toNat hi.toNat := by
  unfold cutO at h
  split at h
  · rename_i hc; exact ⟨hc.1, hc.2.1, hc.2.2, (Option.some.inj h).symm⟩
  · cases h
def appO {α : Type} (bytes : Nat) (xs ys : List α) : Option (List α) := if (xs.length + ys.length) * bytes ≤ 140737488355328 then some (xs ++ ys) else none
theorem appE {α : Type} {bytes : Nat} {xs ys y : List α} (h : appO bytes xs ys = some y) : (xs.length + ys.length) * bytes ≤ 140737488355328 ∧ y = xs ++ ys := by
  unfold appO at h
  split at h
  · rename_i hc; exact ⟨hc, (Option.some.inj h).symm⟩
  · cases h
section
variable {P : Program} {X : Nat → Nat → Prop} {w0 : World} {L0 : List Nat} {bx bx' : List Box} {rw rw' : List Row} {ro ro' : Mem} {φ φ' : List (World → Prop)} {w w' : World} {o : Oper} {fr : Fr}
variable {Rf : Exit → Act → World → Prop} {n : Nat} {k : List KI} {ops : Array Oper} {l : List Oper}
def hd (l : List Oper) : Oper := l.headD default
def opAt (ops : Array Oper) (i : Nat) : Oper := ops.getD i default
def evChk (n : Nat) (ops : Array Oper) (fr : Fr) (l : List Oper) (d : Option Nat) : Bool := !l.isEmpty && dstOk n (hd l) && wantV ops fr (hd l) == some true && (hd l).dst == d
theorem evChk_spec {d : Option Nat} (h : evChk n ops fr l d = true) : l = hd l :: l.tail ∧ dstOk n (hd l) = true ∧ wantV ops fr (hd l) = some true ∧ (hd l).dst = d := by
  simp only [evChk, Bool.and_eq_true, beq_iff_eq, Bool.not_eq_true'] at h
  obtain ⟨⟨⟨h1, h2⟩, h3⟩, h4⟩ := h
  cases l with
  | nil => simp at h1
  | cons x r => exact ⟨rfl, h2, h3, h4⟩
theorem O.e {S : World → Prop} {ι : Type} {v : ι → Value} {S' : ι → World → Prop} (d : Option Nat) (he : Ev P (hd l) fr S v S') (hc : evChk n ops fr l d = true) (h : ∀ i, O P Rf n k ops l.tail (putF fr d (v i)) (S' i)) : O P Rf n k ops l fr S := fun a w hf hS => by
  obtain ⟨h1, h2, h3, h4⟩ := evChk_spec hc
  rw [h1]
  refine wpList_step fun K hK => ?_
  rw [wanted_of h3 hf]
  simp only [if_true]
  refine he n a w hf hS K _ fun i w' hS' => hK _ _ (h i _ w' ?_ hS')
  rw [← h4]
  exact hf.putF (dstOk_put h2) _
theorem O.q {S : World → Prop} {v : Value} (d : Option Nat) (hq : Qu P (hd l) fr S v) (hc : evChk n ops fr l d = true) (h : O P Rf n k ops l.tail (putF fr d v) S) : O P Rf n k ops l fr S :=
  O.e (ι := Unit) (v := fun _ => v) (S' := fun _ => S) d (fun n a w hf hS K Q hK => by unfold Oper.wp; rw [hq n a w hf hS]; exact hK () w hS) hc (fun _ => h)
def evChkD (n : Nat) (ops : Array Oper) (frB : Fr) (av : Av) (i : Nat) (d : Option Nat) : Bool := decide (i < ops.size) && dstOk n (opAt ops i) && wantV ops (opFr ops frB av i) (opAt ops i) == some true && (opAt ops i).dst == d
theorem evChkD_spec {frB : Fr} {av : Av} {i : Nat} {d : Option Nat} (h : evChkD n ops frB av i d = true) : ops[i]? = some (opAt ops i) ∧ dstOk n (opAt ops i) = true ∧ wantV ops (opFr ops frB av i) (opAt ops i) = some true ∧ (opAt ops i).dst = d := by
  simp only [evChkD, Bool.and_eq_true, beq_iff_eq, decide_eq_true_eq] at h
  obtain ⟨⟨⟨h1, h2⟩, h3⟩, h4⟩ := h
  exact ⟨by simp [opAt, h1], h2, h3, h4⟩
theorem EvStep.mk {frB : Fr} {av : Av} {todo : List Nat} {S : World → Prop} {i : Nat} {ι : Type} {v : ι → Value} {S' : ι → World → Prop} (d : Option Nat) (new : ι → Av) (todo' : List Nat) (hc : evChkD n ops frB av i d = true) (he : Ev P (opAt ops i) (opFr ops frB av i) S v S') (hn : ∀ x, nextOk ops av todo i (new x) todo' = true)
    (h : ∀ x, D P Rf n k ops frB ((i, d, v x) :: (av ++ new x)) todo' (S' x)) : EvStep P Rf n k ops frB av todo S i := by
  obtain ⟨h1, h2, h3, h4⟩ := evChkD_spec hc
  refine ⟨_, h1, h2, h3, ι, v, S', he, fun x => ⟨new x, todo', hn x, ?_⟩⟩
  rw [h4]
  exact h x
theorem QuAt.mk {frB : Fr} {av : Av} {S : World → Prop} {i : Nat} {v : Value} (d : Option Nat) (hc : evChkD n ops frB av i d = true) (hv : avVal av i = v) (hq : Qu P (opAt ops i) (opFr ops frB av i) S v) :
    ∃ o, ops[i]? = some o ∧ dstOk n o = true ∧ wantV ops (opFr ops frB av i) o = some true ∧ Qu P o (opFr ops frB av i) S (avVal av i) := by
  obtain ⟨h1, h2, h3, _⟩ := evChkD_spec hc
  exact ⟨_, h1, h2, h3, hv ▸ hq⟩
/-- Not the last stage. -/
theorem D.mid {frB : Fr} {av : Av} (tp qs : List Nat) (hs : List (Nat × Nat)) (es : List Nat) {cs : List Nat} (hb : (uniqB ops && backB ops && okAv ops av (tp ++ qs) && !(allAv ops av)) = true)
    (hp : pureD P n ops bx ro frB av hs tp = some (tp.map (avVal av), dup es)) (hq : AllQu P n ops frB av (St X w0 L0 bx rw ro φ) qs) (hc : cands ops av = cs)
    (hev : AllEv P Rf n k ops frB av (tp ++ qs) (St X w0 L0 bx rw ro φ) cs) : D P Rf n k ops frB av (tp ++ qs) (St X w0 L0 bx rw ro φ) := by
  simp only [Bool.and_eq_true, Bool.not_eq_true'] at hb
  exact D_core hs es hb.1.1.1 hb.1.1.2 hb.1.2 hp hq hc hev (fun h => by rw [hb.2] at h; cases h)
/-- The last stage: nothing but what can be told is left. -/
theorem D.fin {frB fr' : Fr} {av : Av} (tp qs : List Nat) (hs : List (Nat × Nat)) (es : List Nat) (ids : List Nat) (hb : (uniqB ops && backB ops && okAv ops av (tp ++ qs) && (cands ops av).isEmpty) = true)
    (hp : pureD P n ops bx ro frB av hs tp = some (tp.map (avVal av), dup es)) (hq : AllQu P n ops frB av (St X w0 L0 bx rw ro φ) qs) (hsel : sel (endFr ops frB av) ids = some fr') (h : J P Rf n k fr' (St X w0 L0 bx rw ro φ)) : D P Rf n k ops frB av (tp ++ qs) (St X w0 L0 bx rw ro φ) := by
  simp only [Bool.and_eq_true, List.isEmpty_iff] at hb
  exact D_core hs es hb.1.1.1 hb.1.1.2 hb.1.2 hp hq hb.2 trivial (fun _ => J.sel ids hsel h)
theorem St.drew (h : St X w0 L0 bx rw ro φ w) : St X w0 L0 bx rw ro φ w.drew :=
  ⟨h.xb, h.keep.drew, h.own, h.nodup, h.boxes, h.rows, h.ros, h.facts⟩
theorem J.drawS {c : Code} (hm : P.follows .mixedOrders = true) (av : Av) (todo : List Nat) (hc : (drawOf c == some true && av.all (fun x => todo.contains x.1 && (match (opsOf c).toArray[x.1]? with | some o => o.dst == x.2.1 | none => false))) = true)
    (h : D P Rf n k (opsOf c).toArray fr av todo (St X w0 L0 bx rw ro φ)) : J P Rf n (.code c :: k) fr (St X w0 L0 bx rw ro φ) := by
  simp only [Bool.and_eq_true, beq_iff_eq, List.all_eq_true] at hc
  exact J.draw hm hc.1 (fun w h => h.drew) av todo (List.all_eq_true.2 (fun x hx => (hc.2 x hx).1)) (List.all_eq_true.2 (fun x hx => (hc.2 x hx).2)) h
def AllF (X : Nat → Nat → Prop) (w : World) : List (World → Prop) → Prop
  | [] => True
  | f :: r => (∀ w', Away X w w' → f w') ∧ AllF X w r
theorem AllF.at_ {f : World → Prop} : ∀ {φ : List (World → Prop)}, AllF X w φ → f ∈ φ → ∀ w', Away X w w' → f w'
  | [], _, h => by cases h
  | g :: r, ⟨h1, h2⟩, h => by
    rcases List.mem_cons.1 h with rfl | h
    · exact h1
    · exact h2.at_ h
def bodyC (fn : Func) : Code := fn.body.getD .skip
theorem J.condT {c : Code} {x : Operand} {t : Bool} (hc : condOf c = some x) (hv : evF fr x = some (.bool t)) {S : World → Prop} (ht : t = true) (h : J P Rf n (.code (cA c) :: k) fr S) : J P Rf n (.code c :: k) fr S := J.cond true hc (by rw [hv, ht]) h
theorem J.condF {c : Code} {x : Operand} {t : Bool} (hc : condOf c = some x) (hv : evF fr x = some (.bool t)) {S : World → Prop} (ht : t = false) (h : J P Rf n (.code (cB c) :: k) fr S) : J P Rf n (.code c :: k) fr S := J.cond false hc (by rw [hv, ht]) h
theorem St.noro (h : St X w0 L0 bx rw ro φ w) : St X w0 L0 bx rw [] φ w := ⟨h.xb, h.keep, h.own, h.nodup, h.boxes, h.rows, fun x hx => by simp at hx, h.facts⟩
/-- Fewer slots, facts, boxes; no rows of cells that are read. -/
theorem J.conv {fr' : Fr} {bx' : List Box} (ids is bs : List Nat) (h1 : Hw.sel fr ids = some fr') (h2 : pick φ is = some φ') (h3 : pick bx bs = some bx') (hn : bs.Nodup) (h : J P Rf n k fr' (St X w0 L0 bx' rw [] φ')) : J P Rf n k fr (St X w0 L0 bx rw ro φ) := by
  refine J.sel ids h1 (J.mono (fun w hS => ?_) h)
  refine (St.sub (hS.facts_sel is h2).noro (fun p hp => pick_mem h3 p hp) (fun r hr => hr) ?_)
  have hnd := hS.nodup
  simp only [keys, List.nodup_append] at hnd ⊢
  obtain ⟨n1, n2, n3⟩ := hnd
  have hsub : ∀ b, b ∈ bx'.map (·.g) → b ∈ bx.map (·.g) := fun b hb => by
    obtain ⟨p, hp, rfl⟩ := List.mem_map.1 hb
    exact List.mem_map.2 ⟨p, pick_mem h3 p hp, rfl⟩
  refine ⟨?_, n2, fun a ha b hb => n3 a (hsub a ha) b hb⟩
  clear h h1 h2 n3 hsub
  induction bs generalizing bx' with
  | nil => simp [pick] at h3; subst h3; simp
  | cons i r ih =>
    unfold pick at h3
    split at h3
    · rename_i x y g1 g2
      injection h3 with h3
      subst h3
      simp only [List.nodup_cons] at hn
      simp only [List.map_cons, List.nodup_cons]
      refine ⟨fun hm => ?_, ih g2 hn.2⟩
      obtain ⟨p, hp, he⟩ := List.mem_map.1 hm
      -- p is another one
      have : ∀ {r : List Nat} {y : List Box}, pick bx r = some y → p ∈ y → ∃ j, j ∈ r ∧ bx[j]? = some p := by
        intro r
        induction r with
        | nil => intro y hy hp; simp [pick] at hy; subst hy; simp at hp
        | cons j r ih =>
          intro y hy hp
          unfold pick at hy
          split at hy
          · rename_i u v k1 k2
            injection hy with hy
            subst hy
            rcases List.mem_cons.1 hp with rfl | hp
            · exact ⟨j, List.mem_cons_self, k1⟩
            · obtain ⟨j', hj', e⟩ := ih k2 hp
              exact ⟨j', List.mem_cons_of_mem _ hj', e⟩
          · cases hy
      obtain ⟨j, hj, ej⟩ := this g2 hp
      have hij : i ≠ j := fun e => hn.1 (e ▸ hj)
      have hi' : i < (bx.map (·.g)).length := by have := (List.getElem?_eq_some_iff.1 g1).1; simpa using this
      exact hij ((List.getElem?_inj hi' n1).1 (by simp [g1, ej, he]))
    · cases h3
/-- A slice that is read is laid open at place i. -/
theorem J.open {α : Type} {d : Kd α} {h : Hd} {xs : List α} {i : Int} {x : α} {ι : Type} {cells : ι → List Value} {F : ι → List (World → Prop)} (j : Nat) (hj : φ[j]? = some (Rd d h.1 h.2 xs)) (hx : xs[i.toNat]? = some x) (hop : Lay d x cells F)
    (hk : ∀ p : Nat × Nat × ι, h.1 = some ⟨p.1, p.2.1, none⟩ → J P Rf n k fr (St X w0 L0 bx rw ((p.1, p.2.1 + i.toNat * d.sz, cells p.2.2) :: ro) (F p.2.2 ++ φ))) : J P Rf n k fr (St X w0 L0 bx rw ro φ) := fun a w hf hS => by
  obtain ⟨b, o', i', hA, hr, hF⟩ := Rd.at_ (hS.fact j hj) hx hop
  refine hk (b, o', i') hA a w hf ⟨hS.xb, hS.keep, hS.own, hS.nodup, hS.boxes, hS.rows, fun p hp => ?_, fun f hf' => ?_⟩
  · rcases List.mem_cons.1 hp with rfl | hp
    · exact hr
    · exact hS.ros p hp
  · rcases List.mem_append.1 hf' with hf' | hf'
    · exact hF f hf'
    · exact hS.facts f hf'
theorem Qu.idx {S : World → Prop} {t : TypeId} {x y : Operand} {A : Option Addr} {b o' sz len c : Nat} {kk : IntKind} {i : Int} (ho : o.op = .indexAddr t x y) (ht : (sliceElem P t).bind (szB P) = some sz) (hx : evF fr x = some (.slice A len c)) (hi : evF fr y = some (.int kk i)) (h0 : 0 ≤ i) (hl : i.toNat < len) (hA : A = some ⟨b, o', none⟩) :
    Qu P o fr S (.pointer (some ⟨b, o' + i.toNat * sz, none⟩)) := fun n a w hf hS => by
  subst hA
  obtain ⟨e', he, hs⟩ := Option.bind_eq_some_iff.1 ht
  have hlt : i < (len : Int) := by omega
  have ha : (⟨b, o', none⟩ : Addr).add (i.toNat * sz) = ⟨b, o' + i.toNat * sz, none⟩ := by unfold Addr.add; split <;> simp_all
  unfold execOp
  simp [ho, hf.ev hx, hf.ev hi, Instr.indexAt, asIntOf, run_underlying (sliceElem_some he), h0, hlt, run_sizeOf hs, ha]
/-- What is computed, under another name that is equal. -/
theorem Qu.eqv {u v : Value} (hh : Nat × Nat) (es : List Nat) (h : pure1 P bx ro hh fr o = some (.val u (dup es))) (hu : u = v) : Qu P o fr (St X w0 L0 bx rw ro φ) v := fun n a w hf hS => by
  rw [← hu]
  exact pure1_val h hf hS.mem (fun x hx => by obtain ⟨y, _, rfl⟩ := List.mem_map.1 hx; rfl)
/-- A store into a box, as an operation that may come in several orders. -/
theorem Ev.store {kk : Nat} {cs : List Value} (hh : Nat × Nat) (es : List Nat) (h : pure1 P bx ro hh fr o = some (.upd kk cs (dup es))) : Ev P o fr (St X w0 L0 bx rw ro φ) (fun _ : Unit => undef) (fun _ => St X w0 L0 (setBox bx kk cs) rw ro φ) := fun n a w hf hS K Q hK => by
  obtain ⟨p, w1, hp, hr, hk1, hh'⟩ := pure1_upd h hf hS.boxes (fun x hx => by obtain ⟨y, _, rfl⟩ := List.mem_map.1 hx; rfl)
  unfold Oper.wp
  rw [hr]
  exact hK () w1 (hS.stored hp hk1 hh')
theorem J.freeze {α : Type} {d : Kd α} {e : TypeId} {h : Hd} {xs : List α} (hk : J P Rf n k fr (St X w0 L0 bx rw ro (Rd d h.1 h.2 xs :: φ))) : J P Rf n k fr (St X w0 L0 bx (mkRow d e (.slice h.1 xs.length h.2) xs :: rw) ro φ) := J.mono (fun w hS => by
  obtain ⟨A, c, hv, hS'⟩ := hS.freeze
  simp only [Value.slice.injEq, true_and] at hv
  obtain ⟨h1, h2⟩ := hv
  rw [h1, h2]
  exact hS') hk
end


/-! ### 16. Joins and loops -/
section
variable {P : Program} {X : Nat → Nat → Prop} {w0 : World} {L0 : List Nat} {bx bx' : List Box} {rw rw' : List Row} {ro ro' : Mem} {φ φ' : List (World → Prop)} {w w' : World} {o : Oper} {fr : Fr}
variable {Rf : Exit → Act → World → Prop} {n : Nat} {k : List KI} {S : World → Prop}
theorem J.join {c0 : KI} {α T γ : Type} {A : Option α} {f : α → Option T} {r : T} (frj : α → γ → Fr) (Sj : α → γ → World → Prop) (H : A.bind f = some r) (hr : ∀ o q, f o = some r → J P Rf n k (frj o q) (Sj o q))
    (ha : ∀ o, A = some o → (∀ q, J P Rf n k (frj o q) (Sj o q)) → J P Rf n (c0 :: k) fr S) : J P Rf n (c0 :: k) fr S := by
  obtain ⟨o, ho, H⟩ := bindE H
  exact ha o ho (fun q => hr o q H)
theorem J.loopI {c : Code} {σ T γ : Type} {f : Nat → σ → Option T} {r : T} (frh : σ → γ → Fr) (Sh : σ → γ → World → Prop) (m0 : Nat) (s0 : σ) (g0 : γ) (hc : isLoop c = true) (H : f m0 s0 = some r) (hz : ∀ s, f 0 s = none)
    (hstep : ∀ m s, f (m + 1) s = some r → (∀ s' g', f m s' = some r → J P Rf n (.loop m (cA c) :: k) (frh s' g') (Sh s' g')) → ∀ g, J P Rf n (.code (cA c) :: .loop m (cA c) :: k) (frh s g) (Sh s g))
    (h0 : J P Rf n (.loop m0 (cA c) :: k) (frh s0 g0) (Sh s0 g0) → J P Rf n (.loop m0 (cA c) :: k) fr S) : J P Rf n (.code c :: k) fr S := by
  refine J.enter m0 hc (h0 ?_)
  have key : ∀ m s g, f m s = some r → J P Rf n (.loop m (cA c) :: k) (frh s g) (Sh s g) := by
    intro m
    induction m with
    | zero => intro s g h; rw [hz] at h; cases h
    | succ m ih => intro s g h; exact J.round (hstep m s h (fun s' g' h' => ih s' g' h') g)
  exact key m0 s0 g0 H
theorem Ev.mono {S1 : World → Prop} {ι : Type} {v : ι → Value} {S' : ι → World → Prop} (hs : ∀ w, S w → S1 w) (h : Ev P o fr S1 v S') : Ev P o fr S v S' := fun n a w hf hS K Q hK => h n a w hf (hs w hS) K Q hK
theorem Ev.mono' {ι : Type} {v : ι → Value} {S' S2 : ι → World → Prop} (hs : ∀ i w, S' i w → S2 i w) (h : Ev P o fr S v S') : Ev P o fr S v S2 := fun n a w hf hS K Q hK => h n a w hf hS K Q (fun i w' hS' => hK i w' (hs i w' hS'))
theorem Rd.nil {α : Type} (d : Kd α) (w : World) : Rd d none 0 ([] : List α) w := ⟨Nat.le_refl _, fun j x h => by simp at h⟩
theorem J.nilF {α : Type} (d : Kd α) (h : J P Rf n k fr (St X w0 L0 bx rw ro (Rd d none 0 ([] : List α) :: φ))) : J P Rf n k fr (St X w0 L0 bx rw ro φ) := J.mono (fun w hS => hS.add (fun w' _ => Rd.nil d w')) h
end

/-! ### 17. More for the printed proofs -/
section
variable {P : Program} {X : Nat → Nat → Prop} {w0 : World} {L0 : List Nat} {bx bx' : List Box} {rw rw' : List Row} {ro ro' : Mem} {φ φ' : List (World → Prop)} {w w' : World} {o : Oper} {fr : Fr}
variable {Rf : Exit → Act → World → Prop} {n : Nat} {k : List KI} {S : World → Prop} {ops : Array Oper} {l : List Oper}
theorem idx_lt {α : Type} {xs : List α} {i : Nat} {x : α} (h : xs[i]? = some x) : i < xs.length := (List.getElem?_eq_some_iff.1 h).1
theorem St.freezeH {α : Type} {d : Kd α} {e : TypeId} {h : Hd} {xs : List α} (hS : St X w0 L0 bx (mkRow d e (.slice h.1 xs.length h.2) xs :: rw) ro φ w) : St X w0 L0 bx rw ro (Rd d h.1 h.2 xs :: φ) w := by
  obtain ⟨A, c, hv, hS'⟩ := hS.freeze
  simp only [Value.slice.injEq, true_and] at hv
  obtain ⟨h1, h2⟩ := hv
  rw [h1, h2]
  exact hS'
theorem O.open {α : Type} {d : Kd α} {h : Hd} {xs : List α} {i : Int} {x : α} {ι : Type} {cells : ι → List Value} {F : ι → List (World → Prop)} (j : Nat) (hj : φ[j]? = some (Rd d h.1 h.2 xs)) (hx : xs[i.toNat]? = some x) (hop : Lay d x cells F)
    (hk : ∀ p : Nat × Nat × ι, h.1 = some ⟨p.1, p.2.1, none⟩ → O P Rf n k ops l fr (St X w0 L0 bx rw ((p.1, p.2.1 + i.toNat * d.sz, cells p.2.2) :: ro) (F p.2.2 ++ φ))) : O P Rf n k ops l fr (St X w0 L0 bx rw ro φ) := fun a w hf hS => by
  obtain ⟨b, o', i', hA, hr, hF⟩ := Rd.at_ (hS.fact j hj) hx hop
  refine hk (b, o', i') hA a w hf ⟨hS.xb, hS.keep, hS.own, hS.nodup, hS.boxes, hS.rows, fun p hp => ?_, fun f hf' => ?_⟩
  · rcases List.mem_cons.1 hp with rfl | hp
    · exact hr
    · exact hS.ros p hp
  · rcases List.mem_append.1 hf' with hf' | hf'
    · exact hF f hf'
    · exact hS.facts f hf'
theorem J.cutAt {c0 : KI} {γ : Type} (frj : γ → Fr) (Sj : γ → World → Prop) (hr : ∀ q, J P Rf n k (frj q) (Sj q)) (ha : (∀ q, J P Rf n k (frj q) (Sj q)) → J P Rf n (c0 :: k) fr S) : J P Rf n (c0 :: k) fr S := ha hr
theorem J.nilrow {α : Type} (d : Kd α) (e : TypeId) (h : J P Rf n k fr (St X w0 L0 bx (mkRow d e (.slice none 0 0) ([] : List α) :: rw) ro φ)) : J P Rf n k fr (St X w0 L0 bx rw ro φ) := J.mono (fun w hS => hS.nilrow d e) h
end

/-! ### 18. Contracts: boxes and rows that are lent, rows that are answered -/
section
variable {P : Program} {X : Nat → Nat → Prop} {w0 : World} {L0 : List Nat} {bx bx' bx0 bx1 bxr : List Box} {rw rw' rw0 rw1 rwr : List Row} {ro ro' : Mem} {φ φ' φ0 : List (World → Prop)} {w w' : World} {o : Oper} {fr : Fr}
variable {Rf : Exit → Act → World → Prop} {n : Nat} {k : List KI} {S : World → Prop} {ops : Array Oper} {l : List Oper}
theorem pick_idx {α : Type} {l : List α} : ∀ {is : List Nat} {y : List α}, pick l is = some y → ∀ x, x ∈ y → ∃ j, j ∈ is ∧ l[j]? = some x
  | [], y, e, x, h => by simp [pick] at e; subst e; simp at h
  | i :: r, y, e, x, h => by
    unfold pick at e
    split at e
    · rename_i u v h1 h2
      injection e with e
      subst e
      rcases List.mem_cons.1 h with rfl | h
      · exact ⟨i, List.mem_cons_self, h1⟩
      · obtain ⟨j, hj, e⟩ := pick_idx h2 x h
        exact ⟨j, List.mem_cons_of_mem _ hj, e⟩
    · cases e
theorem flatMap_apart {α : Type} {f : α → List Nat} : ∀ {l : List α} {i j : Nat} {x y : α}, (l.flatMap f).Nodup → l[i]? = some x → l[j]? = some y → i ≠ j → ∀ b, b ∈ f x → b ∉ f y
  | [], i, j, x, y, _, h, _, _ => by simp at h
  | a :: r, i, j, x, y, hn, hx, hy, hij => by
    rw [List.flatMap_cons, List.nodup_append] at hn
    cases i with
    | zero =>
      cases j with
      | zero => exact absurd rfl hij
      | succ j =>
        simp at hx hy
        subst hx
        exact fun b hb hb' => hn.2.2 b hb b (List.mem_flatMap.2 ⟨y, List.mem_of_getElem? hy, hb'⟩) rfl
    | succ i =>
      cases j with
      | zero =>
        simp at hx hy
        subst hy
        exact fun b hb hb' => hn.2.2 b hb' b (List.mem_flatMap.2 ⟨x, List.mem_of_getElem? hx, hb⟩) rfl
      | succ j =>
        simp at hx hy
        exact flatMap_apart hn.2.1 hx hy (fun e => hij (by rw [e]))
theorem flatMap_one {α : Type} {f : α → List Nat} : ∀ {l : List α} {x : α}, (l.flatMap f).Nodup → x ∈ l → (f x).Nodup
  | [], x, _, h => by cases h
  | a :: r, x, hn, h => by
    rw [List.flatMap_cons, List.nodup_append] at hn
    rcases List.mem_cons.1 h with rfl | h
    · exact hn.1
    · exact flatMap_one hn.2.1 h
theorem flatMap_pick {α : Type} {f : α → List Nat} {l : List α} (hn : (l.flatMap f).Nodup) : ∀ {is : List Nat} {y : List α}, is.Nodup → pick l is = some y → (y.flatMap f).Nodup
  | [], y, _, e => by simp [pick] at e; subst e; simp
  | i :: r, y, hi, e => by
    unfold pick at e
    split at e
    · rename_i u v h1 h2
      injection e with e
      subst e
      rw [List.nodup_cons] at hi
      rw [List.flatMap_cons, List.nodup_append]
      refine ⟨flatMap_one hn (List.mem_of_getElem? h1), flatMap_pick hn hi.2 h2, fun a ha b hb hab => ?_⟩
      subst hab
      obtain ⟨x, hx, hb⟩ := List.mem_flatMap.1 hb
      obtain ⟨j, hj, e⟩ := pick_idx h2 x hx
      exact flatMap_apart hn h1 e (fun e => hi.1 (e ▸ hj)) a ha hb
    · cases e
theorem map_flat (bx : List Box) : bx.map (·.g) = bx.flatMap (fun b => [b.g]) := by
  induction bx with
  | nil => rfl
  | cons a r ih => simp [ih]
theorem keys_pick (h : (keys bx rw).Nodup) {bs rs : List Nat} (hb : pick bx bs = some bx0) (hr : pick rw rs = some rw0) (nb : bs.Nodup) (nr : rs.Nodup) : (keys bx0 rw0).Nodup ∧ ∀ b, b ∈ keys bx0 rw0 → b ∈ keys bx rw := by
  simp only [keys, List.nodup_append] at h ⊢
  obtain ⟨h1, h2, h3⟩ := h
  have sb : ∀ b, b ∈ bx0.map (·.g) → b ∈ bx.map (·.g) := fun b hb' => by
    obtain ⟨p, hp, rfl⟩ := List.mem_map.1 hb'
    exact List.mem_map.2 ⟨p, pick_mem hb p hp, rfl⟩
  have sr : ∀ b, b ∈ rw0.flatMap (fun r => ownB r.v) → b ∈ rw.flatMap (fun r => ownB r.v) := fun b hb' => by
    obtain ⟨p, hp, hq⟩ := List.mem_flatMap.1 hb'
    exact List.mem_flatMap.2 ⟨p, pick_mem hr p hp, hq⟩
  refine ⟨⟨?_, flatMap_pick h2 nr hr, fun a ha b hb' => h3 a (sb a ha) b (sr b hb')⟩, fun b hb' => ?_⟩
  · rw [map_flat] at h1 ⊢
    exact flatMap_pick h1 nb hb
  · rcases List.mem_append.1 hb' with h | h
    · exact List.mem_append_left _ (sb b h)
    · exact List.mem_append_right _ (sr b h)
/-- Fewer slots, facts, boxes, rows, in whatever order. -/
theorem J.conv2 {fr' : Fr} (ids is bs rs : List Nat) (h1 : Hw.sel fr ids = some fr') (h2 : pick φ is = some φ') (h3 : pick bx bs = some bx') (h4 : pick rw rs = some rw') (hn : (decide bs.Nodup && decide rs.Nodup) = true) (h : J P Rf n k fr' (St X w0 L0 bx' rw' [] φ')) : J P Rf n k fr (St X w0 L0 bx rw ro φ) := by
  simp only [Bool.and_eq_true, decide_eq_true_eq] at hn
  exact J.sel ids h1 (J.mono (fun w hS => St.sub (hS.facts_sel is h2).noro (fun p hp => pick_mem h3 p hp) (fun r hr => pick_mem h4 r hr) (keys_pick hS.nodup h3 h4 hn.1 hn.2).1) h)
def Cn (P : Program) (g : FuncId) (vs : List Value) (X : Nat → Nat → Prop) (w : World) (L : List Nat) {ι : Type} (v : ι → Value) (bx1 : ι → List Box) (rw1 : ι → List Row) (F : ι → List (World → Prop)) : Prop :=
  Calls P g vs.toArray w fun e w' => ∃ i, e = .returned (v i) ∧ St X w L (bx1 i) (rw1 i) [] (F i) w'
theorem disj_pick {α : Type} {f : α → List Nat} {l y z : List α} (hn : (l.flatMap f).Nodup) {bs bk : List Nat} (h1 : pick l bs = some y) (h2 : pick l bk = some z) (hd : (bs ++ bk).Nodup) : ∀ b, b ∈ y.flatMap f → b ∉ z.flatMap f := by
  intro b hb hb'
  obtain ⟨x, hx, hb⟩ := List.mem_flatMap.1 hb
  obtain ⟨x', hx', hb'⟩ := List.mem_flatMap.1 hb'
  obtain ⟨i, hi, e⟩ := pick_idx h1 x hx
  obtain ⟨j, hj, e'⟩ := pick_idx h2 x' hx'
  rw [List.nodup_append] at hd
  exact flatMap_apart hn e e' (hd.2.2 i hi j hj) b hb hb'
/-- What a call is lent, and what stays behind. -/
theorem St.split (h : St X w0 L0 bx rw ro φ w) {bs bk rs rk : List Nat} (h1 : pick bx bs = some bx0) (h2 : pick bx bk = some bxr) (h3 : pick rw rs = some rw0) (h4 : pick rw rk = some rwr) (hn : (bs ++ bk).Nodup ∧ (rs ++ rk).Nodup) :
    (keys bx0 rw0).Nodup ∧ (keys bxr rwr).Nodup ∧ (∀ b, b ∈ keys bx0 rw0 → b ∈ keys bx rw) ∧ (∀ b, b ∈ keys bxr rwr → b ∈ keys bx rw) ∧ ∀ b, b ∈ keys bx0 rw0 → b ∉ keys bxr rwr := by
  have n1 := List.nodup_append.1 hn.1
  have n2 := List.nodup_append.1 hn.2
  obtain ⟨k1, k2⟩ := keys_pick h.nodup h1 h3 n1.1 n2.1
  obtain ⟨k3, k4⟩ := keys_pick h.nodup h2 h4 n1.2.1 n2.2.1
  refine ⟨k1, k3, k2, k4, fun b hb hb' => ?_⟩
  have hnd := h.nodup
  simp only [keys, List.nodup_append] at hnd
  obtain ⟨m1, m2, m3⟩ := hnd
  rw [map_flat] at m1
  simp only [keys, map_flat, List.mem_append] at hb hb'
  rcases hb with hb | hb <;> rcases hb' with hb' | hb'
  · exact disj_pick m1 h1 h2 hn.1 b hb hb'
  · have e1 : b ∈ bx.map (·.g) := by obtain ⟨x, hx, hb⟩ := List.mem_flatMap.1 hb; simp at hb; subst hb; exact List.mem_map.2 ⟨x, pick_mem h1 x hx, rfl⟩
    obtain ⟨x', hx', hb'⟩ := List.mem_flatMap.1 hb'
    exact m3 b e1 b (List.mem_flatMap.2 ⟨x', pick_mem h4 x' hx', hb'⟩) rfl
  · have e1 : b ∈ bx.map (·.g) := by obtain ⟨x, hx, hb'⟩ := List.mem_flatMap.1 hb'; simp at hb'; subst hb'; exact List.mem_map.2 ⟨x, pick_mem h2 x hx, rfl⟩
    obtain ⟨x', hx', hb⟩ := List.mem_flatMap.1 hb
    exact m3 b e1 b (List.mem_flatMap.2 ⟨x', pick_mem h3 x' hx', hb⟩) rfl
  · exact disj_pick m2 h3 h4 hn.2 b hb hb'
theorem St.lend (h : St X w0 L0 bx rw ro φ w) {bs bk rs rk is : List Nat} (h1 : pick bx bs = some bx0) (h2 : pick bx bk = some bxr) (h3 : pick rw rs = some rw0) (h4 : pick rw rk = some rwr) (hn : (bs ++ bk).Nodup ∧ (rs ++ rk).Nodup) (hf : pick φ is = some φ0) :
    St (XL X (keys bxr rwr)) w (keys bx0 rw0) bx0 rw0 [] φ0 w := by
  obtain ⟨k1, k2, k3, k4, k5⟩ := h.split h1 h2 h3 h4 hn
  have haw : ∀ w', Away (XL (XL X (keys bxr rwr)) (keys bx0 rw0)) w w' → Away (XL X (keys bx rw)) w w' := fun w' hw => hw.mono (fun b o hx => by
    rcases hx with (hx | hx) | hx
    · exact .inl hx
    · exact .inr (k4 b hx)
    · exact .inr (k3 b hx))
  refine ⟨fun b o hx => ?_, Keep.refl _ _, fun b hb => .inl hb, k1, fun p hp => h.boxes p (pick_mem h1 p hp), fun r hr => ?_, fun x hx => by simp at hx, fun f hf' w' hw => h.facts f (pick_mem hf f hf') w' (haw w' hw)⟩
  · rcases hx with hx | hx
    · have := h.xb b o hx
      refine ⟨Nat.lt_of_lt_of_le this.1 h.keep.size, fun hb => ?_⟩
      rcases h.own b (k3 b hb) with h5 | h5
      · exact this.2 h5
      · omega
    · exact ⟨h.lt (k4 b hx), fun hb => k5 b hb hx⟩
  · obtain ⟨cells, ho, hq⟩ := h.rows r (pick_mem h3 r hr)
    exact ⟨cells, ho, fun w' hw => hq w' (haw w' hw)⟩
theorem St.resume {F : List (World → Prop)} (h : St X w0 L0 bx rw ro φ w) {bs bk rs rk : List Nat} (h1 : pick bx bs = some bx0) (h2 : pick bx bk = some bxr) (h3 : pick rw rs = some rw0) (h4 : pick rw rk = some rwr) (hn : (bs ++ bk).Nodup ∧ (rs ++ rk).Nodup)
    (hc : St (XL X (keys bxr rwr)) w (keys bx0 rw0) bx1 rw1 [] F w') : St X w0 L0 (bx1 ++ bxr) (rw1 ++ rwr) ro (F ++ φ) w' := by
  obtain ⟨k1, k2, k3, k4, k5⟩ := h.split h1 h2 h3 h4 hn
  have hkk : Keep (keys bx rw) w w' := hc.keep.mono k3
  have hmem : ∀ b, b ∈ keys (bx1 ++ bxr) (rw1 ++ rwr) ↔ b ∈ keys bx1 rw1 ∨ b ∈ keys bxr rwr := by
    intro b
    simp only [keys, List.map_append, List.flatMap_append, List.mem_append]
    constructor
    · rintro ((h | h) | (h | h))
      · exact .inl (.inl h)
      · exact .inr (.inl h)
      · exact .inl (.inr h)
      · exact .inr (.inr h)
    · rintro ((h | h) | (h | h))
      · exact .inl (.inl h)
      · exact .inr (.inl h)
      · exact .inl (.inr h)
      · exact .inr (.inr h)
  have hL : ∀ b, b ∈ keys (bx1 ++ bxr) (rw1 ++ rwr) → b ∈ keys bx rw ∨ w.heap.size ≤ b := fun b hb => by
    rcases (hmem b).1 hb with hb | hb
    · rcases hc.own b hb with h5 | h5
      · exact .inl (k3 b h5)
      · exact .inr h5
    · exact .inl (k4 b hb)
  have hdis : ∀ b, b ∈ keys bx1 rw1 → b ∉ keys bxr rwr := fun b hb hb' => by
    rcases hc.own b hb with h5 | h5
    · exact k5 b h5 hb'
    · have := h.lt (k4 b hb'); omega
  have haw : ∀ w2, Away (XL X (keys (bx1 ++ bxr) (rw1 ++ rwr))) w' w2 → Away (XL (XL X (keys bxr rwr)) (keys bx1 rw1)) w' w2 := fun w2 hw => hw.mono (fun b o hx => by
    rcases hx with hx | hx
    · exact .inl (.inl hx)
    · rcases (hmem b).1 hx with hx | hx
      · exact .inr hx
      · exact .inl (.inr hx))
  have hout : ∀ b, b ∈ keys bxr rwr → w'.heap[b]? = w.heap[b]? := fun b hb => hc.keep.block b (h.lt (k4 b hb)) (fun hb' => k5 b hb' hb)
  refine h.next hkk hL ?_ (fun p hp => ?_) (fun r hr => ?_) (fun x hx => .inl hx) (fun f hf => ?_)
  · have n1 := hc.nodup
    simp only [keys, List.nodup_append, List.map_append, List.flatMap_append] at n1 k2 ⊢
    have d1 : ∀ a, (a ∈ bx1.map (·.g) ∨ a ∈ rw1.flatMap (fun r => ownB r.v)) → ∀ b, (b ∈ bxr.map (·.g) ∨ b ∈ rwr.flatMap (fun r => ownB r.v)) → a ≠ b := fun a ha b hb e => hdis a (List.mem_append.2 ha) (by rw [e]; exact List.mem_append.2 hb)
    refine ⟨⟨n1.1, k2.1, fun a ha b hb => d1 a (.inl ha) b (.inl hb)⟩, ⟨n1.2.1, k2.2.1, fun a ha b hb => d1 a (.inr ha) b (.inr hb)⟩, fun a ha b hb => ?_⟩
    rcases List.mem_append.1 ha with ha | ha <;> rcases List.mem_append.1 hb with hb | hb
    · exact n1.2.2 a ha b hb
    · exact d1 a (.inl ha) b (.inr hb)
    · exact fun e => d1 b (.inr hb) a (.inl ha) e.symm
    · exact k2.2.2 a ha b hb
  · rcases List.mem_append.1 hp with hp | hp
    · exact hc.boxes p hp
    · rw [hout p.g (List.mem_append_left _ (List.mem_map.2 ⟨p, hp, rfl⟩))]
      exact h.boxes p (pick_mem h2 p hp)
  · rcases List.mem_append.1 hr with hr | hr
    · obtain ⟨cells, ho, hq⟩ := hc.rows r hr
      exact ⟨cells, ho, fun w2 hw => hq w2 (haw w2 hw)⟩
    · exact h.row_on hkk hL (pick_mem h4 r hr) (fun b hb => hout b (List.mem_append_right _ (List.mem_flatMap.2 ⟨r, hr, hb⟩)))
  · rcases List.mem_append.1 hf with hf | hf
    · exact .inr (fun w2 hw => hc.facts f hf w2 (haw w2 hw))
    · exact .inl hf
theorem J.doneS {fn : Func} {c : Code} {ι : Type} {v : ι → Value} {b1 : ι → List Box} {r1 : ι → List Row} {F : ι → List (World → Prop)} (hs : List (Nat × Nat)) (es is bs rs : List Nat) (i : ι) {vs : List Value} (hc : isRet c = true) (h : resV P (memOf bx ro) hs fn.results.toList fr = some (vs, dup es)) (hv : v i = retV vs)
    (hF : (pick φ is, pick bx bs) = (some (F i), some (b1 i))) (hR : pick rw rs = some (r1 i)) (hn : (decide bs.Nodup && decide rs.Nodup) = true) :
    J P (bodyPost P fn fun e w' => ∃ i, e = .returned (v i) ∧ St X w0 L0 (b1 i) (r1 i) [] (F i) w') n (.code c :: k) fr (St X w0 L0 bx rw ro φ) := J.ret hc fun a w hf hS => by
  simp only [Prod.mk.injEq] at hF
  simp only [Bool.and_eq_true, decide_eq_true_eq] at hn
  exact ⟨hf.defers, retV vs, run_results hf hS.mem h (fun x hx => by obtain ⟨y, _, rfl⟩ := List.mem_map.1 hx; rfl), i, by rw [hv], St.sub (hS.facts_sel is hF.1).noro (fun p hp => pick_mem hF.2 p hp) (fun r hr => pick_mem hR r hr) (keys_pick hS.nodup hF.2 hR hn.1 hn.2).1⟩
theorem Cn.of {g : FuncId} {fn : Func} {vs : List Value} {ι : Type} {v : ι → Value} {b1 : ι → List Box} {r1 : ι → List Row} {F : ι → List (World → Prop)} (hf : P.funcs[g]? = some fn) (hb : (fn.body.isSome && decide (vs.length ≤ fn.ntmps)) = true) (hS : St X w L0 bx rw ro φ w)
    (h : J P (bodyPost P fn fun e w' => ∃ i, e = .returned (v i) ∧ St X w L0 (b1 i) (r1 i) [] (F i) w') fn.ntmps [.code (bodyC fn)] (argsF vs) (St X w L0 bx rw ro φ)) : Cn P g vs X w L0 v b1 r1 F := by
  simp only [Bool.and_eq_true, decide_eq_true_eq] at hb
  have hb1 : fn.body = some (bodyC fn) := by
    unfold bodyC
    cases h : fn.body with
    | none => rw [h] at hb; cases hb.1
    | some c => rfl
  exact calls_of_wp hf hb1 (h _ w (fits_args hb.2) hS)
end

/-! ### 19. '==' of bools and of flat structs; conversions; sums of strings -/
section
variable {P : Program} {X : Nat → Nat → Prop} {w0 : World} {L0 : List Nat} {bx : List Box} {rw : List Row} {ro : Mem} {φ : List (World → Prop)} {w : World} {o : Oper} {fr : Fr}
def eqF (P : Program) : List Field → Array Value → Array Value → Option Bool
  | [], _, _ => some true
  | f :: r, xs, ys => if f.name == "_" then none else match P.underlying f.type, xs[f.offset]?, ys[f.offset]? with
    | some (.int _), some (.int k a), some (.int k' b) => if k = k' then (eqF P r xs ys).map fun e => (a == b) && e else none
    | some .bool, some (.bool a), some (.bool b) => (eqF P r xs ys).map fun e => (a == b) && e
    | some .string, some (.string a), some (.string b) => (eqF P r xs ys).map fun e => (a == b) && e
    | _, _, _ => none
theorem run_eqF {d : Nat} {xs ys : Array Value} : ∀ {fs : List Field} {r : Bool}, eqF P fs xs ys = some r → (Op.eqFields (d + 1) xs ys fs).run P w = .ok r w
  | [], r, h => by simp [eqF] at h; subst h; simp [Op.eqFields]
  | f :: fs, r, h => by
    unfold eqF at h
    split at h
    · cases h
    · rename_i hn
      have hn' : f.name ≠ "_" := by simpa using hn
      have key : ∀ {va vb : Value} {q : Bool}, aggB P f.type = some false → xs[f.offset]? = some va → ys[f.offset]? = some vb → (Op.equalIn (d + 1) f.type va vb).run P w = .ok q w → (eqF P fs xs ys).map (fun e => q && e) = some r → (Op.eqFields (d + 1) xs ys (f :: fs)).run P w = .ok r w := by
        intro va vb q ha h1 h2 h3 h4
        obtain ⟨e, he, rfl⟩ := Option.map_eq_some_iff.1 h4
        have ih := run_eqF (d := d) he
        rw [Op.eqFields]
        simp only [if_pos hn', Sem.run_bind, part, run_isAgg ha, Result.andThen_ok, Bool.false_eq_true, if_false, h1, h2, Sem.run_pure, h3]
        cases q
        · simp
        · simpa using ih
      split at h
      · rename_i k0 k a k' b hu h1 h2
        by_cases hk : k = k'
        · subst hk
          simp only [if_true] at h
          exact key (by simp [aggB, hu]) h1 h2 (run_equalIn_int w d f.type k k0 a b hu) h
        · simp [hk] at h
      · rename_i a b hu h1 h2
        exact key (by simp [aggB, hu]) h1 h2 (run_equalIn_bool w d f.type a b hu) h
      · rename_i a b hu h1 h2
        exact key (by simp [aggB, hu]) h1 h2 (by simp [Op.equalIn, run_underlying hu]) h
      · cases h
def binT (P : Program) (op : BinOp) (t : TypeId) (x y : Value) : Option Value := match op, x, y with
  | .eql, .bool a, .bool b => match P.underlying t with | some .bool => some (.bool (a == b)) | _ => none
  | .neq, .bool a, .bool b => match P.underlying t with | some .bool => some (.bool (!(a == b))) | _ => none
  | .eql, .agg xs, .agg ys => match P.underlying t with
    | some (.struct fs) => if !P.stoodInHeld t && !P.eqGuardType P.depth t then (eqF P fs.toList xs ys).map (.bool ·) else none
    | _ => none
  | .neq, .agg xs, .agg ys => match P.underlying t with
    | some (.struct fs) => if !P.stoodInHeld t && !P.eqGuardType P.depth t then (eqF P fs.toList xs ys).map fun e => .bool (!e) else none
    | _ => none
  | .eql, .nilFunc, .nilFunc => match P.underlying t with | some (.func _ _ _) => some (.bool true) | _ => none
  | .eql, .func _ _ _, .nilFunc => match P.underlying t with | some (.func _ _ _) => some (.bool false) | _ => none
  | _, _, _ => none
theorem run_equalIn_func (d : Nat) {t : TypeId} {a b c} {x y : Value} {r : Bool} (hu : P.underlying t = some (.func a b c)) (h : (x = .nilFunc ∧ y = .nilFunc ∧ r = true) ∨ (∃ f g k, x = .func f g k ∧ y = .nilFunc ∧ r = false)) : (Op.equalIn (d + 1) t x y).run P w = .ok r w := by
  rcases h with ⟨rfl, rfl, rfl⟩ | ⟨f, g, k, rfl, rfl, rfl⟩ <;> simp [Op.equalIn, run_underlying hu]
theorem run_equal_func {t : TypeId} {a b c} {x y : Value} {r : Bool} (hu : P.underlying t = some (.func a b c)) (h : (x = .nilFunc ∧ y = .nilFunc ∧ r = true) ∨ (∃ f g k, x = .func f g k ∧ y = .nilFunc ∧ r = false)) : (Op.equal t x y).run P w = .ok r w := by
  exact run_equalIn_func 9999 hu h
theorem run_eqA {t : TypeId} {fs : Array Field} {xs ys : Array Value} {r : Bool} (hu : P.underlying t = some (.struct fs)) (hp : P.stoodInHeld t = false) (h : eqF P fs.toList xs ys = some r) : (Op.equal t (.agg xs) (.agg ys)).run P w = .ok r w := by
  have hf : P.fieldsOf t = fs := by simp [Program.fieldsOf, hu]
  show (Op.equalIn (9999 + 1) t (.agg xs) (.agg ys)).run P w = _
  rw [run_equalIn_struct (P := P) w 9999 t xs ys (by rw [hf]; exact hu) hp, hf]
  exact run_eqF (d := 9998) h
theorem run_binT {op : BinOp} {t : TypeId} {x y v : Value} (h : binT P op t x y = some v) (ox oy : Operand) : (do eqGuard op t ox oy x y; binOp op t x y : Sem Value).run P w = .ok v w := by
  unfold binT at h
  split at h
  · split at h
    · rename_i hu; simp at h; subst h; simp [eqGuard, binOp, run_equal_bool w t _ _ hu]
    · cases h
  · split at h
    · rename_i hu; simp at h; subst h; simp [eqGuard, binOp, run_equal_bool w t _ _ hu]
    · cases h
  · split at h
    · rename_i fs hu
      split at h
      · rename_i hc
        simp only [Bool.and_eq_true, Bool.not_eq_true'] at hc
        obtain ⟨e, he, rfl⟩ := Option.map_eq_some_iff.1 h
        simp [eqGuard, binOp, hc.2, run_eqA hu hc.1 he]
      · cases h
    · cases h
  · split at h
    · rename_i fs hu
      split at h
      · rename_i hc
        simp only [Bool.and_eq_true, Bool.not_eq_true'] at hc
        obtain ⟨e, he, rfl⟩ := Option.map_eq_some_iff.1 h
        simp [eqGuard, binOp, hc.2, run_eqA hu hc.1 he]
      · cases h
    · cases h
  · split at h
    · rename_i hu
      simp at h
      subst h
      simp [eqGuard, binOp, run_equal_func (P := P) (w := w) hu (.inl ⟨rfl, rfl, rfl⟩)]
    · cases h
  · split at h
    · rename_i hu
      simp at h
      subst h
      simp [eqGuard, binOp, run_equal_func (P := P) (w := w) hu (.inr ⟨_, _, _, rfl, rfl, rfl⟩)]
    · cases h
  · cases h
theorem Qu.binT {S : World → Prop} {op : BinOp} {t t' : TypeId} {x y : Operand} {u v r : Value} (ho : o.op = .binOp op t x y t') (hx : evF fr x = some u) (hy : evF fr y = some v) (h : Hw.binT P op t u v = some r) : Qu P o fr S r := fun n a w hf hS => by
  have := run_binT (P := P) (w := w) h x y
  unfold execOp
  simp only [ho, hf.ev hx, hf.ev hy]
  rw [Sem.run_bind, this]
  rfl
/-- x / y and x % y, y not 0. -/
theorem Qu.div {S : World → Prop} {t t' : TypeId} {x y : Operand} {k : IntKind} {a b : Int} (ho : o.op = .binOp .quo t x y t') (hx : evF fr x = some (.int k a)) (hy : evF fr y = some (.int k b)) (h : b ≠ 0) : Qu P o fr S (.int k (k.wrap (a.tdiv b))) := fun n a' w hf hS => by
  unfold execOp
  simp [ho, hf.ev hx, hf.ev hy, eqGuard, binOp, Op.intDiv, h]
theorem Qu.rem {S : World → Prop} {t t' : TypeId} {x y : Operand} {k : IntKind} {a b : Int} (ho : o.op = .binOp .rem t x y t') (hx : evF fr x = some (.int k a)) (hy : evF fr y = some (.int k b)) (h : b ≠ 0) : Qu P o fr S (.int k (a.tmod b)) := fun n a' w hf hS => by
  unfold execOp
  simp [ho, hf.ev hx, hf.ev hy, eqGuard, binOp, Op.intDiv, h]
def divO (k : IntKind) (a b : Int) : Option Int := if b = 0 then none else some (k.wrap (a.tdiv b))
theorem divE {k : IntKind} {a b r : Int} (h : divO k a b = some r) : b ≠ 0 ∧ r = k.wrap (a.tdiv b) := by
  unfold divO at h
  split at h
  · cases h
  · exact ⟨by assumption, (Option.some.inj h).symm⟩
def remO (a b : Int) : Option Int := if b = 0 then none else some (a.tmod b)
theorem remE {a b r : Int} (h : remO a b = some r) : b ≠ 0 ∧ r = a.tmod b := by
  unfold remO at h
  split at h
  · cases h
  · exact ⟨by assumption, (Option.some.inj h).symm⟩
/-- string(b), b read. -/
theorem Qu.str {t u : TypeId} {x : Operand} {h : Hd} {xs : List Int} (j : Nat) (ho : o.op = .convert t u x) (ht : (sliceElem P t).bind P.underlying = some (.int .u8)) (hu : P.underlying u = some .string) (hx : evF fr x = some (.slice h.1 xs.length h.2)) (hj : φ[j]? = some (Rd (Kd.int .u8) h.1 h.2 xs)) :
    Qu P o fr (St X w0 L0 bx rw ro φ) (.string (strOfNums xs)) := fun n a w hf hS => by
  obtain ⟨e, he, he2⟩ := Option.bind_eq_some_iff.1 ht
  have hr := hS.now j hj
  unfold execOp
  simp only [ho, hf.ev hx]
  rw [Sem.run_bind]
  have : (convert t u (.slice h.1 xs.length h.2)).run P w = .ok (.string (strOfNums xs)) w := by
    cases hxs : xs with
    | nil =>
      show (convert t u (.slice h.1 0 h.2)).run P w = _
      rw [run_convert_bytes_string w t u e h.1 0 h.2 (sliceElem_some he) he2 hu]
      cases h.1 <;> simp [Conv.bytesToString, loadCells, loadCellsFrom] <;> rfl
    | cons y0 yr =>
      obtain ⟨b, o', cs, hA, hK, hc⟩ := hr.2 0 y0 (by rw [hxs]; rfl)
      rw [hA, ← hxs]
      refine run_convert_bytes_arg w t e (sliceElem_some he) he2 b o' xs.length h.2 xs rfl (fun i hi => ?_) u hu
      obtain ⟨b', o2, cs', hA', hK', hc'⟩ := hr.2 i xs[i] (List.getElem?_eq_getElem hi)
      rw [hA] at hA'
      simp only [Option.some.injEq, Addr.mk.injEq, and_true] at hA'
      obtain ⟨rfl, rfl⟩ := hA'
      have hK2 : cs' = [.int .u8 xs[i]] := hK'
      subst hK2
      have := hc' 0 _ rfl
      simp only [Kd.int, Kd.scalar, Nat.mul_one, Nat.add_zero] at this
      rw [this]
      simp [List.getD_eq_getElem?_getD, hi]
  rw [this]
  rfl
end

/-! ### 20. Plain calls -/
section
variable {P : Program} {X : Nat → Nat → Prop} {w0 : World} {L0 : List Nat} {bx : List Box} {rw rw' : List Row} {ro : Mem} {φ φ0 : List (World → Prop)} {w : World} {o : Oper} {fr : Fr}
theorem pick_all {α : Type} : ∀ (l m : List α), pick (m ++ l) (List.range' m.length l.length) = some l
  | [], m => rfl
  | x :: r, m => by
    rw [List.length_cons, List.range'_succ]
    unfold pick
    have h1 : (m ++ x :: r)[m.length]? = some x := by simp
    have h2 := pick_all r (m ++ [x])
    rw [List.append_assoc, List.length_append] at h2
    simp only [List.singleton_append, List.length_singleton] at h2
    rw [h1, h2]
theorem Ev.call0 {g : FuncId} {xs : List Operand} {vs : List Value} {ι : Type} {v : ι → Value} {r1 : ι → List Row} {F : ι → List (World → Prop)} (is : List Nat) (ho : (callOf o, callable P g, evs fr xs) = (some (g, xs), true, some vs)) (hf : pick φ is = some φ0)
    (h : ∀ w, St (XL X (keys bx rw)) w [] [] [] [] φ0 w → Cn P g vs (XL X (keys bx rw)) w [] v (fun _ => []) r1 F) : Ev P o fr (St X w0 L0 bx rw ro φ) v (fun i => St X w0 L0 bx (r1 i ++ rw) ro (F i ++ φ)) := fun n a w hf' hS K Q hK => by
  simp only [Prod.mk.injEq] at ho
  have hp1 := pick_all bx []
  have hr1 := pick_all rw []
  simp only [List.nil_append, List.length_nil] at hp1 hr1
  have hn : (([] : List Nat) ++ List.range' 0 bx.length).Nodup ∧ (([] : List Nat) ++ List.range' 0 rw.length).Nodup := ⟨by simpa using List.nodup_range', by simpa using List.nodup_range'⟩
  unfold Oper.wp
  rw [run_call ho.1 ho.2.1 ho.2.2 hf' w]
  refine Calls.mono (h w (hS.lend (bx0 := []) (rw0 := []) rfl hp1 rfl hr1 hn hf)) (fun e w1 he => ?_)
  obtain ⟨i, rfl, hc⟩ := he
  exact hK i w1 (hS.resume (bx0 := []) (rw0 := []) rfl hp1 rfl hr1 hn hc)
theorem St.rowsel (h : St X w0 L0 bx rw ro φ w) (rs : List Nat) (h1 : pick rw rs = some rw') (hn : rs.Nodup) : St X w0 L0 bx rw' ro φ w := by
  have hp1 := pick_all bx []
  simp only [List.nil_append, List.length_nil] at hp1
  exact h.sub (fun p hp => hp) (fun r hr => pick_mem h1 r hr) (keys_pick h.nodup hp1 h1 List.nodup_range' hn).1
end
section
variable {P : Program} {Rf : Exit → Act → World → Prop} {n : Nat} {k : List KI} {S S' : World → Prop} {o : Oper} {fr : Fr}
theorem Qu.as {u v : Value} (h : u = v) (hq : Qu P o fr S u) : Qu P o fr S v := h ▸ hq
theorem Qu.mono {v : Value} (hs : ∀ w, S w → S' w) (hq : Qu P o fr S' v) : Qu P o fr S v := fun n a w hf hS => hq n a w hf (hs w hS)
end

/-! ### 21. Rows of one's own, read and written in place -/
section
variable {P : Program} {X : Nat → Nat → Prop} {w0 : World} {L0 : List Nat} {bx bx' : List Box} {rw rw' : List Row} {ro ro' : Mem} {φ φ' : List (World → Prop)} {w w' : World} {o : Oper} {fr fr' : Fr}
variable {Rf : Exit → Act → World → Prop} {n : Nat} {k : List KI} {ops : Array Oper} {l : List Oper}
variable {α : Type} {d : Kd α} {e : TypeId} {v : Value} {xs ys : List α} {ps : List (Nat × List Value)}
/-- A row of which the cells of some elements are known. -/
def pkRow {α : Type} (d : Kd α) (e : TypeId) (v : Value) (xs : List α) (ps : List (Nat × List Value)) : Row := ⟨v, e, d.sz, xs.length, fun cells w => Els d xs cells w ∧ ∀ p, p ∈ ps → (cells.drop (p.1 * d.sz)).take d.sz = p.2⟩
theorem St.headQ {r : Row} {Q' : List Value → World → Prop} (h : St X w0 L0 bx (r :: rw) ro φ w) (hQ : ∀ cells w', r.Q cells w' → Q' cells w') : St X w0 L0 bx (⟨r.v, r.e, r.sz, r.n, Q'⟩ :: rw) ro φ w :=
  ⟨h.xb, h.keep, h.own, h.nodup, h.boxes, fun r' hr => by
    rcases List.mem_cons.1 hr with rfl | hr
    · obtain ⟨cells, ho, hq⟩ := h.rows r List.mem_cons_self
      exact ⟨cells, ho, fun w' hw => hQ _ _ (hq w' hw)⟩
    · exact h.rows r' (List.mem_cons_of_mem _ hr), h.ros, h.facts⟩
theorem St.pk (h : St X w0 L0 bx (mkRow d e v xs :: rw) ro φ w) : St X w0 L0 bx (pkRow d e v xs [] :: rw) ro φ w :=
  h.headQ (r := mkRow d e v xs) (fun _ _ hq => ⟨hq, fun p hp => by simp at hp⟩)
theorem St.unpk (h : St X w0 L0 bx (pkRow d e v xs ps :: rw) ro φ w) : St X w0 L0 bx (mkRow d e v xs :: rw) ro φ w :=
  h.headQ (r := pkRow d e v xs ps) (fun _ _ hq => hq.1)
theorem St.peek {hh : Hd} {m i : Nat} {x : α} {ι : Type} {cells : ι → List Value} {F : ι → List (World → Prop)} (h : St X w0 L0 bx (pkRow d e (.slice hh.1 m hh.2) xs ps :: rw) ro φ w) (hx : xs[i]? = some x) (hop : Lay d x cells F) :
    ∃ p : Nat × ι, hh.1 = some ⟨p.1, 0, none⟩ ∧ St X w0 L0 bx (pkRow d e (.slice hh.1 m hh.2) xs ((i, cells p.2) :: ps) :: rw) ro (F p.2 ++ φ) w := by
  obtain ⟨cl, ho, hq⟩ := h.rows _ List.mem_cons_self
  have hl : i < xs.length := (List.getElem?_eq_some_iff.1 hx).1
  obtain ⟨q, hc, hF⟩ := hop (XL X (keys bx (pkRow d e (.slice hh.1 m hh.2) xs ps :: rw))) w ((cl.drop (i * d.sz)).take d.sz) (fun w' hw => (hq w' hw).1 i x hx)
  have hA : ∃ g, hh.1 = some ⟨g, 0, none⟩ := by
    rcases ho.2 with ⟨hv, hn⟩ | ⟨g, cap, cur, hv, _⟩
    · have : xs.length = 0 := hn
      omega
    · have hv' : Value.slice hh.1 m hh.2 = .slice (some ⟨g, 0, none⟩) xs.length cap := hv
      simp only [Value.slice.injEq] at hv'
      exact ⟨g, hv'.1⟩
  obtain ⟨g, hg⟩ := hA
  refine ⟨(g, q), hg, ⟨h.xb, h.keep, h.own, h.nodup, h.boxes, fun r hr => ?_, h.ros, fun f hf => ?_⟩⟩
  · rcases List.mem_cons.1 hr with rfl | hr
    · refine ⟨cl, ho, fun w' hw => ⟨(hq w' hw).1, fun p hp => ?_⟩⟩
      rcases List.mem_cons.1 hp with rfl | hp
      · exact hc
      · exact (hq w' hw).2 p hp
    · exact h.rows r (List.mem_cons_of_mem _ hr)
  · rcases List.mem_append.1 hf with hf | hf
    · exact hF f hf
    · exact h.facts f hf
theorem O.peek {hh : Hd} {m : Nat} {i : Int} {x : α} {ι : Type} {cells : ι → List Value} {F : ι → List (World → Prop)} (hx : xs[i.toNat]? = some x) (hop : Lay d x cells F)
    (hk : ∀ p : Nat × ι, hh.1 = some ⟨p.1, 0, none⟩ → O P Rf n k ops l fr (St X w0 L0 bx (pkRow d e (.slice hh.1 m hh.2) xs ((i.toNat, cells p.2) :: ps) :: rw) ro (F p.2 ++ φ))) : O P Rf n k ops l fr (St X w0 L0 bx (pkRow d e (.slice hh.1 m hh.2) xs ps :: rw) ro φ) := fun a w hf hS => by
  obtain ⟨p, hA, hS'⟩ := hS.peek hx hop
  exact hk p hA a w hf hS'
theorem J.peek {hh : Hd} {m : Nat} {i : Int} {x : α} {ι : Type} {cells : ι → List Value} {F : ι → List (World → Prop)} (hx : xs[i.toNat]? = some x) (hop : Lay d x cells F)
    (hk : ∀ p : Nat × ι, hh.1 = some ⟨p.1, 0, none⟩ → J P Rf n k fr (St X w0 L0 bx (pkRow d e (.slice hh.1 m hh.2) xs ((i.toNat, cells p.2) :: ps) :: rw) ro (F p.2 ++ φ))) : J P Rf n k fr (St X w0 L0 bx (pkRow d e (.slice hh.1 m hh.2) xs ps :: rw) ro φ) := fun a w hf hS => by
  obtain ⟨p, hA, hS'⟩ := hS.peek hx hop
  exact hk p hA a w hf hS'
theorem J.renS (ids : List Nat) {fr1 : Fr} {bx1 : List Box} {rw1 : List Row} (h0 : Hw.sel fr ids = some fr1) (h1 : (bx, rw) = (bx1, rw1)) (h2 : (fr1, bx1, rw1) = (fr', bx', rw')) (hk : J P Rf n k fr' (St X w0 L0 bx' rw' ro φ)) : J P Rf n k fr (St X w0 L0 bx rw ro φ) := by
  simp only [Prod.mk.injEq] at h1 h2
  obtain ⟨rfl, rfl⟩ := h1
  obtain ⟨rfl, rfl, rfl⟩ := h2
  exact fun a w hf hS => hk a w (hf.sel h0) hS
/-- A load out of a row of one's own. -/
theorem Qu.loadR {t : TypeId} {x : Operand} {hh : Hd} {m g i : Nat} {u r : Value} {cs : List Value} (q f : Nat) (es : List Nat) (ho : o.op = .load t x) (hx : evF fr x = some u) (hA : hh.1 = some ⟨g, 0, none⟩) (hq : ps[q]? = some (i, cs)) (h : loadV P [(g, 0 + i * d.sz, cs)] 0 f t u = some (r, dup es)) :
    Qu P o fr (St X w0 L0 bx (pkRow d e (.slice hh.1 m hh.2) xs ps :: rw) ro φ) r := fun n a w hf hS => by
  obtain ⟨cl, hown, hQ⟩ := hS.rows _ List.mem_cons_self
  have hc := (hQ w (Away.refl _ _)).2 _ (List.mem_of_getElem? hq)
  have hcell := hown.cells (g := g) (by show Value.ownBlock (.slice hh.1 m hh.2) = _; rw [hA]; rfl)
  have hrow : RowAt (g, 0 + i * d.sz, cs) w := by
    intro j y hy
    simp only at hc hy ⊢
    rw [← hc] at hy
    have hj : j < d.sz := by
      have := (List.getElem?_eq_some_iff.1 hy).1
      simp only [List.length_take] at this
      omega
    rw [List.getElem?_take_of_lt hj, List.getElem?_drop] at hy
    have := hcell _ y hy
    have ha : (⟨g, 0, none⟩ : Addr).add (i * d.sz + j) = ⟨g, 0 + i * d.sz + j, none⟩ := by unfold Addr.add; split <;> simp_all [Nat.add_assoc]
    rw [ha] at this
    exact this
  have := run_loadV (P := P) (w := w) h (fun x hx => by rw [List.mem_singleton.1 hx]; exact hrow) (fun x hx => by obtain ⟨y, _, rfl⟩ := List.mem_map.1 hx; rfl)
  unfold execOp
  simp only [ho, hf.ev hx]
  rw [Sem.run_bind, this]
  rfl
def splice (cl : List Value) (p : Nat) (vs : List Value) : List Value := cl.take p ++ vs ++ cl.drop (p + vs.length)
theorem splice_length {cl vs : List Value} {p : Nat} (h : p + vs.length ≤ cl.length) : (splice cl p vs).length = cl.length := by simp [splice]; omega
theorem splice_get {cl vs : List Value} {p j : Nat} (h : p + vs.length ≤ cl.length) : (splice cl p vs)[j]? = if j < p then cl[j]? else if j < p + vs.length then vs[j - p]? else cl[j]? := by
  unfold splice
  by_cases h1 : j < p
  · rw [if_pos h1, List.append_assoc, List.getElem?_append_left (by simp; omega), List.getElem?_take_of_lt h1]
  · rw [if_neg h1, List.append_assoc, List.getElem?_append_right (by simp; omega)]
    have e1 : (cl.take p).length = p := by simp; omega
    rw [e1]
    by_cases h2 : j < p + vs.length
    · rw [if_pos h2, List.getElem?_append_left (by omega)]
    · rw [if_neg h2, List.getElem?_append_right (by omega), List.getElem?_drop]
      congr 1
      omega
theorem splice_other {cl vs : List Value} {i j f sz : Nat} (h : i * sz + f + vs.length ≤ cl.length) (hf : f + vs.length ≤ sz) (hij : j ≠ i) : ((splice cl (i * sz + f) vs).drop (j * sz)).take sz = (cl.drop (j * sz)).take sz := by
  apply List.ext_getElem?
  intro q
  by_cases hq : q < sz
  · rw [List.getElem?_take_of_lt hq, List.getElem?_take_of_lt hq, List.getElem?_drop, List.getElem?_drop, splice_get h]
    rcases Nat.lt_or_gt_of_ne hij with h1 | h1
    · have : (j + 1) * sz ≤ i * sz := Nat.mul_le_mul_right _ h1
      rw [Nat.succ_mul] at this
      rw [if_pos (by omega)]
    · have : (i + 1) * sz ≤ j * sz := Nat.mul_le_mul_right _ h1
      rw [Nat.succ_mul] at this
      rw [if_neg (by omega), if_neg (by omega)]
  · rw [List.getElem?_eq_none (by simp; omega), List.getElem?_eq_none (by simp; omega)]
theorem splice_here {cl vs : List Value} {i f sz : Nat} (h : i * sz + sz ≤ cl.length) (hf : f + vs.length ≤ sz) : ((splice cl (i * sz + f) vs).drop (i * sz)).take sz = ((cl.drop (i * sz)).take sz).take f ++ vs ++ ((cl.drop (i * sz)).take sz).drop (f + vs.length) := by
  have hl : ((cl.drop (i * sz)).take sz).length = sz := by simp; omega
  have e : ((cl.drop (i * sz)).take sz).take f ++ vs ++ ((cl.drop (i * sz)).take sz).drop (f + vs.length) = splice ((cl.drop (i * sz)).take sz) f vs := rfl
  rw [e]
  apply List.ext_getElem?
  intro q
  by_cases hq : q < sz
  · rw [List.getElem?_take_of_lt hq, List.getElem?_drop, splice_get (by omega), splice_get (by omega), List.getElem?_take_of_lt hq, List.getElem?_drop]
    by_cases h1 : q < f
    · rw [if_pos h1, if_pos (by omega)]
    · rw [if_neg h1, if_neg (by omega)]
      by_cases h2 : q < f + vs.length
      · rw [if_pos h2, if_pos (by omega)]
        congr 1
        omega
      · rw [if_neg h2, if_neg (by omega)]
  · rw [List.getElem?_eq_none (by simp; omega), List.getElem?_eq_none (by rw [splice_length (by omega)]; omega)]
theorem Ev.of_skip {S S' : World → Prop} (h : ∀ n a w, Fits n fr a → S w → ∃ w', (execOp a.eval o).run P w = .ok .skip w' ∧ S' w') : Ev P o fr S (fun _ : Unit => undef) (fun _ => S') := fun n a w hf hS K Q hK => by
  obtain ⟨w', hr, hS'⟩ := h n a w hf hS
  unfold Oper.wp
  rw [hr]
  exact hK () w' hS'
/-- A store into a row of one's own; the whole element, or a part of one whose cells are known. -/
theorem Ev.storeR {t : TypeId} {x y : Operand} {hh : Hd} {m g i f s : Nat} {u z : Value} {cs ncs : List Value} (x' : α) (q : Option Nat) (ho : o.op = .store t x y) (hx : evF fr x = some u) (hu : u = .pointer (some ⟨g, 0 + i * d.sz + f, none⟩)) (hy : evF fr y = some z) (hA : hh.1 = some ⟨g, 0, none⟩) (hi : i < xs.length)
    (hs : szB P t = some s ∧ z.cells.toList.length = s ∧ z.cells.toList.all (·.oneCell') = true ∧ decide (f + s ≤ d.sz) = true) (hq : (match q with | some q => ps[q]? = some (i, cs) | none => cs = [] ∧ f = 0 ∧ s = d.sz)) (hn : cs.take f ++ z.cells.toList ++ cs.drop (f + s) = ncs)
    (hK : ∀ w', (∀ f, f ∈ φ → f w') → d.K w' x' ncs) :
    Ev P o fr (St X w0 L0 bx (pkRow d e (.slice hh.1 m hh.2) xs ps :: rw) ro φ) (fun _ : Unit => undef) (fun _ => St X w0 L0 bx (pkRow d e (.slice hh.1 m hh.2) (xs.set i x') [(i, ncs)] :: rw) ro φ) := Ev.of_skip fun nn a w hf hS => by
  subst hu
  obtain ⟨hs1, hs2, hs3, hs4⟩ := hs
  have hs4 : f + s ≤ d.sz := by simpa using hs4
  obtain ⟨cl, hown, hQ⟩ := hS.rows _ List.mem_cons_self
  have hlen : cl.length = xs.length * d.sz := hown.1
  have hiz : i * d.sz + d.sz ≤ cl.length := by rw [hlen, ← Nat.succ_mul]; exact Nat.mul_le_mul_right _ hi
  rcases hown.2 with ⟨_, hn0⟩ | ⟨g', cap, cur, hv, hb, hh', hncap, hcm, hcs, htake⟩
  · have : xs.length = 0 := hn0
    omega
  have hv' : Value.slice hh.1 m hh.2 = .slice (some ⟨g', 0, none⟩) xs.length cap := hv
  simp only [Value.slice.injEq] at hv'
  obtain ⟨hg1, hm, hcap⟩ := hv'
  have hgg : g' = g := by rw [hA] at hg1; simpa using hg1.symm
  subst hgg
  have hcs' : cur.size = cap * d.sz := hcs
  have hnc' : xs.length ≤ cap := hncap
  have hcz : cl.length ≤ cur.size := by rw [hlen, hcs']; exact Nat.mul_le_mul_right _ hnc'
  have htake' : cur.toList.take (xs.length * d.sz) = cl := htake
  have hvs : z.cells.toList.length = s := hs2
  have hcl : cur.toList.length = cur.size := Array.length_toList
  have hr := run_storeCells_at (P := P) g' (0 + i * d.sz + f) e z.cells.toList 0 cur w hh' (by omega) (fun u hu => by simpa using List.all_eq_true.1 hs3 u hu)
  have hnew : cur.toList.take (0 + i * d.sz + f + 0) ++ z.cells.toList ++ cur.toList.drop (0 + i * d.sz + f + 0 + z.cells.toList.length) = splice cur.toList (i * d.sz + f) z.cells.toList := by
    unfold splice
    simp only [Nat.zero_add, Nat.add_zero]
  rw [hnew] at hr
  refine ⟨w.setRow g' (splice cur.toList (i * d.sz + f) z.cells.toList).toArray, ?_, ?_⟩
  rotate_left
  · have hk : Keep (ownB (Value.slice hh.1 m hh.2)) w (w.setRow g' (splice cur.toList (i * d.sz + f) z.cells.toList).toArray) := by
      rw [hA]
      exact ⟨rfl, rfl, rfl, by simp [World.setRow], fun b' hb' hn => setRow_other w g' b' _ (by simpa [ownB] using hn)⟩
    refine hS.head (r' := pkRow d e (.slice hh.1 m hh.2) (xs.set i x') [(i, ncs)]) hk (fun b hb => .inl hb) ⟨splice cl (i * d.sz + f) z.cells.toList, ⟨?_, .inr ⟨g', cap, (splice cur.toList (i * d.sz + f) z.cells.toList).toArray, ?_, hb, ?_, ?_, hcm, ?_, ?_⟩⟩, fun w2 h2 => ?_⟩
    · show (splice cl (i * d.sz + f) z.cells.toList).length = (xs.set i x').length * d.sz
      rw [splice_length (by omega), List.length_set, hlen]
    · show Value.slice hh.1 m hh.2 = .slice (some ⟨g', 0, none⟩) (xs.set i x').length cap
      rw [hA, hm, hcap, List.length_set]
    · exact setRow_heap w g' cur _ e (0, 0) hh'
    · show (xs.set i x').length ≤ cap
      rw [List.length_set]
      exact hnc'
    · show ((splice cur.toList (i * d.sz + f) z.cells.toList).toArray).size = cap * d.sz
      rw [List.size_toArray, splice_length (by omega), hcl]
      exact hcs'
    · show ((splice cur.toList (i * d.sz + f) z.cells.toList).toArray).toList.take ((xs.set i x').length * d.sz) = splice cl (i * d.sz + f) z.cells.toList
      rw [List.length_set]
      apply List.ext_getElem?
      intro j
      by_cases hj : j < xs.length * d.sz
      · rw [List.getElem?_take_of_lt hj, splice_get (by omega), splice_get (by omega), ← htake', List.getElem?_take_of_lt hj]
      · rw [List.getElem?_eq_none (by rw [List.length_take]; omega), List.getElem?_eq_none (by rw [splice_length (by omega)]; omega)]
    · have hsub : Keep (keys bx (pkRow d e (.slice hh.1 m hh.2) xs ps :: rw)) w (w.setRow g' (splice cur.toList (i * d.sz + f) z.cells.toList).toArray) := hk.mono (fun b hb => List.mem_append_right _ (List.mem_flatMap.2 ⟨_, List.mem_cons_self, hb⟩))
      have hold : Away (XL X (keys bx (pkRow d e (.slice hh.1 m hh.2) xs ps :: rw))) w w2 := hS.onward hsub (fun b hb => .inl hb) h2
      have hE := hQ w2 hold
      have hwin : ((splice cl (i * d.sz + f) z.cells.toList).drop (i * d.sz)).take d.sz = ncs := by
        rw [splice_here hiz (by omega), ← hn, hvs]
        cases q with
        | some q => rw [hE.2 _ (List.mem_of_getElem? hq)]
        | none =>
          obtain ⟨rfl, rfl, rfl⟩ := hq
          have : ((cl.drop (i * d.sz)).take d.sz).drop (0 + d.sz) = [] := List.drop_eq_nil_of_le (by simp; omega)
          rw [this]
          simp
      refine ⟨fun j y' hy' => ?_, fun p hp => ?_⟩
      · by_cases hj : j = i
        · subst hj
          rw [List.getElem?_set_self hi] at hy'
          obtain rfl := Option.some.inj hy'
          rw [hwin]
          exact hK w2 (fun f hf => hS.facts f hf w2 hold)
        · rw [List.getElem?_set_ne (Ne.symm hj)] at hy'
          rw [splice_other (by omega) (by omega) hj]
          exact hE.1 j y' hy'
      · rw [List.mem_singleton.1 hp]
        exact hwin
  · unfold execOp
    have hsz : z.cells.size = s := by simpa using hs2
    simp only [Nat.zero_add] at hx hr
    simp [ho, hf.ev hx, hf.ev hy, Instr.storeAt, Instr.sureAddr, storeVar, run_sizeOf hs1, hsz, hr]
/-- make([]T, n). -/
theorem Ev.make {t : TypeId} {x y : Operand} {kl kc : IntKind} {m : Int} {bytes : Nat} {cz : List Value} (z : α) (ho : o.op = .makeSlice t x y) (hx : evF fr x = some (.int kl m)) (hy : evF fr y = some (.int kc m)) (ht : apT P t e d.sz bytes = true) (hz : (P.info? e).bind (fun i => i.zero.map (·.cells.toList)) = some cz) (hs : 0 < d.sz ∧ 0 < bytes) (h0 : 0 ≤ m) (hb : bytes * m.toNat ≤ 281474976710656)
    (hK : ∀ w', d.K w' z cz) :
    Ev P o fr (St X w0 L0 bx rw ro φ) (fun g : Nat => .slice (some ⟨g, 0, none⟩) m.toNat m.toNat) (fun g => St X w0 L0 bx (mkRow d e (.slice (some ⟨g, 0, none⟩) m.toNat m.toNat) (List.replicate m.toNat z) :: rw) ro φ) := Ev.of_run fun nn a w hf hS => by
  obtain ⟨hu, i, z', hi, h1, h2, hz', hzs⟩ := apT_spec ht
  obtain ⟨i2, hi2, hz2⟩ := Option.bind_eq_some_iff.1 hz
  rw [hi] at hi2
  obtain rfl := Option.some.inj hi2
  rw [hz'] at hz2
  simp only [Option.map_some, Option.some.injEq] at hz2
  have hm : ((m.toNat : Nat) : Int) = m := Int.toNat_of_nonneg h0
  have hlim : m.toNat ≤ maxLen := by
    have : m.toNat ≤ bytes * m.toNat := Nat.le_mul_of_pos_left _ hs.2
    simp only [maxLen]
    omega
  obtain ⟨w', hr, hown, hg⟩ := run_make_full (P := P) w 0 t e i z' d.sz hu hi hz' h1 kl kc m.toNat (by rw [h2]; exact hb) hlim (Nat.zero_le _)
  rw [hm] at hr
  have hk0 : Keep [] w w' := Keep.of_grown hg (fun b hb => by cases hb)
  have hE : ∀ w2, Els d (List.replicate m.toNat z) (madeCells z'.cells (m.toNat * d.sz)).toList w2 := by
    intro w2 j y hy
    have hj : j < m.toNat := by simpa using (List.getElem?_eq_some_iff.1 hy).1
    have hyz : y = z := by rw [List.getElem?_replicate] at hy; simp [hj] at hy; exact hy.symm
    subst hyz
    have : (((madeCells z'.cells (m.toNat * d.sz)).toList).drop (j * d.sz)).take d.sz = cz := by
      rw [← hz2]
      apply List.ext_getElem?
      intro q
      by_cases hq : q < d.sz
      · have hlt : j * d.sz + q < m.toNat * d.sz := by
          have : (j + 1) * d.sz ≤ m.toNat * d.sz := Nat.mul_le_mul_right _ hj
          rw [Nat.succ_mul] at this
          omega
        rw [List.getElem?_take_of_lt hq, List.getElem?_drop]
        have hmod : (j * d.sz + q) % z'.cells.size = q := by rw [hzs, Nat.add_comm, Nat.add_mul_mod_self_right, Nat.mod_eq_of_lt hq]
        have hq' : q < z'.cells.size := by omega
        simp [madeCells, hlt, hmod, hq']
      · rw [List.getElem?_eq_none (by simp; omega), List.getElem?_eq_none (by simp; omega)]
    rw [this]
    exact hK w2
  refine ⟨w.heap.size, w', ?_, ?_⟩
  · unfold execOp
    simp only [ho, hf.ev hx, hf.ev hy]
    rw [Sem.run_bind, hr]
    rfl
  · have hL : ∀ b, b ∈ keys bx (mkRow d e (.slice (some ⟨w.heap.size, 0, none⟩) m.toNat m.toNat) (List.replicate m.toNat z) :: rw) → b ∈ keys bx rw ∨ w.heap.size ≤ b := by
      intro b hb
      simp only [keys, List.flatMap_cons, List.mem_append, mkRow, ownB, List.mem_singleton] at hb
      rcases hb with hb | hb | hb
      · exact .inl (List.mem_append_left _ hb)
      · exact .inr (by omega)
      · exact .inl (List.mem_append_right _ hb)
    have hk : Keep (keys bx rw) w w' := hk0.mono (by simp)
    refine hS.next hk hL ?_ (fun q hq => ?_) (fun r hr => ?_) (fun x hx => .inl hx) (fun f hf => .inl hf)
    · have hnd := hS.nodup
      have hfresh : ∀ b, b ∈ keys bx rw → b ≠ w.heap.size := fun b hb => by have := hS.lt hb; omega
      simp only [keys, List.nodup_append] at hnd
      simp only [keys, List.flatMap_cons, List.nodup_append, mkRow, ownB]
      refine ⟨hnd.1, ⟨by simp, hnd.2.1, fun a ha b hb hab => ?_⟩, fun a ha b hb hab => ?_⟩
      · rw [List.mem_singleton.1 ha] at hab
        exact hfresh b (List.mem_append_right _ hb) hab.symm
      · rcases List.mem_append.1 hb with hb | hb
        · rw [List.mem_singleton.1 hb] at hab
          exact hfresh a (List.mem_append_left _ ha) hab
        · exact hnd.2.2 a ha b hb hab
    · rw [hk0.block q.g (lt_of_heap (hS.boxes q hq)) (by simp)]
      exact hS.boxes q hq
    · rcases List.mem_cons.1 hr with rfl | hr
      · exact ⟨_, by simpa [mkRow] using hown, fun w2 _ => hE w2⟩
      · exact hS.row_on hk hL hr (fun b hb => hk0.block b (hS.lt (List.mem_append_right _ (List.mem_flatMap.2 ⟨r, hr, hb⟩))) (by simp))
def makO (bytes : Nat) (n : Int) : Option Unit := if 0 ≤ n ∧ bytes * n.toNat ≤ 281474976710656 then some () else none
theorem makE {bytes : Nat} {n : Int} {u : Unit} (h : makO bytes n = some u) : 0 ≤ n ∧ bytes * n.toNat ≤ 281474976710656 := by
  unfold makO at h
  split at h
  · assumption
  · cases h
abbrev andI (k : IntKind) (a b : Int) : Int := k.wrap ((BitVec.ofInt k.bits a &&& BitVec.ofInt k.bits b).toNat : Nat)
abbrev orI (k : IntKind) (a b : Int) : Int := k.wrap ((BitVec.ofInt k.bits a ||| BitVec.ofInt k.bits b).toNat : Nat)
abbrev xorI (k : IntKind) (a b : Int) : Int := k.wrap ((BitVec.ofInt k.bits a ^^^ BitVec.ofInt k.bits b).toNat : Nat)
abbrev notI (k : IntKind) (a : Int) : Int := k.wrap ((BitVec.ofInt k.bits (if k.signed then -1 else k.max) ^^^ BitVec.ofInt k.bits a).toNat : Nat)
abbrev shlI (k : IntKind) (a b : Int) : Int := k.wrap (a * 2 ^ (min b.toNat k.bits))
abbrev shrI (k : IntKind) (a b : Int) : Int := a.fdiv (2 ^ (min b.toNat k.bits))
theorem St.freezeL {hh : Hd} {m : Nat} (h : St X w0 L0 bx (mkRow d e (.slice hh.1 m hh.2) xs :: rw) ro φ w) (hm : xs.length = m) : St X w0 L0 bx rw ro (Rd d hh.1 hh.2 xs :: φ) w := by
  subst hm
  exact h.freezeH
/-- x << y and x >> y, y not below 0. -/
def shO (n : Int) : Option Unit := if 0 ≤ n then some () else none
theorem shE {n : Int} {u : Unit} (h : shO n = some u) : 0 ≤ n := by
  unfold shO at h
  split at h
  · assumption
  · cases h
theorem Qu.shl {S : World → Prop} {t t' : TypeId} {x y : Operand} {k k' : IntKind} {a b : Int} (ho : o.op = .binOp .shl t x y t') (hx : evF fr x = some (.int k a)) (hy : evF fr y = some (.int k' b)) (h : 0 ≤ b) : Qu P o fr S (.int k (k.wrap (a * 2 ^ (min b.toNat k.bits)))) := fun n a' w hf hS => by
  have : ¬ b < 0 := by omega
  unfold execOp
  simp [ho, hf.ev hx, hf.ev hy, eqGuard, binOp, Op.shift, this]
theorem Qu.shr {S : World → Prop} {t t' : TypeId} {x y : Operand} {k k' : IntKind} {a b : Int} (ho : o.op = .binOp .shr t x y t') (hx : evF fr x = some (.int k a)) (hy : evF fr y = some (.int k' b)) (h : 0 ≤ b) : Qu P o fr S (.int k (a.fdiv (2 ^ (min b.toNat k.bits)))) := fun n a' w hf hS => by
  have : ¬ b < 0 := by omega
  unfold execOp
  simp [ho, hf.ev hx, hf.ev hy, eqGuard, binOp, Op.shift, this]
end
/-! ### 22. Calls of a function value; boxes that are only read from now on; rows that are lent -/
section
variable {P : Program} {X : Nat → Nat → Prop} {w0 : World} {L0 : List Nat} {bx : List Box} {rw rw' : List Row} {ro : Mem} {φ φ0 : List (World → Prop)} {w : World} {o : Oper} {fr : Fr}
def callOfV (fr : Fr) (o : Oper) : Option (FuncId × List Value × List Operand) := match o.op with
  | .call c => match c.callee with
    | .value x => match evF fr x with
      | some (.func (.func g) fst caps) => if fst.isEmpty then some (g, caps.toList, c.args.toList) else none
      | _ => none
    | _ => none
  | _ => none
theorem run_tmpcall {g : FuncId} {c : Call} {x : Operand} {caps : Array Value} {vs : List Value} {n : Nat} {a : Act} (hc : callable P g = true) (hv : evs fr c.args.toList = some vs) (hf : Fits n fr a) (hc1 : o.op = .call c) (hc2 : c.callee = .value x) (hx : evF fr x = some (.func (.func g) #[] caps)) : (execOp a.eval o).run P w = .ok (.enter g (vs ++ caps.toList).toArray) w := by
  unfold callable at hc
  split at hc
  · rename_i fn hfn
    simp only [Bool.and_eq_true, Bool.not_eq_true'] at hc
    have hb : fn.body.isNone = false := by cases h : fn.body <;> simp_all
    have he := hf.evs hv
    have he2 : Array.map a.eval c.args = vs.toArray := by rw [← he]; apply Array.ext'; simp
    have hxx := hf.ev hx
    unfold execOp
    have hb2 : fn.body ≠ none := fun h => by simp [h] at hb
    simp only [hc1, resolve, hc2, hxx, Deferred.ofValue, invoke, callFunc, Sem.run_bind, Sem.run_pure, Result.andThen_ok, he2, Array.empty_append]
    have hn : (fn.name == "runtime.NumGoroutine") = false := by simpa using hc.1
    have hn2 : ¬ fn.name = "runtime.NumGoroutine" := by simpa using hn
    simp [program, Sem.run, hfn, hb, hn2, hb2]
  · cases hc
theorem run_callV1 {g : FuncId} {xs : List Operand} {vs caps : List Value} {n : Nat} {a : Act} (ho : callOfV fr o = some (g, caps, xs)) (hc : callable P g = true) (hv : evs fr xs = some vs) (hf : Fits n fr a) (w : World) : (execOp a.eval o).run P w = .ok (.enter g (vs ++ caps).toArray) w := by
  unfold callOfV at ho
  split at ho
  · rename_i c hc1
    split at ho
    · rename_i x hc2
      split at ho
      · rename_i g' fst caps' hx
        split at ho
        · rename_i hfst
          simp at ho hfst
          obtain ⟨rfl, rfl, rfl⟩ := ho
          subst hfst
          exact run_tmpcall hc hv hf hc1 hc2 hx
        · cases ho
      · cases ho
    · cases ho
  · cases ho
theorem Ev.callF {g : FuncId} {xs : List Operand} {vs caps : List Value} {ι : Type} {v : ι → Value} {r1 : ι → List Row} {F : ι → List (World → Prop)} (is : List Nat) (ho : (callOfV fr o, callable P g, evs fr xs) = (some (g, caps, xs), true, some vs)) (hf : pick φ is = some φ0)
    (h : ∀ w, St (XL X (keys bx rw)) w [] [] [] [] φ0 w → Cn P g (vs ++ caps) (XL X (keys bx rw)) w [] v (fun _ => []) r1 F) : Ev P o fr (St X w0 L0 bx rw ro φ) v (fun i => St X w0 L0 bx (r1 i ++ rw) ro (F i ++ φ)) := fun n a w hf' hS K Q hK => by
  simp only [Prod.mk.injEq] at ho
  have hp1 := pick_all bx []
  have hr1 := pick_all rw []
  simp only [List.nil_append, List.length_nil] at hp1 hr1
  have hn : (([] : List Nat) ++ List.range' 0 bx.length).Nodup ∧ (([] : List Nat) ++ List.range' 0 rw.length).Nodup := ⟨by simpa using List.nodup_range', by simpa using List.nodup_range'⟩
  unfold Oper.wp
  rw [run_callV1 ho.1 ho.2.1 ho.2.2 hf' w]
  refine Calls.mono (h w (hS.lend (bx0 := []) (rw0 := []) rfl hp1 rfl hr1 hn hf)) (fun e w1 he => ?_)
  obtain ⟨i, rfl, hc⟩ := he
  exact hK i w1 (hS.resume (bx0 := []) (rw0 := []) rfl hp1 rfl hr1 hn hc)
end
/-! ### 23. Strings: a byte of one, its bytes behind a row -/
section
variable {P : Program} {X : Nat → Nat → Prop} {w0 : World} {L0 : List Nat} {bx : List Box} {rw rw' : List Row} {ro : Mem} {φ φ0 : List (World → Prop)} {w : World} {o : Oper} {fr : Fr} {e : TypeId} {v : Value} {xs : List Int}
def sidxO (s : ByteArray) (i : Int) : Option Int := if 0 ≤ i then (s[i.toNat]?).map (fun b => (b.toNat : Int)) else none
theorem Qu.strIdx {S : World → Prop} {t : TypeId} {x y : Operand} {s : ByteArray} {kk : IntKind} {i r : Int} (ho : o.op = .index t x y) (ht : P.underlying t = some .string) (hx : evF fr x = some (.string s)) (hi : evF fr y = some (.int kk i)) (h : sidxO s i = some r) : Qu P o fr S (.int .u8 r) := fun n a w hf hS => by
  unfold sidxO at h
  split at h
  · rename_i h0
    obtain ⟨b, hb, rfl⟩ := Option.map_eq_some_iff.1 h
    unfold execOp
    simp [ho, hf.ev hx, hf.ev hi, Instr.index, asIntOf, run_underlying ht, h0, hb]
  · cases h
def numsOf (s : ByteArray) : List Int := s.data.toList.map (fun b => (b.toNat : Int))
end
/-! ### 24. A row that a call reads and leaves -/
section
variable {P : Program} {X : Nat → Nat → Prop} {w0 : World} {L0 : List Nat} {bx : List Box} {rw rw1 : List Row} {ro : Mem} {φ φ0 : List (World → Prop)} {w w' : World} {o : Oper} {fr : Fr} {α : Type} {d : Kd α} {e : TypeId} {xs : List α}
theorem St.back {r : Row} (h : St X w0 L0 bx (r :: rw) ro φ w) (hc : St (XL X (keys bx rw)) w [] [] rw1 [] [] w') (flat : ∀ q, q ∈ rw1 → ∀ cells w2 w3, q.Q cells w2 → q.Q cells w3) : St X w0 L0 bx (rw1 ++ r :: rw) ro φ w' := by
  have hkk : Keep (keys bx (r :: rw)) w w' := hc.keep.mono (by simp)
  have k1 : keys [] rw1 = rw1.flatMap (fun r => ownB r.v) := by simp [keys]
  have hmem : ∀ b, b ∈ keys bx (rw1 ++ r :: rw) ↔ b ∈ keys [] rw1 ∨ b ∈ keys bx (r :: rw) := by
    intro b
    simp only [keys, List.map_nil, List.nil_append, List.flatMap_append, List.mem_append]
    constructor
    · rintro (h | h | h)
      · exact .inr (.inl h)
      · exact .inl h
      · exact .inr (.inr h)
    · rintro (h | h | h)
      · exact .inr (.inl h)
      · exact .inl h
      · exact .inr (.inr h)
  have hnew : ∀ b, b ∈ keys [] rw1 → w.heap.size ≤ b := fun b hb => by
    rcases hc.own b hb with h5 | h5
    · simp at h5
    · exact h5
  have hL : ∀ b, b ∈ keys bx (rw1 ++ r :: rw) → b ∈ keys bx (r :: rw) ∨ w.heap.size ≤ b := fun b hb => by
    rcases (hmem b).1 hb with hb | hb
    · exact .inr (hnew b hb)
    · exact .inl hb
  have hout : ∀ b, b < w.heap.size → w'.heap[b]? = w.heap[b]? := fun b hb => hc.keep.block b hb (by simp)
  refine h.next hkk hL ?_ (fun p hp => ?_) (fun q hq => ?_) (fun x hx => .inl hx) (fun f hf => .inl hf)
  · have n1 := hc.nodup
    have n2 := h.nodup
    rw [k1] at n1
    have hd : ∀ a, a ∈ rw1.flatMap (fun r => ownB r.v) → ∀ b, b ∈ keys bx (r :: rw) → a ≠ b := fun a ha b hb e => by
      have := hnew a (by rw [k1]; exact ha)
      have := h.lt hb
      omega
    simp only [keys, List.flatMap_append, List.nodup_append] at n2 ⊢
    refine ⟨n2.1, ⟨n1, n2.2.1, fun a ha b hb => hd a ha b (List.mem_append_right _ hb)⟩, fun a ha b hb => ?_⟩
    rcases List.mem_append.1 hb with hb | hb
    · exact fun e => hd b hb a (List.mem_append_left _ ha) e.symm
    · exact n2.2.2 a ha b hb
  · rw [hout p.g (lt_of_heap (h.boxes p hp))]
    exact h.boxes p hp
  · rcases List.mem_append.1 hq with hq | hq
    · obtain ⟨cells, ho, hQ⟩ := hc.rows q hq
      exact ⟨cells, ho, fun w2 _ => flat q hq _ _ _ (hQ w' (Away.refl _ _))⟩
    · exact h.row_on hkk hL hq (fun b hb => hout b (h.lt (List.mem_append_right _ (List.mem_flatMap.2 ⟨q, hq, hb⟩))))
theorem D.mono {Rf : Exit → Act → World → Prop} {n : Nat} {k : List KI} {ops : Array Oper} {frB : Fr} {av : Av} {todo : List Nat} {S S' : World → Prop} (hs : ∀ w, S w → S' w) (h : D P Rf n k ops frB av todo S') : D P Rf n k ops frB av todo S := fun b a w h1 h2 h3 h4 h5 hS => h b a w h1 h2 h3 h4 h5 (hs w hS)
end
/-! ### 25. A constant string's bytes: the row is marked, and only read from now on -/
section
variable {P : Program} {X : Nat → Nat → Prop} {w0 : World} {L0 : List Nat} {bx : List Box} {rw rw1 : List Row} {ro : Mem} {φ φ0 : List (World → Prop)} {w w' : World} {o : Oper} {fr : Fr} {e : TypeId} {xs : List Int}
theorem marked_heap (w : World) (g k : Nat) (cur : Array Value) (e : TypeId) (h : w.heap[g]? = some (.cells cur e (0, 0))) : (w.freeze ⟨g, k, none⟩ 1).heap[g]? = some (.cells cur e (k, k + 1)) ∧ (∀ b, b ≠ g → (w.freeze ⟨g, k, none⟩ 1).heap[b]? = w.heap[b]?) ∧ (w.freeze ⟨g, k, none⟩ 1).heap.size = w.heap.size ∧ (w.freeze ⟨g, k, none⟩ 1).os = w.os ∧ (w.freeze ⟨g, k, none⟩ 1).tape = w.tape ∧ (w.freeze ⟨g, k, none⟩ 1).output = w.output := by
  unfold World.freeze
  rw [if_neg (by decide)]
  refine ⟨?_, fun b hb => ?_, by simp, rfl, rfl, rfl⟩
  · simp [Array.getElem?_modify, h]
  · simp [Array.getElem?_modify, Ne.symm hb]
theorem Ev.mark {t : TypeId} {x : Operand} {g m c : Nat} (ho : o.op = .convert t t x) (ht : P.underlying t = some (.slice e)) (he : P.underlying e = some (.int .u8)) (hx : evF fr x = some (.slice (some ⟨g, 0, none⟩) m c)) (hm : xs.length = m) :
    Ev P o fr (St X w0 L0 bx (mkRow (Kd.int .u8) e (.slice (some ⟨g, 0, none⟩) m c) xs :: rw) ro φ) (fun _ : Unit => .slice (some ⟨g, 0, none⟩) m c) (fun _ => St X w0 L0 bx rw ro (Rd (Kd.int .u8) (some ⟨g, 0, none⟩) c xs :: φ)) := Ev.of_run fun n a w hf hS => by
  subst hm
  have hF := St.freezeH (h := (some ⟨g, 0, none⟩, c)) hS
  obtain ⟨cl, hown, hQ⟩ := hS.rows _ List.mem_cons_self
  rcases hown.2 with ⟨hv, _⟩ | ⟨g', cap, cur, hv, hb, hh, hncap, hcm, hcs, htake⟩
  · cases hv
  have hv' : Value.slice (some ⟨g, 0, none⟩) xs.length c = .slice (some ⟨g', 0, none⟩) xs.length cap := hv
  simp only [Value.slice.injEq, Option.some.injEq, Addr.mk.injEq, and_true, true_and] at hv'
  obtain ⟨rfl, rfl⟩ := hv'
  have hh2 : w.heap[g]? = some (.cells cur e (0, 0)) := hh
  obtain ⟨m1, m2, m3, m4, m5, m6⟩ := marked_heap w g cur.size cur e hh2
  have hcell : ∀ p, (w.freeze ⟨g, cur.size, none⟩ 1).cell? p = w.cell? p := by
    intro p
    unfold World.cell?
    by_cases hp : p.block = g
    · rw [hp, m1, hh2]
    · rw [m2 p.block hp]
  have hA : Away (fun _ _ => False) w (w.freeze ⟨g, cur.size, none⟩ 1) := ⟨by rw [m3]; exact Nat.le_refl _, fun b o _ _ => hcell _⟩
  have hk : Keep [g] w (w.freeze ⟨g, cur.size, none⟩ 1) := ⟨m4, m5, m6, by rw [m3]; exact Nat.le_refl _, fun b _ hn => m2 b (by simpa using hn)⟩
  have hgk : ∀ b, b ∈ [g] → b ∈ keys bx (mkRow (Kd.int .u8) e (.slice (some ⟨g, 0, none⟩) xs.length c) xs :: rw) := by
    intro b hb
    rw [List.mem_singleton.1 hb]
    exact List.mem_append_right _ (by simp [mkRow, ownB])
  have hnd := hS.nodup
  simp only [keys, List.flatMap_cons, List.nodup_append] at hnd
  obtain ⟨n1, ⟨n2, n3, n4⟩, n5⟩ := hnd
  have hg : g ∈ ownB (mkRow (Kd.int .u8) e (.slice (some ⟨g, 0, none⟩) xs.length c) xs).v := by simp [mkRow, ownB]
  have hL : ∀ b, b ∈ keys bx rw → b ∈ keys bx (mkRow (Kd.int .u8) e (.slice (some ⟨g, 0, none⟩) xs.length c) xs :: rw) ∨ w.heap.size ≤ b := by
    intro b hb
    refine .inl ?_
    simp only [keys, List.flatMap_cons, List.mem_append] at hb ⊢
    rcases hb with hb | hb
    · exact .inl hb
    · exact .inr (.inr hb)
  refine ⟨(), w.freeze ⟨g, cur.size, none⟩ 1, ?_, hS.next (hk.mono hgk) hL hF.nodup (fun p hp => ?_) (fun r hr => ?_) (fun x hx => .inl hx) (fun f hf => ?_)⟩
  · have hsh : w.shape? g = some (e, cur.size) := by
      unfold World.shape?
      rw [hh2]
    unfold execOp
    simp [ho, hf.ev hx, convert, run_underlying ht, run_underlying he, markStringish, hsh]
  · rw [m2 p.g (fun h => n5 p.g (List.mem_map.2 ⟨p, hp, rfl⟩) g (List.mem_append_left _ hg) h)]
    exact hS.boxes p hp
  · refine hS.row_on (hk.mono hgk) hL (List.mem_cons_of_mem _ hr) (fun b hbr => m2 b (fun h => ?_))
    exact n4 g hg b (List.mem_flatMap.2 ⟨r, hr, hbr⟩) h.symm
  · rcases List.mem_cons.1 hf with rfl | hf
    · refine .inr (fun w2 h2 => hF.facts _ List.mem_cons_self w2 ⟨?_, fun b o hb hn => ?_⟩)
      · have := h2.1
        rw [m3] at this
        exact this
      · rw [h2.2 b o (by rw [m3]; exact hb) hn, hcell]
    · exact .inl hf
end
/-! ### 26. Rows that a call reads and leaves, wherever they stand -/
section
variable {P : Program} {X X2 : Nat → Nat → Prop} {w0 : World} {L0 : List Nat} {bx : List Box} {R rw rw1 : List Row} {ro : Mem} {φ φ0 φ1 : List (World → Prop)} {w w' : World} {o : Oper} {fr : Fr}
theorem St.backs (h : St X w0 L0 bx R ro φ w) (hc : St X2 w [] [] rw1 [] [] w') (flat : ∀ q, q ∈ rw1 → ∀ cells w2 w3, q.Q cells w2 → q.Q cells w3) : St X w0 L0 bx (rw1 ++ R) ro φ w' := by
  have hkk : Keep (keys bx R) w w' := hc.keep.mono (by simp)
  have k1 : keys [] rw1 = rw1.flatMap (fun r => ownB r.v) := by simp [keys]
  have hmem : ∀ b, b ∈ keys bx (rw1 ++ R) ↔ b ∈ keys [] rw1 ∨ b ∈ keys bx R := by
    intro b
    simp only [keys, List.map_nil, List.nil_append, List.flatMap_append, List.mem_append]
    constructor
    · rintro (h | h | h)
      · exact .inr (.inl h)
      · exact .inl h
      · exact .inr (.inr h)
    · rintro (h | h | h)
      · exact .inr (.inl h)
      · exact .inl h
      · exact .inr (.inr h)
  have hnew : ∀ b, b ∈ keys [] rw1 → w.heap.size ≤ b := fun b hb => by
    rcases hc.own b hb with h5 | h5
    · simp at h5
    · exact h5
  have hL : ∀ b, b ∈ keys bx (rw1 ++ R) → b ∈ keys bx R ∨ w.heap.size ≤ b := fun b hb => by
    rcases (hmem b).1 hb with hb | hb
    · exact .inr (hnew b hb)
    · exact .inl hb
  have hout : ∀ b, b < w.heap.size → w'.heap[b]? = w.heap[b]? := fun b hb => hc.keep.block b hb (by simp)
  refine h.next hkk hL ?_ (fun p hp => ?_) (fun q hq => ?_) (fun x hx => .inl hx) (fun f hf => .inl hf)
  · have n1 := hc.nodup
    have n2 := h.nodup
    rw [k1] at n1
    have hd : ∀ a, a ∈ rw1.flatMap (fun r => ownB r.v) → ∀ b, b ∈ keys bx R → a ≠ b := fun a ha b hb e => by
      have := hnew a (by rw [k1]; exact ha)
      have := h.lt hb
      omega
    simp only [keys, List.flatMap_append, List.nodup_append] at n2 ⊢
    refine ⟨n2.1, ⟨n1, n2.2.1, fun a ha b hb => hd a ha b (List.mem_append_right _ hb)⟩, fun a ha b hb => ?_⟩
    rcases List.mem_append.1 hb with hb | hb
    · exact fun e => hd b hb a (List.mem_append_left _ ha) e.symm
    · exact n2.2.2 a ha b hb
  · rw [hout p.g (lt_of_heap (h.boxes p hp))]
    exact h.boxes p hp
  · rcases List.mem_append.1 hq with hq | hq
    · obtain ⟨cells, ho, hQ⟩ := hc.rows q hq
      exact ⟨cells, ho, fun w2 _ => flat q hq _ _ _ (hQ w' (Away.refl _ _))⟩
    · exact h.row_on hkk hL hq (fun b hb => hout b (h.lt (List.mem_append_right _ (List.mem_flatMap.2 ⟨q, hq, hb⟩))))
end
/-! ### 27. A body's end without a return -/
section
variable {P : Program} {X : Nat → Nat → Prop} {w0 : World} {L0 : List Nat} {bx : List Box} {rw : List Row} {ro : Mem} {φ : List (World → Prop)} {fr : Fr}
end
/-! ### 28. Boxes that a call reads and leaves; what a closure has caught -/
section
variable {P : Program} {X X2 : Nat → Nat → Prop} {w0 : World} {L0 : List Nat} {bx bx' : List Box} {R rw rw1 : List Row} {ro : Mem} {φ φ0 φ1 : List (World → Prop)} {w w' : World} {o : Oper} {fr : Fr}
/-- A box is given up: from now on it is only read. -/
theorem St.boxfact (h : St X w0 L0 bx rw ro φ w) (k : Nat) (ks : List Nat) {p : Box} (h1 : bx[k]? = some p) (h2 : pick bx ks = some bx') (hn : (k :: ks).Nodup) : St X w0 L0 bx' rw ro (RowAt (p.g, 0, p.cs) :: φ) w := by
  have hp1 := pick_all rw []
  simp only [List.nil_append, List.length_nil] at hp1
  have hp2 : pick bx [k] = some [p] := by simp [pick, h1]
  have hr2 : pick rw ([] : List Nat) = some [] := rfl
  obtain ⟨k1, k2, k3, k4, k5⟩ := h.split (bs := [k]) (bk := ks) (rs := []) (rk := List.range' 0 rw.length) hp2 h2 hr2 hp1 ⟨by simpa using hn, by simpa using List.nodup_range'⟩
  have hS : St X w0 L0 bx' rw ro φ w := h.sub (fun q hq => pick_mem h2 q hq) (fun r hr => hr) k2
  have hg : p.g ∈ keys [p] [] := by simp [keys]
  refine ⟨hS.xb, hS.keep, hS.own, hS.nodup, hS.boxes, hS.rows, hS.ros, fun f hf w2 hw => ?_⟩
  rcases List.mem_cons.1 hf with rfl | hf
  · intro i u hu
    have hb := h.boxes p (List.mem_of_getElem? h1)
    have hc : w.cell? ⟨p.g, 0 + i, none⟩ = some u := by
      have hu' : p.cs[i]? = some u := hu
      simp [World.cell?, hb, hu']
    rw [hw.2 p.g _ (lt_of_heap hb) ?_]
    · exact hc
    · rintro (hx | hx)
      · have := h.xb p.g _ hx
        rcases h.own p.g (k3 _ hg) with h5 | h5
        · exact this.2 h5
        · omega
      · exact k5 _ hg hx
  · exact hS.facts f hf w2 hw
/-- A fact on cells, as memory that is read. -/
theorem St.roF (h : St X w0 L0 bx rw ro φ w) (j : Nat) {x : Nat × Nat × List Value} (hj : φ[j]? = some (RowAt x)) : St X w0 L0 bx rw (x :: ro) φ w :=
  ⟨h.xb, h.keep, h.own, h.nodup, h.boxes, h.rows, fun y hy => by
    rcases List.mem_cons.1 hy with rfl | hy
    · exact h.fact j hj
    · exact h.ros y hy, h.facts⟩
theorem Ev.callLb {g : FuncId} {xs1 : List Operand} {vs : List Value} {ι : Type} {v : ι → Value} {r1 : ι → List Row} (is : List Nat) (hfz : ∀ w, St X w0 L0 bx R ro φ w → St X w0 L0 bx' rw ro φ1 w) (ho : (callOf o, callable P g, evs fr xs1) = (some (g, xs1), true, some vs)) (hf : pick φ1 is = some φ0) (flat : ∀ i q, q ∈ r1 i → ∀ cells w2 w3, q.Q cells w2 → q.Q cells w3)
    (h : ∀ w, St (XL X (keys bx' rw)) w [] [] [] [] φ0 w → Cn P g vs (XL X (keys bx' rw)) w [] v (fun _ => []) r1 (fun _ => [])) : Ev P o fr (St X w0 L0 bx R ro φ) v (fun i => St X w0 L0 bx (r1 i ++ R) ro φ) := fun n a w hf' hS K Q hK => by
  simp only [Prod.mk.injEq] at ho
  have hp1 := pick_all bx' []
  have hr1 := pick_all rw []
  simp only [List.nil_append, List.length_nil] at hp1 hr1
  have hn : (([] : List Nat) ++ List.range' 0 bx'.length).Nodup ∧ (([] : List Nat) ++ List.range' 0 rw.length).Nodup := ⟨by simpa using List.nodup_range', by simpa using List.nodup_range'⟩
  unfold Oper.wp
  rw [run_call ho.1 ho.2.1 ho.2.2 hf' w]
  refine Calls.mono (h w ((hfz w hS).lend (bx0 := []) (rw0 := []) rfl hp1 rfl hr1 hn hf)) (fun e w1 he => ?_)
  obtain ⟨i, rfl, hc⟩ := he
  exact hK i w1 (hS.backs hc (flat i))
end
/-! ### 29. append to what has no room left -/
section
variable {P : Program} {X : Nat → Nat → Prop} {w0 : World} {L0 : List Nat} {bx : List Box} {rw : List Row} {ro : Mem} {φ : List (World → Prop)} {w w' : World} {o : Oper} {fr : Fr} {α : Type} {d : Kd α} {e : TypeId} {xs ys : List α}
theorem St.newrow (hS : St X w0 L0 bx rw ro φ w) {cap : Nat} {cells : List Value} (hk0 : Keep [] w w') (ho : w'.ownsRow 0 e d.sz (.slice (some ⟨w.heap.size, 0, none⟩) xs.length cap) xs.length cells) (hQ : ∀ w2, Away (XL X (keys bx rw)) w w2 → Els d xs cells w2) :
    St X w0 L0 bx (mkRow d e (.slice (some ⟨w.heap.size, 0, none⟩) xs.length cap) xs :: rw) ro φ w' := by
  have hk : Keep (keys bx rw) w w' := hk0.mono (by simp)
  have hL : ∀ b, b ∈ keys bx (mkRow d e (.slice (some ⟨w.heap.size, 0, none⟩) xs.length cap) xs :: rw) → b ∈ keys bx rw ∨ w.heap.size ≤ b := by
    intro b hb
    simp only [keys, List.flatMap_cons, List.mem_append, mkRow, ownB, List.mem_singleton] at hb
    rcases hb with hb | hb | hb
    · exact .inl (List.mem_append_left _ hb)
    · exact .inr (by omega)
    · exact .inl (List.mem_append_right _ hb)
  have hout : ∀ b, b < w.heap.size → w'.heap[b]? = w.heap[b]? := fun b hb => hk0.block b hb (by simp)
  refine hS.next hk hL ?_ (fun q hq => ?_) (fun r hr => ?_) (fun x hx => .inl hx) (fun f hf => .inl hf)
  · have hnd := hS.nodup
    have hfresh : ∀ b, b ∈ keys bx rw → b ≠ w.heap.size := fun b hb => by have := hS.lt hb; omega
    simp only [keys, List.nodup_append] at hnd
    simp only [keys, List.flatMap_cons, List.nodup_append, mkRow, ownB]
    refine ⟨hnd.1, ⟨by simp, hnd.2.1, fun a ha b hb hab => ?_⟩, fun a ha b hb hab => ?_⟩
    · subst hab
      exact hfresh a (List.mem_append_right _ hb) (by simpa using ha)
    · subst hab
      rcases List.mem_append.1 hb with h1 | h1
      · exact hfresh a (List.mem_append_left _ ha) (by simpa using h1)
      · exact hnd.2.2 a ha a h1 rfl
  · rw [hout _ (lt_of_heap (hS.boxes q hq))]
    exact hS.boxes q hq
  · rcases List.mem_cons.1 hr with rfl | hr
    · exact ⟨cells, ho, fun w2 h2 => hQ w2 (hS.onward hk hL h2)⟩
    · exact hS.row_on hk hL hr (fun b hb => hout b (hS.lt (List.mem_append_right _ (List.mem_flatMap.2 ⟨r, hr, hb⟩))))
theorem run_full {t ty : TypeId} {bytes c2 : Nat} {A B : Option Addr} (hS : St X w0 L0 bx rw ro φ w) (j1 j2 : Nat) (h1 : φ[j1]? = some (Rd d A xs.length xs)) (h2 : φ[j2]? = some (Rd d B c2 ys)) (ht : apT P t e d.sz bytes = true) (hs : 0 < d.sz ∧ 0 < bytes) (hlim : (xs.length + ys.length) * bytes ≤ 140737488355328) (hne : ys ≠ []) :
    ∃ cap w', (Builtin.append_ #[t, t] ty #[.slice A xs.length xs.length, .slice B ys.length c2]).run P w = .ok (.slice (some ⟨w.heap.size, 0, none⟩) (xs ++ ys).length cap) w' ∧ St X w0 L0 bx (mkRow d e (.slice (some ⟨w.heap.size, 0, none⟩) (xs ++ ys).length cap) (xs ++ ys) :: rw) ro φ w' := by
  obtain ⟨hu, i, z, hi, hz1, hz2, hz, hzs⟩ := apT_spec ht
  obtain ⟨cx, hlx, hqx, hax⟩ := Rd.gather (hS.fact j1 h1)
  obtain ⟨cy, hly, hqy, hay⟩ := Rd.gather (hS.fact j2 h2)
  have hn0 : 0 < ys.length := List.length_pos_iff.2 hne
  have hlim2 : xs.length + ys.length ≤ 140737488355328 := Nat.le_trans (Nat.le_mul_of_pos_right _ hs.2) hlim
  have hone := one_of_els (hqy w (Away.refl _ _)) hly hs.1
  have hsrc : Src P i.size t (.slice B ys.length c2) ys.length cy w := by
    rcases hay with h | ⟨b, o', rfl, hrow⟩
    · exact absurd h hne
    · refine Src.ofSlice w hu ⟨b, o', none⟩ ys.length c2 cy (by rw [hz1]; exact hly) (fun q u hq => ?_) hone
      have := hrow w (Away.refl _ _) q u hq
      rw [show (⟨b, o', none⟩ : Addr).add q = ⟨b, o' + q, none⟩ by unfold Addr.add; split <;> simp_all]
      exact this
  have hold : (Builtin.firstCells i.size xs.length (.slice A xs.length xs.length)).run P w.drew = .ok cx.toArray w.drew := by
    rcases hax with h | ⟨b, o', rfl, hrow⟩
    · subst h
      have : cx = [] := List.eq_nil_of_length_eq_zero (by simpa using hlx)
      subst this
      cases A with
      | none => exact run_firstCells_none w.drew i.size 0 0 0
      | some ad => exact run_firstCells_some w.drew i.size 0 ad 0 0 [] (by simp) (fun q u hq => by simp at hq)
    · refine run_firstCells_some w.drew i.size xs.length ⟨b, o', none⟩ xs.length xs.length cx (by rw [hz1]; exact hlx) (fun q u hq => ?_)
      have := hrow w (Away.refl _ _) q u hq
      rw [show (⟨b, o', none⟩ : Addr).add q = ⟨b, o' + q, none⟩ by unfold Addr.add; split <;> simp_all]
      simpa using this
  have hfit : Builtin.nextslicecap (xs.length + ys.length) xs.length * i.bytes ≤ 281474976710656 := by
    have h3 := nextslicecap_le (need := xs.length + ys.length) (old := xs.length) (by omega)
    have h4 := Nat.mul_le_mul_right i.bytes h3
    rw [hz2] at h4 ⊢
    rw [Nat.mul_assoc] at h4
    omega
  have hrun := run_append_grow_src (P := P) w t t ty e i z hu hi hz A xs.length xs.length cx hold (.slice B ys.length c2) ys.length cy hsrc (by omega) (by omega) hfit
  have hlen : (xs ++ ys).length = xs.length + ys.length := List.length_append
  refine ⟨grownCap w (xs.length + ys.length) xs.length e, _, by rw [hlen]; exact hrun, ?_⟩
  have hge := grownCap_ge w (xs.length + ys.length) xs.length e
  have hcm : grownCap w (xs.length + ys.length) xs.length e ≤ maxLen := grownCap_le_maxLen w (xs.length + ys.length) xs.length e (by simp only [maxLen]; omega)
  have hll : (cx ++ cy).length = (xs ++ ys).length * d.sz := by rw [List.length_append, hlx, hly, hlen, Nat.add_mul]
  refine hS.newrow (cells := cx ++ cy) ⟨rfl, rfl, rfl, by simp, fun k hk _ => Below.heap_alloc w.drew _ k hk⟩ ⟨hll, .inr ⟨w.heap.size, _, _, rfl, Nat.zero_le _, heap_alloc_new w.drew _, by rw [hlen]; exact hge, hcm, ?_, ?_⟩⟩ (fun w2 h2 => Els.append (hqx w2 h2) hlx (hqy w2 h2))
  · simp only [Array.size_append, List.size_toArray, size_zeroCells, hzs, hll, ← Nat.add_mul, hlen]
    congr 1
    omega
  · rw [Array.toList_append, List.toList_toArray, ← hll]
    exact List.take_left
/-- append(s[:i:i], ys...), ys not empty: a row of one's own. -/
theorem Ev.appFullN {x y : Operand} {t : TypeId} {bytes : Nat} {hx hy : Hd} (j1 j2 : Nat) (ho : appOf o = some (x, y, t)) (ex : evF fr x = some (.slice hx.1 xs.length xs.length)) (ey : evF fr y = some (.slice hy.1 ys.length hy.2)) (h1 : φ[j1]? = some (Rd d hx.1 xs.length xs)) (h2 : φ[j2]? = some (Rd d hy.1 hy.2 ys)) (ht : apT P t e d.sz bytes = true) (hs : 0 < d.sz ∧ 0 < bytes) (hlim : (xs.length + ys.length) * bytes ≤ 140737488355328) (hne : ys ≠ []) :
    Ev P o fr (St X w0 L0 bx rw ro φ) (fun p : Hd => .slice p.1 (xs ++ ys).length p.2) (fun p => St X w0 L0 bx (mkRow d e (.slice p.1 (xs ++ ys).length p.2) (xs ++ ys) :: rw) ro φ) := Ev.of_run fun n a w hf hS => by
  obtain ⟨cap, w', hr, hS'⟩ := run_full (P := P) (ty := o.type) hS j1 j2 h1 h2 ht hs hlim hne
  exact ⟨(some ⟨w.heap.size, 0, none⟩, cap), w', run_appOf ho hf ex ey hr, hS'⟩
/-- append(s[:i:i], ys...): it is only read from now on. -/
theorem Ev.appFull {x y : Operand} {t : TypeId} {bytes : Nat} {hx hy : Hd} (j1 j2 : Nat) (ho : appOf o = some (x, y, t)) (ex : evF fr x = some (.slice hx.1 xs.length xs.length)) (ey : evF fr y = some (.slice hy.1 ys.length hy.2)) (h1 : φ[j1]? = some (Rd d hx.1 xs.length xs)) (h2 : φ[j2]? = some (Rd d hy.1 hy.2 ys)) (ht : apT P t e d.sz bytes = true) (hs : 0 < d.sz ∧ 0 < bytes) (hlim : (xs.length + ys.length) * bytes ≤ 140737488355328) :
    Ev P o fr (St X w0 L0 bx rw ro φ) (fun p : Hd => .slice p.1 (xs ++ ys).length p.2) (fun p => St X w0 L0 bx rw ro (Rd d p.1 p.2 (xs ++ ys) :: φ)) := by
  by_cases hne : ys = []
  · subst hne
    refine Ev.of_run fun n a w hf hS => ?_
    obtain ⟨hu, i, z, hi, hz1, hz2, hz, hzs⟩ := apT_spec ht
    refine ⟨(hx.1, xs.length), w, run_appOf ho hf ex ey ?_, hS.add (fun w2 hw => by rw [List.append_nil]; exact hS.fact j1 h1 w2 hw)⟩
    have hst : ∀ ad : Addr, (storeCells ad []).run P w = .ok () w := fun ad => by simp [storeCells]
    cases hA : hx.1 with
    | none =>
      cases hB : hy.1 with
      | none => simp [Builtin.append_, run_underlying hu, sizeOf, typeInfo, hi, Builtin.lenOf, Builtin.firstCells]
      | some b => simp [Builtin.append_, run_underlying hu, sizeOf, typeInfo, hi, Builtin.lenOf, run_firstCells_some (P := P) w i.size 0 b 0 hy.2 [] (by simp) (fun q u hq => by simp at hq)]
    | some ad =>
      cases hB : hy.1 with
      | none => simp [Builtin.append_, run_underlying hu, sizeOf, typeInfo, hi, Builtin.lenOf, Builtin.firstCells, hst]
      | some b => simp [Builtin.append_, run_underlying hu, sizeOf, typeInfo, hi, Builtin.lenOf, run_firstCells_some (P := P) w i.size 0 b 0 hy.2 [] (by simp) (fun q u hq => by simp at hq), hst]
  · refine Ev.mono' (fun p w hS => St.freezeH (h := p) hS) (Ev.appFullN j1 j2 ho ex ey h1 h2 ht hs hlim hne)
end
/-! ### 30. Rows whose elements have rows of their own: a struct with one slice of bytes -/
section
variable {P : Program} {X : Nat → Nat → Prop} {w0 w1 : World} {L0 : List Nat} {bx bx1 : List Box} {rw rw' rw1 : List Row} {ro ro1 : Mem} {φ φ1 φe : List (World → Prop)} {w w' : World} {o : Oper} {fr : Fr} {α : Type} {e eF : TypeId}
structure Sh1 (α : Type) where
  sz : Nat
  cl : α → Hd → List Value
  dat : α → List Int
  len : ∀ x h, (cl x h).length = sz
  one : ∀ x h u, u ∈ cl x h → u.oneCell' = true
def Sh1.kd (s : Sh1 α) (lk : α → Hd → Prop) (need : α → Prop) : Kd α where
  sz := s.sz
  K := fun w x cs => ∃ h, cs = s.cl x h ∧ lk x h ∧ (need x → Rd (Kd.int .u8) h.1 h.2 (s.dat x) w)
  len := by rintro w x cs ⟨h, rfl, _⟩; exact s.len x h
  one := by rintro w x cs ⟨h, rfl, _⟩ u hu; exact s.one x h u hu
  mono := by rintro w w' x cs hw ⟨h, rfl, h1, h2⟩; exact ⟨h, rfl, h1, fun hn => (h2 hn).mono hw⟩
def Sh1.kdH (s : Sh1 α) : Kd (α × Hd) where
  sz := s.sz
  K := fun _ z cs => cs = s.cl z.1 z.2
  len := by rintro w x cs rfl; exact s.len _ _
  one := by rintro w x cs rfl u hu; exact s.one _ _ u hu
  mono := fun _ h => h
abbrev Sh1.kdS (s : Sh1 α) (zs : List (α × Hd)) : Kd α := s.kd (fun x h => (x, h) ∈ zs ∨ h = (none, 0)) (fun _ => True)
abbrev Sh1.kdE (s : Sh1 α) (p : α → Prop) : Kd α := s.kd (fun _ _ => True) p
def hdB (h : Hd) : List Nat := match h.1 with | some a => [a.block] | none => []
structure Deep (b : Nat) (e : TypeId) (zs : List (α × Hd)) (w : World) : Prop where
  at_ : ∀ z, z ∈ zs → z.2 = (none, 0) ∨ ∃ g cur, z.2.1 = some ⟨g, 0, none⟩ ∧ w.heap[g]? = some (.cells cur e (0, 0)) ∧ cur.size = z.2.2 ∧ z.2.2 ≤ maxLen ∧ b ≤ g
  apart : (zs.flatMap (fun z => hdB z.2)).Nodup
theorem Deep.mono {b b' : Nat} {zs : List (α × Hd)} (h : Deep b e zs w) (hb : b' ≤ b) : Deep b' e zs w := ⟨fun z hz => by
  rcases h.at_ z hz with h1 | ⟨g, cur, h1, h2, h3, h4, h5⟩
  · exact .inl h1
  · exact .inr ⟨g, cur, h1, h2, h3, h4, Nat.le_trans hb h5⟩, h.apart⟩
theorem Deep.nil (b : Nat) (e : TypeId) (w : World) : Deep b e ([] : List (α × Hd)) w := ⟨fun z hz => by simp at hz, by simp⟩
def Sh1.inner (s : Sh1 α) (e : TypeId) (zs : List (α × Hd)) : List Row := zs.map fun z => mkRow (Kd.int .u8) e (.slice z.2.1 (s.dat z.1).length z.2.2) (s.dat z.1)
theorem keys_perm {rw rw' : List Row} (h : rw.Perm rw') : (keys bx rw).Perm (keys bx rw') := List.Perm.append_left _ (h.flatMap_right _)
theorem St.perm (h : St X w0 L0 bx rw ro φ w) (hp : rw.Perm rw') : St X w0 L0 bx rw' ro φ w := h.sub (fun p hp => hp) (fun r hr => hp.symm.subset hr) ((keys_perm hp).nodup_iff.1 h.nodup)
theorem St.focus (h : St X w0 L0 bx rw ro φ w) : St X w (keys bx rw) bx rw ro φ w := ⟨fun b o hx => by
  have := h.xb b o hx
  refine ⟨Nat.lt_of_lt_of_le this.1 h.keep.size, fun hb => ?_⟩
  rcases h.own b hb with h5 | h5
  · exact this.2 h5
  · omega, Keep.refl _ _, fun b hb => .inl hb, h.nodup, h.boxes, h.rows, h.ros, h.facts⟩
theorem St.unfocus (h1 : St X w0 L0 bx1 rw1 ro1 φ1 w1) (h : St X w1 (keys bx1 rw1) bx rw ro φ w) : St X w0 L0 bx rw ro φ w := ⟨h1.xb, h1.keep.trans h.keep h1.own, fun b hb => by
  rcases h.own b hb with h5 | h5
  · exact h1.own b h5
  · exact .inr (Nat.le_trans h1.keep.size h5), h.nodup, h.boxes, h.rows, h.ros, h.facts⟩
theorem St.impF {f g : World → Prop} (h : St X w0 L0 bx rw ro (f :: φ) w) (hi : ∀ w, f w → g w) : St X w0 L0 bx rw ro (g :: φ) w := ⟨h.xb, h.keep, h.own, h.nodup, h.boxes, h.rows, h.ros, fun q hq w' hw => by
  rcases List.mem_cons.1 hq with rfl | hq
  · exact hi w' (h.facts f List.mem_cons_self w' hw)
  · exact h.facts q (List.mem_cons_of_mem _ hq) w' hw⟩
theorem Rd.imp {d d' : Kd α} {A : Option Addr} {c : Nat} {xs : List α} (hs : d'.sz = d.sz) (hi : ∀ w x cs, d.K w x cs → d'.K w x cs) (h : Rd d A c xs w) : Rd d' A c xs w := ⟨h.1, fun j x hx => by
  obtain ⟨b, o, cs, e, hK, hc⟩ := h.2 j x hx
  exact ⟨b, o, cs, e, hi w x cs hK, by rw [hs]; exact hc⟩⟩
theorem ownB_hd (h : Hd) (n : Nat) : ownB (.slice h.1 n h.2) = hdB h := by unfold ownB hdB; cases h.1 <;> rfl
theorem inner_keys (s : Sh1 α) (e : TypeId) : ∀ zs : List (α × Hd), (s.inner e zs).flatMap (fun r => ownB r.v) = zs.flatMap (fun z => hdB z.2)
  | [] => rfl
  | z :: zs => by
    have := inner_keys s e zs
    simp only [Sh1.inner, List.map_cons, List.flatMap_cons] at this ⊢
    rw [this]
    congr 1
    exact ownB_hd z.2 _
/-- At the end: the elements' rows are given up, but it is known where they lie. -/
theorem deep_end (s : Sh1 α) {v : Value} {zs : List (α × Hd)} (h : St X w0 [] bx (mkRow s.kdH eF v zs :: s.inner e zs) ro φ w) : St X w0 [] bx [mkRow (s.kdS zs) eF v (zs.map (·.1))] ro φ w ∧ Deep w0.heap.size e zs w := by
  have hnd := h.nodup
  have hrow : ∀ z ∈ zs, mkRow (Kd.int .u8) e (.slice z.2.1 (s.dat z.1).length z.2.2) (s.dat z.1) ∈ s.inner e zs := fun z hz => List.mem_map.2 ⟨z, hz, rfl⟩
  have hk1 : (keys bx [mkRow s.kdH eF v zs]).Nodup := by
    simp only [keys, List.flatMap_cons, List.flatMap_nil, List.append_nil, List.nodup_append] at hnd ⊢
    exact ⟨hnd.1, ownB_nodup _, fun a ha b hb => hnd.2.2 a ha b (List.mem_append_left _ hb)⟩
  have hfz : ∀ z ∈ zs, ∀ w2, Away (XL X (keys bx [mkRow s.kdH eF v zs])) w w2 → Rd (Kd.int .u8) z.2.1 z.2.2 (s.dat z.1) w2 := by
    intro z hz
    have h2 : St X w0 [] bx (mkRow (Kd.int .u8) e (.slice z.2.1 (s.dat z.1).length z.2.2) (s.dat z.1) :: [mkRow s.kdH eF v zs]) ro φ w := by
      refine h.sub (fun p hp => hp) (fun r hr => ?_) ?_
      · rcases List.mem_cons.1 hr with rfl | hr
        · exact List.mem_cons_of_mem _ (hrow z hz)
        · rw [List.mem_singleton.1 hr]; exact List.mem_cons_self
      · simp only [keys, List.flatMap_cons, List.flatMap_nil, List.append_nil, List.nodup_append, inner_keys] at hnd ⊢
        have hsub : ∀ b, b ∈ ownB (mkRow (Kd.int .u8) e (.slice z.2.1 (s.dat z.1).length z.2.2) (s.dat z.1)).v → b ∈ zs.flatMap (fun z => hdB z.2) := fun b hb => by
          rw [show ownB (mkRow (Kd.int .u8) e (.slice z.2.1 (s.dat z.1).length z.2.2) (s.dat z.1)).v = hdB z.2 from ownB_hd z.2 _] at hb
          exact List.mem_flatMap.2 ⟨z, hz, hb⟩
        refine ⟨hnd.1, ⟨ownB_nodup _, ownB_nodup _, fun a ha b hb hab => hnd.2.1.2.2 b hb a (hsub a ha) hab.symm⟩, fun a ha b hb => ?_⟩
        rcases List.mem_append.1 hb with hb | hb
        · exact hnd.2.2 a ha b (List.mem_append_right _ (hsub b hb))
        · exact hnd.2.2 a ha b (List.mem_append_left _ hb)
    exact (h2.freezeH (h := z.2)).facts _ List.mem_cons_self
  refine ⟨?_, fun z hz => ?_, ?_⟩
  · obtain ⟨cells, ho, hq⟩ := h.rows _ List.mem_cons_self
    have hS : St X w0 [] bx [mkRow s.kdH eF v zs] ro φ w := h.sub (fun p hp => hp) (fun r hr => by rw [List.mem_singleton.1 hr]; exact List.mem_cons_self) hk1
    refine ⟨hS.xb, hS.keep, hS.own, hS.nodup, hS.boxes, fun r hr => ?_, hS.ros, hS.facts⟩
    rw [List.mem_singleton.1 hr]
    refine ⟨cells, ?_, fun w2 hw j x hx => ?_⟩
    · have ho' : w.ownsRow 0 eF s.sz v zs.length cells := ho
      show w.ownsRow 0 eF s.sz v (zs.map (·.1)).length cells
      rw [List.length_map]; exact ho'
    · rw [List.getElem?_map] at hx
      obtain ⟨z, hz, rfl⟩ := Option.map_eq_some_iff.1 hx
      have hzm := List.mem_of_getElem? hz
      have hK : s.kdH.K w z ((cells.drop (j * s.kdH.sz)).take s.kdH.sz) := hq w (Away.refl _ _) j z hz
      exact ⟨z.2, hK, .inl hzm, fun _ => hfz z hzm w2 hw⟩
  · obtain ⟨cells, ho, _⟩ := h.rows _ (List.mem_cons_of_mem _ (hrow z hz))
    rcases ho.2 with ⟨hv, hn⟩ | ⟨g, cap, cur, hv, _, hh, hcap, hml, hsz, _⟩
    · have hv' : Value.slice z.2.1 (s.dat z.1).length z.2.2 = .slice none 0 0 := hv
      simp only [Value.slice.injEq] at hv'
      exact .inl (Prod.ext hv'.1 hv'.2.2)
    · have hv' : Value.slice z.2.1 (s.dat z.1).length z.2.2 = .slice (some ⟨g, 0, none⟩) (s.dat z.1).length cap := hv
      simp only [Value.slice.injEq, true_and] at hv'
      have hsz' : cur.size = cap * 1 := hsz
      have hh' : w.heap[g]? = some (.cells cur e (0, 0)) := hh
      refine .inr ⟨g, cur, hv'.1, hh', by omega, by omega, ?_⟩
      have hg : g ∈ keys bx (mkRow s.kdH eF v zs :: s.inner e zs) := by
        refine List.mem_append_right _ (List.mem_flatMap.2 ⟨_, List.mem_cons_of_mem _ (hrow z hz), ?_⟩)
        show g ∈ ownB (.slice z.2.1 (s.dat z.1).length z.2.2)
        rw [hv'.1]; simp [ownB]
      rcases h.own g hg with h5 | h5
      · simp at h5
      · exact h5
  · simp only [keys, List.flatMap_cons, List.nodup_append, inner_keys] at hnd
    exact hnd.2.1.2.1
/-- One element's row comes back: the others don't lie there. -/
theorem St.thaw (s : Sh1 α) {zs : List (α × Hd)} {files : List α} {hh h : Hd} {m i : Nat} {x : α} {ps : List (Nat × List Value)} (h0 : St X w0 [] [] [] [] φe w0) (h1 : St X w0 [] bx1 rw1 ro1 φ1 w1) (hD : Deep w0.heap.size e zs w1) (hout : ∀ z ∈ zs, ∀ b ∈ hdB z.2, b ∉ keys bx1 rw1)
    (hS : St X w1 (keys bx1 rw1) bx [pkRow (s.kdS zs) eF (.slice hh.1 m hh.2) files ps] ro φ w) (jd : Nat) (hx : files[i]? = some x) (hlk : (x, h) ∈ zs ∨ h = (none, 0)) (hd : φ[jd]? = some (Rd (Kd.int .u8) h.1 h.2 (s.dat x))) (p : α → Prop) (hp : ∀ j y, files[j]? = some y → p y → j ≠ i ∧ y ≠ x) :
    St X w0 [] bx [mkRow (Kd.int .u8) e (.slice h.1 (s.dat x).length h.2) (s.dat x), pkRow (s.kdE p) eF (.slice hh.1 m hh.2) files ps] [] φe w := by
  have hU := h1.unfocus hS
  have hw01 := h1.keep.size
  have hdeep : ∀ z ∈ zs, ∀ b ∈ hdB z.2, w0.heap.size ≤ b ∧ b < w1.heap.size := by
    intro z hz b hb
    rcases hD.at_ z hz with h2 | ⟨g, cur, h2, h3, _, _, h6⟩
    · rw [h2] at hb; simp [hdB] at hb
    · rw [hdB, h2] at hb
      rw [List.mem_singleton.1 hb]
      exact ⟨h6, lt_of_heap h3⟩
  have hnk : ∀ z ∈ zs, ∀ b ∈ hdB z.2, b ∉ keys bx [pkRow (s.kdS zs) eF (.slice hh.1 m hh.2) files ps] := by
    intro z hz b hb hk
    rcases hS.own b hk with h5 | h5
    · exact hout z hz b hb h5
    · have := (hdeep z hz b hb).2; omega
  have hmem : ∀ b ∈ hdB h, ∃ z ∈ zs, z.2 = h := by
    intro b hb
    rcases hlk with hz | rfl
    · exact ⟨(x, h), hz, rfl⟩
    · simp [hdB] at hb
  have hcase : h = (none, 0) ∨ ∃ g cur, h.1 = some ⟨g, 0, none⟩ ∧ w1.heap[g]? = some (.cells cur e (0, 0)) ∧ cur.size = h.2 ∧ h.2 ≤ maxLen ∧ w0.heap.size ≤ g := by
    rcases hlk with hz | rfl
    · exact hD.at_ _ hz
    · exact .inl rfl
  have hkeys : ∀ b, b ∈ keys bx [mkRow (Kd.int .u8) e (.slice h.1 (s.dat x).length h.2) (s.dat x), pkRow (s.kdE p) eF (.slice hh.1 m hh.2) files ps] ↔ b ∈ hdB h ∨ b ∈ keys bx [pkRow (s.kdS zs) eF (.slice hh.1 m hh.2) files ps] := by
    intro b
    simp only [keys, List.flatMap_cons, List.flatMap_nil, List.append_nil, List.mem_append, mkRow, pkRow, ownB_hd]
    constructor
    · rintro (h | h | h)
      · exact .inr (.inl h)
      · exact .inl h
      · exact .inr (.inr h)
    · rintro (h | h | h)
      · exact .inr (.inl h)
      · exact .inl h
      · exact .inr (.inr h)
  have hown : ∀ b, b ∈ keys bx [mkRow (Kd.int .u8) e (.slice h.1 (s.dat x).length h.2) (s.dat x), pkRow (s.kdE p) eF (.slice hh.1 m hh.2) files ps] → w0.heap.size ≤ b := by
    intro b hb
    rcases (hkeys b).1 hb with hb | hb
    · obtain ⟨z, hz, rfl⟩ := hmem b hb
      exact (hdeep z hz b hb).1
    · rcases hU.own b hb with h5 | h5
      · simp at h5
      · exact h5
  refine ⟨h0.xb, hU.keep, fun b hb => .inr (hown b hb), ?_, hU.boxes, fun r hr => ?_, fun y hy => by simp at hy, fun f hf w2 hw => ?_⟩
  · have hnd := hU.nodup
    simp only [keys, List.flatMap_cons, List.flatMap_nil, List.append_nil, List.nodup_append, pkRow] at hnd
    simp only [keys, List.flatMap_cons, List.flatMap_nil, List.append_nil, List.nodup_append, mkRow, pkRow]
    have hne : ∀ b ∈ hdB h, b ∉ bx.map (·.g) ∧ b ∉ ownB (.slice hh.1 m hh.2) := by
      intro b hb
      obtain ⟨z, hz, rfl⟩ := hmem b hb
      have := hnk z hz b hb
      simp only [keys, List.flatMap_cons, List.flatMap_nil, List.append_nil, List.mem_append, pkRow, not_or] at this
      exact this
    refine ⟨hnd.1, ⟨ownB_nodup _, hnd.2.1, fun a ha b hb hab => ?_⟩, fun a ha b hb hab => ?_⟩
    · rw [ownB_hd] at ha
      exact (hne a ha).2 (hab ▸ hb)
    · rcases List.mem_append.1 hb with hb | hb
      · rw [ownB_hd] at hb
        exact (hne b hb).1 (hab ▸ ha)
      · exact hnd.2.2 a ha b hb hab
  · rcases List.mem_cons.1 hr with rfl | hr
    · have hR := hS.now jd hd
      rcases hcase with rfl | ⟨g, cur, e1, e2, e3, e4, e5⟩
      · have hnil : s.dat x = [] := List.eq_nil_of_length_eq_zero (by have := hR.1; simpa using this)
        rw [hnil]
        exact ⟨[], ⟨by simp [mkRow], .inl ⟨rfl, rfl⟩⟩, fun _ _ => Els.nil _ _ _⟩
      · have hg1 : g < w1.heap.size := lt_of_heap e2
        have hgk : g ∉ keys bx1 rw1 := by
          rcases hlk with hz | hz
          · exact hout _ hz g (by simp [hdB, e1])
          · rw [hz] at e1; cases e1
        have hh2 : w.heap[g]? = some (.cells cur e (0, 0)) := by rw [hS.keep.block g hg1 hgk]; exact e2
        have hcur : ∀ (j : Nat) (u : Int), (s.dat x)[j]? = some u → cur[j]? = some (Value.int .u8 u) := by
          intro j u hu
          obtain ⟨b, o', cs, hA, hK, hc⟩ := hR.2 j u hu
          rw [e1] at hA
          simp only [Option.some.injEq, Addr.mk.injEq, and_true] at hA
          obtain ⟨rfl, rfl⟩ := hA
          have hcs : cs = [.int .u8 u] := hK
          subst hcs
          have := hc 0 _ rfl
          have hsz1 : (Kd.int .u8).sz = 1 := rfl
          simp only [World.cell?, hh2, Option.isSome_none, Bool.false_eq_true, if_false, Nat.zero_add, Nat.add_zero, hsz1, Nat.mul_one] at this
          exact this
        have hl : (s.dat x).length ≤ cur.size := by rw [e3]; exact hR.1
        have hEls : ∀ w2, Els (Kd.int .u8) (s.dat x) (cur.toList.take (s.dat x).length) w2 := by
          intro w2 j u hu
          have hj : j < (s.dat x).length := (List.getElem?_eq_some_iff.1 hu).1
          show ((cur.toList.take (s.dat x).length).drop (j * 1)).take 1 = [.int .u8 u]
          have h3 := hcur j u hu
          rw [Nat.mul_one]
          apply List.ext_getElem?
          intro k
          cases k with
          | zero => simp [hj, h3]
          | succ k => rw [List.getElem?_eq_none (Nat.le_trans (List.length_take_le 1 _) (Nat.le_add_left 1 k)), List.getElem?_eq_none (by simp)]
        refine ⟨cur.toList.take (s.dat x).length, ⟨?_, .inr ⟨g, h.2, cur, by simp only [mkRow]; rw [e1], Nat.zero_le _, hh2, hR.1, e4, ?_, ?_⟩⟩, fun w2 _ => hEls w2⟩
        · show (cur.toList.take (s.dat x).length).length = (s.dat x).length * 1
          have hcl : cur.toList.length = cur.size := Array.length_toList
          rw [List.length_take]; omega
        · show cur.size = h.2 * 1
          omega
        · show cur.toList.take ((s.dat x).length * 1) = cur.toList.take (s.dat x).length
          rw [Nat.mul_one]
    · rw [List.mem_singleton.1 hr]
      obtain ⟨cells, ho, hq⟩ := hS.rows _ List.mem_cons_self
      refine ⟨cells, ho, fun w2 hw => ⟨fun j y hy => ?_, (hq w (Away.refl _ _)).2⟩⟩
      obtain ⟨hj, hcs, hl, hr2⟩ := (hq w (Away.refl _ _)).1 j y hy
      refine ⟨hj, hcs, trivial, fun hpy => ?_⟩
      obtain ⟨hji, hyx⟩ := hp j y hy hpy
      have hRy := hr2 trivial
      refine ⟨hRy.1, fun q u hu => ?_⟩
      obtain ⟨b, o', cs, hA, hK, hc⟩ := hRy.2 q u hu
      refine ⟨b, o', cs, hA, hK, fun i' v' hv' => ?_⟩
      have hcell := hc i' v' hv'
      rw [hw.2 b _ (cell_lt hcell) ?_]
      · exact hcell
      · have hb : b ∈ hdB hj := by simp [hdB, hA]
        have hz : (y, hj) ∈ zs := by
          rcases hl with h5 | h5
          · exact h5
          · rw [h5] at hA; cases hA
        have hge := hdeep _ hz b hb
        rintro (hx2 | hx2)
        · have := h0.xb b _ hx2; omega
        · rcases (hkeys b).1 hx2 with h6 | h6
          · have hzx : (x, h) ∈ zs := by
              rcases hlk with h7 | h7
              · exact h7
              · rw [h7] at h6; simp [hdB] at h6
            obtain ⟨k1, hk1⟩ := List.mem_iff_getElem?.1 hz
            obtain ⟨k2, hk2⟩ := List.mem_iff_getElem?.1 hzx
            have hne : k1 ≠ k2 := fun e5 => by
              subst e5
              rw [hk1] at hk2
              exact hyx (congrArg Prod.fst (Option.some.inj hk2))
            exact flatMap_apart hD.apart hk1 hk2 hne b hb h6
          · exact hnk _ hz b hb h6
  · refine h0.facts f hf w2 ⟨Nat.le_trans hU.keep.size hw.1, fun b o' hb hn => ?_⟩
    rw [hw.2 b o' (Nat.lt_of_lt_of_le hb hU.keep.size) ?_]
    · exact hU.keep.cell (p := ⟨b, o', none⟩) hb (by simp)
    · rintro (hx2 | hx2)
      · exact hn (.inl hx2)
      · have := hown b hx2; omega
/-- The element has its new row: all is as it is told again. -/
theorem St.whole (s : Sh1 α) (d : Kd α) (hsz : d.sz = s.sz) (hd : ∀ w x h, Rd (Kd.int .u8) h.1 h.2 (s.dat x) w → d.K w x (s.cl x h)) {xs : List α} {v : Value} {i j : Nat} {x : α} {q : Hd} {ps : List (Nat × List Value)} {p : α → Prop} (hS : St X w0 L0 bx (pkRow (s.kdE p) eF v xs ((i, s.cl x q) :: ps) :: rw) ro φ w) (hx : xs[i]? = some x) (hp : ∀ k y, xs[k]? = some y → k ≠ i → p y) (hj : φ[j]? = some (Rd (Kd.int .u8) q.1 q.2 (s.dat x))) :
    St X w0 L0 bx (mkRow d eF v xs :: rw) ro φ w := by
  refine ⟨hS.xb, hS.keep, hS.own, hS.nodup, hS.boxes, fun r hr => ?_, hS.ros, hS.facts⟩
  rcases List.mem_cons.1 hr with rfl | hr
  · obtain ⟨cells, ho, hq⟩ := hS.rows _ List.mem_cons_self
    have ho' : w.ownsRow 0 eF s.sz v xs.length cells := ho
    refine ⟨cells, ?_, fun w2 hw k y hy => ?_⟩
    · show w.ownsRow 0 eF d.sz v xs.length cells
      rw [hsz]; exact ho'
    · obtain ⟨h1, h2⟩ := hq w2 hw
      rw [hsz]
      by_cases hk : k = i
      · subst hk
        rw [hx] at hy
        obtain rfl := Option.some.inj hy
        have h3 : (cells.drop (k * s.sz)).take s.sz = s.cl x q := h2 _ List.mem_cons_self
        rw [h3]
        exact hd w2 x q (hS.fact j hj w2 hw)
      · obtain ⟨hh, hcs, _, hr2⟩ := h1 k y hy
        have hcs' : (cells.drop (k * s.sz)).take s.sz = s.cl y hh := hcs
        rw [hcs']
        exact hd w2 y hh (hr2 (hp k y hy hk))
  · exact hS.rows r (List.mem_cons_of_mem _ hr)
section
variable {Rf : Exit → Act → World → Prop} {n : Nat} {k : List KI} {ops : Array Oper} {l : List Oper} {D : World → Prop} {c : Code}
theorem O.rescope (h : ∀ w1, St X w0 L0 bx rw ro φ w1 → D w1 → O P Rf n k ops l fr (St X w1 (keys bx rw) bx rw ro φ)) : O P Rf n k ops l fr (fun w => St X w0 L0 bx rw ro φ w ∧ D w) := fun a w hf hS => h w hS.1 hS.2 a w hf hS.1.focus
theorem J.andp {S : World → Prop} {p : Prop} (h : p → J P Rf n k fr S) : J P Rf n k fr (fun w => S w ∧ p) := fun a w hf hS => h hS.2 a w hf hS.1
theorem J.doneQ {fn : Func} {Q : Value → World → Prop} (hs : List (Nat × Nat)) (es : List Nat) {vs : List Value} (hc : isRet c = true) (h : resV P (memOf bx ro) hs fn.results.toList fr = some (vs, dup es)) (hQ : ∀ w, St X w0 L0 bx rw ro φ w → Q (retV vs) w) :
    J P (bodyPost P fn fun e w' => ∃ u, e = .returned u ∧ Q u w') n (.code c :: k) fr (St X w0 L0 bx rw ro φ) := J.ret hc fun a w hf hS => ⟨hf.defers, retV vs, run_results hf hS.mem h (fun x hx => by obtain ⟨y, _, rfl⟩ := List.mem_map.1 hx; rfl), retV vs, rfl, hQ w hS⟩
theorem Calls.ofQ {g : FuncId} {fn : Func} {vs : List Value} {Q : Value → World → Prop} (hf : P.funcs[g]? = some fn) (hb : (fn.body.isSome && decide (vs.length ≤ fn.ntmps)) = true) (hS : St X w L0 bx rw ro φ w)
    (h : J P (bodyPost P fn fun e w' => ∃ u, e = .returned u ∧ Q u w') fn.ntmps [.code (bodyC fn)] (argsF vs) (St X w L0 bx rw ro φ)) : Calls P g vs.toArray w fun e w' => ∃ u, e = .returned u ∧ Q u w' := by
  simp only [Bool.and_eq_true, decide_eq_true_eq] at hb
  have hb1 : fn.body = some (bodyC fn) := by
    unfold bodyC
    cases h : fn.body with
    | none => rw [h] at hb; cases hb.1
    | some c => rfl
  exact calls_of_wp hf hb1 (h _ w (fits_args hb.2) hS)
end
theorem Ev.callD {g : FuncId} {xs : List Operand} {vs : List Value} {ι : Type} {v : ι → Value} {r1 : ι → List Row} {Dp : Nat → ι → World → Prop} {φ0 : List (World → Prop)} (is : List Nat) (ho : (callOf o, callable P g, evs fr xs) = (some (g, xs), true, some vs)) (hf : pick φ is = some φ0)
    (h : ∀ w, St (XL X (keys bx rw)) w [] [] [] [] φ0 w → Calls P g vs.toArray w fun e w' => ∃ u, e = .returned u ∧ ∃ i, u = v i ∧ St (XL X (keys bx rw)) w [] [] (r1 i) [] [] w' ∧ Dp w.heap.size i w') :
    Ev P o fr (St X w0 L0 bx rw ro φ) v (fun i w' => St X w0 L0 bx (r1 i ++ rw) ro φ w' ∧ ∃ b, w0.heap.size ≤ b ∧ (∀ x, x ∈ keys bx rw → x < b) ∧ Dp b i w') := fun n a w hf' hS K Q hK => by
  simp only [Prod.mk.injEq] at ho
  have hp1 := pick_all bx []
  have hr1 := pick_all rw []
  simp only [List.nil_append, List.length_nil] at hp1 hr1
  have hn : (([] : List Nat) ++ List.range' 0 bx.length).Nodup ∧ (([] : List Nat) ++ List.range' 0 rw.length).Nodup := ⟨by simpa using List.nodup_range', by simpa using List.nodup_range'⟩
  unfold Oper.wp
  rw [run_call ho.1 ho.2.1 ho.2.2 hf' w]
  refine Calls.mono (h w (hS.lend (bx0 := []) (rw0 := []) rfl hp1 rfl hr1 hn hf)) (fun e w1 he => ?_)
  obtain ⟨u, rfl, i, rfl, hc, hd⟩ := he
  exact hK i w1 ⟨hS.resume (bx0 := []) (rw0 := []) rfl hp1 rfl hr1 hn hc, w.heap.size, hS.keep.size, fun x hx => hS.lt hx, hd⟩
def sepB {α : Type} (key : α → List UInt8) (xs : List α) (i : Nat) : Bool := xs.zipIdx.all fun p => p.2 == i || (match xs[i]? with | some y => !(key p.1 == key y) | none => true)
def sepO {α : Type} (key : α → List UInt8) (xs : List α) (i : Int) : Option Unit := cond (sepB key xs i.toNat) (some ()) none
theorem sepE {α : Type} {key : α → List UInt8} {xs : List α} {i : Int} {u : Unit} (h : sepO key xs i = some u) : ∀ j x y, xs[j]? = some x → xs[i.toNat]? = some y → j ≠ i.toNat → key x ≠ key y := by
  intro j x y hj hy hne
  unfold sepO at h
  cases hc : sepB key xs i.toNat with
  | false => rw [hc] at h; cases h
  | true =>
    unfold sepB at hc
    rw [List.all_eq_true] at hc
    have hm : (x, j) ∈ xs.zipIdx := by rw [List.mem_zipIdx_iff_getElem?]; exact hj
    have := hc _ hm
    simp only [hy, Bool.or_eq_true, beq_iff_eq, Bool.not_eq_true', beq_eq_false_iff_ne] at this
    rcases this with h1 | h1
    · exact absurd h1 hne
    · exact h1
end
section
variable {P : Program} {X : Nat → Nat → Prop} {w0 : World} {L0 : List Nat} {bx : List Box} {rw : List Row} {ro : Mem} {φ : List (World → Prop)} {w : World} {α : Type} {e : TypeId}
theorem Deep.out {b : Nat} {zs : List (α × Hd)} {r : Row} (hD : Deep b e zs w) (h2 : ∀ x, x ∈ keys bx rw → x < b) (h3 : ∀ z, z ∈ zs → ∀ x, x ∈ hdB z.2 → x ∉ ownB r.v) : ∀ z, z ∈ zs → ∀ x, x ∈ hdB z.2 → x ∉ keys bx ([r] ++ rw) := by
  intro z hz x hx hk
  have hge : b ≤ x := by
    rcases hD.at_ z hz with h | ⟨g, cur, h4, _, _, _, h5⟩
    · rw [h] at hx; simp [hdB] at hx
    · rw [hdB, h4] at hx
      rw [List.mem_singleton.1 hx]; exact h5
  simp only [keys, List.flatMap_append, List.flatMap_cons, List.flatMap_nil, List.append_nil, List.mem_append] at hk
  rcases hk with hk | hk | hk
  · have := h2 x (List.mem_append_left _ hk); omega
  · exact h3 z hz x hx hk
  · have := h2 x (List.mem_append_right _ hk); omega
theorem St.impR {d d' : Kd α} {v : Value} {xs : List α} (h : St X w0 L0 bx (mkRow d e v xs :: rw) ro φ w) (hs : d'.sz = d.sz) (hi : ∀ w x cs, d.K w x cs → d'.K w x cs) : St X w0 L0 bx (mkRow d' e v xs :: rw) ro φ w :=
  ⟨h.xb, h.keep, h.own, h.nodup, h.boxes, fun r hr => by
    rcases List.mem_cons.1 hr with rfl | hr
    · obtain ⟨cells, ho, hq⟩ := h.rows _ List.mem_cons_self
      have ho' : w.ownsRow 0 e d.sz v xs.length cells := ho
      refine ⟨cells, ?_, fun w2 hw j x hx => ?_⟩
      · show w.ownsRow 0 e d'.sz v xs.length cells
        rw [hs]; exact ho'
      · rw [hs]; exact hi _ _ _ (hq w2 hw j x hx)
    · exact h.rows r (List.mem_cons_of_mem _ hr), h.ros, h.facts⟩
end
/-! ### 31. Sums of strings -/
section
variable {P : Program} {o : Oper} {fr : Fr}
def catO (a b : ByteArray) : Option Unit := if a.size + b.size ≤ 9223372036854775807 then some () else none
theorem catE {a b : ByteArray} {u : Unit} (h : catO a b = some u) : a.size + b.size ≤ 9223372036854775807 := by
  unfold catO at h
  split at h
  · assumption
  · cases h
theorem Qu.cat {S : World → Prop} {t t' : TypeId} {x y : Operand} {a b : ByteArray} (ho : o.op = .binOp .add t x y t') (hx : evF fr x = some (.string a)) (hy : evF fr y = some (.string b)) (h : a.size + b.size ≤ 9223372036854775807) : Qu P o fr S (.string (a ++ b)) := fun n a' w hf hS => by
  have h' : ¬ (9223372036854775807 < ((a.size : Int) + (b.size : Int))) := by omega
  unfold execOp
  simp [ho, hf.ev hx, hf.ev hy, eqGuard, binOp, Op.stringOp, h', IntKind.max, IntKind.signed, IntKind.bits]
end
/-! ### 32. Maps that are filled once -/
section
open Go.MapKept (heap_set run_checkKey run_findKey IsKey)
variable {P : Program} {o : Oper} {fr : Fr} {X : Nat → Nat → Prop} {w0 : World} {L0 : List Nat} {bx : List Box} {rw : List Row} {ro : Mem} {φ : List (World → Prop)} {w : World}
def mfind (x : Int) : List (Int × Value) → Option Value
  | [] => none
  | y :: r => cond (x == y.1) (some y.2) (mfind x r)
structure MapAt (w0 : World) (L : List Nat) (q : IntKind) (g : Nat) (ks : List (Int × Value)) (w : World) : Prop where
  new : w0.heap.size ≤ g
  out : g ∉ L
  at_ : ∃ l c, w.heap[g]? = some (.map l c) ∧ l.toList.map (fun e => (e.key, e.val)) = ks.map (fun y => (Value.int q y.1, y.2))
theorem findNow_ints {q q' : IntKind} (x : Int) : ∀ (l : List MapEntry) (ks : List (Int × Value)) (i : Nat), l.map (fun e => (e.key, e.val)) = ks.map (fun y => (Value.int q y.1, y.2)) →
    ∃ j, Instr.findNow (.int q') (.int q x) l i = some ((mfind x ks).map (fun v => (j, v)))
  | [], [], i, _ => ⟨0, rfl⟩
  | [], _ :: _, i, h => by simp at h
  | _ :: _, [], i, h => by simp at h
  | e :: l, y :: ks, i, h => by
    simp only [List.map_cons, List.cons.injEq, Prod.mk.injEq] at h
    obtain ⟨⟨h1, h2⟩, h3⟩ := h
    unfold Instr.findNow mfind
    rw [h1]
    simp only [Instr.sameNow, if_true]
    cases hc : x == y.1 with
    | true => exact ⟨i, by simp [h2]⟩
    | false =>
      obtain ⟨j, hj⟩ := findNow_ints x l ks (i + 1) h3
      exact ⟨j, by simpa using hj⟩
theorem Ev.makeMap {t : TypeId} (q : IntKind) (ho : o.op = .makeMap t none) : Ev P o fr (St X w0 L0 bx rw ro φ) (fun g : Nat => .map (some g)) (fun g w => St X w0 L0 bx rw ro φ w ∧ MapAt w0 (keys bx rw) q g [] w) := Ev.of_run fun n a w hf hS => by
  refine ⟨w.heap.size, w.alloc (.map #[] 0), ?_, hS.kept (Keep.alloc _ _ _), hS.keep.size, fun hb => by have := hS.lt hb; omega, #[], 0, heap_alloc_new w _, rfl⟩
  unfold execOp
  simp [ho, Instr.makeMap]
theorem St.mapset {g : Nat} {l : Array MapEntry} {c : Nat} (h : St X w0 L0 bx rw ro φ w) (hg : w0.heap.size ≤ g) (ho : g ∉ keys bx rw) (hm : w.heap[g]? = some (.map l c)) (l' : Array MapEntry) (c' : Nat) : St X w0 L0 bx rw ro φ { w with heap := w.heap.setIfInBounds g (.map l' c') } := by
  have hh := heap_set (o' := Obj.map l' c') hm
  have hk : Keep [g] w { w with heap := w.heap.setIfInBounds g (.map l' c') } := ⟨rfl, rfl, rfl, by simp, fun b hb hn => hh.2 b (fun e => hn (by simp [e]))⟩
  have ha : ∀ {w2 : World} {Y : Nat → Nat → Prop}, Away Y { w with heap := w.heap.setIfInBounds g (.map l' c') } w2 → Away Y w w2 := fun {w2 Y} hw => by
    refine ⟨by have := hw.1; simpa using this, fun b o hb hn => ?_⟩
    rw [hw.2 b o (by simpa using hb) hn]
    by_cases e : b = g
    · subst e
      simp only [World.cell?, hh.1, hm]
    · exact World.cell?_of_block (w := w) (hh.2 b e)
  refine ⟨h.xb, h.keep.trans hk (fun b hb => by rw [List.mem_singleton.1 hb]; exact .inr hg), h.own, h.nodup, fun p hp => ?_, fun r hr => ?_, fun x hx w2 h2 => h.ros x hx w2 (ha h2), fun f hf w2 h2 => h.facts f hf w2 (ha h2)⟩
  · have hne : p.g ≠ g := fun e => ho (e ▸ List.mem_append_left _ (List.mem_map.2 ⟨p, hp, rfl⟩))
    exact (hh.2 _ hne).trans (h.boxes p hp)
  · obtain ⟨cells, ho', hq⟩ := h.rows r hr
    refine ⟨cells, ⟨ho'.1, ?_⟩, fun w2 h2 => hq w2 (ha h2)⟩
    rcases ho'.2 with h2 | ⟨g', cap, cur, e, hg', hh', r'⟩
    · exact .inl h2
    · have hne : g' ≠ g := fun e' => ho (e' ▸ List.mem_append_right _ (List.mem_flatMap.2 ⟨r, hr, by rw [e]; simp [ownB]⟩))
      exact .inr ⟨g', cap, cur, e, hg', (hh.2 _ hne).trans hh', r'⟩
theorem Ev.insert {t kt et : TypeId} {g : Nat} {q : IntKind} {k : Int} {v : Value} {ks : List (Int × Value)} {m x y : Operand} (ho : o.op = .insert t m x y) (ht : P.underlying t = some (.map kt et)) (hk : P.underlying kt = some (.int q)) (hm : evF fr m = some (.map (some g))) (hx : evF fr x = some (.int q k)) (hy : evF fr y = some v) (hn : (mfind k ks).isNone = true) :
    Ev P o fr (fun w => St X w0 L0 bx rw ro φ w ∧ MapAt w0 (keys bx rw) q g ks w) (fun _ : Unit => undef) (fun _ w => St X w0 L0 bx rw ro φ w ∧ MapAt w0 (keys bx rw) q g (ks ++ [(k, v)]) w) := Ev.of_skip fun n a w hf hS => by
  obtain ⟨hS, h1, h2, l, c, hl, he⟩ := hS
  obtain ⟨j, hj⟩ := findNow_ints (q := q) (q' := q) k l.toList ks 0 he
  have hno : mfind k ks = none := by simpa using hn
  rw [hno] at hj
  refine ⟨_, ?_, hS.mapset h1 h2 hl (l.push { key := .int q k, val := v, born := c }) (c + 1), h1, h2, _, _, (heap_set hl).1, by simp [he]⟩
  unfold execOp
  simp [ho, hf.ev hm, hf.ev hx, hf.ev hy, Instr.mapUpdate, run_underlying ht, Go.MapKept.run_getObj_map hl, run_checkKey (k := .int q k) hk (by simp [IsKey]), run_findKey hk hj, Go.MapKept.run_setObj_map _ hl, Result.andThen]
theorem Qu.lookup {bx1 : List Box} {rw1 : List Row} {w1 : World} {t kt et : TypeId} {g : Nat} {q : IntKind} {k : Int} {v z : Value} {ks : List (Int × Value)} {m x : Operand} (hD : MapAt w0 (keys bx1 rw1) q g ks w1) (ho : o.op = .lookup t m x false) (ht : P.underlying t = some (.map kt et)) (hk : P.underlying kt = some (.int q)) (hz : (P.info? et).bind (·.zero) = some z)
    (hm : evF fr m = some (.map (some g))) (hx : evF fr x = some (.int q k)) (hv : (mfind k ks).getD z = v) : Qu P o fr (St X w1 (keys bx1 rw1) bx rw ro φ) v := fun n a w hf hS => by
  obtain ⟨h1, h2, l, c, hl, he⟩ := hD
  have hl' : w.heap[g]? = some (.map l c) := (hS.keep.block g (lt_of_heap hl) h2).trans hl
  obtain ⟨j, hj⟩ := findNow_ints (q := q) (q' := q) k l.toList ks 0 he
  obtain ⟨i, hi, hz⟩ := Option.bind_eq_some_iff.1 hz
  unfold execOp
  cases hf' : mfind k ks with
  | none =>
    rw [hf'] at hj hv
    simp only [Option.getD_none] at hv
    subst hv
    simp [ho, hf.ev hm, hf.ev hx, Instr.lookup, run_underlying ht, Go.MapKept.run_getObj_map hl', run_checkKey (k := .int q k) hk (by simp [IsKey]), run_findKey hk hj, zeroValue, typeInfo, hi, hz, Result.andThen]
  | some u =>
    rw [hf'] at hj hv
    simp only [Option.getD_some] at hv
    subst hv
    simp [ho, hf.ev hm, hf.ev hx, Instr.lookup, run_underlying ht, Go.MapKept.run_getObj_map hl', run_checkKey (k := .int q k) hk (by simp [IsKey]), run_findKey hk hj, Result.andThen]
end
end Go.Hw
