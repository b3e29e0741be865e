/- What a datum of a row reads as, for arguments of any depth, over the kinds of Hw; for any program. -/
import Derived.Test.YtkcpbehgjbionaaHw
import Derived.Deep.Slices
import Derived.SizedLaws
set_option linter.unusedVariables false
set_option linter.unusedSimpArgs false
namespace Go.Hw
open Go.RowKit
/-- Whatever reads as a datum of type t is, in memory, some x of kind d, and what wf says of x holds. -/
def Opens {α : Type} (P : Program) (t : TypeId) (d : Kd α) (wf : α → Prop) : Prop :=
  ∀ (H : Type) (enc : TypeId × Value → H) (W : World) (base : Nat) (spare : Nat → Bool) (held : Bool) (fuel : Nat) (cs : List Value) (y : DataW H × List MemPlace),
    DataW.trod enc P W base spare held fuel t cs = some y → (∀ n ∈ y.1.weights P t, n ≤ reachBytes) → ∃ x : α, d.K W x cs ∧ wf x
section
variable {P : Program} {t e : TypeId}
theorem opens_int {k : IntKind} (hu : P.underlying t = some (.int k)) : Opens P t (Kd.int k) (fun n => (Lit.int k n).wf = true) := by
  intro H enc W base spare held fuel cs y h hw
  obtain ⟨n, rfl, rfl, hn⟩ := DataW.trod_int hu h
  exact ⟨n, rfl, hn⟩
theorem opens_bool (hu : P.underlying t = some .bool) : Opens P t Kd.bool (fun _ => True) := by
  intro H enc W base spare held fuel cs y h hw
  obtain ⟨b, rfl, rfl⟩ := DataW.trod_bool hu h
  exact ⟨b, rfl, trivial⟩
theorem opens_string (hu : P.underlying t = some .string) : Opens P t Kd.string (fun s => s.size ≤ 140737488351232) := by
  intro H enc W base spare held fuel cs y h hw
  obtain ⟨s, rfl, rfl, hs⟩ := DataW.trod_string hu h
  refine ⟨s, rfl, ?_⟩
  have h1 := hw s.data.toList.length (by simp [DataW.weights])
  have h2 : s.data.toList.length = s.size := by rw [Array.length_toList]; rfl
  have h3 : reachBytes = 140737488351232 := rfl
  omega
theorem cells_at {w : World} {base n : Nat} {a : Addr} {cs : List Value} (h : w.cells? base a n = some cs) : cs.length = n ∧ ∀ i u, cs[i]? = some u → w.cell? (a.add i) = some u := by
  obtain ⟨_, hl, hc⟩ := World.cells?_some h
  refine ⟨hl, fun i u hu => ?_⟩
  have hi : i < n := by have := (List.getElem?_eq_some_iff.1 hu).1; omega
  rw [hc i hi, hu]
theorem list_of {α : Type} {Q : Nat → α → Prop} : ∀ n : Nat, (∀ i, i < n → ∃ x, Q i x) → ∃ l : List α, l.length = n ∧ ∀ i x, l[i]? = some x → Q i x
  | 0, _ => ⟨[], rfl, fun i x h => by simp at h⟩
  | n + 1, h => by
    obtain ⟨l, hl, hq⟩ := list_of n (fun i hi => h i (by omega))
    obtain ⟨x, hx⟩ := h n (by omega)
    refine ⟨l ++ [x], by simp [hl], fun i y hy => ?_⟩
    by_cases hi : i < n
    · rw [List.getElem?_append_left (by omega)] at hy; exact hq i y hy
    · rw [List.getElem?_append_right (by omega)] at hy
      have h0 : i - l.length = 0 := by
        have := (List.getElem?_eq_some_iff.1 hy).1; simp at this; omega
      rw [h0] at hy
      have hin : i = n := by omega
      subst hin
      injection hy with hy
      subst hy
      exact hx
theorem mem_weightsAll {H : Type} {n : Nat} {d : DataW H} (hn : n ∈ d.weights P e) : ∀ l : List (DataW H), d ∈ l → n ∈ DataW.weightsAll P e l
  | [], h => by simp at h
  | x :: l, h => by
    rw [DataW.weightsAll, List.mem_append]
    rcases List.mem_cons.1 h with h | h
    · subst h; exact .inl hn
    · exact .inr (mem_weightsAll hn l h)
theorem spot_none {w : World} {a : Addr} {u : Value} (h : w.cell? a = some u) : a.spot = none := by
  unfold World.cell? at h
  split at h
  · cases hs : a.spot with
    | none => rfl
    | some s => simp [hs] at h
  · cases h
theorem opens_slice {α : Type} {d : Kd α} {wf : α → Prop} (B : Nat) (hu : P.underlying t = some (.slice e)) (hc : P.cellsOf e = d.sz) (hs : 0 < d.sz) (hB : P.bytesOf e = B) (ho : Opens P e d wf) :
    Opens P t (Kd.slice d) (fun l => l.length * B ≤ 140737488351232 ∧ ∀ x ∈ l, wf x) := by
  intro H enc W base spare held fuel cs y h hw
  rcases Go.Deep.open_slice hu h with ⟨rfl, rfl⟩ | ⟨a, len, cap, m, n, D, Pl, rfl, hb, hl, hm, hmm, rfl, hx⟩
  · exact ⟨[], ⟨none, 0, rfl, Nat.le_refl _, fun j x hx => by simp at hx⟩, by simp, fun x hx => by simp at hx⟩
  · have hlm : len ≤ m := by rw [hmm]; split <;> omega
    have h3 : reachBytes = 140737488351232 := rfl
    have el : ∀ i, i < len → ∃ x : α, wf x ∧ ∃ c, d.K W x c ∧ ∀ j u, c[j]? = some u → W.cell? (a.add (i * d.sz + j)) = some u := by
      intro i hi
      obtain ⟨c, h1, h2⟩ := hx i (by omega)
      obtain ⟨x, hK, hwf⟩ := ho H enc W base spare held n c _ h2 (fun k hk => hw k (by
        simp only [DataW.weights, hu, List.mem_cons, List.mem_append]
        exact .inr (.inl (mem_weightsAll hk _ (List.mem_map.2 ⟨i, List.mem_range.2 hi, rfl⟩)))))
      obtain ⟨h4, h5⟩ := cells_at h1
      rw [hc] at h4 h5
      exact ⟨x, hwf, c, hK, fun j u hu' => by rw [← Go.Deep.add_add]; exact h5 j u hu'⟩
    obtain ⟨l, hll, hq⟩ := list_of len el
    subst hll
    refine ⟨l, ⟨some a, cap, rfl, hl, fun j x hj => ?_⟩, ?_, fun x hx' => ?_⟩
    · obtain ⟨_, c, hK, hcell⟩ := hq j x hj
      have hsp : a.spot = none := by
        have h0 : 0 < l.length := by have := (List.getElem?_eq_some_iff.1 hj).1; omega
        obtain ⟨_, c0, hK0, hc0⟩ := hq 0 l[0] (List.getElem?_eq_getElem h0)
        have hl0 := d.len hK0
        have := hc0 0 c0[0] (List.getElem?_eq_getElem (by omega))
        rw [Nat.zero_mul, Nat.add_zero] at this
        exact spot_none (a := a) (by simpa [Addr.add] using this)
      obtain ⟨b, o, s⟩ := a
      simp only at hsp
      subst hsp
      refine ⟨b, o, c, rfl, hK, fun i u hu' => ?_⟩
      have := hcell i u hu'
      rw [show (⟨b, o, none⟩ : Addr).add (j * d.sz + i) = ⟨b, o + j * d.sz + i, none⟩ by unfold Addr.add; split <;> simp_all [Nat.add_assoc]] at this
      exact this
    · have h1 := hw _ (by simp only [DataW.weights, hu, List.mem_cons]; exact .inl rfl)
      simp only [List.length_map, List.length_range, hB] at h1
      have h2 : l.length * B ≤ (l.length + (m - l.length)) * B := Nat.mul_le_mul_right _ (by omega)
      omega
    · obtain ⟨j, hj, hje⟩ := List.getElem_of_mem hx'
      exact (hq j x (by rw [List.getElem?_eq_getElem hj, hje])).1
/-- A struct's field, out of its cells. -/
theorem field_of {fs : Array Field} {H : Type} {enc : TypeId × Value → H} {W : World} {base : Nat} {spare : Nat → Bool} {held : Bool} {fuel : Nat} {cs : List Value} {y : DataW H × List MemPlace}
    (hu : P.underlying t = some (.struct fs)) (h : DataW.trod enc P W base spare held fuel t cs = some y) (hw : ∀ n ∈ y.1.weights P t, n ≤ reachBytes) (j : Nat) (f : Field) (hf : fs[j]? = some f) (o s : Nat) (ho : f.offset = o) (hs : P.cellsOf f.type = s) :
    ∃ n yj, DataW.trod enc P W base spare held n f.type ((cs.drop o).take s) = some yj ∧ ∀ m ∈ yj.1.weights P f.type, m ≤ reachBytes := by
  obtain ⟨ys, n, rfl, rfl, hl, hsz, hfl⟩ := DataW.trod_struct hu h
  have e := hfl j f hf
  have hj : j < ys.length := by rw [hsz]; exact (Array.getElem?_eq_some_iff.1 hf).1
  rw [List.getElem?_eq_getElem hj, ho, hs] at e
  refine ⟨n, ys[j], e, fun m hm => hw m ?_⟩
  simp only [DataW.weights, hu]
  refine DataW.weights_mem_each (j := j) (t := f.type) (d := (ys[j]).1) ?_ ?_ m hm
  · rw [List.getElem?_map, Array.getElem?_toList, hf]; rfl
  · rw [List.getElem?_map, List.getElem?_eq_getElem hj]; rfl
theorem length_of {fs : Array Field} {H : Type} {enc : TypeId × Value → H} {W : World} {base : Nat} {spare : Nat → Bool} {held : Bool} {fuel : Nat} {cs : List Value} {y : DataW H × List MemPlace}
    (hu : P.underlying t = some (.struct fs)) (h : DataW.trod enc P W base spare held fuel t cs = some y) : cs.length = P.cellsOf t := by
  obtain ⟨_, _, _, _, hl, _⟩ := DataW.trod_struct hu h
  exact hl
theorem cat_cells {cs l r : List Value} {o s : Nat} (h : (cs.drop o).take s = l) (k : cs.drop (o + s) = r) : cs.drop o = l ++ r := by
  rw [← h, ← k, ← List.drop_drop]
  exact (List.take_append_drop s _).symm
theorem no_cells {cs : List Value} {o : Nat} (h : cs.length = o) : cs.drop o = [] := List.drop_eq_nil_of_le (by omega)
/-- Behind the call nothing that was there has turned. -/
theorem Cn.below {g : FuncId} {vs : List Value} {w : World} {r : Bool} (h : Cn P g vs (fun _ _ => False) w [] (fun _ : Unit => .bool r) (fun _ => []) (fun _ => []) (fun _ => [])) : Calls P g vs.toArray w fun e w' => e = .returned (.bool r) ∧ Below w.heap.size w w' :=
  Calls.mono h (fun e w' ⟨_, he, hS⟩ => ⟨he, hS.keep.below⟩)
theorem St.begin {w : World} {φ : List (World → Prop)} (h : AllF (fun _ _ => False) w φ) : St (fun _ _ => False) w [] [] [] [] φ w := St.start (fun b o hx => hx.elim) (fun f hf => h.at_ hf)
end
end Go.Hw
