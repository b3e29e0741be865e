/- Disks: they stay right; what stands in them. -/
import Derived.Test.YtkcpbehgjbionaaDisk2
set_option linter.unusedVariables false
set_option linter.unusedSimpArgs false
namespace Go.Proofs.Ytkcpbehgjbionaa.Pure
open Go Go.RowKit Go.Hw Go.Proofs.Ytkcpbehgjbionaa.G
theorem step1 {i : Nat} (h : i < 1000000000) : IntKind.wrap .i64 ((i : Int) + 1) = ((i + 1 : Nat) : Int) := by rw [wrapI (by omega) (by omega)]; omega
/-! A disk stays right. -/
theorem key_of {x : S70} {n : ByteArray} (h : x.f0 = n) : key x = n.toList := congrArg _ h
theorem RD_repl {l : List S70} (h : RD l) {n : ByteArray} {x : S70} (hk : key x = n.toList) (hx : okF x) (hm : mi n.toList l = [] → l.length < 40) : RD (repl l n x) := by
  obtain ⟨p, m, q, e1, e2, e3, e, hp, hq, hc⟩ := split h n.toList
  have hlen := congrArg List.length e
  simp only [List.length_append] at hlen
  have hl := h.len
  refine RD_join h (.inr ⟨x, rfl, hk, hx⟩) ?_
  rw [e1, e3, List.length_singleton]
  rcases hc with rfl | ⟨y, rfl, _⟩
  · have := hm e2
    simp only [List.length_nil] at hlen
    omega
  · simp only [List.length_singleton] at hlen
    omega
theorem mi_ok {l : List S70} (h : RD l) {n : List UInt8} {x : S70} {r : List S70} (e : mi n l = x :: r) : key x = n ∧ okF x :=
  ⟨mi_key (l := l) (by rw [e]; exact List.mem_cons_self), h.ok _ (mi_mem (n := n) (by rw [e]; exact List.mem_cons_self))⟩
theorem RD_put {l : List S70} (h : RD l) (n : ByteArray) (b : List Int) : RD (putS l n b).1 := by
  unfold putS
  by_cases hn : Nm n
  · have hnn : ¬ ¬ Nm n := fun k => k hn
    rw [if_neg hnn]
    have hl := h.len
    split
    · rename_i e
      by_cases c : l.length = 40 ∨ 20000 < b.length
      · rw [if_pos c]; exact h
      · rw [if_neg c]
        exact RD_repl h rfl ⟨hn, by show b.length ≤ 20000; omega, Int.le_refl 0, by show (0 : Int) ≤ (b.length : Int); omega⟩ (fun _ => by omega)
    · rename_i x r e
      by_cases c : 20000 < x.f1.length + b.length
      · rw [if_pos c]; exact h
      · rw [if_neg c]
        obtain ⟨hk, ho⟩ := mi_ok h e
        refine RD_repl h hk ⟨ho.1, ?_, ho.2.2.1, ?_⟩ (fun k => by rw [e] at k; cases k)
        · show (x.f1 ++ b).length ≤ 20000
          rw [List.length_append]; omega
        · show x.f2 ≤ ((x.f1 ++ b).length : Int)
          have := ho.2.2.2
          rw [List.length_append]; omega
  · rw [if_pos hn]; exact h
theorem RD_sync {l : List S70} (h : RD l) (n : ByteArray) : RD (syncS l n).1 := by
  unfold syncS
  split
  · exact h
  · rename_i x r e
    obtain ⟨hk, ho⟩ := mi_ok h e
    exact RD_repl h hk ⟨ho.1, ho.2.1, by show (0 : Int) ≤ (x.f1.length : Int); omega, Int.le_refl _⟩ (fun k => by rw [e] at k; cases k)
theorem RD_cut {l : List S70} (h : RD l) (n : ByteArray) (c : Int) : RD (cutS l n c).1 := by
  unfold cutS
  split
  · exact h
  · rename_i x r e
    obtain ⟨hk, ho⟩ := mi_ok h e
    by_cases c1 : c < 0 ∨ (x.f1.length : Int) < c
    · rw [if_pos c1]; exact h
    · rw [if_neg c1]
      have o1 := ho.2.1
      refine RD_repl h hk ⟨ho.1, ?_, ?_, ?_⟩ (fun k => by rw [e] at k; cases k)
      · show (x.f1.take c.toNat).length ≤ 20000
        rw [List.length_take]; omega
      · show 0 ≤ c
        omega
      · show c ≤ ((x.f1.take c.toNat).length : Int)
        rw [List.length_take]; omega
theorem RD_drop {l : List S70} (h : RD l) (n : ByteArray) : RD (dropS l n).1 := by
  unfold dropS
  split
  · exact h
  · have h1 := RD_join h (n := n.toList) (m := []) (.inl rfl) (by
      have hl := h.len
      have hlen := congrArg List.length (parts h.srt n.toList).1
      simp only [List.length_append] at hlen
      simp only [List.length_nil]
      omega)
    rwa [List.append_nil] at h1
theorem crash_ok {x : S70} (ho : okF x) (k : Option Int) : okF (crashF x k) := by
  obtain ⟨k1, k2⟩ := kept_le ho k
  have o1 := ho.2.1
  refine ⟨ho.1, ?_, ?_, ?_⟩
  · show (x.f1.take (kept x k)).length ≤ 20000
    rw [List.length_take]; omega
  · show (0 : Int) ≤ ((kept x k : Nat) : Int)
    omega
  · show ((kept x k : Nat) : Int) ≤ ((x.f1.take (kept x k)).length : Int)
    rw [List.length_take]; omega
theorem crash_mem : ∀ {l : List S70} {k : List Int} {y : S70}, y ∈ crashS l k → ∃ x ∈ l, ∃ v, y = crashF x v
  | [], _, y, h => by simp [crashS] at h
  | x :: l, k, y, h => by
    rw [crashS, List.mem_cons] at h
    rcases h with h | h
    · exact ⟨x, List.mem_cons_self, _, h⟩
    · obtain ⟨z, hz, v, e⟩ := crash_mem h
      exact ⟨z, List.mem_cons_of_mem _ hz, v, e⟩
theorem crash_srt : ∀ {l : List S70} {k : List Int}, Srt l → Srt (crashS l k)
  | [], _, h => List.Pairwise.nil
  | x :: l, k, h => by
    obtain ⟨h1, h2⟩ := List.pairwise_cons.1 h
    rw [crashS]
    refine List.pairwise_cons.2 ⟨fun y hy => ?_, crash_srt h2⟩
    obtain ⟨z, hz, v, rfl⟩ := crash_mem hy
    exact h1 z hz
theorem RD_crash {l : List S70} (h : RD l) (k : List Int) : RD (crashS l k) :=
  ⟨by rw [crash_len]; exact h.len, crash_srt h.srt, fun y hy => by obtain ⟨x, hx, v, rfl⟩ := crash_mem hy; exact crash_ok (h.ok x hx) v⟩
theorem own_own (l : List S70) : own (own l) = own l := own_of (own_RD l)
theorem repl_parts {l : List S70} (h : Srt l) {n : ByteArray} {x : S70} (hk : key x = n.toList) : lo n.toList (repl l n x) = lo n.toList l ∧ mi n.toList (repl l n x) = [x] ∧ hi n.toList (repl l n x) = hi n.toList l :=
  parts_of (fun y hy => lo_bl hy) (fun y hy => by rw [List.mem_singleton.1 hy]; exact hk) (fun y hy => hi_bl hy)
theorem drop_parts {l : List S70} (n : List UInt8) : lo n (lo n l ++ hi n l) = lo n l ∧ mi n (lo n l ++ hi n l) = [] ∧ hi n (lo n l ++ hi n l) = hi n l := by
  have := parts_of (n := n) (p := lo n l) (m := []) (q := hi n l) (fun y hy => lo_bl hy) (by simp) (fun y hy => hi_bl hy)
  rwa [List.append_nil] at this
theorem mi_append (m : List UInt8) (a b : List S70) : mi m (a ++ b) = mi m a ++ mi m b := List.filter_append ..
theorem mi_other {l : List S70} (h : Srt l) {n m : List UInt8} (hne : m ≠ n) {r : List S70} (hr : ∀ x ∈ r, key x = n) : mi m (lo n l ++ r ++ hi n l) = mi m l := by
  have no : ∀ {s : List S70}, (∀ x ∈ s, key x = n) → mi m s = [] := fun hs => List.filter_eq_nil_iff.2 (fun x hx => by
    rw [hs x hx]
    simpa using hne.symm)
  conv => rhs; rw [(parts h n).1]
  rw [mi_append, mi_append, mi_append, mi_append, no hr, no (fun x hx => mi_key (l := l) hx)]
theorem get_repl {l : List S70} (h : Srt l) {n : ByteArray} {x : S70} (hk : key x = n.toList) : getS (repl l n x) n = (x.f1, 0) := by
  unfold getS
  rw [(repl_parts h hk).2.1]
theorem get_repl' {l : List S70} (h : Srt l) {n m : ByteArray} {x : S70} (hk : key x = n.toList) (hne : m.toList ≠ n.toList) : getS (repl l n x) m = getS l m := by
  unfold getS repl
  rw [mi_other h hne (fun y hy => by rw [List.mem_singleton.1 hy]; exact hk)]
theorem get_drop {l : List S70} (n : ByteArray) : getS (lo n.toList l ++ hi n.toList l) n = ([], 4) := by
  unfold getS
  rw [(drop_parts n.toList).2.1]
theorem get_drop' {l : List S70} (h : Srt l) {n m : ByteArray} (hne : m.toList ≠ n.toList) : getS (lo n.toList l ++ hi n.toList l) m = getS l m := by
  have := mi_other h hne (r := []) (by simp)
  rw [List.append_nil] at this
  unfold getS
  rw [this]
end Go.Proofs.Ytkcpbehgjbionaa.Pure
