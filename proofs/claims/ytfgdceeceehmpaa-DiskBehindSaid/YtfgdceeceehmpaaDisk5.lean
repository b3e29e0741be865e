/- Disks, in plain Lean: what stands in a disk behind something was done. -/
import Derived.Test.YtfgdceeceehmpaaDisk4
set_option linter.unusedVariables false
set_option linter.unusedSimpArgs false
namespace Go.Proofs.Ytfgdceeceehmpaa.Pure
open Go Go.RowKit Go.Hw Go.Proofs.Ytfgdceeceehmpaa.G
theorem knows_f : ∃ K, 30000 ≤ K ∧ haywainlaw13_knows.f K = some true := ⟨30000, Nat.le_refl _, by kernel_rfl⟩
theorem own_own (l : List S43) : own (own l) = own l := own_of (own_RD l)
theorem repl_parts {l : List S43} (h : Srt l) {n : ByteArray} {x : S43} (hk : key x = n.toList) : lo n.toList (repl l n x) = lo n.toList l ∧ mi n.toList (repl l n x) = [x] ∧ hi n.toList (repl l n x) = hi n.toList l :=
  parts_of (fun y hy => lo_bl hy) (fun y hy => by rw [List.mem_singleton.1 hy]; exact hk) (fun y hy => hi_bl hy)
theorem drop_parts {l : List S43} (n : List UInt8) : lo n (lo n l ++ hi n l) = lo n l ∧ mi n (lo n l ++ hi n l) = [] ∧ hi n (lo n l ++ hi n l) = hi n l := by
  have := parts_of (n := n) (p := lo n l) (m := []) (q := hi n l) (fun y hy => lo_bl hy) (by simp) (fun y hy => hi_bl hy)
  rwa [List.append_nil] at this
theorem mi_append (m : List UInt8) (a b : List S43) : mi m (a ++ b) = mi m a ++ mi m b := List.filter_append ..
theorem mi_other {l : List S43} (h : Srt l) {n m : List UInt8} (hne : m ≠ n) {r : List S43} (hr : ∀ x ∈ r, key x = n) : mi m (lo n l ++ r ++ hi n l) = mi m l := by
  have no : ∀ {s : List S43}, (∀ x ∈ s, key x = n) → mi m s = [] := fun hs => List.filter_eq_nil_iff.2 (fun x hx => by
    rw [hs x hx]
    simpa using hne.symm)
  conv => rhs; rw [(parts h n).1]
  rw [mi_append, mi_append, mi_append, mi_append, no hr, no (fun x hx => mi_key (l := l) hx)]
theorem get_repl {l : List S43} (h : Srt l) {n : ByteArray} {x : S43} (hk : key x = n.toList) : getS (repl l n x) n = (x.f1, 0) := by
  unfold getS
  rw [(repl_parts h hk).2.1]
theorem get_repl' {l : List S43} (h : Srt l) {n m : ByteArray} {x : S43} (hk : key x = n.toList) (hne : m.toList ≠ n.toList) : getS (repl l n x) m = getS l m := by
  unfold getS repl
  rw [mi_other h hne (fun y hy => by rw [List.mem_singleton.1 hy]; exact hk)]
theorem get_drop {l : List S43} (n : ByteArray) : getS (lo n.toList l ++ hi n.toList l) n = ([], 4) := by
  unfold getS
  rw [(drop_parts n.toList).2.1]
theorem get_drop' {l : List S43} (h : Srt l) {n m : ByteArray} (hne : m.toList ≠ n.toList) : getS (lo n.toList l ++ hi n.toList l) m = getS l m := by
  have := mi_other h hne (r := []) (by simp)
  rw [List.append_nil] at this
  unfold getS
  rw [this]
/-- What is done to a disk. -/
noncomputable def doS (l : List S43) (a : S52) : List S43 × Int :=
  if a.f0 = 0 then putS (own l) a.f2 a.f3 else if a.f0 = 1 then syncS (own l) a.f2 else if a.f0 = 2 then cutS (own l) a.f2 a.f1 else if a.f0 = 3 then dropS (own l) a.f2 else (crashS (own l) a.f4, 0)
theorem RD_do (l : List S43) (a : S52) : RD (doS l a).1 := by
  have h := own_RD l
  unfold doS
  split
  · exact RD_put h _ _
  · split
    · exact RD_sync h _
    · split
      · exact RD_cut h _ _
      · split
        · exact RD_drop h _
        · exact RD_crash h _
theorem wide_f {K : Nat} {a : S52} : ∃ w, haywainlaw13_Act_wide.f K a = some w ∧ (w = false → a.f3.length ≤ 30000 ∧ a.f4.length ≤ 100) := by
  rw [haywainlaw13_Act_wide.f]
  simp only [condD]
  split
  · exact ⟨_, rfl, fun h => by cases h⟩
  · split
    · exact ⟨_, rfl, fun h => by cases h⟩
    · rename_i h1 h2
      refine ⟨_, rfl, fun h => ?_⟩
      have := of_decide_eq_false h
      omega
section
variable {K : Nat} {l : List S43} {a : S52} (hl : l.length ≤ 1000) (hK : 30000 ≤ K) (h1 : a.f3.length ≤ 30000) (h2 : a.f4.length ≤ 100)
include hl hK h1 h2
theorem do_f : haywainlaw13_do.f K ⟨l⟩ a = some (⟨(doS l a).1⟩, (doS l a).2) := by
  have hK2 : 2000 ≤ K := by omega
  have ha : appO 1 ([] : List Int) a.f3 = some a.f3 := by rw [appN (by simp only [List.length_nil]; omega)]; rfl
  rw [haywainlaw13_do.f]
  simp only [condB, ha, List.nil_append, Option.bind_some, put_f hl hK2 (show a.f3.length ≤ 1000000000 by omega), sync_f hl hK2, cut_f hl hK2, drop_f hl hK2, crash_f hl hK2 (show a.f4.length ≤ 1000000 by omega)]
  unfold doS
  split
  · rfl
  · split
    · rfl
    · split
      · rfl
      · split <;> rfl
theorem does_f : haywainlaw13_does.f K (A l) a = some (A (doS l a).1, (doS l a).2) := by
  have hK2 : 2000 ≤ K := by omega
  rw [haywainlaw13_does.f]
  simp only [condB, Option.bind_some, rput_f hl hK2 (show a.f3.length ≤ 1000000000 by omega), rsync_f hl hK2, rcut_f hl hK2, rdrop_f hl hK2, rcrash_f hl hK (show a.f4.length ≤ 1000000 by omega)]
  unfold doS
  split
  · rfl
  · split
    · rfl
    · split
      · rfl
      · split <;> rfl
end
end Go.Proofs.Ytfgdceeceehmpaa.Pure
