/- Small facts on whole numbers, lists and strings, for the plain functions. -/
import Derived.Test.YtkcpbehgjbionaaG2
set_option linter.unusedVariables false
set_option linter.unusedSimpArgs false
namespace Go.Proofs.Ytkcpbehgjbionaa.Pure
open Go Go.RowKit Go.Hw Go.Proofs.Ytkcpbehgjbionaa.G
theorem wrapI {x : Int} (h1 : -9223372036854775808 ≤ x) (h2 : x ≤ 9223372036854775807) : IntKind.wrap .i64 x = x := by
  simp only [IntKind.wrap, IntKind.signed, IntKind.bits]
  simp
  omega
theorem wrapU {x : Int} (h1 : 0 ≤ x) (h2 : x ≤ 18446744073709551615) : IntKind.wrap .u64 x = x := by
  simp only [IntKind.wrap, IntKind.signed, IntKind.bits]
  simp
  omega
theorem wrapU32 {x : Int} (h1 : 0 ≤ x) (h2 : x ≤ 4294967295) : IntKind.wrap .u32 x = x := by
  simp only [IntKind.wrap, IntKind.signed, IntKind.bits]
  simp
  omega
theorem wrapU8 {x : Int} : IntKind.wrap .u8 x = x % 256 := by
  simp only [IntKind.wrap, IntKind.signed, IntKind.bits]
  simp
theorem bd64 {n : Int} (h : (Lit.int .i64 n).wf = true) : -9223372036854775808 ≤ n ∧ n ≤ 9223372036854775807 := by
  simp only [Lit.wf, IntKind.min, IntKind.max, IntKind.signed, IntKind.bits, Bool.and_eq_true, decide_eq_true_eq] at h
  simpa using h
theorem bd8 {n : Int} (h : (Lit.int .u8 n).wf = true) : 0 ≤ n ∧ n ≤ 255 := by
  simp only [Lit.wf, IntKind.min, IntKind.max, IntKind.signed, IntKind.bits, Bool.and_eq_true, decide_eq_true_eq] at h
  simpa using h
theorem idxN {α : Type} {xs : List α} {i : Nat} : idxO xs (i : Int) = xs[i]? := by simp [idxO]
theorem appN {α : Type} {b : Nat} {xs ys : List α} (h : (xs.length + ys.length) * b ≤ 140737488355328) : appO b xs ys = some (xs ++ ys) := by simp only [appO, h, if_true]
theorem condB {α : Type} {x y : Int} {a b : α} : cond (x == y) a b = if x = y then a else b := by
  rw [Bool.cond_eq_ite]; simp
theorem condN {α : Type} {x y : Int} {a b : α} : cond (x != y) a b = if x = y then b else a := by
  rw [Bool.cond_eq_ite]; by_cases h : x = y <;> simp [h]
theorem condD {α : Type} {p : Prop} [Decidable p] {a b : α} : cond (decide p) a b = if p then a else b := by
  by_cases h : p <;> simp [h]
theorem condNot {α : Type} {c : Bool} {a b : α} : cond (!c) a b = cond c b a := by cases c <;> rfl
theorem cutN {α : Type} {xs : List α} {lo hi : Nat} (h : lo ≤ hi ∧ hi ≤ xs.length) : cutO xs (lo : Int) (hi : Int) = some ((xs.take hi).drop lo) := by
  unfold cutO
  rw [if_pos (by omega)]
  simp [cutL]
/-- Strings and their bytes. -/
def Bytes (l : List Int) : Prop := ∀ x ∈ l, 0 ≤ x ∧ x ≤ 255
theorem Bytes.of_wf {l : List Int} (h : ∀ x ∈ l, (Lit.int .u8 x).wf = true) : Bytes l := fun x hx => bd8 (h x hx)
theorem Bytes.append {l m : List Int} (h : Bytes l) (k : Bytes m) : Bytes (l ++ m) := fun x hx => (List.mem_append.1 hx).elim (h x) (k x)
theorem Bytes.take {l : List Int} (h : Bytes l) (n : Nat) : Bytes (l.take n) := fun x hx => h x (List.mem_of_mem_take hx)
theorem Bytes.drop {l : List Int} (h : Bytes l) (n : Nat) : Bytes (l.drop n) := fun x hx => h x (List.mem_of_mem_drop hx)
theorem Bytes.nil : Bytes [] := fun x hx => by simp at hx
theorem Bytes.left {l m : List Int} (h : Bytes (l ++ m)) : Bytes l := fun x hx => h x (List.mem_append_left _ hx)
theorem Bytes.right {l m : List Int} (h : Bytes (l ++ m)) : Bytes m := fun x hx => h x (List.mem_append_right _ hx)
theorem strOf_toList (l : List Int) : (strOfNums l).toList = l.map (fun n => UInt8.ofNat n.toNat) := by simp [strOfNums, ByteArray.toList_eq]
theorem byte_inj {x y : Int} (hx : 0 ≤ x ∧ x ≤ 255) (hy : 0 ≤ y ∧ y ≤ 255) (h : UInt8.ofNat x.toNat = UInt8.ofNat y.toNat) : x = y := by
  have := congrArg UInt8.toNat h
  simp only [UInt8.toNat_ofNat'] at this
  omega
theorem map_inj : ∀ {l m : List Int}, Bytes l → Bytes m → l.map (fun n => UInt8.ofNat n.toNat) = m.map (fun n => UInt8.ofNat n.toNat) → l = m
  | [], [], _, _, _ => rfl
  | [], y :: m, _, _, h => by simp at h
  | x :: l, [], _, _, h => by simp at h
  | x :: l, y :: m, hl, hm, h => by
    simp only [List.map_cons, List.cons.injEq] at h
    rw [byte_inj (hl x List.mem_cons_self) (hm y List.mem_cons_self) h.1, map_inj (fun z hz => hl z (List.mem_cons_of_mem _ hz)) (fun z hz => hm z (List.mem_cons_of_mem _ hz)) h.2]
theorem strEq {l m : List Int} (hl : Bytes l) (hm : Bytes m) : ((strOfNums l).toList == (strOfNums m).toList) = decide (l = m) := by
  by_cases h : l = m
  · subst h; simp
  · rw [decide_eq_false h]
    have : ¬ (strOfNums l).toList = (strOfNums m).toList := fun e => h (map_inj hl hm (by rwa [strOf_toList, strOf_toList] at e))
    simpa using this
theorem strEq' {l m : List Int} (h : l = m) : ((strOfNums l).toList == (strOfNums m).toList) = true := by subst h; simp
theorem numsOf_strOf {l : List Int} (hl : Bytes l) : numsOf (strOfNums l) = l := by
  have : numsOf (strOfNums l) = (strOfNums l).toList.map (fun b => (b.toNat : Int)) := by simp [numsOf, ByteArray.toList_eq]
  rw [this, strOf_toList, List.map_map]
  conv => rhs; rw [← List.map_id l]
  refine List.map_congr_left (fun x hx => ?_)
  have := hl x hx
  simp only [Function.comp, UInt8.toNat_ofNat', id]
  omega
theorem numsOf_length (s : ByteArray) : (numsOf s).length = s.size := by simp [numsOf]
theorem numsOf_bytes (s : ByteArray) : Bytes (numsOf s) := by
  intro x hx
  obtain ⟨b, _, rfl⟩ := List.mem_map.1 hx
  have := b.toNat_lt
  omega
theorem strOf_numsOf (s : ByteArray) : strOfNums (numsOf s) = s := by
  have h : (strOfNums (numsOf s)).toList = s.toList := by
    rw [strOf_toList]
    simp only [numsOf, ByteArray.toList_eq, List.map_map]
    conv => rhs; rw [← List.map_id s.data.toList]
    refine List.map_congr_left (fun b _ => ?_)
    simp
  rw [ByteArray.toList_eq, ByteArray.toList_eq] at h
  cases s
  cases hh : strOfNums _ with | _ d => ?_
  simp_all
end Go.Proofs.Ytkcpbehgjbionaa.Pure
