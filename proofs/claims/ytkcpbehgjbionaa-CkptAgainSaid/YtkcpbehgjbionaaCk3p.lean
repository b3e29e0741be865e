/- Checkpoints, in plain Lean: what is looked up in a disk, behind changes, a crash and an opening. -/
import Derived.Test.YtkcpbehgjbionaaCk0
set_option linter.unusedVariables false
set_option linter.unusedSimpArgs false
namespace Go.Proofs.Ytkcpbehgjbionaa.Pure
open Go Go.RowKit Go.Hw Go.Proofs.Ytkcpbehgjbionaa.G
def look (l : List S70) (n : ByteArray) : Option S70 := (mi n.toList l).head?
theorem look_none {l : List S70} {n : ByteArray} : look l n = none ↔ mi n.toList l = [] := by unfold look; simp
theorem look_some {l : List S70} (h : RD l) {n : ByteArray} {x : S70} (e : look l n = some x) : mi n.toList l = [x] ∧ x.f0 = n ∧ x ∈ l ∧ okF x := by
  unfold look at e
  rcases (parts h.srt n.toList).2 with hm | ⟨y, hm, hk⟩
  · rw [hm] at e; cases e
  · rw [hm] at e
    obtain rfl := Option.some.inj e
    have hmem : y ∈ l := mi_mem (n := n.toList) (by rw [hm]; exact List.mem_cons_self)
    exact ⟨hm, toList_inj hk, hmem, h.ok y hmem⟩
theorem look_of_mem {l : List S70} (h : RD l) {x : S70} (hx : x ∈ l) : look l x.f0 = some x := by
  have hm : x ∈ mi x.f0.toList l := List.mem_filter.2 ⟨hx, by simp [key]⟩
  rcases (parts h.srt x.f0.toList).2 with hm' | ⟨y, hm', hk⟩
  · rw [hm'] at hm; cases hm
  · unfold look
    rw [hm'] at hm ⊢
    rw [List.mem_singleton.1 hm]
    rfl
theorem getB_look {l : List S70} {n : ByteArray} : getB l n = ((look l n).map (·.f1)).getD [] := by
  unfold getB getS look
  cases mi n.toList l <;> rfl
theorem getB_some {l : List S70} {n : ByteArray} {x : S70} (e : look l n = some x) : getB l n = x.f1 := by rw [getB_look, e]; rfl
theorem getB_none {l : List S70} {n : ByteArray} (e : look l n = none) : getB l n = [] := by rw [getB_look, e]; rfl
theorem look_repl {l : List S70} (h : RD l) {n : ByteArray} {x : S70} (hx : x.f0 = n) : look (repl l n x) n = some x := by
  unfold look
  rw [(repl_parts h.srt (congrArg _ hx : key x = n.toList)).2.1]
  rfl
theorem look_repl' {l : List S70} (h : RD l) {n m : ByteArray} {x : S70} (hx : x.f0 = n) (hne : m.toList ≠ n.toList) : look (repl l n x) m = look l m := by
  unfold look repl
  rw [mi_other h.srt hne (fun y hy => by rw [List.mem_singleton.1 hy]; exact congrArg _ hx)]
def dropL (l : List S70) (n : ByteArray) : List S70 := lo n.toList l ++ hi n.toList l
theorem look_drop (l : List S70) (n : ByteArray) : look (dropL l n) n = none := by
  rw [look_none]
  exact (drop_parts n.toList).2.1
theorem look_drop' {l : List S70} (h : RD l) {n m : ByteArray} (hne : m.toList ≠ n.toList) : look (dropL l n) m = look l m := by
  have := mi_other h.srt hne (r := []) (by simp)
  rw [List.append_nil] at this
  unfold look dropL
  rw [this]
theorem len_parts {l : List S70} (h : RD l) (n : ByteArray) : l.length = (lo n.toList l).length + (mi n.toList l).length + (hi n.toList l).length := by
  have := congrArg List.length (parts h.srt n.toList).1
  simp only [List.length_append] at this
  exact this
theorem len_new {l : List S70} (h : RD l) {n : ByteArray} {x : S70} (e : look l n = none) : (repl l n x).length = l.length + 1 := by
  have := len_parts h n
  rw [look_none.1 e] at this
  simp only [repl, List.length_append, List.length_singleton, List.length_nil] at this ⊢
  omega
theorem len_old {l : List S70} (h : RD l) {n : ByteArray} {x y : S70} (e : look l n = some y) : (repl l n x).length = l.length := by
  have := len_parts h n
  rw [(look_some h e).1] at this
  simp only [repl, List.length_append, List.length_singleton] at this ⊢
  omega
theorem len_drop {l : List S70} (h : RD l) (n : ByteArray) : (dropL l n).length ≤ l.length := by
  have := len_parts h n
  simp only [dropL, List.length_append]
  omega
theorem RD_dropL {l : List S70} (h : RD l) (n : ByteArray) : RD (dropL l n) := by
  have := RD_drop h n
  unfold dropS at this
  cases hm : mi n.toList l with
  | nil =>
    have e := (parts h.srt n.toList).1
    rw [hm, List.append_nil] at e
    unfold dropL
    rw [← e]
    exact h
  | cons x r => rw [hm] at this; exact this
/-! One change. -/
theorem doC_one (l : List S70) (n : ByteArray) (b : List Int) : doC l ⟨1, n, b⟩ = dropS (own l) n := by simp [doC]
theorem doC_two (l : List S70) (n : ByteArray) (b : List Int) : doC l ⟨2, n, b⟩ = putS (own l) n b := by simp [doC]
theorem doC_three (l : List S70) (n : ByteArray) (b : List Int) : doC l ⟨3, n, b⟩ = syncS (own l) n := by simp [doC]
section
variable {l : List S70} (h : RD l) {n : ByteArray}
include h
theorem doC_new (hn : Nm n) {b : List Int} (e : look l n = none) (hl : l.length < 40) (hb : b.length ≤ 20000) : doC l ⟨2, n, b⟩ = (repl l n ⟨n, b, 0⟩, 0) ∧ RD (repl l n ⟨n, b, 0⟩) := by
  have hd : doC l ⟨2, n, b⟩ = (repl l n ⟨n, b, 0⟩, 0) := by
    rw [doC_two, own_of h]
    unfold putS
    have hnn : ¬ ¬ Nm n := fun k => k hn
    rw [if_neg hnn, look_none.1 e]
    simp only
    rw [if_neg (by omega)]
  refine ⟨hd, ?_⟩
  have := RD_put h n b
  rw [doC_two, own_of h] at hd
  rw [hd] at this
  exact this
theorem doC_old (hn : Nm n) {b : List Int} {x : S70} (e : look l n = some x) (hb : x.f1.length + b.length ≤ 20000) : doC l ⟨2, n, b⟩ = (repl l n ⟨n, x.f1 ++ b, x.f2⟩, 0) ∧ RD (repl l n ⟨n, x.f1 ++ b, x.f2⟩) := by
  obtain ⟨hm, hx, _, _⟩ := look_some h e
  have hd : doC l ⟨2, n, b⟩ = (repl l n ⟨n, x.f1 ++ b, x.f2⟩, 0) := by
    rw [doC_two, own_of h]
    unfold putS
    have hnn : ¬ ¬ Nm n := fun k => k hn
    rw [if_neg hnn, hm]
    simp only
    rw [if_neg (by omega), hx]
  refine ⟨hd, ?_⟩
  have := RD_put h n b
  rw [doC_two, own_of h] at hd
  rw [hd] at this
  exact this
theorem doC_sync {x : S70} {b : List Int} (e : look l n = some x) : doC l ⟨3, n, b⟩ = (repl l n ⟨n, x.f1, x.f1.length⟩, 0) ∧ RD (repl l n ⟨n, x.f1, x.f1.length⟩) := by
  obtain ⟨hm, hx, _, _⟩ := look_some h e
  have hd : doC l ⟨3, n, b⟩ = (repl l n ⟨n, x.f1, x.f1.length⟩, 0) := by
    rw [doC_three, own_of h]
    unfold syncS
    rw [hm]
    simp only
    rw [hx]
  refine ⟨hd, ?_⟩
  have := RD_sync h n
  rw [doC_three, own_of h] at hd
  rw [hd] at this
  exact this
theorem doC_drop {x : S70} {b : List Int} (e : look l n = some x) : doC l ⟨1, n, b⟩ = (dropL l n, 0) := by
  obtain ⟨hm, hx, _, _⟩ := look_some h e
  rw [doC_one, own_of h]
  unfold dropS
  rw [hm]
  rfl
end
/-! Several changes. -/
noncomputable def stepsF (l : List S70) (cs : List S48) : List S70 := cs.foldl (fun l c => (doC l c).1) l
def AllOk : List S70 → List S48 → Prop
  | _, [] => True
  | l, c :: cs => (doC l c).2 = 0 ∧ AllOk (doC l c).1 cs
theorem AllOk_append : ∀ (a b : List S48) (l : List S70), AllOk l (a ++ b) ↔ AllOk l a ∧ AllOk (stepsF l a) b
  | [], b, l => by simp [AllOk, stepsF]
  | c :: a, b, l => by
    have := AllOk_append a b (doC l c).1
    show ((doC l c).2 = 0 ∧ AllOk (doC l c).1 (a ++ b)) ↔ ((doC l c).2 = 0 ∧ AllOk (doC l c).1 a) ∧ AllOk (stepsF (doC l c).1 a) b
    rw [this, and_assoc]
theorem stepsF_append (a b : List S48) (l : List S70) : stepsF l (a ++ b) = stepsF (stepsF l a) b := List.foldl_append
theorem doR_steps {fuel : Int} : ∀ (cs : List S48) (n : Nat) (l : List S70), AllOk l cs → ∃ j, j ≤ cs.length ∧ doR fuel n l cs = (stepsF l (cs.take j), n + j) ∧ (((n + cs.length : Nat) : Int) ≤ fuel → j = cs.length) ∧ (j < cs.length → fuel ≤ ((n + j : Nat) : Int))
  | [], n, l, _ => ⟨0, by simp, rfl, fun _ => rfl, fun h => by simp at h⟩
  | c :: cs, n, l, h => by
    obtain ⟨h1, h2⟩ := h
    rw [doR]
    by_cases cf : (n : Int) < fuel
    · obtain ⟨j, k1, k2, k3, k4⟩ := doR_steps (fuel := fuel) cs (n + 1) (doC l c).1 h2
      refine ⟨j + 1, by simp only [List.length_cons]; omega, ?_, fun hf => ?_, fun hj => ?_⟩
      · rw [if_pos cf, if_pos h1, k2, show n + (j + 1) = n + 1 + j by omega]
        rfl
      · simp only [List.length_cons] at hf ⊢
        have := k3 (by omega)
        omega
      · simp only [List.length_cons] at hj
        have := k4 (by omega)
        omega
    · refine ⟨0, by omega, ?_, fun hf => ?_, fun _ => by omega⟩
      · rw [if_neg cf]; rfl
      · simp only [List.length_cons] at hf ⊢; omega
/-! A crash. -/
def Sf (x : S70) : Prop := x.f2 = x.f1.length
theorem crash_sf {x : S70} (ho : okF x) (hs : Sf x) (k : Option Int) : crashF x k = x := by
  obtain ⟨h1, h2⟩ := kept_le ho k
  unfold Sf at hs
  have : kept x k = x.f1.length := by omega
  unfold crashF
  rw [this, List.take_length, ← hs]
theorem crash_key (x : S70) (k : Option Int) : key (crashF x k) = key x := rfl
theorem mi_crash (n : List UInt8) : ∀ (l : List S70) (keep : List Int), (mi n l = [] → mi n (crashS l keep) = []) ∧ ∀ x, mi n l = [x] → ∃ k, mi n (crashS l keep) = [crashF x k]
  | [], keep => ⟨fun _ => rfl, fun x h => by cases h⟩
  | y :: l, keep => by
    obtain ⟨i1, i2⟩ := mi_crash n l keep.tail
    have e : mi n (y :: l) = if key y == n then y :: mi n l else mi n l := by
      show List.filter _ _ = _
      rw [List.filter_cons]
      rfl
    have e' : mi n (crashS (y :: l) keep) = if key y == n then crashF y keep[0]? :: mi n (crashS l keep.tail) else mi n (crashS l keep.tail) := by
      show List.filter _ (crashF y keep[0]? :: crashS l keep.tail) = _
      rw [List.filter_cons]
      rfl
    rw [e, e']
    by_cases c : (key y == n) = true
    · rw [if_pos c, if_pos c]
      refine ⟨fun h => (by cases h), fun x h => ?_⟩
      have h1 := (List.cons.inj h).1
      have h2 := (List.cons.inj h).2
      subst h1
      exact ⟨keep[0]?, by rw [i1 h2]⟩
    · rw [if_neg c, if_neg c]
      exact ⟨i1, i2⟩
theorem look_crash_none {l : List S70} {n : ByteArray} (keep : List Int) (e : look l n = none) : look (crashS l keep) n = none := by
  rw [look_none] at e ⊢
  exact (mi_crash n.toList l keep).1 e
theorem look_crash {l : List S70} (h : RD l) {n : ByteArray} {x : S70} (keep : List Int) (e : look l n = some x) : ∃ k, look (crashS l keep) n = some (crashF x k) := by
  obtain ⟨k, hk⟩ := (mi_crash n.toList l keep).2 x (look_some h e).1
  exact ⟨k, by unfold look; rw [hk]; rfl⟩
theorem look_crash_sf {l : List S70} (h : RD l) {n : ByteArray} {x : S70} (keep : List Int) (e : look l n = some x) (hs : Sf x) : look (crashS l keep) n = some x := by
  obtain ⟨k, hk⟩ := look_crash h keep e
  rw [hk, crash_sf (look_some h e).2.2.2 hs]
theorem BD_crash {l : List S70} (h : BD l) (keep : List Int) : BD (crashS l keep) := by
  intro y hy
  obtain ⟨x, hx, k, rfl⟩ := crash_mem hy
  exact (h x hx).take _
/-! The list's frames. -/
def W (ns : List Nat) : List Int := ns.flatMap (fun n : Nat => markB (n : Int))
theorem W_append (a b : List Nat) : W (a ++ b) = W a ++ W b := List.flatMap_append
theorem W_one (n : Nat) : W [n] = markB (n : Int) := by simp [W]
theorem markB_len (n : Int) : (markB n).length = 16 := by rw [markB, frameS_length]; rfl
theorem markB_bytes (n : Int) : Bytes (markB n) := frameS_bytes (be8_bytes n)
theorem W_len : ∀ ns : List Nat, (W ns).length = 16 * ns.length
  | [] => rfl
  | n :: ns => by
    show (markB (n : Int) ++ W ns).length = _
    rw [List.length_append, markB_len, W_len ns, List.length_cons]; omega
theorem W_bytes : ∀ ns : List Nat, Bytes (W ns)
  | [] => Bytes.nil
  | n :: ns => (markB_bytes n).append (W_bytes ns)
def Up : Nat → List Nat → Prop
  | _, [] => True
  | a, n :: ns => a < n ∧ n ≤ 1099511627776 ∧ Up n ns
def lastN (a : Nat) (ns : List Nat) : Nat := ns.getLast?.getD a
theorem lastN_cons (a n : Nat) (ns : List Nat) : lastN a (n :: ns) = lastN n ns := by
  unfold lastN
  cases ns <;> simp [List.getLast?_cons]
theorem lastN_snoc (a n : Nat) (ns : List Nat) : lastN a (ns ++ [n]) = n := by simp [lastN]
theorem Up_snoc : ∀ {a : Nat} {ns : List Nat} {n : Nat}, Up a ns → lastN a ns < n → n ≤ 1099511627776 → Up a (ns ++ [n])
  | a, [], n, _, h, h2 => ⟨h, h2, trivial⟩
  | a, m :: ns, n, ⟨h0, h1, h2⟩, h, h3 => ⟨h0, h1, Up_snoc h2 (by rw [lastN_cons] at h; exact h) h3⟩
theorem Up_last : ∀ {a : Nat} {ns : List Nat}, Up a ns → a ≤ 1099511627776 → lastN a ns ≤ 1099511627776 ∧ a ≤ lastN a ns ∧ (ns ≠ [] → a < lastN a ns)
  | a, [], _, h => ⟨h, Nat.le_refl _, fun h => absurd rfl h⟩
  | a, m :: ns, ⟨h0, h1, h2⟩, h => by
    obtain ⟨k1, k2, _⟩ := Up_last h2 h1
    rw [lastN_cons]
    exact ⟨k1, by omega, fun _ => by omega⟩
theorem vn_be8 {n : Nat} (h : n ≤ 1099511627776) : vn (be8 (n : Int)) = n := by
  unfold vn
  rw [val_be8, wrapI (by omega) (by omega)]
  omega
theorem rd_frames {all : Int} {t : List Int} (ht : Bytes t) (h2 : (takeS t).2.2 = 2) : ∀ (ns : List Nat) (a k : Nat), Up a ns → (W ns ++ t).length < k → rdL all k (a : Int) (W ns ++ t) = (((lastN a ns : Nat) : Int), all - t.length, all, true)
  | [], a, k, _, hk => by
    obtain ⟨k, rfl⟩ : ∃ j, k = j + 1 := ⟨k - 1, by omega⟩
    have : (takeS t).2.2 ≠ 0 := by rw [h2]; decide
    show rdL all (k + 1) (a : Int) t = _
    rw [rdL, if_pos this, h2]
    rfl
  | n :: ns, a, k, ⟨g0, g1, g2⟩, hk => by
    obtain ⟨k, rfl⟩ : ∃ j, k = j + 1 := ⟨k - 1, by omega⟩
    have e : W (n :: ns) ++ t = frameS (be8 (n : Int)) ++ (W ns ++ t) := by
      show (markB (n : Int) ++ W ns) ++ t = _
      rw [List.append_assoc]; rfl
    have hb : Bytes (W ns ++ t) := (W_bytes ns).append ht
    have tf := take_frame (be8_bytes (n : Int)) hb (show (be8 (n : Int)).length ≤ 4000 by show 8 ≤ 4000; omega)
    have hlen : (W (n :: ns) ++ t).length = 16 + (W ns ++ t).length := by rw [e, List.length_append, frameS_length]; rfl
    rw [e, rdL, tf]
    simp only
    rw [if_neg (by decide), if_neg (show ¬ (be8 (n : Int)).length ≠ 8 from fun h => h rfl), vn_be8 g1, if_pos ⟨⟨by omega, by omega⟩, by omega⟩, rd_frames ht h2 ns n k g2 (by omega), lastN_cons]
structure Gd (y : List S70) (ns : List Nat) : Prop where
  rd : RD y
  bd : BD y
  up : Up 0 ns
  m : getB y mN = W ns
theorem Gd.rdD {y : List S70} {ns : List Nat} (h : Gd y ns) : rdD y = (((lastN 0 ns : Nat) : Int), ((W ns).length : Int), ((W ns).length : Int), true) := by
  have := rd_frames (all := ((W ns).length : Int)) (t := []) Bytes.nil (by rw [takeS_nil]) ns 0 ((W ns).length + 1) h.up (by rw [List.append_nil]; omega)
  rw [List.append_nil] at this
  unfold Pure.rdD
  rw [h.m]
  refine this.trans ?_
  simp
theorem Gd.last_none {y : List S70} (h : Gd y []) : lastS y = (0, [], 4) := by
  unfold lastS
  rw [h.rdD]
  simp [lastN]
theorem Gd.last_some {y : List S70} {ns : List Nat} (h : Gd y ns) (hne : ns ≠ []) {p : List Int} (hp : Bytes p) (hl : p.length ≤ 4000) (hc : getB y (fn (lastN 0 ns)) = frameS p) : lastS y = (((lastN 0 ns : Nat) : Int), p, 0) := by
  obtain ⟨h1, h2, h3⟩ := Up_last h.up (by omega)
  have h4 := h3 hne
  have tf := take_frame hp Bytes.nil hl
  rw [List.append_nil] at tf
  unfold lastS
  rw [h.rdD]
  simp only
  rw [fileB_of (by omega) h1, hc, tf]
  rw [if_neg (by decide), if_neg (by omega)]
  simp
theorem openS_whole {x : List S70} {ns : List Nat} (h : Gd x ns) : openS x = (x, 0) := by
  unfold openS
  rw [own_of h.rd, h.rdD]
  simp
/-- A crash, where the list was synced. -/
theorem co1 {x : List S70} {ns : List Nat} (h : Gd x ns) (hs : ∀ m, look x mN = some m → Sf m) (keep : List Int) : Gd (crashS x keep) ns := by
  refine ⟨RD_crash h.rd keep, BD_crash h.bd keep, h.up, ?_⟩
  cases e : look x mN with
  | none => rw [getB_none (look_crash_none keep e), ← h.m, getB_none e]
  | some m => rw [getB_some (look_crash_sf h.rd keep e (hs m e)), ← h.m, getB_some e]
/-- A crash, where the list's last frame was not synced. -/
theorem co2 {x : List S70} (hr : RD x) (hb : BD x) {ns : List Nat} {num : Nat} (hu : Up 0 ns) (hlt : lastN 0 ns < num) (hnum : num ≤ 1099511627776) {m : S70} (hm : look x mN = some m) (h1 : m.f1 = W ns ++ markB (num : Int)) (h2 : m.f2 = ((W ns).length : Int)) (keep : List Int) :
    ∃ y, openS (crashS x keep) = (y, 0) ∧ (Gd y ns ∨ Gd y (ns ++ [num])) ∧ (∀ n : ByteArray, n.toList ≠ mN.toList → look y n = look (crashS x keep) n) ∧ y.length = (crashS x keep).length ∧ (∀ m', look y mN = some m' → Sf m') := by
  obtain ⟨k, hk⟩ := look_crash hr keep hm
  obtain ⟨_, hm0, _, hmo⟩ := look_some hr hm
  obtain ⟨q1, q2⟩ := kept_le hmo k
  have hml : m.f1.length = (W ns).length + 16 := by rw [h1, List.length_append, markB_len]
  have hc : crashF m k = ⟨mN, m.f1.take (kept m k), (kept m k : Int)⟩ := by unfold crashF; rw [hm0]
  have hRc := RD_crash hr keep
  have hBc := BD_crash hb keep
  rw [hc] at hk
  have hsf : Sf ⟨mN, m.f1.take (kept m k), (kept m k : Int)⟩ := by
    show ((kept m k : Nat) : Int) = ((m.f1.take (kept m k)).length : Int)
    rw [List.length_take]; omega
  by_cases cfull : kept m k = (W ns).length + 16
  · have hg : Gd (crashS x keep) (ns ++ [num]) := ⟨hRc, hBc, Up_snoc hu hlt hnum, by rw [getB_some hk, W_append, W_one, ← h1]; exact List.take_of_length_le (by omega)⟩
    exact ⟨_, openS_whole hg, .inr hg, fun _ _ => rfl, rfl, fun m' e => by rw [hk] at e; obtain rfl := Option.some.inj e; exact hsf⟩
  · obtain ⟨i, hi⟩ : ∃ i, kept m k = (W ns).length + i := ⟨kept m k - (W ns).length, by omega⟩
    have hi16 : i < 16 := by omega
    have hdat : m.f1.take (kept m k) = W ns ++ (markB (num : Int)).take i := by
      rw [h1, hi, List.take_length_add_append]
    have htl : ((markB (num : Int)).take i).length = i := by rw [List.length_take, markB_len]; omega
    have htc : takeS ((markB (num : Int)).take i) = ([], [], 2) := take_cut (show (be8 (num : Int)).length ≤ 4000 by show 8 ≤ 4000; omega) (by rw [frameS_length]; exact hi16)
    have hrd : rdD (crashS x keep) = (((lastN 0 ns : Nat) : Int), ((W ns).length : Int), ((W ns).length : Int) + i, true) := by
      have hgb : getB (crashS x keep) mN = W ns ++ (markB (num : Int)).take i := by rw [getB_some hk]; exact hdat
      unfold rdD
      rw [hgb]
      refine (rd_frames ((markB_bytes _).take i) (by rw [htc]) ns 0 _ hu (by omega)).trans ?_
      rw [List.length_append, htl]
      simp only [Prod.mk.injEq, true_and, and_true]
      omega
    by_cases ci : i = 0
    · subst ci
      have hg : Gd (crashS x keep) ns := ⟨hRc, hBc, hu, by rw [getB_some hk]; simpa using hdat⟩
      exact ⟨_, openS_whole hg, .inl hg, fun _ _ => rfl, rfl, fun m' e => by rw [hk] at e; obtain rfl := Option.some.inj e; exact hsf⟩
    · have hopen : openS (crashS x keep) = (repl (crashS x keep) mN ⟨mN, W ns, ((W ns).length : Int)⟩, 0) := by
        unfold openS
        rw [own_of hRc, hrd]
        simp only
        rw [if_neg (by decide), if_neg (by omega)]
        unfold cutS
        rw [(look_some hRc hk).1]
        simp only
        rw [if_neg (by rw [List.length_take]; omega), hdat, Int.toNat_natCast, List.take_left]
      have hRD : RD (repl (crashS x keep) mN ⟨mN, W ns, ((W ns).length : Int)⟩) := by
        have := RD_cut hRc mN ((W ns).length : Int)
        unfold cutS at this
        rw [(look_some hRc hk).1] at this
        simp only at this
        rw [if_neg (by rw [List.length_take]; omega), hdat, Int.toNat_natCast, List.take_left] at this
        exact this
      refine ⟨_, hopen, .inl ⟨hRD, ?_, hu, ?_⟩, fun n hn => look_repl' hRc rfl hn, len_old hRc hk, fun m' e => ?_⟩
      · intro y hy
        simp only [repl, List.mem_append, List.mem_singleton] at hy
        rcases hy with (hy | hy) | hy
        · exact hBc y (lo_mem hy)
        · rw [hy]; exact W_bytes ns
        · exact hBc y (hi_mem hy)
      · exact getB_some (look_repl hRc (n := mN) (x := ⟨mN, W ns, ((W ns).length : Int)⟩) rfl)
      · rw [look_repl hRc (n := mN) (x := ⟨mN, W ns, ((W ns).length : Int)⟩) rfl] at e
        obtain rfl := Option.some.inj e
        rfl
end Go.Proofs.Ytkcpbehgjbionaa.Pure
