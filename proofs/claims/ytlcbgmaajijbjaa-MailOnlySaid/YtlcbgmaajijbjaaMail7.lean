/- Mails, in plain Lean: what all six laws use. -/
import Derived.Test.YtlcbgmaajijbjaaMail6
set_option linter.unusedVariables false
set_option linter.unusedSimpArgs false
namespace Go.Proofs.Ytlcbgmaajijbjaa.Pure
open Go Go.RowKit Go.Hw Go.Proofs.Ytlcbgmaajijbjaa.G
set_option maxRecDepth 100000 in
theorem knows_f : ∃ K, 2000 ≤ K ∧ haywainlaw15_knows.f K = some true := ⟨2000, Nat.le_refl _, by kernel_rfl⟩
theorem RR_few {m : S29} (h : RR m) : Few m := by
  obtain ⟨_, _, ⟨_, h8⟩, ⟨_, h9⟩, _, h10, hv, hr, ⟨_, hi⟩, ⟨_, ho⟩⟩ := h
  exact ⟨by omega, by omega, by omega, by omega, by omega, by omega, by omega⟩
theorem Rl_append {l m : List Int} : Rl (l ++ m) ↔ Rl l ∧ Rl m := by simp only [Rl, List.mem_append, or_imp, forall_and]
theorem Wl_inj : ∀ {l m : List Int}, Rl l → Rl m → Wl l = Wl m → l = m
  | [], [], _, _, _ => rfl
  | [], y :: m, _, _, h => by
    have := congrArg List.length h
    rw [Wl_length, Wl_length] at this
    simp at this
  | x :: l, [], _, _, h => by
    have := congrArg List.length h
    rw [Wl_length, Wl_length] at this
    simp at this
  | x :: l, y :: m, hl, hm, h => by
    obtain ⟨h1, h2⟩ := Rl_cons.1 hl
    obtain ⟨h3, h4⟩ := Rl_cons.1 hm
    rw [Wl_cons, Wl_cons] at h
    have e1 := congrArg (List.take 8) h
    have e2 := congrArg (List.drop 8) h
    rw [take8, take8] at e1
    rw [drop8, drop8] at e2
    have e3 := congrArg (val 0) e1
    rw [val_be8, val_be8] at e3
    have e4 := congrArg (IntKind.wrap .i64) e3
    rw [wrap_back h1, wrap_back h3] at e4
    rw [e4, Wl_inj h2 h4 e2]
theorem R_of {x : Int} (h : (Lit.int .i64 x).wf = true) : R x := bd64 h
theorem Rl_of {l : List Int} (h : ∀ x ∈ l, (Lit.int .i64 x).wf = true) : Rl l := fun x hx => R_of (h x hx)
theorem Rl_al {l : List Int} (h : Al l) : Rl l := fun x hx => by
  obtain ⟨h1, h2⟩ := h x hx
  exact ⟨by omega, by omega⟩
theorem Rl_b2i : ∀ l : List Bool, Rl (l.map b2i)
  | [] => by simp [Rl]
  | b :: l => Rl_cons.2 ⟨by cases b <;> exact ⟨by decide, by decide⟩, Rl_b2i l⟩
theorem Rl_mf : ∀ {l : List S77}, (∀ x ∈ l, R x.f0 ∧ R x.f1) → Rl (mf l)
  | [], _ => by simp [mf, Rl]
  | x :: l, h => by
    rw [mf_cons]
    obtain ⟨h1, h2⟩ := h x List.mem_cons_self
    exact Rl_cons.2 ⟨h1, Rl_cons.2 ⟨h2, Rl_mf (fun y hy => h y (List.mem_cons_of_mem _ hy))⟩⟩
/-- Each number of the mail is one of 64 bits. -/
def RM (m : S29) : Prop := Rl m.f11.f2 ∧ (∀ x ∈ m.f11.f4, R x.f1) ∧ (∀ x ∈ m.f12, R x.f1)
theorem nums_Rl {m : S29} (h : RR m) (hw : RM m) : Rl (nums m) := by
  obtain ⟨h0, h1, ⟨a8, h8⟩, ⟨a9, h9⟩, a10, h10, hv, hr, ⟨ai, hi⟩, ⟨ao, ho⟩⟩ := h
  obtain ⟨w1, w2, w3⟩ := hw
  have nR : ∀ n : Nat, n ≤ 1000 → R (n : Int) := fun n hn => ⟨by omega, by omega⟩
  have hh : Rl (hd m) := by
    have := Rl_al h1
    intro x hx
    simp only [hd, List.mem_cons, List.not_mem_nil, or_false] at hx
    rcases hx with rfl | rfl | rfl | rfl | rfl | rfl | rfl | rfl
    · exact ⟨by omega, by omega⟩
    all_goals exact this _ (by simp)
  have hps := Rl_al h1
  have hmn : ∀ {l : List S77}, Ml l → (∀ x ∈ l, R x.f1) → l.length ≤ 24 → Rl (mn l) := fun {l} a b c => Rl_cons.2 ⟨nR _ (by omega), Rl_mf (fun x hx => ⟨by obtain ⟨q1, q2⟩ := a x hx; exact ⟨by omega, by omega⟩, b x hx⟩)⟩
  unfold nums front
  refine Rl_append.2 ⟨Rl_append.2 ⟨hh, Rl_cons.2 ⟨nR _ (by omega), Rl_append.2 ⟨Rl_al a8, Rl_cons.2 ⟨nR _ (by omega), Rl_append.2 ⟨Rl_al a9, Rl_append.2 ⟨Rl_al a10, ?_⟩⟩⟩⟩⟩⟩, Rl_append.2 ⟨w1, Rl_append.2 ⟨Rl_b2i _, Rl_append.2 ⟨hmn ai w2 hi, hmn ao w3 ho⟩⟩⟩⟩
  exact Rl_cons.2 ⟨hps _ (by simp), Rl_cons.2 ⟨hps _ (by simp), Rl_cons.2 ⟨nR _ (by omega), by simp [Rl]⟩⟩⟩
theorem RM_of {m : S29} (h : wf29 m) : RM m := by
  obtain ⟨_, _, _, _, _, _, _, _, _, _, _, ⟨_, _, ⟨_, h2⟩, _, ⟨_, h4⟩⟩, ⟨_, h12⟩⟩ := h
  exact ⟨Rl_of h2, fun x hx => R_of (h4 x hx).2, fun x hx => R_of (h12 x hx).2⟩
theorem dec_nums {m : S29} (h : RR m) : dec (nums m) = some m := (dec_iff _ _).2 ⟨h, rfl⟩
theorem decode_nums {K : Nat} (hK : 2000 ≤ K) {m : S29} (h : RR m) (hw : RM m) : mail_Decode.f K (Wl (nums m)) = some (m, 0) := by
  have := decode_f (t := []) hK (by simp) Bytes.nil (nums_Rl h hw) (by have := nums_length h; omega)
  rw [List.append_nil, if_pos rfl, dec_nums h] at this
  exact this
theorem same_as {K : Nat} (hK : 2000 ≤ K) {a b : S29} (ha : Few a) : haywainref15_Same.f K (asM a) (asM b) = some (decide (asM a = asM b)) := same_f hK (show Few (unM (asM a)) from ha)
theorem wl_take (i : Nat) (l : List Int) : (Wl l).take (8 * i) = Wl (l.take i) := by
  induction i generalizing l with
  | zero => simp [Wl]
  | succ i ih =>
    cases l with
    | nil => simp [Wl]
    | cons x l =>
      rw [Wl_cons, List.take_succ_cons, Wl_cons, ← ih, show 8 * (i + 1) = (be8 x).length + 8 * i by rw [be8_length]; omega, List.take_length_add_append]
/-- No beginning of a mail's bytes is one's. -/
theorem no_cut {m : S29} (h : RR m) (hw : Rl (nums m)) {l t : List Int} {j : Nat} (hj : j < (Wl (nums m)).length) (hl : Rl l) (e : (Wl (nums m)).take j = Wl l ++ t) : (if t = [] then dec l else none) = none := by
  by_cases ct : t = []
  · rw [if_pos ct]
    subst ct
    rw [List.append_nil] at e
    cases hd : dec l with
    | none => rfl
    | some m' =>
      exfalso
      obtain ⟨g, el⟩ := (dec_iff l m').1 hd
      have hlen := congrArg List.length e
      rw [List.length_take, Wl_length l] at hlen
      have hj2 : j = 8 * l.length := by omega
      rw [hj2, wl_take] at e
      have e2 : (nums m).take l.length = l := Wl_inj (fun x hx => hw x (List.mem_of_mem_take hx)) hl e
      have e3 : nums m = nums m' ++ (nums m).drop l.length := by
        rw [← el]
        conv => lhs; rw [← List.take_append_drop l.length (nums m), e2]
      have d1 := D_bwd (m := m) (r := []) (RR_GD h)
      have d2 := D_bwd (m := m') (r := (nums m).drop l.length) (RR_GD g)
      rw [← e3] at d2
      rw [List.append_nil, d2] at d1
      have := congrArg (fun o => (o.getD (m, [])).2.length) d1
      simp only [Option.getD_some, List.length_drop, List.length_nil] at this
      rw [Wl_length] at hj
      omega
  · rw [if_neg ct]
end Go.Proofs.Ytlcbgmaajijbjaa.Pure
