/- Two ends and the net between them, in plain Lean: what is kept whatever happens. -/
import Derived.Test.YtndccmilcffedaaPure
import Derived.Test.YtndccmilcffedaaG2
set_option linter.unusedVariables false
set_option linter.unusedSimpArgs false
namespace Go.Proofs.Ytndccmilcffedaa.Pure
open Go Go.RowKit Go.Hw Go.Proofs.Ytndccmilcffedaa.G
structure Ch (d : Bool) (s r : S24) (sent came : List ByteArray) (net : List S78) : Prop where
  n : s.f0 = sent.length + 1
  w : r.f1 = came.length + 1
  pre : came = sent.take came.length
  le : came.length ≤ sent.length
  out : ∀ x ∈ s.f3, 1 ≤ x.f0 ∧ sent[(x.f0 - 1).toNat]? = some x.f1
  base : s.f0 - s.f3.length ≤ r.f1
  fwd : ∀ f ∈ net, f.f1 = d → 0 ≤ f.f0.f0 ∧ (1 ≤ f.f0.f0 → sent[(f.f0.f0 - 1).toNat]? = some f.f0.f2)
  back : ∀ f ∈ net, f.f1 ≠ d → 0 ≤ f.f0.f1 ∧ f.f0.f1 ≤ came.length
section
variable {d : Bool} {s r s' r' : S24} {sent came : List ByteArray} {net net' : List S78}
theorem Ch.s_congr (h : Ch d s r sent came net) (e0 : s'.f0 = s.f0) (e3 : s'.f3 = s.f3) : Ch d s' r sent came net :=
  ⟨e0.trans h.n, h.w, h.pre, h.le, by rw [e3]; exact h.out, by rw [e0, e3]; exact h.base, h.fwd, h.back⟩
theorem Ch.r_congr (h : Ch d s r sent came net) (e1 : r'.f1 = r.f1) : Ch d s r' sent came net :=
  ⟨h.n, e1.trans h.w, h.pre, h.le, h.out, by rw [e1]; exact h.base, h.fwd, h.back⟩
theorem Ch.net_sub (h : Ch d s r sent came net) (hs : ∀ f ∈ net', f ∈ net) : Ch d s r sent came net' :=
  ⟨h.n, h.w, h.pre, h.le, h.out, h.base, fun f hf => h.fwd f (hs f hf), fun f hf => h.back f (hs f hf)⟩
theorem Ch.net_add (h : Ch d s r sent came net) (h1 : ∀ f ∈ net', f.f1 = d → 0 ≤ f.f0.f0 ∧ (1 ≤ f.f0.f0 → sent[(f.f0.f0 - 1).toNat]? = some f.f0.f2)) (h2 : ∀ f ∈ net', f.f1 ≠ d → 0 ≤ f.f0.f1 ∧ f.f0.f1 ≤ came.length) : Ch d s r sent came (net ++ net') :=
  ⟨h.n, h.w, h.pre, h.le, h.out, h.base, fun f hf => (List.mem_append.1 hf).elim (h.fwd f) (h1 f), fun f hf => (List.mem_append.1 hf).elim (h.back f) (h2 f)⟩
theorem get_app {l : List ByteArray} {b x : ByteArray} {i : Nat} (h : l[i]? = some x) : (l ++ [b])[i]? = some x := by
  rw [List.getElem?_append_left (List.getElem?_eq_some_iff.1 h).1]; exact h
theorem Ch.send (h : Ch d s r sent came net) {b : ByteArray} (hc : (sendS s b).2 = 0) : Ch d (sendS s b).1 r (sent ++ [b]) came net := by
  have e : (sendS s b).1 = ⟨s.f0 + 1, s.f1, 0, s.f3 ++ [⟨s.f0, b⟩], s.f4⟩ := by
    unfold sendS at hc ⊢
    split
    · rename_i h1; rw [if_pos h1] at hc; simp at hc
    · split
      · rename_i h1 h2; rw [if_neg h1, if_pos h2] at hc; simp at hc
      · rfl
  have hn := h.n
  refine ⟨?_, h.w, ?_, ?_, ?_, ?_, ?_, h.back⟩
  · rw [e]; simp only [List.length_append, List.length_cons, List.length_nil]; omega
  · rw [List.take_append_of_le_length h.le]; exact h.pre
  · have := h.le; rw [List.length_append]; omega
  · intro x hx
    rw [e] at hx
    rcases List.mem_append.1 hx with hx | hx
    · exact ⟨(h.out x hx).1, get_app (h.out x hx).2⟩
    · rw [List.mem_singleton.1 hx]
      refine ⟨by simp only; omega, ?_⟩
      simp only [show (s.f0 - 1).toNat = sent.length by omega]
      simp
  · have := h.base
    rw [e]
    simp only [List.length_append, List.length_cons, List.length_nil]
    omega
  · intro f hf hd
    exact ⟨(h.fwd f hf hd).1, fun h1 => get_app ((h.fwd f hf hd).2 h1)⟩
theorem send_err {b : ByteArray} (hc : (sendS s b).2 ≠ 0) : (sendS s b).1 = s := by
  unfold sendS at hc ⊢
  split
  · rfl
  · split
    · rfl
    · rename_i h1 h2; rw [if_neg h1, if_neg h2] at hc; simp at hc
/-- A packet that comes at the end that reads. -/
theorem Ch.come (h : Ch d s r sent came net) {f : S78} (hf : f ∈ net) (hd : f.f1 = d) : Ch d s (takeS r f.f0).1 sent (if (takeS r f.f0).2.2 then came ++ [(takeS r f.f0).2.1] else came) net := by
  have hfw := h.fwd f hf hd
  unfold takeS
  split
  · exact h
  split
  · exact h.r_congr rfl
  split
  · rename_i h1 h2 h3
    have hw := h.w
    have ht := hfw.2 (by omega)
    rw [show (f.f0.f0 - 1).toNat = came.length by omega] at ht
    have hlt := (List.getElem?_eq_some_iff.1 ht).1
    simp only [if_true]
    refine ⟨h.n, ?_, ?_, ?_, h.out, ?_, h.fwd, ?_⟩
    · simp only [List.length_append, List.length_cons, List.length_nil]; omega
    · rw [List.length_append, List.length_singleton, List.take_add_one, ht, ← h.pre]
      rfl
    · rw [List.length_append, List.length_singleton]; omega
    · have := h.base; simp only; omega
    · intro g hg hgd
      have := h.back g hg hgd
      rw [List.length_append]
      omega
  · exact h.r_congr rfl
theorem gone_le (a : S24) (ack : Int) : gone a ack ≤ a.f3.length := by unfold gone; omega
/-- A packet that comes at the end that writes. -/
theorem Ch.acked (h : Ch d s r sent came net) {f : S78} (hf : f ∈ net) (hd : f.f1 ≠ d) : Ch d (takeS s f.f0).1 r sent came net := by
  have hb := h.back f hf hd
  have hw := h.w
  have key : ∀ (q : S24), q.f0 = s.f0 → q.f3 = s.f3.drop (gone s f.f0.f1) → Ch d q r sent came net := by
    intro q e0 e3
    have hbase := h.base
    refine ⟨e0.trans h.n, h.w, h.pre, h.le, fun x hx => h.out x (by rw [e3] at hx; exact List.mem_of_mem_drop hx), ?_, h.fwd, h.back⟩
    rw [e0, e3, List.length_drop]
    unfold gone
    omega
  unfold takeS
  split
  · exact h
  split
  · exact key _ rfl rfl
  split
  · exact key _ rfl rfl
  · exact key _ rfl rfl
end
structure Inv (x : S63) : Prop where
  ra : R x.f0
  rb : R x.f1
  c1 : Ch false x.f0 x.f1 x.f3 x.f4 x.f2
  c2 : Ch true x.f1 x.f0 x.f5 x.f6 x.f2
/-- Both tick. -/
def tickE (x : S63) : S63 := ⟨(tickS x.f0).1, (tickS x.f1).1, x.f2 ++ (tickS x.f0).2.map (fun p => ⟨p, false⟩) ++ (tickS x.f1).2.map (fun p => ⟨p, true⟩), x.f3, x.f4, x.f5, x.f6⟩
theorem tick_f0 (a : S24) : (tickS a).1.f0 = a.f0 := by unfold tickS; split <;> rfl
theorem tick_f1 (a : S24) : (tickS a).1.f1 = a.f1 := by unfold tickS; split <;> rfl
theorem tick_f3 (a : S24) : (tickS a).1.f3 = a.f3 := by unfold tickS; split <;> rfl
theorem tick_pk {a : S24} {p : S37} (h : p ∈ (tickS a).2) : p.f1 = a.f1 - 1 ∧ (p.f0 = 0 ∨ ∃ x ∈ a.f3, p.f0 = x.f0 ∧ p.f2 = x.f1) := by
  unfold tickS at h
  split at h
  · obtain ⟨x, hx, rfl⟩ := List.mem_map.1 h
    exact ⟨rfl, .inr ⟨x, List.mem_of_mem_take hx, rfl, rfl⟩⟩
  · simp only at h
    split at h
    · rw [List.mem_singleton.1 h]; exact ⟨rfl, .inl rfl⟩
    · simp at h
theorem tick_pks (a : S24) : (tickS a).2.length ≤ 8 := by
  unfold tickS
  split
  · simp only [List.length_map, List.length_take]; omega
  · simp only; split <;> simp
theorem Inv.tick {x : S63} (h : Inv x) : Inv (tickE x) := by
  have b1 := h.ra.b1
  have b2 := h.rb.b1
  have w1 := h.c1.w
  have w2 := h.c2.w
  have fw : ∀ (e : Bool) (d : Bool) (s : S24) (sent : List ByteArray), (∀ x ∈ s.f3, 1 ≤ x.f0 ∧ sent[(x.f0 - 1).toNat]? = some x.f1) → ∀ f ∈ (tickS s).2.map (fun p => (⟨p, e⟩ : S78)), 0 ≤ f.f0.f0 ∧ (1 ≤ f.f0.f0 → sent[(f.f0.f0 - 1).toNat]? = some f.f0.f2) := by
    intro e d s sent ho f hf
    obtain ⟨p, hp, rfl⟩ := List.mem_map.1 hf
    rcases (tick_pk hp).2 with h0 | ⟨y, hy, e1, e2⟩
    · exact ⟨by simp only; omega, fun h1 => by simp only at h1; omega⟩
    · have := ho y hy
      simp only [e1, e2]
      exact ⟨by omega, fun _ => this.2⟩
  have bk : ∀ (e : Bool) (s : S24), 1 ≤ s.f1 → ∀ f ∈ (tickS s).2.map (fun p => (⟨p, e⟩ : S78)), 0 ≤ f.f0.f1 ∧ f.f0.f1 ≤ s.f1 - 1 := by
    intro e s hs f hf
    obtain ⟨p, hp, rfl⟩ := List.mem_map.1 hf
    have := (tick_pk hp).1
    simp only
    omega
  refine ⟨tick_R h.ra, tick_R h.rb, ?_, ?_⟩
  · refine (((h.c1.s_congr (tick_f0 _) (tick_f3 _)).r_congr (tick_f1 _)).net_add (fun f hf _ => fw false false _ _ h.c1.out f hf) (fun f hf hd => ?_)).net_add (fun f hf hd => ?_) (fun f hf _ => ?_)
    · obtain ⟨p, hp, rfl⟩ := List.mem_map.1 hf
      exact absurd rfl hd
    · obtain ⟨p, hp, rfl⟩ := List.mem_map.1 hf
      simp at hd
    · have := bk true _ b2 f hf
      omega
  · refine (((h.c2.s_congr (tick_f0 _) (tick_f3 _)).r_congr (tick_f1 _)).net_add (fun f hf hd => ?_) (fun f hf _ => ?_)).net_add (fun f hf _ => fw true true _ _ h.c2.out f hf) (fun f hf hd => ?_)
    · obtain ⟨p, hp, rfl⟩ := List.mem_map.1 hf
      simp at hd
    · have := bk false _ b1 f hf
      omega
    · obtain ⟨p, hp, rfl⟩ := List.mem_map.1 hf
      exact absurd rfl hd
def comeE (x : S63) (f : S78) : S63 :=
  if f.f1 then ⟨(takeS x.f0 f.f0).1, x.f1, x.f2, x.f3, x.f4, x.f5, if (takeS x.f0 f.f0).2.2 then x.f6 ++ [(takeS x.f0 f.f0).2.1] else x.f6⟩
  else ⟨x.f0, (takeS x.f1 f.f0).1, x.f2, x.f3, if (takeS x.f1 f.f0).2.2 then x.f4 ++ [(takeS x.f1 f.f0).2.1] else x.f4, x.f5, x.f6⟩
theorem Inv.come {x : S63} (h : Inv x) {f : S78} (hf : f ∈ x.f2) : Inv (comeE x f) := by
  unfold comeE
  by_cases hd : f.f1 = true
  · rw [if_pos hd]
    exact ⟨take_R h.ra, h.rb, h.c1.acked hf (by simp [hd]), h.c2.come hf hd⟩
  · rw [if_neg hd]
    exact ⟨h.ra, take_R h.rb, h.c1.come hf (by simpa using hd), h.c2.acked hf hd⟩
theorem come_net (x : S63) (f : S78) : (comeE x f).f2 = x.f2 := by unfold comeE; split <;> rfl
theorem come_sent (x : S63) (f : S78) : (comeE x f).f3 = x.f3 ∧ (comeE x f).f5 = x.f5 := by unfold comeE; split <;> exact ⟨rfl, rfl⟩
def loseE (x : S63) (i : Nat) : S63 := ⟨x.f0, x.f1, x.f2.take i ++ x.f2.drop (i + 1), x.f3, x.f4, x.f5, x.f6⟩
theorem lose_sub {x : S63} {i : Nat} : ∀ f ∈ (loseE x i).f2, f ∈ x.f2 := fun f hf => (List.mem_append.1 hf).elim List.mem_of_mem_take List.mem_of_mem_drop
theorem Inv.lose {x : S63} (h : Inv x) (i : Nat) : Inv (loseE x i) := ⟨h.ra, h.rb, h.c1.net_sub lose_sub, h.c2.net_sub lose_sub⟩
/-! What the methods answer. -/
theorem tick1_loop (K : Nat) (t : S24 × List S37) (ht : t.2.length ≤ 8) : ∀ (k i : Nat) (acc : List S78), i ≤ t.2.length → t.2.length < k + i → acc.length ≤ 100000 + i → haywainlaw16_ends_tick.l10 K t k ((i : Int), acc) = some (acc ++ (t.2.drop i).map (fun p => ⟨p, false⟩)) := by
  intro k
  induction k with
  | zero => intro i acc h1 h2; omega
  | succ k ih =>
    intro i acc h1 h2 h3
    rw [haywainlaw16_ends_tick.l10]
    by_cases hi : i < t.2.length
    · have hx : t.2[i]? = some t.2[i] := List.getElem?_eq_getElem hi
      have hlt : ((i : Int) < (t.2.length : Int)) := by omega
      simp only [hlt, decide_true, cond_true, idxN, hx, Option.bind_some]
      rw [appN (by simp only [List.length_cons, List.length_nil]; omega), Option.bind_some, wrapI (by omega) (by omega), List.drop_eq_getElem_cons hi]
      have := ih (i + 1) (acc ++ [⟨t.2[i], false⟩]) hi (by omega) (by simp only [List.length_append, List.length_cons, List.length_nil]; omega)
      rw [List.map_cons]
      refine Eq.trans this ?_
      simp
    · have hlt : ¬ ((i : Int) < (t.2.length : Int)) := by omega
      simp only [hlt, decide_false, cond_false]
      rw [List.drop_eq_nil_of_le (by omega)]
      simp
theorem tick2_loop (K : Nat) (x : S63) (q t : S24 × List S37) (ht : t.2.length ≤ 8) : ∀ (k i : Nat) (acc : List S78), i ≤ t.2.length → t.2.length < k + i → acc.length ≤ 200000 + i → haywainlaw16_ends_tick.l6 K x q t k ((i : Int), acc) = some ⟨q.1, t.1, acc ++ (t.2.drop i).map (fun p => ⟨p, true⟩), x.f3, x.f4, x.f5, x.f6⟩ := by
  intro k
  induction k with
  | zero => intro i acc h1 h2; omega
  | succ k ih =>
    intro i acc h1 h2 h3
    rw [haywainlaw16_ends_tick.l6]
    by_cases hi : i < t.2.length
    · have hx : t.2[i]? = some t.2[i] := List.getElem?_eq_getElem hi
      have hlt : ((i : Int) < (t.2.length : Int)) := by omega
      simp only [hlt, decide_true, cond_true, idxN, hx, Option.bind_some]
      rw [appN (by simp only [List.length_cons, List.length_nil]; omega), Option.bind_some, wrapI (by omega) (by omega), List.drop_eq_getElem_cons hi]
      have := ih (i + 1) (acc ++ [⟨t.2[i], true⟩]) hi (by omega) (by simp only [List.length_append, List.length_cons, List.length_nil]; omega)
      rw [List.map_cons]
      refine Eq.trans this ?_
      simp
    · have hlt : ¬ ((i : Int) < (t.2.length : Int)) := by omega
      simp only [hlt, decide_false, cond_false]
      rw [List.drop_eq_nil_of_le (by omega)]
      simp
theorem etick_f {K : Nat} (hK : 1000 ≤ K) {x : S63} (h : Inv x) (hn : x.f2.length ≤ 100000) : haywainlaw16_ends_tick.f K x = some (tickE x) := by
  have p1 := tick_pks x.f0
  have p2 := tick_pks x.f1
  unfold haywainlaw16_ends_tick.f
  rw [tick_f hK, tick_f hK, own_of h.ra, own_of h.rb]
  simp only [Option.bind_some]
  rw [show (0 : Int) = ((0 : Nat) : Int) from rfl, tick1_loop K _ p1 K 0 _ (by omega) (by omega) (by omega)]
  simp only [Option.bind_some]
  rw [tick2_loop K x _ _ p2 K 0 _ (by omega) (by omega) (by simp only [List.length_append, List.length_map, List.length_drop]; omega)]
  rfl
theorem ecome_f {K : Nat} (hK : 1000 ≤ K) {x : S63} (h : Inv x) (h1 : x.f4.length ≤ 100000) (h2 : x.f6.length ≤ 100000) {i : Nat} {f : S78} (hf : x.f2[i]? = some f) : haywainlaw16_ends_come.f K x (i : Int) = some (comeE x f) := by
  unfold haywainlaw16_ends_come.f comeE
  simp only [idxN, hf, Option.bind_some, take_f hK, own_of h.ra, own_of h.rb]
  cases f.f1
  · simp only [cond_false, Bool.false_eq_true, if_false]
    cases (takeS x.f1 f.f0).2.2
    · rfl
    · rw [cond_true, appN (by simp only [List.length_cons, List.length_nil]; omega)]; rfl
  · simp only [cond_true, if_true]
    cases (takeS x.f0 f.f0).2.2
    · rfl
    · rw [cond_true, appN (by simp only [List.length_cons, List.length_nil]; omega)]; rfl
theorem elose_f (K : Nat) {x : S63} (hn : x.f2.length ≤ 100000) {i : Nat} (hi : i < x.f2.length) : haywainlaw16_ends_lose.f K x (i : Int) = some (loseE x i) := by
  have c1 : cutO x.f2 0 (i : Int) = some (x.f2.take i) := by unfold cutO; rw [if_pos (by omega)]; simp [cutL]
  have c2 : cutL x.f2 ((0 : Int).toNat) (((i : Int)).toNat) = x.f2.take i := by simp [cutL]
  have hw : IntKind.wrap .i64 ((i : Int) + 1) = ((i + 1 : Nat) : Int) := by rw [wrapI (by omega) (by omega)]; omega
  have c3 : cutO x.f2 ((i + 1 : Nat) : Int) (x.f2.length : Int) = some (x.f2.drop (i + 1)) := by unfold cutO; rw [if_pos (by omega)]; simp [cutL]
  have c4 : cutL x.f2 ((((i + 1 : Nat) : Int)).toNat) (((x.f2.length : Int)).toNat) = x.f2.drop (i + 1) := by simp [cutL]
  unfold haywainlaw16_ends_lose.f
  rw [hw, c1, c2, c3, c4]
  simp only [Option.bind_some]
  rw [appN (by simp only [List.length_nil, List.length_take]; omega), Option.bind_some, appN (by simp only [List.nil_append, List.length_take, List.length_drop]; omega)]
  rfl
/-- How great it all can be after n steps. -/
structure Few (n : Nat) (x : S63) : Prop where
  net : x.f2.length ≤ 16 * n
  sent : x.f3.length ≤ n
  asked : x.f5.length ≤ n
theorem Few.mono {n m : Nat} {x : S63} (h : Few n x) (hm : n ≤ m) : Few m x := ⟨by have := h.net; omega, by have := h.sent; omega, by have := h.asked; omega⟩
theorem estep {K : Nat} (hK : 1000 ≤ K) {n : Nat} (hn : n ≤ 1000) {x : S63} (h : Inv x) (hf : Few n x) (s : S65) : ∃ y, haywainlaw16_ends_step.f K x s = some y ∧ Inv y ∧ Few (n + 1) y := by
  have hnet := hf.net
  have hsent := hf.sent
  have hasked := hf.asked
  have hc1 := h.c1.le
  have hc2 := h.c2.le
  unfold haywainlaw16_ends_step.f
  simp only [condB, condN]
  by_cases h0 : s.f0 = 0
  · have e1 : ¬ s.f0 = 1 := by omega
    have e2 : ¬ s.f0 = 2 := by omega
    have e3 : s.f0 < 3 := by omega
    simp only [if_pos h0, if_neg e1, if_neg e2, e3, decide_true, cond_true, send_f hK, own_of h.ra, Option.bind_some]
    by_cases hc : (sendS x.f0 s.f2).2 = 0
    · simp only [if_pos hc]
      rw [appN (by simp only [List.length_cons, List.length_nil]; omega)]
      refine ⟨⟨(sendS x.f0 s.f2).1, x.f1, x.f2, x.f3 ++ [s.f2], x.f4, x.f5, x.f6⟩, rfl, ⟨send_R h.ra, h.rb, h.c1.send hc, h.c2.r_congr ?_⟩, ⟨by simp only; omega, by simp only [List.length_append, List.length_cons, List.length_nil]; omega, by simp only; omega⟩⟩
      unfold sendS; split <;> (try split) <;> rfl
    · simp only [if_neg hc]
      refine ⟨x, ?_, h, hf.mono (by omega)⟩
      rw [send_err hc]
      rfl
  by_cases h1 : s.f0 = 1
  · have e2 : ¬ s.f0 = 2 := by omega
    have e3 : s.f0 < 3 := by omega
    simp only [if_neg h0, if_pos h1, if_neg e2, e3, decide_true, cond_true, send_f hK, own_of h.rb, Option.bind_some]
    by_cases hc : (sendS x.f1 s.f2).2 = 0
    · simp only [if_pos hc]
      rw [appN (by simp only [List.length_cons, List.length_nil]; omega)]
      refine ⟨⟨x.f0, (sendS x.f1 s.f2).1, x.f2, x.f3, x.f4, x.f5 ++ [s.f2], x.f6⟩, rfl, ⟨h.ra, send_R h.rb, h.c1.r_congr ?_, h.c2.send hc⟩, ⟨by simp only; omega, by simp only; omega, by simp only [List.length_append, List.length_cons, List.length_nil]; omega⟩⟩
      unfold sendS; split <;> (try split) <;> rfl
    · simp only [if_neg hc]
      refine ⟨x, ?_, h, hf.mono (by omega)⟩
      rw [send_err hc]
      rfl
  by_cases h2 : s.f0 = 2
  · have e3 : s.f0 < 3 := by omega
    simp only [if_neg h0, if_neg h1, if_pos h2, e3, decide_true, cond_true, Option.bind_some]
    rw [show haywainlaw16_ends_tick.f K (⟨(⟨x.f0.f0, x.f0.f1, x.f0.f2, x.f0.f3, x.f0.f4⟩ : S24), (⟨x.f1.f0, x.f1.f1, x.f1.f2, x.f1.f3, x.f1.f4⟩ : S24), x.f2, x.f3, x.f4, x.f5, x.f6⟩ : S63) = some (tickE x) from etick_f (x := x) hK h (by omega)]
    refine ⟨tickE x, rfl, h.tick, ⟨?_, by show x.f3.length ≤ _; omega, by show x.f5.length ≤ _; omega⟩⟩
    have p1 := tick_pks x.f0
    have p2 := tick_pks x.f1
    simp only [tickE, List.length_append, List.length_map]
    omega
  by_cases h3 : s.f0 < 3
  · refine ⟨x, ?_, h, hf.mono (by omega)⟩
    simp only [if_neg h0, if_neg h1, if_neg h2, h3, decide_true, cond_true, Option.bind_some]
  by_cases h5 : s.f0 > 5
  · refine ⟨x, ?_, h, hf.mono (by omega)⟩
    simp only [if_neg h0, if_neg h1, if_neg h2, h3, h5, decide_true, cond_true, decide_false, cond_false, Option.bind_some]
  by_cases hz : (x.f2.length : Int) = 0
  · refine ⟨x, ?_, h, hf.mono (by omega)⟩
    simp only [if_neg h0, if_neg h1, if_neg h2, h3, h5, decide_false, cond_false, if_pos hz, Option.bind_some]
  have hu : ∃ u : Nat, IntKind.wrap .u64 s.f1 = (u : Int) := ⟨(s.f1 % 18446744073709551616).toNat, by
    simp only [IntKind.wrap, IntKind.signed, IntKind.bits]
    simp
    omega⟩
  obtain ⟨u, hu⟩ := hu
  have hw : IntKind.wrap .u64 (x.f2.length : Int) = (x.f2.length : Int) := by
    simp only [IntKind.wrap, IntKind.signed, IntKind.bits]
    simp
    omega
  have hr : u % x.f2.length < x.f2.length := Nat.mod_lt _ (by omega)
  have hm : (u : Int).tmod (x.f2.length : Int) = ((u % x.f2.length : Nat) : Int) := by
    rw [Int.tmod_eq_emod_of_nonneg (by omega)]; omega
  have e1 : remO (u : Int) (x.f2.length : Int) = some ((u % x.f2.length : Nat) : Int) := by
    unfold remO
    rw [if_neg (by omega), hm]
  simp only [if_neg h0, if_neg h1, if_neg h2, h3, h5, decide_false, cond_false, if_neg hz, Option.bind_some, hu, hw, e1, hm]
  generalize u % x.f2.length = i at hr hm
  rw [wrapI (x := (i : Int)) (by omega) (by omega)]
  have hx : x.f2[i]? = some x.f2[i] := List.getElem?_eq_getElem hr
  have hcome : haywainlaw16_ends_come.f K (⟨(⟨x.f0.f0, x.f0.f1, x.f0.f2, x.f0.f3, x.f0.f4⟩ : S24), (⟨x.f1.f0, x.f1.f1, x.f1.f2, x.f1.f3, x.f1.f4⟩ : S24), x.f2, x.f3, x.f4, x.f5, x.f6⟩ : S63) (i : Int) = some (comeE x x.f2[i]) := ecome_f (x := x) hK h (by omega) (by omega) hx
  have hI := h.come (List.getElem_mem hr)
  have en := come_net x x.f2[i]
  obtain ⟨es, ea⟩ := come_sent x x.f2[i]
  have hll : ∀ z : S63, i < z.f2.length → (loseE z i).f2.length ≤ z.f2.length := fun z hz => by simp only [loseE, List.length_append, List.length_take, List.length_drop]; omega
  by_cases h5' : s.f0 = 5
  · have e4 : ¬ s.f0 = 4 := by omega
    simp only [if_pos h5', if_neg e4, Option.bind_some]
    refine ⟨loseE x i, ?_, h.lose i, ⟨by have := hll x hr; omega, by show x.f3.length ≤ _; omega, by show x.f5.length ≤ _; omega⟩⟩
    have := elose_f K (x := x) (by omega) hr
    rw [show haywainlaw16_ends_lose.f K (⟨(⟨x.f0.f0, x.f0.f1, x.f0.f2, x.f0.f3, x.f0.f4⟩ : S24), (⟨x.f1.f0, x.f1.f1, x.f1.f2, x.f1.f3, x.f1.f4⟩ : S24), x.f2, x.f3, x.f4, x.f5, x.f6⟩ : S63) (i : Int) = _ from this]
    rfl
  · simp only [if_neg h5', hcome, Option.bind_some]
    by_cases h4 : s.f0 = 4
    · simp only [if_pos h4]
      exact ⟨comeE x x.f2[i], rfl, hI, ⟨by rw [en]; omega, by rw [es]; omega, by rw [ea]; omega⟩⟩
    · simp only [if_neg h4]
      have hi' : i < (comeE x x.f2[i]).f2.length := by rw [en]; exact hr
      refine ⟨loseE (comeE x x.f2[i]) i, ?_, hI.lose i, ⟨?_, ?_, ?_⟩⟩
      · have := elose_f K (x := comeE x x.f2[i]) (by rw [en]; omega) hi'
        rw [show haywainlaw16_ends_lose.f K (⟨(⟨(comeE x x.f2[i]).f0.f0, (comeE x x.f2[i]).f0.f1, (comeE x x.f2[i]).f0.f2, (comeE x x.f2[i]).f0.f3, (comeE x x.f2[i]).f0.f4⟩ : S24), (⟨(comeE x x.f2[i]).f1.f0, (comeE x x.f2[i]).f1.f1, (comeE x x.f2[i]).f1.f2, (comeE x x.f2[i]).f1.f3, (comeE x x.f2[i]).f1.f4⟩ : S24), (comeE x x.f2[i]).f2, (comeE x x.f2[i]).f3, (comeE x x.f2[i]).f4, (comeE x x.f2[i]).f5, (comeE x x.f2[i]).f6⟩ : S63) (i : Int) = _ from this]
        rfl
      · have := hll _ hi'; rw [en] at this; omega
      · show (comeE x x.f2[i]).f3.length ≤ _; rw [es]; omega
      · show (comeE x x.f2[i]).f5.length ≤ _; rw [ea]; omega
theorem start_Inv : Inv ⟨new, new, [], [], [], [], []⟩ := by
  have h : ∀ d, Ch d new new [] [] [] := fun d => ⟨rfl, rfl, rfl, Nat.le_refl _, by simp [new], by simp [new], by simp, by simp⟩
  exact ⟨new_R, new_R, h _, h _⟩
theorem start_Few : Few 0 ⟨new, new, [], [], [], [], []⟩ := ⟨by simp, by simp, by simp⟩
theorem begins_loop (K : Nat) (a b : List ByteArray) (hb : a = b.take a.length) (hl : b.length ≤ 100000) : ∀ (k i : Nat), i ≤ a.length → a.length < k + i → haywainlaw16_begins.l2 K a b k (i : Int) = some true := by
  intro k
  induction k with
  | zero => intro i h1 h2; omega
  | succ k ih =>
    intro i h1 h2
    rw [haywainlaw16_begins.l2]
    have hle : a.length ≤ b.length := by have := congrArg List.length hb; rw [List.length_take] at this; omega
    by_cases hi : i < a.length
    · have hx : a[i]? = some a[i] := List.getElem?_eq_getElem hi
      have hy : b[i]? = some a[i] := by
        rw [← hx]
        conv => rhs; rw [hb]
        rw [List.getElem?_take_of_lt hi]
      have hlt : ((i : Int) < (a.length : Int)) := by omega
      simp only [hlt, decide_true, cond_true, idxN, hx, hy, Option.bind_some, BEq.rfl, Bool.not_true, cond_false]
      rw [wrapI (by omega) (by omega)]
      exact ih (i + 1) hi (by omega)
    · have hlt : ¬ ((i : Int) < (a.length : Int)) := by omega
      simp only [hlt, decide_false, cond_false]
theorem begins_f {K : Nat} {a b : List ByteArray} (hb : a = b.take a.length) (hl : b.length ≤ 100000) (hK : a.length < K) : haywainlaw16_begins.f K a b = some true := by
  have hle : a.length ≤ b.length := by have := congrArg List.length hb; rw [List.length_take] at this; omega
  have h : ¬ ((a.length : Int) > (b.length : Int)) := by omega
  rw [haywainlaw16_begins.f]
  simp only [h, decide_false, cond_false]
  exact begins_loop K a b hb hl K 0 (Nat.zero_le _) (by omega)
end Go.Proofs.Ytndccmilcffedaa.Pure
