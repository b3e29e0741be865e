/- What the law LinkSettles asks of plain Lean. -/
import Derived.Test.YtndccmilcffedaaPureEnds
import Derived.Test.YtndccmilcffedaaLLinkSettles
set_option linter.unusedVariables false
set_option linter.unusedSimpArgs false
namespace Go.Proofs.Ytndccmilcffedaa.Pure
open Go Go.RowKit Go.Hw Go.Proofs.Ytndccmilcffedaa.G
/-! How far a channel is from having brought all: U texts have not come, g have come and are not known to have, L the wait, o what is owed. -/
def psi (U g L : Int) (o : Bool) : Int := 2 * U + (if g = 0 ∧ L = 0 then 0 else if 0 < g ∧ o = true then (if L = 0 then (if g < 8 then g else 8) else 4) else 8 + 4 * L)
theorem psi_bd {U g L : Int} {o : Bool} (hL : 0 ≤ L ∧ L ≤ 3) (hg : 0 ≤ g) : 2 * U ≤ psi U g L o ∧ psi U g L o ≤ 2 * U + 20 := by
  unfold psi
  split
  · omega
  · split
    · split
      · split <;> omega
      · omega
    · omega
theorem psi_step {U g L U' g' L' a : Int} {o c D : Bool} (hU : 0 < U) (hg : 0 ≤ g) (hL : 0 ≤ L ∧ L ≤ 3) (hD : D = true ↔ L = 0)
    (ha : a = if D = true then (if U + g < 8 then U else if g < 8 then 8 - g else 0) else 0) (h1 : U' = U - a) (h2 : g' = if c = true then a else g + a) (h3 : L' = if c = true ∧ 0 < g then 0 else if D = true then 3 else L - 1) (hc : o = true → c = true) :
    U' = 0 ∨ psi U' g' L' D + 4 ≤ psi U g L o := by
  unfold psi
  subst h1 h2 h3
  cases D <;> cases c <;> cases o <;> simp_all <;> (repeat' split at *) <;> omega
/-- A packet taken, in numbers. -/
theorem take_num {e : S24} {p : S37} (h0 : 0 ≤ p.f0) (h1 : 0 ≤ p.f1) (h2 : p.f1 < e.f0) (h3 : e.f1 < 1099511627776) (h4 : 1 ≤ e.f1) :
    (takeS e p).1.f0 = e.f0 ∧ (takeS e p).1.f1 = (if p.f0 = e.f1 then e.f1 + 1 else e.f1) ∧ (takeS e p).1.f2 = (if 0 < gone e p.f1 then 0 else e.f2) ∧ (takeS e p).1.f3.length = e.f3.length - gone e p.f1 ∧ (takeS e p).1.f4 = (if p.f0 = 0 then e.f4 else true) := by
  have hguard : ¬ (p.f0 < 0 ∨ p.f1 < 0 ∨ e.f0 ≤ p.f1) := by omega
  unfold takeS
  by_cases hz : p.f0 = 0
  · have hq : ¬ p.f0 = e.f1 := by omega
    simp only [if_neg hguard, if_pos hz, if_neg hq, List.length_drop, and_self]
  · by_cases hq : p.f0 = e.f1
    · simp only [if_neg hguard, if_neg hz, if_pos hq, if_pos (show p.f0 = e.f1 ∧ e.f1 < 1099511627776 from ⟨hq, h3⟩), List.length_drop, and_self]
    · simp only [if_neg hguard, if_neg hz, if_neg hq, if_neg (show ¬ (p.f0 = e.f1 ∧ e.f1 < 1099511627776) from fun h => hq h.1), List.length_drop, and_self]
def recvs (e : S24) (ps : List S37) : S24 := ps.foldl (fun e p => (takeS e p).1) e
/-- Words of what has come, all alike. -/
theorem recv_ack0 {A : Int} : ∀ (ps : List S37) (e : S24), (∀ p ∈ ps, 0 ≤ p.f0 ∧ p.f1 = A) → 0 ≤ A → A < e.f0 → 1 ≤ e.f1 → e.f1 + ps.length < 1099511627776 → e.f0 - e.f3.length = A + 1 → (recvs e ps).f0 = e.f0 ∧ (recvs e ps).f2 = e.f2 ∧ (recvs e ps).f3.length = e.f3.length
  | [], e, _, _, _, _, _, _ => ⟨rfl, rfl, rfl⟩
  | p :: ps, e, hp, h0, h1, h2, h3, h4 => by
    have hp0 := hp p List.mem_cons_self
    simp only [List.length_cons] at h3
    obtain ⟨k0, k1, k2, k3, k4⟩ := take_num (e := e) (p := p) hp0.1 (by omega) (by omega) (by omega) h2
    have hg : gone e p.f1 = 0 := by unfold gone; omega
    rw [hg] at k2 k3
    have hf1 : e.f1 ≤ (takeS e p).1.f1 ∧ (takeS e p).1.f1 ≤ e.f1 + 1 := by rw [k1]; split <;> omega
    have := recv_ack0 ps (takeS e p).1 (fun q hq => hp q (List.mem_cons_of_mem _ hq)) h0 (by omega) (by omega) (by omega) (by omega)
    refine ⟨this.1.trans k0, this.2.1.trans (by rw [k2]; rfl), this.2.2.trans (by omega)⟩
theorem recv_ack {A : Int} {ps : List S37} {e : S24} (hp : ∀ p ∈ ps, 0 ≤ p.f0 ∧ p.f1 = A) (h0 : 0 ≤ A) (h1 : A < e.f0) (h2 : 1 ≤ e.f1) (h3 : e.f1 + ps.length < 1099511627776) (h4 : e.f0 - e.f3.length ≤ A + 1) :
    (recvs e ps).f0 = e.f0 ∧ (recvs e ps).f2 = (if ps ≠ [] ∧ e.f0 - e.f3.length < A + 1 then 0 else e.f2) ∧ ((recvs e ps).f3.length : Int) = (if ps ≠ [] then e.f0 - A - 1 else e.f3.length) := by
  cases ps with
  | nil => simp [recvs]
  | cons p ps =>
    have hp0 := hp p List.mem_cons_self
    simp only [List.length_cons] at h3
    obtain ⟨k0, k1, k2, k3, k4⟩ := take_num (e := e) (p := p) hp0.1 (by omega) (by omega) (by omega) h2
    have hf1 : e.f1 ≤ (takeS e p).1.f1 ∧ (takeS e p).1.f1 ≤ e.f1 + 1 := by rw [k1]; split <;> omega
    have hg : (gone e p.f1 : Int) = A + 1 - (e.f0 - e.f3.length) := by unfold gone; omega
    have := recv_ack0 (A := A) ps (takeS e p).1 (fun q hq => hp q (List.mem_cons_of_mem _ hq)) h0 (by omega) (by omega) (by omega) (by omega)
    have hne : p :: ps ≠ [] := by simp
    refine ⟨this.1.trans k0, this.2.1.trans ?_, ?_⟩
    · rw [k2]
      by_cases hc : 0 < gone e p.f1
      · rw [if_pos hc, if_pos ⟨hne, by omega⟩]
      · rw [if_neg hc, if_neg (by rintro ⟨_, h⟩; omega)]
    · rw [if_pos hne]
      have h5 : ((recvs (takeS e p).1 ps).f3.length : Int) = ((takeS e p).1.f3.length : Int) := by rw [this.2.2]
      show ((recvs (takeS e p).1 ps).f3.length : Int) = _
      omega
/-- Texts that come in their order. -/
theorem recv_want {s : S24} : ∀ (xs : List S71) (e : S24) (q : Int), (∀ (j : Nat) (x : S71), xs[j]? = some x → x.f0 = q + j) → 1 ≤ q → 1 ≤ s.f1 → s.f1 - 1 < e.f0 → q ≤ e.f1 → e.f1 + xs.length < 1099511627776 →
    (recvs e (xs.map (pk s))).f1 = (if e.f1 < q + xs.length then q + xs.length else e.f1) ∧ (recvs e (xs.map (pk s))).f4 = (if xs = [] then e.f4 else true)
  | [], e, q, _, _, _, _, h5, _ => by
    refine ⟨?_, rfl⟩
    show e.f1 = _
    rw [if_neg (by simp only [List.length_nil]; omega)]
  | x :: xs, e, q, hx, h1, h2, h3, h5, h6 => by
    have h0 := hx 0 x rfl
    simp only [List.length_cons] at h6
    obtain ⟨k0, k1, k2, k3, k4⟩ := take_num (e := e) (p := pk s x) (by simp only [pk]; omega) (by simp only [pk]; omega) (by simp only [pk]; omega) (by omega) (by omega)
    have hp0 : (pk s x).f0 = q := by have : x.f0 = q := by simpa using h0
                                     exact this
    simp only [hp0] at k1 k4
    have hf1 : q + 1 ≤ (takeS e (pk s x)).1.f1 ∧ (takeS e (pk s x)).1.f1 ≤ e.f1 + 1 ∧ (takeS e (pk s x)).1.f1 = (if q = e.f1 then e.f1 + 1 else e.f1) := by
      rw [k1]
      split <;> omega
    have ih := recv_want (s := s) xs (takeS e (pk s x)).1 (q + 1) (fun j y hy => by have := hx (j + 1) y hy; omega) (by omega) h2 (by omega) hf1.1 (by omega)
    have e1 : recvs e ((x :: xs).map (pk s)) = recvs (takeS e (pk s x)).1 (xs.map (pk s)) := rfl
    rw [e1, ih.1, ih.2]
    constructor
    · simp only [List.length_cons]
      rw [hf1.2.2]
      by_cases hq : q = e.f1
      · rw [if_pos hq]; split <;> split <;> omega
      · rw [if_neg hq]; split <;> split <;> omega
    · rw [if_neg (by simp : ¬ (x :: xs = []))]
      by_cases hxs : xs = []
      · rw [if_pos hxs]
        show (takeS e (pk s x)).1.f4 = true
        rw [k4, if_neg (by omega)]
      · rw [if_neg hxs]
theorem recv_none {A : Int} : ∀ (ps : List S37) (e : S24), (∀ p ∈ ps, p.f0 = 0 ∧ p.f1 = A) → 0 ≤ A → A < e.f0 → 1 ≤ e.f1 → e.f1 < 1099511627776 → (recvs e ps).f1 = e.f1 ∧ (recvs e ps).f4 = e.f4
  | [], e, _, _, _, _, _ => ⟨rfl, rfl⟩
  | p :: ps, e, hp, h0, h1, h2, h3 => by
    have hp0 := hp p List.mem_cons_self
    obtain ⟨k0, k1, k2, k3, k4⟩ := take_num (e := e) (p := p) (by omega) (by omega) (by omega) (by omega) h2
    rw [if_neg (by omega)] at k1
    rw [if_pos hp0.1] at k4
    have := recv_none (A := A) ps (takeS e p).1 (fun q hq => hp q (List.mem_cons_of_mem _ hq)) h0 (by omega) (by omega) (by omega)
    exact ⟨this.1.trans k1, this.2.trans k4⟩
/-- What an end sends when it ticks. -/
theorem tick_case {s : S24} (r : R s) : (0 < s.f3.length ∧ s.f2 = 0 ∧ (tickS s).2 = (s.f3.take 8).map (pk s) ∧ (tickS s).1.f2 = 3 ∧ (tickS s).2 ≠ []) ∨
    (¬ (0 < s.f3.length ∧ s.f2 = 0) ∧ (∀ p ∈ (tickS s).2, p.f0 = 0 ∧ p.f1 = s.f1 - 1) ∧ (tickS s).1.f2 = (if 0 < s.f2 then s.f2 - 1 else s.f2) ∧ (s.f4 = true → (tickS s).2 ≠ [])) := by
  unfold tickS
  by_cases h : 0 < s.f3.length ∧ s.f2 = 0
  · rw [if_pos h]
    refine .inl ⟨h.1, h.2, rfl, rfl, ?_⟩
    intro e
    have := congrArg List.length e
    simp only [List.length_map, List.length_take, List.length_nil] at this
    omega
  · rw [if_neg h]
    refine .inr ⟨h, ?_, rfl, ?_⟩
    · intro p hp
      simp only at hp
      split at hp
      · rw [List.mem_singleton.1 hp]; exact ⟨rfl, rfl⟩
      · simp at hp
    · intro h4; simp [h4]
theorem tick_f4 (s : S24) : (tickS s).1.f4 = false := by unfold tickS; split <;> rfl
def U_ (s r : S24) : Int := s.f0 - r.f1
def g_ (s r : S24) : Int := r.f1 - (s.f0 - s.f3.length)
/-- One round, of one channel. -/
theorem round1 {s r : S24} (rs : R s) (rr : R r) (hb : s.f0 - s.f3.length ≤ r.f1) (h1 : r.f1 ≤ s.f0) (h2 : s.f1 ≤ r.f0) (hs : s.f0 ≤ 100000) (hr : r.f0 ≤ 100000) :
    let s' := recvs (tickS s).1 (tickS r).2
    let r' := recvs (tickS r).1 (tickS s).2
    s'.f0 = s.f0 ∧ (U_ s r = 0 → U_ s' r' = 0) ∧ (0 < U_ s r → U_ s' r' = 0 ∨ psi (U_ s' r') (g_ s' r') s'.f2 r'.f4 + 4 ≤ psi (U_ s r) (g_ s r) s.f2 r.f4) := by
  intro s' r'
  have a1 := rs.a1; have b1 := rs.b1; have c1 := rs.c1; have c2 := rs.c2; have l2 := rs.l2
  have a1' := rr.a1; have b1' := rr.b1; have c1' := rr.c1; have c2' := rr.c2; have l2' := rr.l2
  have ps := tick_pks s
  have pr := tick_pks r
  have acks : ∀ p ∈ (tickS r).2, 0 ≤ p.f0 ∧ p.f1 = r.f1 - 1 := by
    intro p hp
    have := tick_pk hp
    refine ⟨?_, this.1⟩
    rcases this.2 with h | ⟨x, hx, e, _⟩
    · omega
    · obtain ⟨j, hj, rfl⟩ := List.mem_iff_getElem.1 hx
      have := rr.ok j _ (Nat.zero_le _) (List.getElem?_eq_getElem hj)
      omega
  have hS := recv_ack (A := r.f1 - 1) (ps := (tickS r).2) (e := (tickS s).1) acks (by omega) (by rw [tick_f0]; omega) (by rw [tick_f1]; omega) (by rw [tick_f1]; omega) (by rw [tick_f0, tick_f3]; omega)
  rw [tick_f0, tick_f3] at hS
  have hcr : r.f4 = true → (tickS r).2 ≠ [] := by
    intro h
    rcases tick_case rr with ⟨_, _, _, _, hne⟩ | ⟨_, _, _, h4⟩
    · exact hne
    · exact h4 h
  obtain ⟨e0, e2, e3⟩ := hS
  have e3' : (s'.f3.length : Int) = if (tickS r).2 ≠ [] then s.f0 - r.f1 else (s.f3.length : Int) := by
    show ((recvs (tickS s).1 (tickS r).2).f3.length : Int) = _
    rw [e3]; split <;> omega
  have e2' : s'.f2 = if (tickS r).2 ≠ [] ∧ 0 < g_ s r then 0 else (tickS s).1.f2 := by
    show (recvs (tickS s).1 (tickS r).2).f2 = _
    rw [e2]
    unfold g_
    by_cases h : (tickS r).2 ≠ [] ∧ s.f0 - (s.f3.length : Int) < r.f1 - 1 + 1
    · rw [if_pos h, if_pos ⟨h.1, by omega⟩]
    · rw [if_neg h, if_neg (fun h' => h ⟨h'.1, by omega⟩)]
  have e0' : s'.f0 = s.f0 := e0
  have hg0 : 0 ≤ g_ s r := by unfold g_; omega
  have hlen : (s.f3.length : Int) = U_ s r + g_ s r := by unfold U_ g_; omega
  rcases tick_case rs with ⟨d1, d2, d3, d4, d5⟩ | ⟨d1, d3, d4, d5⟩
  · have hw := recv_want (s := s) (s.f3.take 8) (tickS r).1 (s.f0 - s.f3.length) (fun j x hx => by
      have hj : j < 8 := by have := (List.getElem?_eq_some_iff.1 hx).1; rw [List.length_take] at this; omega
      rw [List.getElem?_take_of_lt hj] at hx
      exact rs.ok j x (Nat.zero_le _) hx) (by omega) b1 (by rw [tick_f0]; omega) (by rw [tick_f1]; omega) (by rw [tick_f1, List.length_take]; omega)
    rw [← d3, tick_f1] at hw
    have hne : ¬ s.f3.take 8 = [] := by
      intro h
      have := congrArg List.length h
      rw [List.length_take, List.length_nil] at this
      omega
    rw [if_neg hne] at hw
    have w1 : r'.f1 = if r.f1 < (s.f0 - s.f3.length) + ((s.f3.take 8).length : Int) then (s.f0 - s.f3.length) + ((s.f3.take 8).length : Int) else r.f1 := hw.1
    have w4 : r'.f4 = true := hw.2
    have hlt : ((s.f3.take 8).length : Int) = if U_ s r + g_ s r < 8 then U_ s r + g_ s r else 8 := by rw [List.length_take]; split <;> omega
    have hU0 : 0 ≤ U_ s r := by unfold U_; omega
    have ha : U_ s' r' = U_ s r - (if U_ s r + g_ s r < 8 then U_ s r else if g_ s r < 8 then 8 - g_ s r else 0) := by
      unfold U_ g_ at *
      rw [e0', w1, hlt]
      split <;> split <;> (try split) <;> omega
    refine ⟨e0', fun h => ?_, fun h => ?_⟩
    · rw [ha, h]; split <;> (try split) <;> omega
    · have hgg : g_ s' r' = if (tickS r).2 ≠ [] then (if U_ s r + g_ s r < 8 then U_ s r else if g_ s r < 8 then 8 - g_ s r else 0) else g_ s r + (if U_ s r + g_ s r < 8 then U_ s r else if g_ s r < 8 then 8 - g_ s r else 0) := by
        unfold U_ g_ at *
        rw [e0', e3']
        rw [e0'] at ha
        split <;> omega
      by_cases hne : (tickS r).2 = []
      · have hro : r.f4 = false := by cases h4 : r.f4; rfl; exact absurd hne (hcr h4)
        refine psi_step (U' := U_ s' r') (g' := g_ s' r') (L' := s'.f2) (U := U_ s r) (g := g_ s r) (L := s.f2) (a := if U_ s r + g_ s r < 8 then U_ s r else if g_ s r < 8 then 8 - g_ s r else 0) (c := false) (D := true) (o := r.f4) h hg0 ⟨c1, c2⟩ (by simp [d2]) (by simp) ha (by rw [hgg, if_neg (by simpa using hne)]; simp) (by rw [e2', d4, if_neg (by simp [hne])]; simp) (by simp [hro]) |>.imp id (fun hh => by rw [w4]; exact hh)
      · refine psi_step (U' := U_ s' r') (g' := g_ s' r') (L' := s'.f2) (U := U_ s r) (g := g_ s r) (L := s.f2) (a := if U_ s r + g_ s r < 8 then U_ s r else if g_ s r < 8 then 8 - g_ s r else 0) (c := true) (D := true) (o := r.f4) h hg0 ⟨c1, c2⟩ (by simp [d2]) (by simp) ha (by rw [hgg, if_pos hne]; simp) (by rw [e2', d4]; simp [hne]) (by simp) |>.imp id (fun hh => by rw [w4]; exact hh)
  · have hw := recv_none (A := s.f1 - 1) (tickS s).2 (tickS r).1 d3 (by omega) (by rw [tick_f0]; omega) (by rw [tick_f1]; omega) (by rw [tick_f1]; omega)
    rw [tick_f1, tick_f4] at hw
    have w1 : r'.f1 = r.f1 := hw.1
    have w4 : r'.f4 = false := hw.2
    have ha : U_ s' r' = U_ s r := by unfold U_; rw [e0', w1]
    refine ⟨e0', fun h => by rw [ha, h], fun h => ?_⟩
    have hL : 0 < s.f2 := by
      unfold U_ at h
      have : 0 < s.f3.length := by omega
      omega
    rw [if_pos hL] at d4
    have hgg : g_ s' r' = if (tickS r).2 ≠ [] then 0 else g_ s r := by
      unfold g_
      rw [e0', e3', w1]
      split <;> omega
    by_cases hne : (tickS r).2 = []
    · have hro : r.f4 = false := by cases h4 : r.f4; rfl; exact absurd hne (hcr h4)
      refine psi_step (U' := U_ s' r') (g' := g_ s' r') (L' := s'.f2) (U := U_ s r) (g := g_ s r) (L := s.f2) (a := 0) (c := false) (D := false) (o := r.f4) h hg0 ⟨c1, c2⟩ (by simp; omega) (by simp) (by omega) (by rw [hgg, if_neg (by simpa using hne)]; simp) (by rw [e2', d4, if_neg (by simp [hne])]; simp) (by simp [hro]) |>.imp id (fun hh => by rw [w4]; exact hh)
    · refine psi_step (U' := U_ s' r') (g' := g_ s' r') (L' := s'.f2) (U := U_ s r) (g := g_ s r) (L := s.f2) (a := 0) (c := true) (D := false) (o := r.f4) h hg0 ⟨c1, c2⟩ (by simp; omega) (by simp) (by omega) (by rw [hgg, if_pos hne]; simp) (by rw [e2', d4]; simp [hne]) (by simp) |>.imp id (fun hh => by rw [w4]; exact hh)
def tp (x : S63) := (x.f0.f0, x.f0.f1, x.f0.f2, x.f0.f3, x.f0.f4, x.f1.f0, x.f1.f1, x.f1.f2, x.f1.f3, x.f1.f4, x.f2, x.f3, x.f4, x.f5, x.f6)
def drain : List S78 → S63 → S63
  | [], x => x
  | f :: fs, x => drain fs (loseE (comeE x f) 0)
theorem drain_ok {K : Nat} (hK : 1000 ≤ K) : ∀ (fs : List S78) (k : Nat) (x : S63), x.f2 = fs → fs.length < k → fs.length ≤ 100000 → Inv x → x.f3.length ≤ 1000 → x.f5.length ≤ 1000 →
    haywainlaw16_LinkSettles.l136 K k (tp x) = some (tp (drain fs x)) ∧ Inv (drain fs x) ∧ (drain fs x).f2 = [] ∧ (drain fs x).f3 = x.f3 ∧ (drain fs x).f5 = x.f5 ∧
    (drain fs x).f0 = recvs x.f0 ((fs.filter (fun f => f.f1)).map (fun f => f.f0)) ∧ (drain fs x).f1 = recvs x.f1 ((fs.filter (fun f => !f.f1)).map (fun f => f.f0)) := by
  intro fs
  induction fs with
  | nil =>
    intro k x hx hk _ hI _ _
    obtain ⟨k, rfl⟩ : ∃ j, k = j + 1 := ⟨k - 1, by omega⟩
    refine ⟨?_, hI, hx, rfl, rfl, rfl, rfl⟩
    rw [haywainlaw16_LinkSettles.l136]
    have : ¬ (((tp x).2.2.2.2.2.2.2.2.2.2.1.length : Int) > 0) := by
      show ¬ ((x.f2.length : Int) > 0)
      rw [hx]; simp
    simp only [this, decide_false, cond_false]
    rfl
  | cons f fs ih =>
    intro k x hx hk hl hI h3 h5
    obtain ⟨k, rfl⟩ : ∃ j, k = j + 1 := ⟨k - 1, by omega⟩
    simp only [List.length_cons] at hk hl
    have hc1 := hI.c1.le
    have hc2 := hI.c2.le
    have hf : x.f2[0]? = some f := by rw [hx]; rfl
    have hm : f ∈ x.f2 := by rw [hx]; exact List.mem_cons_self
    have en := come_net x f
    obtain ⟨es, ea⟩ := come_sent x f
    have e1 : haywainlaw16_ends_come.f K x 0 = some (comeE x f) := ecome_f (x := x) hK hI (by omega) (by omega) (i := 0) hf
    have e2 : haywainlaw16_ends_lose.f K (comeE x f) 0 = some (loseE (comeE x f) 0) := elose_f K (x := comeE x f) (by rw [en, hx, List.length_cons]; omega) (i := 0) (by rw [en, hx, List.length_cons]; omega)
    have en2 : (loseE (comeE x f) 0).f2 = fs := by simp only [loseE, en, hx, List.take_zero, List.nil_append, List.drop_one, List.tail_cons, Nat.zero_add]
    obtain ⟨g1, g2, g3, g4, g5, g6, g7⟩ := ih k (loseE (comeE x f) 0) en2 (by omega) (by omega) ((hI.come hm).lose 0) (by show (comeE x f).f3.length ≤ _; rw [es]; exact h3) (by show (comeE x f).f5.length ≤ _; rw [ea]; exact h5)
    refine ⟨?_, g2, g3, g4.trans es, g5.trans ea, g6.trans ?_, g7.trans ?_⟩
    · rw [haywainlaw16_LinkSettles.l136]
      have : (((tp x).2.2.2.2.2.2.2.2.2.2.1.length : Int) > 0) := by
        show ((x.f2.length : Int) > 0)
        rw [hx, List.length_cons]; omega
      simp only [this, decide_true, cond_true]
      rw [show haywainlaw16_ends_come.f K (⟨(⟨(tp x).1, (tp x).2.1, (tp x).2.2.1, (tp x).2.2.2.1, (tp x).2.2.2.2.1⟩ : S24), (⟨(tp x).2.2.2.2.2.1, (tp x).2.2.2.2.2.2.1, (tp x).2.2.2.2.2.2.2.1, (tp x).2.2.2.2.2.2.2.2.1, (tp x).2.2.2.2.2.2.2.2.2.1⟩ : S24), (tp x).2.2.2.2.2.2.2.2.2.2.1, (tp x).2.2.2.2.2.2.2.2.2.2.2.1, (tp x).2.2.2.2.2.2.2.2.2.2.2.2.1, (tp x).2.2.2.2.2.2.2.2.2.2.2.2.2.1, (tp x).2.2.2.2.2.2.2.2.2.2.2.2.2.2⟩ : S63) 0 = _ from e1]
      simp only [Option.bind_some, e2]
      exact g1
    · show recvs (comeE x f).f0 _ = _
      unfold comeE
      cases hb : f.f1
      · simp [hb]
      · simp [hb, recvs]
    · show recvs (comeE x f).f1 _ = _
      unfold comeE
      cases hb : f.f1
      · simp [hb, recvs]
      · simp [hb]
/-- How far one channel is, n rounds behind the first. -/
def Far (m n : Int) (s r : S24) : Prop := U_ s r = 0 ∨ psi (U_ s r) (g_ s r) s.f2 r.f4 + 4 * n ≤ 2 * m + 20
structure Good (m n : Int) (x : S63) : Prop where
  net : x.f2 = []
  one : Far m n x.f0 x.f1
  two : Far m n x.f1 x.f0
theorem U_pos {d : Bool} {s r : S24} {sent came : List ByteArray} {net : List S78} (h : Ch d s r sent came net) : 0 ≤ U_ s r := by
  have := h.n; have := h.w; have := h.le
  unfold U_; omega
theorem Far.next {m n : Int} {s r s' r' : S24} (hU : 0 ≤ U_ s r) (h : Far m n s r) (h1 : U_ s r = 0 → U_ s' r' = 0) (h2 : 0 < U_ s r → U_ s' r' = 0 ∨ psi (U_ s' r') (g_ s' r') s'.f2 r'.f4 + 4 ≤ psi (U_ s r) (g_ s r) s.f2 r.f4) : Far m (n + 1) s' r' := by
  rcases h with h | h
  · exact .inl (h1 h)
  · by_cases h0 : U_ s r = 0
    · exact .inl (h1 h0)
    · rcases h2 (by omega) with h3 | h3
      · exact .inl h3
      · exact .inr (by omega)
theorem Far.first {d : Bool} {m : Int} {s r : S24} {sent came : List ByteArray} {net : List S78} (h : Ch d s r sent came net) (rs : R s) (hm : (sent.length : Int) ≤ m) : Far m 0 s r := by
  have := h.n; have := h.w; have := h.le; have := h.base
  have hg : 0 ≤ g_ s r := by unfold g_; omega
  have hU : U_ s r ≤ m := by unfold U_; omega
  have := psi_bd (U := U_ s r) (o := r.f4) ⟨rs.c1, rs.c2⟩ hg
  exact .inr (by omega)
theorem Far.last {d : Bool} {m n : Int} {s r : S24} {sent came : List ByteArray} {net : List S78} (h : Ch d s r sent came net) (rs : R s) (hf : Far m n s r) (hn : 2 * m + 20 < 4 * n) : came.length = sent.length := by
  have h1 := h.n; have h2 := h.w; have h3 := h.le; have h4 := h.base
  have hg : 0 ≤ g_ s r := by unfold g_; omega
  have hU := U_pos h
  have := psi_bd (U := U_ s r) (o := r.f4) ⟨rs.c1, rs.c2⟩ hg
  have h0 : U_ s r = 0 := by
    rcases hf with h | h
    · exact h
    · omega
  unfold U_ at h0
  omega
theorem filt0 {α : Type} (l : List α) : l.filter (fun _ => false) = [] := by simp
theorem filt1 {α : Type} (l : List α) : l.filter (fun _ => true) = l := by simp
theorem rounds {K : Nat} (hK : 3000 ≤ K) (m : Nat) (hm : m ≤ 1000) (B : Nat) (hB : B = 4 * (m / 8 + 1) + 8) : ∀ (k j : Nat) (x : S63), j ≤ B → B < k + j → Inv x → x.f2.length ≤ 2000 → x.f3.length ≤ m → x.f5.length ≤ m → (j = 0 ∨ Good m ((j : Int) - 1) x) →
    ∃ y, haywainlaw16_LinkSettles.l79 K (m : Int) k ((j : Int), tp x) = some (tp y) ∧ Inv y ∧ y.f3 = x.f3 ∧ y.f5 = x.f5 ∧ Good m ((B : Int) - 1) y := by
  intro k
  induction k with
  | zero => intro j x h1 h2; omega
  | succ k ih =>
    intro j x h1 h2 hI hnet h3 h5 hG
    have hd : (m : Int).tdiv 8 = ((m / 8 : Nat) : Int) := by rw [Int.tdiv_eq_ediv_of_nonneg (by omega)]; omega
    have e1 : divO .i64 (m : Int) 8 = some ((m / 8 : Nat) : Int) := by
      unfold divO
      rw [if_neg (by decide), hd, wrapI (by omega) (by omega)]
    have e2 : IntKind.wrap .i64 (IntKind.wrap .i64 (4 * IntKind.wrap .i64 (IntKind.wrap .i64 ((m : Int).tdiv 8) + 1)) + 8) = (B : Int) := by
      rw [hd, wrapI (x := ((m / 8 : Nat) : Int)) (by omega) (by omega), wrapI (x := ((m / 8 : Nat) : Int) + 1) (by omega) (by omega), wrapI (x := 4 * (((m / 8 : Nat) : Int) + 1)) (by omega) (by omega), wrapI (by omega) (by omega)]
      omega
    rw [haywainlaw16_LinkSettles.l79]
    simp only [e1, Option.bind_some, e2]
    by_cases hj : j < B
    · have hj' : (j : Int) < (B : Int) := by omega
      have hn : IntKind.wrap .i64 ((j : Int) + 1) = ((j + 1 : Nat) : Int) := by rw [wrapI (by omega) (by omega)]; omega
      have ht : haywainlaw16_ends_tick.f K (⟨(⟨(tp x).1, (tp x).2.1, (tp x).2.2.1, (tp x).2.2.2.1, (tp x).2.2.2.2.1⟩ : S24), (⟨(tp x).2.2.2.2.2.1, (tp x).2.2.2.2.2.2.1, (tp x).2.2.2.2.2.2.2.1, (tp x).2.2.2.2.2.2.2.2.1, (tp x).2.2.2.2.2.2.2.2.2.1⟩ : S24), (tp x).2.2.2.2.2.2.2.2.2.2.1, (tp x).2.2.2.2.2.2.2.2.2.2.2.1, (tp x).2.2.2.2.2.2.2.2.2.2.2.2.1, (tp x).2.2.2.2.2.2.2.2.2.2.2.2.2.1, (tp x).2.2.2.2.2.2.2.2.2.2.2.2.2.2⟩ : S63) = some (tickE x) := etick_f (x := x) (by omega) hI (by omega)
      have p1 := tick_pks x.f0
      have p2 := tick_pks x.f1
      have hlen : (tickE x).f2.length ≤ 2016 := by simp only [tickE, List.length_append, List.length_map]; omega
      obtain ⟨g1, g2, g3, g4, g5, g6, g7⟩ := drain_ok (K := K) (by omega) (tickE x).f2 K (tickE x) rfl (by omega) (by omega) hI.tick (by show x.f3.length ≤ _; omega) (by show x.f5.length ≤ _; omega)
      have hGood : Good m (((j + 1 : Nat) : Int) - 1) (drain (tickE x).f2 (tickE x)) := by
        rcases hG with h0 | hG
        · subst h0
          refine ⟨g3, ?_, ?_⟩
          · exact Far.first g2.c1 g2.ra (by rw [g4]; show (x.f3.length : Int) ≤ _; omega)
          · exact Far.first g2.c2 g2.rb (by rw [g5]; show (x.f5.length : Int) ≤ _; omega)
        · have en : (tickE x).f2 = (tickS x.f0).2.map (fun p => ⟨p, false⟩) ++ (tickS x.f1).2.map (fun p => ⟨p, true⟩) := by simp only [tickE, hG.net, List.nil_append]
          have f1 : (((tickE x).f2.filter (fun f => f.f1)).map (fun f => f.f0)) = (tickS x.f1).2 := by
            rw [en, List.filter_append, List.filter_map, List.filter_map]
            simp only [Function.comp_def, List.map_append, List.map_map, Bool.not_false, Bool.not_true]
            rw [filt0, filt1]
            simp
          have f2 : (((tickE x).f2.filter (fun f => !f.f1)).map (fun f => f.f0)) = (tickS x.f0).2 := by
            rw [en, List.filter_append, List.filter_map, List.filter_map]
            simp only [Function.comp_def, List.map_append, List.map_map, Bool.not_false, Bool.not_true]
            rw [filt0, filt1]
            simp
          rw [f1] at g6
          rw [f2] at g7
          have n1 := hI.c1.n; have n2 := hI.c2.n; have w1 := hI.c1.w; have w2 := hI.c2.w; have l1 := hI.c1.le; have l2 := hI.c2.le
          have r1 := round1 hI.ra hI.rb hI.c1.base (by omega) (by omega) (by omega) (by omega)
          have r2 := round1 hI.rb hI.ra hI.c2.base (by omega) (by omega) (by omega) (by omega)
          have ej : (((j + 1 : Nat) : Int) - 1) = ((j : Int) - 1) + 1 := by omega
          rw [ej]
          refine ⟨g3, ?_, ?_⟩
          · rw [g6, g7]
            exact hG.one.next (U_pos hI.c1) r1.2.1 r1.2.2
          · rw [g6, g7]
            exact hG.two.next (U_pos hI.c2) r2.2.1 r2.2.2
      simp only [hj', decide_true, cond_true, hn]
      rw [ht]
      simp only [Option.bind_some]
      rw [show haywainlaw16_LinkSettles.l136 K K ((tickE x).f0.f0, (tickE x).f0.f1, (tickE x).f0.f2, (tickE x).f0.f3, (tickE x).f0.f4, (tickE x).f1.f0, (tickE x).f1.f1, (tickE x).f1.f2, (tickE x).f1.f3, (tickE x).f1.f4, (tickE x).f2, (tickE x).f3, (tickE x).f4, (tickE x).f5, (tickE x).f6) = _ from g1]
      simp only [Option.bind_some]
      obtain ⟨y, i1, i2, i3, i4, i5⟩ := ih (j + 1) (drain (tickE x).f2 (tickE x)) hj (by omega) g2 (by rw [g3]; simp) (by rw [g4]; exact h3) (by rw [g5]; exact h5) (.inr hGood)
      exact ⟨y, i1, i2, i3.trans g4, i4.trans g5, i5⟩
    · have hj' : ¬ (j : Int) < (B : Int) := by omega
      obtain rfl : j = B := by omega
      simp only [hj', decide_false, cond_false]
      refine ⟨x, rfl, hI, rfl, rfl, ?_⟩
      rcases hG with h0 | hG
      · omega
      · exact hG
theorem steps_loop {K : Nat} (hK : 1000 ≤ K) (l : List S65) (hl : l.length ≤ 140737488351232) : ∀ (k i : Nat) (x : S63), i ≤ 100 → 100 < k + i → Inv x → Few i x →
    ∃ y, haywainlaw16_LinkSettles.l141 K l k ((i : Int), tp x) = some (tp y) ∧ Inv y ∧ Few 100 y := by
  intro k
  induction k with
  | zero => intro i x h1 h2; omega
  | succ k ih =>
    intro i x h1 h2 hI hf
    rw [haywainlaw16_LinkSettles.l141]
    by_cases c1 : i < l.length
    · have c1' : (i : Int) < (l.length : Int) := by omega
      by_cases c2 : i < 100
      · have c2' : (i : Int) < 100 := by omega
        have hx : l[i]? = some l[i] := List.getElem?_eq_getElem c1
        have hn : IntKind.wrap .i64 ((i : Int) + 1) = ((i + 1 : Nat) : Int) := by rw [wrapI (by omega) (by omega)]; omega
        simp only [c1', c2', decide_true, cond_true, idxN, hx, Option.bind_some, hn]
        by_cases c3 : (l[i].f2.size : Int) ≤ 1000
        · obtain ⟨y, hy, hIy, hfy⟩ := estep hK (n := i) (by omega) hI hf l[i]
          simp only [c3, decide_true, cond_true]
          rw [show haywainlaw16_ends_step.f K (⟨(⟨(tp x).1, (tp x).2.1, (tp x).2.2.1, (tp x).2.2.2.1, (tp x).2.2.2.2.1⟩ : S24), (⟨(tp x).2.2.2.2.2.1, (tp x).2.2.2.2.2.2.1, (tp x).2.2.2.2.2.2.2.1, (tp x).2.2.2.2.2.2.2.2.1, (tp x).2.2.2.2.2.2.2.2.2.1⟩ : S24), (tp x).2.2.2.2.2.2.2.2.2.2.1, (tp x).2.2.2.2.2.2.2.2.2.2.2.1, (tp x).2.2.2.2.2.2.2.2.2.2.2.2.1, (tp x).2.2.2.2.2.2.2.2.2.2.2.2.2.1, (tp x).2.2.2.2.2.2.2.2.2.2.2.2.2.2⟩ : S63) l[i] = some y from hy]
          simp only [Option.bind_some]
          exact ih (i + 1) y (by omega) (by omega) hIy hfy
        · simp only [c3, decide_false, cond_false]
          exact ih (i + 1) x (by omega) (by omega) hI (hf.mono (by omega))
      · have c2' : ¬ (i : Int) < 100 := by omega
        refine ⟨x, ?_, hI, hf.mono h1⟩
        simp only [c1', c2', decide_true, cond_true, decide_false, cond_false, tp]
    · have c1' : ¬ (i : Int) < (l.length : Int) := by omega
      refine ⟨x, ?_, hI, hf.mono h1⟩
      simp only [c1', decide_false, cond_false, tp]
theorem knows3_f : haywainlaw16_knows.f 3000 = some true := by kernel_rfl
theorem LinkSettles : haywainlaw16_LinkSettles.Pure := by
  intro l hl
  obtain ⟨K, hK, hkn⟩ : ∃ K, 3000 ≤ K ∧ haywainlaw16_knows.f K = some true := ⟨3000, Nat.le_refl _, knows3_f⟩
  refine ⟨K, ?_⟩
  rw [haywainlaw16_LinkSettles.f]
  simp only [link_New.f, Option.bind_some]
  obtain ⟨x, e1, hI, hf⟩ := steps_loop (K := K) (by omega) l (by omega) K 0 _ (by omega) (by omega) start_Inv start_Few
  rw [show haywainlaw16_LinkSettles.l141 K l K (0, 1, 1, 0, [], false, 1, 1, 0, [], false, [], [], [], [], []) = _ from e1]
  simp only [Option.bind_some]
  have h3 := hf.sent
  have h5 := hf.asked
  have hnet := hf.net
  have hc1 := hI.c1.le
  have hc2 := hI.c2.le
  have hm : ∃ m : Nat, (cond (decide (((tp x).2.2.2.2.2.2.2.2.2.2.2.2.2.1.length : Int) > ((tp x).2.2.2.2.2.2.2.2.2.2.2.1.length : Int))) (some ((tp x).2.2.2.2.2.2.2.2.2.2.2.2.2.1.length : Int)) (some ((tp x).2.2.2.2.2.2.2.2.2.2.2.1.length : Int)) : Option Int) = some (m : Int) ∧ x.f3.length ≤ m ∧ x.f5.length ≤ m ∧ m ≤ 100 := by
    show ∃ m : Nat, (cond (decide ((x.f5.length : Int) > (x.f3.length : Int))) (some (x.f5.length : Int)) (some (x.f3.length : Int)) : Option Int) = some (m : Int) ∧ x.f3.length ≤ m ∧ x.f5.length ≤ m ∧ m ≤ 100
    by_cases h : (x.f5.length : Int) > (x.f3.length : Int)
    · exact ⟨x.f5.length, by simp only [h, decide_true, cond_true], by omega, by omega, by omega⟩
    · exact ⟨x.f3.length, by simp only [h, decide_false, cond_false], by omega, by omega, by omega⟩
  obtain ⟨m, em, m1, m2, m3⟩ := hm
  rw [em]
  simp only [Option.bind_some]
  obtain ⟨y, e2, hIy, y3, y5, hG⟩ := rounds (K := K) hK m (by omega) _ rfl K 0 x (by omega) (by omega) hI (by omega) m1 m2 (.inl rfl)
  rw [show haywainlaw16_LinkSettles.l79 K (m : Int) K (0, (tp x).1, (tp x).2.1, (tp x).2.2.1, (tp x).2.2.2.1, (tp x).2.2.2.2.1, (tp x).2.2.2.2.2.1, (tp x).2.2.2.2.2.2.1, (tp x).2.2.2.2.2.2.2.1, (tp x).2.2.2.2.2.2.2.2.1, (tp x).2.2.2.2.2.2.2.2.2.1, (tp x).2.2.2.2.2.2.2.2.2.2.1, (tp x).2.2.2.2.2.2.2.2.2.2.2.1, (tp x).2.2.2.2.2.2.2.2.2.2.2.2.1, (tp x).2.2.2.2.2.2.2.2.2.2.2.2.2.1, (tp x).2.2.2.2.2.2.2.2.2.2.2.2.2.2) = _ from e2]
  simp only [Option.bind_some]
  have d1 := hG.one.last hIy.c1 hIy.ra (by omega)
  have d2 := hG.two.last hIy.c2 hIy.rb (by omega)
  have l1 : ((tp y).2.2.2.2.2.2.2.2.2.2.2.2.1.length : Int) = ((tp y).2.2.2.2.2.2.2.2.2.2.2.1.length : Int) := by show (y.f4.length : Int) = (y.f3.length : Int); omega
  have l2 : ((tp y).2.2.2.2.2.2.2.2.2.2.2.2.2.2.length : Int) = ((tp y).2.2.2.2.2.2.2.2.2.2.2.2.2.1.length : Int) := by show (y.f6.length : Int) = (y.f5.length : Int); omega
  have s3 : y.f3.length ≤ 100 := by rw [y3]; exact h3
  have s5 : y.f5.length ≤ 100 := by rw [y5]; exact h5
  have b1 : haywainlaw16_begins.f K (tp y).2.2.2.2.2.2.2.2.2.2.2.2.1 (tp y).2.2.2.2.2.2.2.2.2.2.2.1 = some true := begins_f (a := y.f4) (b := y.f3) hIy.c1.pre (by omega) (by omega)
  have b2 : haywainlaw16_begins.f K (tp y).2.2.2.2.2.2.2.2.2.2.2.2.2.2 (tp y).2.2.2.2.2.2.2.2.2.2.2.2.2.1 = some true := begins_f (a := y.f6) (b := y.f5) hIy.c2.pre (by omega) (by omega)
  simp only [condB, if_pos l1, if_pos l2, b1, b2, hkn, Option.bind_some, cond_true]
end Go.Proofs.Ytndccmilcffedaa.Pure
