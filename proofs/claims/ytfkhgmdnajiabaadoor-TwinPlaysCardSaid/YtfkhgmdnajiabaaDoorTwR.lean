/-
  Plain Lean, no program: what a Write leaves whose power fails, and what Repair makes of it.
-/
import Derived.Test.YtfkhgmdnajiabaaDoorTwN
namespace Go.Proofs.YtfkhgmdnajiabaaDoor
set_option linter.unusedSimpArgs false
set_option linter.unusedVariables false

theorem noughts_eq {x : List UInt8} (h : noughtsB x = true) : x = List.replicate x.length 0 := by
  unfold noughtsB at h
  rw [List.all_eq_true] at h
  exact List.eq_replicate_iff.2 ⟨rfl, fun b hb => by simpa using h b hb⟩
theorem whole_twice {x : List UInt8} (hl : x.length = 512) (h : wholeB x = true) : twiceB x = true := by
  unfold wholeB at h
  rw [Bool.or_eq_true] at h
  rcases h with h | h
  · rw [noughts_eq h, hl]; decide +kernel
  · rw [Bool.and_eq_true] at h; exact h.2
theorem twice_ends {x : List UInt8} (h : twiceB x = true) : x.take 6 = (x.take 508).drop 502 := by
  unfold twiceB at h
  rw [beq_iff_eq, List.take_take] at h
  exact h
/-- Two halves that go together are of one number. -/
theorem whole_same {u v : List UInt8} (hu : u.length = 512) (hv : v.length = 512) (wv : wholeB v = true) (h : wholeB (u.take 256 ++ v.drop 256) = true) : lsnB u = lsnB v := by
  have h1 := whole_twice (by simp [hu, hv]) h
  have h2 := halved_twice (s := u) (t := v) (by omega)
  unfold halved at h2
  rw [h2, beq_iff_eq, ← twice_ends (whole_twice hv wv)] at h1
  unfold lsnB
  rw [h1]
theorem lsn_pos_noughts {s : List UInt8} (h : 0 < lsnB s) : noughtsB s = false := by
  cases hn : noughtsB s with
  | false => rfl
  | true =>
    exfalso
    have e := noughts_eq hn
    unfold lsnB at h
    rw [e, List.take_replicate] at h
    have : ∀ n, getB (List.replicate n 0) = 0 := by
      intro n
      induction n with
      | zero => rfl
      | succ n ih => rw [List.replicate_succ', getB_snoc, ih]; rfl
    rw [this] at h
    omega

/-- What page p may hold behind a Write of l: what it had, or what was to be written. -/
def Cand (now : Int → List UInt8) (l : List Img) (p : Int) (s : List UInt8) : Prop := s = now p ∨ (p, s) ∈ l
/-- Images whose numbers rise, all greater than those of what is there. -/
structure Rising (a : ArM) (now : Int → List UInt8) (l : List Img) : Prop where
  good : ∀ x ∈ l, GoodI a x ∧ wholeB x.2 = true
  rise : l.Pairwise (fun x y => lsnB x.2 < lsnB y.2)
  old : ∀ p, 0 ≤ p → p < a.pg → (now p).length = 512 ∧ wholeB (now p) = true
  less : ∀ p, 0 ≤ p → p < a.pg → ∀ x ∈ l, lsnB (now p) < lsnB x.2
section
variable {a : ArM} {now : Int → List UInt8} {l : List Img}
theorem Rising.pos (h : Rising a now l) (hp : 1 ≤ a.pg) (x : Img) (hx : x ∈ l) : 0 < lsnB x.2 := by
  have := h.less 0 (by omega) (by omega) x hx
  omega
theorem Rising.cand (h : Rising a now l) {p : Int} (h0 : 0 ≤ p) (h1 : p < a.pg) {s : List UInt8} (hc : Cand now l p s) : s.length = 512 ∧ wholeB s = true := by
  rcases hc with rfl | hc
  · exact h.old p h0 h1
  · obtain ⟨⟨_, g1⟩, g2⟩ := h.good _ hc
    exact ⟨g1, g2⟩
theorem pairwise_eq : ∀ {l : List Img}, l.Pairwise (fun x y => lsnB x.2 < lsnB y.2) → ∀ {x y : Img}, x ∈ l → y ∈ l → lsnB x.2 = lsnB y.2 → x = y
  | [], _, _, _, h, _, _ => by cases h
  | z :: l, hp, x, y, hx, hy, e => by
    rw [List.pairwise_cons] at hp
    rcases List.mem_cons.1 hx with ex | hx'
    · rcases List.mem_cons.1 hy with ey | hy'
      · rw [ex, ey]
      · have := hp.1 y hy'; rw [ex] at e; omega
    · rcases List.mem_cons.1 hy with ey | hy'
      · have := hp.1 x hx'; rw [ey] at e; omega
      · exact pairwise_eq hp.2 hx' hy' e
theorem Rising.one (h : Rising a now l) {p : Int} (h0 : 0 ≤ p) (h1 : p < a.pg) {u v : List UInt8} (hu : Cand now l p u) (hv : Cand now l p v) (e : lsnB u = lsnB v) : u = v := by
  rcases hu with rfl | hu <;> rcases hv with rfl | hv
  · rfl
  · have := h.less p h0 h1 _ hv; dsimp only at this; omega
  · have := h.less p h0 h1 _ hu; dsimp only at this; omega
  · have := pairwise_eq h.rise hu hv e
    injection this
theorem Rising.torn (h : Rising a now l) {p : Int} (h0 : 0 ≤ p) (h1 : p < a.pg) {u v : List UInt8} (hu : Cand now l p u) (hv : Cand now l p v) (hw : wholeB (u.take 256 ++ v.drop 256) = true) : u.take 256 ++ v.drop 256 = u := by
  obtain ⟨u1, u2⟩ := h.cand h0 h1 hu
  obtain ⟨v1, v2⟩ := h.cand h0 h1 hv
  have := h.one h0 h1 hu hv (whole_same u1 v1 v2 hw)
  subst this
  exact take_drop_256 u
end

/-- A device that was interrupted in a Write of l, and is on again. -/
structure Torn (a : ArM) (now : Int → List UInt8) (l : List Img) (d : DevM) : Prop where
  wait : d.wait = []
  size : a.fits d.size
  halves : ∀ p, 0 ≤ p → p < a.pg → ∃ u v, Cand now l p u ∧ Cand now l p v ∧ readM d (a.fr + 2 * p) = u.take 256 ∧ readM d (a.fr + 2 * p + 1) = v.drop 256
  mends : ∀ p, 0 ≤ p → p < a.pg → wholeB (pgv a d p) = false → ∃ s, bestN a d a.sl.toNat p = some s ∧ (p, s) ∈ l
/-- What no power's fail may pass: the error is 7, and nothing waits. -/
def Fails (r : Int × DevM) (d : DevM) : Prop := r.1 = 0 ∨ (r.1 = 7 ∧ r.2.off = true ∧ r.2.wait = [] ∧ r.2.size = d.size)
theorem fails_write {d : DevM} {i : Int} {t : List UInt8} (ho : d.off = false) (hi : 0 ≤ i ∧ i < d.size) (ht : t.length ≤ 256) : Fails (writeM d i t) d := by
  unfold writeM
  rw [if_neg (by simp [ho]), if_neg (by omega), if_neg (by omega)]
  split
  · exact Or.inr ⟨rfl, rfl, rfl, rfl⟩
  · exact Or.inl rfl
theorem fails_sync {d : DevM} (ho : d.off = false) : Fails (syncM d) d := by
  unfold syncM
  rw [if_neg (by simp [ho])]
  split
  · exact Or.inr ⟨rfl, rfl, rfl, rfl⟩
  · exact Or.inl rfl
theorem fails_put {d : DevM} {i : Int} {s : List UInt8} (ho : d.off = false) (hi : 0 ≤ i ∧ i + 1 < d.size) (hs : s.length = 512) : Fails (putM d i s) d := by
  have h1 := fails_write (t := s.take 256) ho (i := i) ⟨hi.1, by omega⟩ (by simp; omega)
  unfold putM
  split
  · exact h1
  · rename_i hz
    have e := write_done (by simpa using hz)
    have h2 := fails_write (d := (writeM d i (s.take 256)).2) (i := i + 1) (t := s.drop 256) e.off ⟨by omega, by rw [e.size]; omega⟩ (by simp; omega)
    rcases h2 with h2 | ⟨q1, q2, q3, q4⟩
    · exact Or.inl h2
    · exact Or.inr ⟨q1, q2, q3, q4.trans e.size⟩
theorem fails_run (f : DevM → Nat → Img → Int × DevM) (l : List Img) (size : Int) (hs : ∀ d i x, d.off = false → d.size = size → x ∈ l → (f d i x).1 = 0 → (f d i x).2.off = false ∧ (f d i x).2.size = size) (n : Nat)
    (hf : ∀ d i x, d.off = false → d.size = size → x ∈ l → i < n → Fails (f d i x) d) (d : DevM) (ho : d.off = false) (hz : d.size = size) (k : Nat) (hk : k + l.length ≤ n) : Fails (runM f d k l) d := by
  induction l generalizing d k with
  | nil => exact Or.inl rfl
  | cons x l ih =>
    have h1 := hf d k x ho hz (by simp) (by simp at hk; omega)
    simp only [runM]
    split
    · exact h1
    · rename_i hzz
      obtain ⟨o1, s1⟩ := hs d k x ho hz (by simp) (by simpa using hzz)
      have h2 := ih (fun d i y h h' hy => hs d i y h h' (by simp [hy])) (fun d i y h h' hy => hf d i y h h' (by simp [hy])) (f d k x).2 o1 s1 (k + 1) (by simp at hk; omega)
      rcases h2 with h2 | ⟨q1, q2, q3, q4⟩
      · exact Or.inl h2
      · exact Or.inr ⟨q1, q2, q3, q4.trans (s1.trans hz.symm)⟩
theorem fails_slots {a : ArM} {d : DevM} {l : List Img} (hfit : a.fits d.size) (hl : (l.length : Int) ≤ a.sl) (hx : ∀ x ∈ l, x.2.length = 512) (ho : d.off = false) : Fails (runM (slotM a) d 0 l) d := by
  obtain ⟨f1, f2, f3, f4, f5, f6, f7⟩ := hfit
  refine fails_run (slotM a) l d.size (fun d' i x h hs hx' he => ?_) a.sl.toNat (fun d' i x h hs hx' hi => ?_) d ho rfl 0 (by omega)
  · have e := slot_done (hx x hx') he
    exact ⟨e.off, e.size.trans hs⟩
  · have h1 := fails_write (t := nameB x.1) h (i := a.sat + 3 * i) (by rw [hs]; omega) (by unfold nameB sealB; simp [putB_length, markB_length])
    unfold slotM
    split
    · exact h1
    · rename_i hz
      have e := write_done (by simpa using hz)
      have h2 := fails_put (d := (writeM d' (a.sat + 3 * i) (nameB x.1)).2) (i := a.sat + 3 * i + 1) e.off ⟨by omega, by rw [e.size, hs]; omega⟩ (hx x hx')
      rcases h2 with h2 | ⟨q1, q2, q3, q4⟩
      · exact Or.inl h2
      · exact Or.inr ⟨q1, q2, q3, q4.trans e.size⟩
theorem fails_pages {a : ArM} {d : DevM} {l : List Img} (hfit : a.fits d.size) (hx : ∀ x ∈ l, GoodI a x) (ho : d.off = false) : Fails (runM (pageM a) d 0 l) d := by
  obtain ⟨f1, f2, f3, f4, f5, f6, f7⟩ := hfit
  refine fails_run (pageM a) l d.size (fun d' i x h hs hx' he => ?_) l.length (fun d' i x h hs hx' hi => ?_) d ho rfl 0 (by omega)
  · have e := page_done (hx x hx').2 he
    exact ⟨e.off, e.size.trans hs⟩
  · obtain ⟨hp, hl⟩ := hx x hx'
    exact fails_put h (by rw [hs]; omega) hl
end Go.Proofs.YtfkhgmdnajiabaaDoor
