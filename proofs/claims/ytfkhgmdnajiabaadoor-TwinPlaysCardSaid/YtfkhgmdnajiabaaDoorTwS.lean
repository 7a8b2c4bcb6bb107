/-
  Plain Lean, no program: a round whose power fails; rounds; what Repair makes of it.
-/
import Derived.Test.YtfkhgmdnajiabaaDoorTwR
namespace Go.Proofs.YtfkhgmdnajiabaaDoor
set_option linter.unusedSimpArgs false
set_option linter.unusedVariables false

/-- The best of the slots is no less than any. -/
theorem best_ge {a : ArM} {d : DevM} {i : Nat} (k : Nat) (hi : i < k) (hs : slotB a d i = true) : ∃ s, bestN a d k (slotN a d i : Int) = some s ∧ lsnB (slotS a d i) ≤ lsnB s := by
  induction k with
  | zero => omega
  | succ k ih =>
    simp only [bestN]
    by_cases hb : betterB a d (bestN a d k) k = true
    · rw [if_pos hb]
      unfold betterB at hb
      rw [Bool.and_eq_true] at hb
      by_cases e : (slotN a d i : Int) = (slotN a d k : Int)
      · rw [if_pos e]
        refine ⟨_, rfl, ?_⟩
        by_cases ik : i = k
        · rw [ik]; exact Nat.le_refl _
        · obtain ⟨s, h1, h2⟩ := ih (by omega)
          have h3 := hb.2
          rw [show slotN a d k = slotN a d i by omega, h1] at h3
          have := of_decide_eq_true h3
          omega
      · rw [if_neg e]
        have hik : i < k := by
          by_cases ik : i = k
          · exact absurd (by rw [ik]) e
          · omega
        exact ih hik
    · rw [if_neg hb]
      by_cases ik : i = k
      · subst ik
        unfold betterB at hb
        rw [hs, Bool.true_and] at hb
        cases hm : bestN a d i (slotN a d i : Int) with
        | none => rw [hm] at hb; exact absurd rfl hb
        | some o =>
          rw [hm] at hb
          dsimp only at hb
          refine ⟨o, rfl, ?_⟩
          have := of_decide_eq_false (Bool.eq_false_iff.2 hb)
          omega
      · exact ih (by omega)
section
variable {a : ArM} {G : Int → List UInt8 → Prop} {d : DevM} {l : List Img}
theorem AllG.slots1 (h : AllG G d) (hl : ∀ x ∈ l, ∀ i : Nat, (i : Int) < a.sl → G (a.sat + 3 * i) (padB (nameB x.1)) ∧ G (a.sat + 3 * i + 1) (x.2.take 256) ∧ G (a.sat + 3 * i + 1 + 1) (x.2.drop 256)) (hx : ∀ x ∈ l, x.2.length = 512) (hn : (l.length : Int) ≤ a.sl) : AllG G (runM (slotM a) d 0 l).2 := by
  refine AllG.run (slotM a) l 0 (fun d i x hx' _ hi hd => ?_) h
  obtain ⟨h1, h2, h3⟩ := hl x hx' i (by omega)
  unfold slotM
  split
  · exact hd.write h1
  · exact (hd.write h1).put (hx x hx') h2 h3
theorem AllG.pages1 (h : AllG G d) (hl : ∀ x ∈ l, G (a.fr + 2 * x.1) (x.2.take 256) ∧ G (a.fr + 2 * x.1 + 1) (x.2.drop 256)) (hx : ∀ x ∈ l, x.2.length = 512) : AllG G (runM (pageM a) d 0 l).2 := by
  refine AllG.run (pageM a) l 0 (fun d i x hx' _ hi hd => ?_) h
  obtain ⟨h1, h2⟩ := hl x hx'
  exact hd.put (hx x hx') h1 h2
/-- A written name is read again. -/
theorem slot_named {i : Nat} {x : Img} (hx : GoodI a x) (hs : a.pg ≤ 800) (h0 : readM d (a.sat + 3 * i) = padB (nameB x.1)) : (slotN a d i : Int) = x.1 ∧ (readM d (a.sat + 3 * i)).take 8 = nameB (slotN a d i) := by
  obtain ⟨⟨p0, p1⟩, _⟩ := hx
  have hn : slotN a d i = x.1.toNat := by
    unfold slotN
    rw [h0]
    have e : padB (nameB x.1) = 67 :: 84 :: (putB 2 x.1.toNat ++ (markB ([67, 84] ++ putB 2 x.1.toNat) ++ List.replicate (256 - (nameB x.1).length) 0)) := by
      unfold padB nameB sealB
      simp
    rw [e]
    show getB ((putB 2 x.1.toNat ++ _).take 2) = _
    rw [List.take_left' (putB_length 2 _), getB_putB _ _ (by omega)]
  refine ⟨by rw [hn]; omega, ?_⟩
  rw [h0, hn, show ((x.1.toNat : Nat) : Int) = x.1 by omega]
  unfold padB
  exact List.take_left' (by unfold nameB; rw [sealB_length]; simp [putB_length])
end

/-- Each sector has its bytes. -/
def Full (d : DevM) : Prop := ∀ j, (readM d j).length = 256
/-- The slots' images are older than these. -/
def Older (a : ArM) (d : DevM) (l : List Img) : Prop := ∀ i : Nat, (i : Int) < a.sl → ∀ x ∈ l, getB ((readM d (a.sat + 3 * i + 1)).take 6) < lsnB x.2
theorem lsnB_slot {a : ArM} {d : DevM} (hf : Full d) (i : Nat) : lsnB (slotS a d i) = getB ((readM d (a.sat + 3 * i + 1)).take 6) := by
  unfold lsnB slotS
  rw [List.take_append_of_le_length (by rw [hf]; omega)]
theorem pgv_halves {a : ArM} {d : DevM} (hf : Full d) (p : Int) : readM d (a.fr + 2 * p) = (pgv a d p).take 256 ∧ readM d (a.fr + 2 * p + 1) = (pgv a d p).drop 256 := by
  unfold pgv
  exact ⟨(List.take_left' (hf _)).symm, (List.drop_left' (hf _)).symm⟩
theorem onM_read (d : DevM) (j : Int) : readM (onM d) j = readM d j := rfl
theorem onM_best (a : ArM) (d : DevM) (k : Nat) : bestN a (onM d) k = bestN a d k := bestN_same k (fun _ _ => ⟨rfl, rfl, rfl⟩)

section
variable {a : ArM} {now : Int → List UInt8} {l c : List Img} {d : DevM}
/-- A round whose power fails. -/
theorem round_fails (hfit : a.fits d.size) (ho : d.off = false) (hw : d.wait = []) (hF : Full d) (hn : (c.length : Int) ≤ a.sl) (hc : ∀ x ∈ c, x ∈ l) (hr : Rising a now l)
    (hpg : ∀ p, 0 ≤ p → p < a.pg → Cand now l p (pgv a d p)) (hold : Older a d c) (h : (roundM a d c).1 ≠ 0) :
    (roundM a d c).1 = 7 ∧ (roundM a d c).2.off = true ∧ Torn a now l (roundM a d c).2 := by
  have hgood : ∀ x ∈ c, GoodI a x ∧ wholeB x.2 = true := fun x hx => hr.good x (hc x hx)
  have hx5 : ∀ x ∈ c, x.2.length = 512 := fun x hx => (hgood x hx).1.2
  have hfit' := hfit
  obtain ⟨f1, f2, f3, f4, f5, f6, f7⟩ := hfit'
  have torn1 : ∀ d', Fails d' d → (∀ p, 0 ≤ p → p < a.pg → readM d'.2 (a.fr + 2 * p) = readM d (a.fr + 2 * p) ∧ readM d'.2 (a.fr + 2 * p + 1) = readM d (a.fr + 2 * p + 1)) → d'.1 ≠ 0 → d'.1 = 7 ∧ d'.2.off = true ∧ Torn a now l d'.2 := by
    intro d' hf hp hz
    rcases hf with hf | ⟨q1, q2, q3, q4⟩
    · exact absurd hf hz
    · refine ⟨q1, q2, q3, by rw [q4]; exact hfit, fun p p0 p1 => ?_, fun p p0 p1 hv => ?_⟩
      · obtain ⟨e1, e2⟩ := hp p p0 p1
        obtain ⟨g1, g2⟩ := pgv_halves (a := a) hF p
        exact ⟨_, _, hpg p p0 p1, hpg p p0 p1, by rw [e1, g1], by rw [e2, g2]⟩
      · obtain ⟨e1, e2⟩ := hp p p0 p1
        have e : pgv a d'.2 p = pgv a d p := by unfold pgv; rw [e1, e2]
        rw [e, (hr.cand p0 p1 (hpg p p0 p1)).2] at hv
        cases hv
  obtain ⟨G1, hG1⟩ : ∃ G : Int → List UInt8 → Prop, G = fun j s => ∀ p, 0 ≤ p → p < a.pg → (j = a.fr + 2 * p ∨ j = a.fr + 2 * p + 1) → s = readM d j := ⟨_, rfl⟩
  have a0 : AllG G1 d := AllG.of_nowait hw (fun j => by rw [hG1]; exact fun _ _ _ _ => rfl)
  have a1 : AllG G1 (runM (slotM a) d 0 c).2 := a0.slots1 (fun x hx i hi => by
    rw [hG1]
    refine ⟨fun p p0 p1 e => ?_, fun p p0 p1 e => ?_, fun p p0 p1 e => ?_⟩ <;> omega) hx5 hn
  have a2 := a1.sync
  have same : ∀ d', AllG G1 d' → ∀ p, 0 ≤ p → p < a.pg → readM d' (a.fr + 2 * p) = readM d (a.fr + 2 * p) ∧ readM d' (a.fr + 2 * p + 1) = readM d (a.fr + 2 * p + 1) := by
    intro d' hd p p0 p1
    rw [hG1] at hd
    exact ⟨hd.read _ p p0 p1 (Or.inl rfl), hd.read _ p p0 p1 (Or.inr rfl)⟩
  have hF1 : Fails (runM (slotM a) d 0 c) d := fails_slots hfit hn hx5 ho
  unfold roundM at h ⊢
  by_cases h1 : (runM (slotM a) d 0 c).1 ≠ 0
  · rw [if_pos h1] at h ⊢
    exact torn1 _ hF1 (same _ a1) h
  · rw [if_neg h1] at h ⊢
    obtain ⟨⟨_, e1⟩, s1⟩ := slots_done c hx5 d ho 0 (by simpa using h1)
    generalize (runM (slotM a) d 0 c).2 = d1 at *
    have hF2 : Fails (syncM d1) d1 := fails_sync e1.off
    by_cases h2 : (syncM d1).1 ≠ 0
    · rw [if_pos h2] at h ⊢
      refine torn1 _ ?_ (same _ a2) h
      rcases hF2 with hf | ⟨q1, q2, q3, q4⟩
      · exact Or.inl hf
      · exact Or.inr ⟨q1, q2, q3, q4.trans e1.size⟩
    · rw [if_neg h2] at h ⊢
      obtain ⟨e2, w2⟩ := sync_done (d := d1) (by simpa using h2)
      have same2 := same _ a2
      generalize (syncM d1).2 = d2 at *
      have size2 : d2.size = d.size := e2.size.trans e1.size
      obtain ⟨G2, hG2⟩ : ∃ G : Int → List UInt8 → Prop, G = fun j s => ((∀ p, 0 ≤ p → p < a.pg → j ≠ a.fr + 2 * p ∧ j ≠ a.fr + 2 * p + 1) → s = readM d2 j) ∧
          (∀ p, j = a.fr + 2 * p → 0 ≤ p → p < a.pg → s = readM d j ∨ ∃ x, (p, x) ∈ c ∧ s = x.take 256) ∧ (∀ p, j = a.fr + 2 * p + 1 → 0 ≤ p → p < a.pg → s = readM d j ∨ ∃ x, (p, x) ∈ c ∧ s = x.drop 256) := ⟨_, rfl⟩
      have b0 : AllG G2 d2 := AllG.of_nowait w2 (fun j => by
        rw [hG2]
        exact ⟨fun _ => rfl, fun p e p0 p1 => Or.inl (by rw [e]; exact (same2 p p0 p1).1), fun p e p0 p1 => Or.inl (by rw [e]; exact (same2 p p0 p1).2)⟩)
      have b1 : AllG G2 (runM (pageM a) d2 0 c).2 := b0.pages1 (fun x hx => by
        obtain ⟨⟨x0, x1⟩, _⟩ := (hgood x hx).1
        rw [hG2]
        refine ⟨⟨fun hn => absurd rfl (hn x.1 x0 x1).1, fun p e p0 p1 => Or.inr ⟨x.2, ?_, rfl⟩, fun p e p0 p1 => by omega⟩, ⟨fun hn => absurd rfl (hn x.1 x0 x1).2, fun p e p0 p1 => by omega, fun p e p0 p1 => Or.inr ⟨x.2, ?_, rfl⟩⟩⟩
        · rw [show p = x.1 by omega]; exact hx
        · rw [show p = x.1 by omega]; exact hx) hx5
      have torn2 : ∀ r : Int × DevM, Fails r d → AllG G2 r.2 → r.1 ≠ 0 → r.1 = 7 ∧ r.2.off = true ∧ Torn a now l r.2 := by
        intro r hf hG hz
        obtain ⟨r1, d'⟩ := r
        dsimp only at *
        rcases hf with hf | ⟨q1, q2, q3, q4⟩
        · exact absurd hf hz
        · dsimp only at *
          rw [hG2] at hG
          have slots : ∀ i : Nat, (i : Int) < a.sl → readM d' (a.sat + 3 * i) = readM d2 (a.sat + 3 * i) ∧ readM d' (a.sat + 3 * i + 1) = readM d2 (a.sat + 3 * i + 1) ∧ readM d' (a.sat + 3 * i + 1 + 1) = readM d2 (a.sat + 3 * i + 1 + 1) := fun i hi =>
            ⟨(hG.read _).1 (fun p p0 p1 => by omega), (hG.read _).1 (fun p p0 p1 => by omega), (hG.read _).1 (fun p p0 p1 => by omega)⟩
          refine ⟨q1, q2, q3, by rw [q4]; exact hfit, fun p p0 p1 => ?_, fun p p0 p1 hv => ?_⟩
          · obtain ⟨g1, g2⟩ := pgv_halves (a := a) hF p
            have t1 : ∃ u, Cand now l p u ∧ readM d' (a.fr + 2 * p) = u.take 256 := by
              rcases (hG.read _).2.1 p rfl p0 p1 with e | ⟨x, hx, e⟩
              · exact ⟨_, hpg p p0 p1, by rw [e, g1]⟩
              · exact ⟨x, Or.inr (hc _ hx), e⟩
            have t2 : ∃ v, Cand now l p v ∧ readM d' (a.fr + 2 * p + 1) = v.drop 256 := by
              rcases (hG.read _).2.2 p rfl p0 p1 with e | ⟨x, hx, e⟩
              · exact ⟨_, hpg p p0 p1, by rw [e, g2]⟩
              · exact ⟨x, Or.inr (hc _ hx), e⟩
            obtain ⟨u, u1, u2⟩ := t1
            obtain ⟨v, v1, v2⟩ := t2
            exact ⟨u, v, u1, v1, u2, v2⟩
          · have hex : ∃ x, (p, x) ∈ c := by
              rcases (hG.read _).2.1 p rfl p0 p1 with e | ⟨x, hx, e⟩
              · rcases (hG.read _).2.2 p rfl p0 p1 with e' | ⟨x, hx, e'⟩
                · have e : pgv a d' p = pgv a d p := by unfold pgv; rw [e, e']
                  rw [e, (hr.cand p0 p1 (hpg p p0 p1)).2] at hv
                  cases hv
                · exact ⟨x, hx⟩
              · exact ⟨x, hx⟩
            obtain ⟨x, hx⟩ := hex
            obtain ⟨k, hk, ek⟩ := List.mem_iff_getElem.1 hx
            have z : ∀ k : Nat, 0 + k = k := Nat.zero_add
            have at2 : ∀ k (hk : k < c.length), readM d' (a.sat + 3 * k) = padB (nameB c[k].1) ∧ slotS a d' k = c[k].2 := by
              intro k hk
              obtain ⟨t1, t2, t3⟩ := slots k (by omega)
              have n1 := s1.name k hk
              have n2 := s1.first k hk
              have n3 := s1.second k hk
              rw [z] at n1 n2 n3
              refine ⟨by rw [t1, e2.read]; exact n1, ?_⟩
              unfold slotS
              rw [t2, t3, e2.read, e2.read, n2, show a.sat + 3 * (k : Int) + 1 + 1 = a.sat + 3 * k + 2 by omega, n3]
              exact take_drop_256 _
            have on : ∀ k (hk : k < c.length), slotB a d' k = true ∧ (slotN a d' k : Int) = c[k].1 := by
              intro k hk
              obtain ⟨y1, y2⟩ := at2 k hk
              obtain ⟨g1, g2⟩ := hgood c[k] (List.getElem_mem hk)
              obtain ⟨m1, m2⟩ := slot_named g1 f4.2 y1
              refine ⟨?_, m1⟩
              unfold slotB
              have hpos := hr.pos f4.1 c[k] (hc _ (List.getElem_mem hk))
              rw [m2, y2, m1, g2, lsn_pos_noughts hpos, show thereB a c[k].1 = true by unfold thereB; simp; exact g1.1]
              simp
            obtain ⟨o1, o2⟩ := on k hk
            rw [ek] at o2
            dsimp only at o2
            obtain ⟨s, hs, hge⟩ := best_ge (a := a) (d := d') a.sl.toNat (i := k) (by omega) o1
            rw [o2] at hs
            rw [(at2 k hk).2, ek] at hge
            dsimp only at hge
            refine ⟨s, hs, ?_⟩
            obtain ⟨i, hi, b1', b2', b3'⟩ := bestN_slot a d' _ _ _ hs
            by_cases hik : i < c.length
            · obtain ⟨o3, o4⟩ := on i hik
              rw [← b3', (at2 i hik).2, ← b2', o4]
              exact hc _ (List.getElem_mem hik)
            · exfalso
              obtain ⟨t1, t2, t3⟩ := slots i (by omega)
              have hs' : slotS a d' i = slotS a d i := by
                unfold slotS
                rw [t2, t3, e2.read, e2.read, s1.others _ (by omega), s1.others _ (by omega)]
              have := hold i (by omega) _ hx
              rw [← lsnB_slot hF, ← hs', b3'] at this
              dsimp only at this
              omega
      have hF3 : Fails (runM (pageM a) d2 0 c) d2 := fails_pages (by rw [size2]; exact hfit) (fun x hx => (hgood x hx).1) e2.off
      by_cases h3 : (runM (pageM a) d2 0 c).1 ≠ 0
      · rw [if_pos h3] at h ⊢
        refine torn2 _ ?_ b1 h
        rcases hF3 with hf | ⟨q1, q2, q3, q4⟩
        · exact Or.inl hf
        · exact Or.inr ⟨q1, q2, q3, q4.trans size2⟩
      · rw [if_neg h3] at h ⊢
        obtain ⟨⟨_, e3⟩, _⟩ := pages_done c hx5 d2 e2.off 0 (by simpa using h3)
        have hF4 : Fails (syncM (runM (pageM a) d2 0 c).2) (runM (pageM a) d2 0 c).2 := fails_sync e3.off
        refine torn2 _ ?_ b1.sync h
        rcases hF4 with hf | ⟨q1, q2, q3, q4⟩
        · exact Or.inl hf
        · exact Or.inr ⟨q1, q2, q3, q4.trans (e3.size.trans size2)⟩
end
end Go.Proofs.YtfkhgmdnajiabaaDoor
