/-
  Plain Lean, no program: Write and Repair, from one sound state to the next.
-/
import Derived.Test.YtfkhgmdnajiabaaDoorTwS
namespace Go.Proofs.YtfkhgmdnajiabaaDoor
set_option linter.unusedSimpArgs false
set_option linter.unusedVariables false

theorem padB_length {s : List UInt8} (h : s.length ≤ 256) : (padB s).length = 256 := by
  unfold padB
  rw [List.length_append, List.length_replicate]
  omega
theorem nameB_length (p : Int) : (nameB p).length = 8 := by unfold nameB; rw [sealB_length]; simp [putB_length]
/-- Full sectors, slots whose numbers are of a kind: kept by what is written. -/
theorem lays_of {a : ArM} {c : List Img} {size : Int} (hfit : a.fits size) (P : Nat → Prop) (hc : ∀ x ∈ c, GoodI a x) (hp : ∀ x ∈ c, P (lsnB x.2)) :
    Lays a (fun j s => s.length = 256 ∧ ∀ i : Nat, (i : Int) < a.sl → j = a.sat + 3 * i + 1 → P (getB (s.take 6))) c := by
  obtain ⟨f1, f2, f3, f4, f5, f6, f7⟩ := hfit
  have h6 : ∀ x : Img, (x.2.take 256).take 6 = x.2.take 6 := fun x => by rw [List.take_take]; rfl
  refine ⟨fun x hx i hi => ⟨⟨padB_length (by rw [nameB_length]; omega), fun i' h1 h2 => by omega⟩, ⟨by rw [List.length_take, (hc x hx).2]; rfl, fun i' h1 h2 => ?_⟩, ⟨by rw [List.length_drop, (hc x hx).2], fun i' h1 h2 => by omega⟩⟩, fun x hx => ?_⟩
  · rw [h6]; exact hp x hx
  · obtain ⟨⟨p0, p1⟩, h5⟩ := hc x hx
    exact ⟨⟨by rw [List.length_take, h5]; rfl, fun i' h1 h2 => by omega⟩, ⟨by rw [List.length_drop, h5], fun i' h1 h2 => by omega⟩⟩
theorem allG_of {a : ArM} {d : DevM} (P : Nat → Prop) (hw : d.wait = []) (hF : Full d) (hs : ∀ i : Nat, (i : Int) < a.sl → P (getB ((readM d (a.sat + 3 * i + 1)).take 6))) :
    AllG (fun j s => s.length = 256 ∧ ∀ i : Nat, (i : Int) < a.sl → j = a.sat + 3 * i + 1 → P (getB (s.take 6))) d :=
  AllG.of_nowait hw (fun j => ⟨hF j, fun i hi e => by rw [e]; exact hs i hi⟩)
theorem allG_out {a : ArM} {d : DevM} {P : Nat → Prop} (h : AllG (fun j s => s.length = 256 ∧ ∀ i : Nat, (i : Int) < a.sl → j = a.sat + 3 * i + 1 → P (getB (s.take 6))) d) :
    Full d ∧ ∀ i : Nat, (i : Int) < a.sl → P (getB ((readM d (a.sat + 3 * i + 1)).take 6)) := ⟨fun j => (h.read j).1, fun i hi => (h.read _).2 i hi rfl⟩

theorem rounds_fails {a : ArM} {now : Int → List UInt8} {l : List Img} (hr : Rising a now l) (n : Nat) (r : List Img) (hn : r.length ≤ n) (d : DevM) (hfit : a.fits d.size) (ho : d.off = false) (hw : d.wait = []) (hF : Full d) (hc : ∀ x ∈ r, x ∈ l)
    (hpw : r.Pairwise (fun x y => lsnB x.2 < lsnB y.2)) (hpg : ∀ p, 0 ≤ p → p < a.pg → Cand now l p (pgv a d p)) (hold : Older a d r) (h : (roundsM a n d r).1 ≠ 0) :
    (roundsM a n d r).1 = 7 ∧ (roundsM a n d r).2.off = true ∧ Torn a now l (roundsM a n d r).2 := by
  have hsl : 1 ≤ a.sl.toNat := by have := hfit.2.2.1; omega
  induction n generalizing d r with
  | zero => exact absurd rfl h
  | succ n ih =>
    simp only [roundsM] at h ⊢
    by_cases hz : r.length = 0
    · rw [if_pos hz] at h; exact absurd rfl h
    · rw [if_neg hz] at h ⊢
      obtain ⟨q, hq⟩ : ∃ q, q = min a.sl.toNat r.length := ⟨_, rfl⟩
      rw [← hq] at h ⊢
      have hlt : (r.take q).length = q := by simp; omega
      have hld : (r.drop q).length = r.length - q := by simp
      have hct : ∀ x ∈ r.take q, x ∈ l := fun x h => hc x (List.mem_of_mem_take h)
      have hcd : ∀ x ∈ r.drop q, x ∈ l := fun x h => hc x (List.mem_of_mem_drop h)
      have hgt : ∀ x ∈ r.take q, GoodI a x := fun x h => (hr.good x (hct x h)).1
      by_cases h1 : (roundM a d (r.take q)).1 ≠ 0
      · rw [if_pos h1] at h ⊢
        exact round_fails hfit ho hw hF (by rw [hlt]; omega) hct hr hpg (fun i hi x hx => hold i hi x (List.mem_of_mem_take hx)) h1
      · rw [if_neg h1] at h ⊢
        have r1 := round_done hfit (by rw [hlt]; omega) hgt ho (by simpa using h1)
        have hpw' := hpw
        rw [← List.take_append_drop q r, List.pairwise_append] at hpw'
        obtain ⟨_, pd, pc⟩ := hpw'
        obtain ⟨F1, O1⟩ := allG_out (a := a) (P := fun n => ∀ y ∈ r.drop q, n < lsnB y.2) ((allG_of (a := a) (fun n => ∀ y ∈ r.drop q, n < lsnB y.2) hw hF (fun i hi y hy => hold i hi y (List.mem_of_mem_drop hy))).round (a := a) (lays_of hfit (fun n => ∀ y ∈ r.drop q, n < lsnB y.2) hgt (fun x hx y hy => pc x hx y hy)) (fun x hx => (hgt x hx).2) (by rw [hlt]; omega))
        generalize (roundM a d (r.take q)).2 = d1 at *
        refine ih (r.drop q) (by rw [hld]; omega) d1 (by rw [r1.size]; exact hfit) r1.off r1.wait F1 hcd pd (fun p p0 p1 => ?_) O1 h
        have e : pgv a d1 p = match lastAt (r.take q) p with | some s => s | none => pgv a d p := by
          unfold pgv
          rw [r1.pfirst p p0 p1, r1.psecond p p0 p1]
          cases lastAt (r.take q) p with
          | none => rfl
          | some s => exact take_drop_256 s
        rw [e]
        cases hla : lastAt (r.take q) p with
        | none => exact hpg p p0 p1
        | some s =>
          obtain ⟨x, hx, e1, e2⟩ := lastAt_mem hla
          refine Or.inr ?_
          rw [show (p, s) = x by rw [← e1, ← e2]]
          exact hct x hx

/-- A device between two writes: all pages whole, all numbers at most L. -/
structure Sound (a : ArM) (d : DevM) (now : Int → List UInt8) (L : Nat) : Prop where
  off : d.off = false
  wait : d.wait = []
  fits : a.fits d.size
  full : Full d
  page : ∀ p, 0 ≤ p → p < a.pg → pgv a d p = now p
  old : ∀ p, 0 ≤ p → p < a.pg → ((now p).length = 512 ∧ wholeB (now p) = true) ∧ lsnB (now p) ≤ L
  slots : ∀ i : Nat, (i : Int) < a.sl → getB ((readM d (a.sat + 3 * i + 1)).take 6) ≤ L
/-- A device whose power failed in a Write, and is on again. -/
structure Hurt (a : ArM) (d : DevM) (now : Int → List UInt8) (l : List Img) (L : Nat) : Prop where
  off : d.off = false
  torn : Torn a now l d
  full : Full d
  slots : ∀ i : Nat, (i : Int) < a.sl → getB ((readM d (a.sat + 3 * i + 1)).take 6) ≤ L
/-- What is to be written next. -/
structure Next (a : ArM) (l : List Img) (L L' : Nat) : Prop where
  good : ∀ x ∈ l, GoodI a x ∧ wholeB x.2 = true
  rise : l.Pairwise (fun x y => lsnB x.2 < lsnB y.2)
  more : ∀ x ∈ l, L < lsnB x.2 ∧ lsnB x.2 ≤ L'
  le : L ≤ L'
def nowL (now : Int → List UInt8) (l : List Img) (p : Int) : List UInt8 := match lastAt l p with | some s => s | none => now p
section
variable {a : ArM} {now : Int → List UInt8} {l : List Img} {d : DevM} {L L' : Nat}
theorem Sound.fuse (h : Sound a d now L) (n : Int) (ks : List Int) : Sound a (fuseM d n ks) now L := ⟨h.off, h.wait, h.fits, h.full, h.page, h.old, h.slots⟩
theorem Hurt.fuse (h : Hurt a d now l L) (n : Int) (ks : List Int) : Hurt a (fuseM d n ks) now l L := ⟨h.off, ⟨h.torn.wait, h.torn.size, h.torn.halves, fun p p0 p1 hv => by rw [bestN_same (d := d) (d' := fuseM d n ks) _ (fun _ _ => ⟨rfl, rfl, rfl⟩)]; exact h.torn.mends p p0 p1 hv⟩, h.full, h.slots⟩
theorem Sound.rising (h : Sound a d now L) (hl : Next a l L L') : Rising a now l :=
  ⟨hl.good, hl.rise, fun p p0 p1 => (h.old p p0 p1).1, fun p p0 p1 x hx => Nat.lt_of_le_of_lt (h.old p p0 p1).2 (hl.more x hx).1⟩
theorem Torn.on (h : Torn a now l d) : Torn a now l (onM d) :=
  ⟨h.wait, h.size, h.halves, fun p p0 p1 hv => by rw [onM_best]; exact h.mends p p0 p1 hv⟩
theorem Sound.write (h : Sound a d now L) (hl : Next a l L L') :
    ((twriteM a d l).1 = 0 ∧ (twriteM a d l).2.off = false ∧ Sound a (onM (twriteM a d l).2) (nowL now l) L') ∨
    ((twriteM a d l).1 = 7 ∧ (twriteM a d l).2.off = true ∧ Hurt a (onM (twriteM a d l).2) now l L') := by
  have hgood : ∀ x ∈ l, GoodI a x := fun x hx => (hl.good x hx).1
  have e : twriteM a d l = roundsM a l.length d l := by
    unfold twriteM
    rw [if_pos (List.all_eq_true.2 fun x hx => goodB_iff.2 (hl.good x hx))]
  have hle := hl.le
  obtain ⟨F1, O1⟩ := allG_out (P := (· ≤ L')) ((allG_of (a := a) (· ≤ L') h.wait h.full (fun i hi => Nat.le_trans (h.slots i hi) hl.le)).rounds (a := a) l.length (lays_of h.fits (· ≤ L') hgood (fun x hx => (hl.more x hx).2)) (fun x hx => (hgood x hx).2) h.fits.2.2.1.1)
  rw [e]
  by_cases hz : (roundsM a l.length d l).1 = 0
  · have r := rounds_done l.length d l (Nat.le_refl _) h.fits hgood h.off hz
    refine Or.inl ⟨hz, r.off, rfl, r.wait h.wait, by show a.fits (roundsM a l.length d l).2.size; rw [r.size]; exact h.fits, F1, fun p p0 p1 => ?_, fun p p0 p1 => ?_, O1⟩
    · show pgv a (roundsM a l.length d l).2 p = _
      rw [r.page p p0 p1]
      unfold nowL
      cases lastAt l p with
      | some s => rfl
      | none => exact h.page p p0 p1
    · unfold nowL
      cases hla : lastAt l p with
      | none => exact ⟨(h.old p p0 p1).1, Nat.le_trans (h.old p p0 p1).2 hl.le⟩
      | some s =>
        obtain ⟨x, hx, _, e2⟩ := lastAt_mem hla
        dsimp only
        rw [← e2]
        exact ⟨⟨(hgood x hx).2, (hl.good x hx).2⟩, (hl.more x hx).2⟩
  · obtain ⟨r1, r2, r3⟩ := rounds_fails (h.rising hl) l.length l (Nat.le_refl _) d h.fits h.off h.wait h.full (fun x hx => hx) hl.rise (fun p p0 p1 => Or.inl (h.page p p0 p1)) (fun i hi x hx => Nat.lt_of_le_of_lt (h.slots i hi) (hl.more x hx).1) hz
    exact Or.inr ⟨r1, r2, rfl, r3.on, F1, O1⟩

/-- Repair, however it ends: what is kept. -/
theorem AllG.rep {G : Int → List UInt8 → Prop} {b : Int → Option (List UInt8)} (h : AllG G d) (k : Nat) (hb : ∀ d' n s, AllG G d' → n < k → fixB a b d' n = some s → s.length = 512 ∧ G (a.fr + 2 * n) (s.take 256) ∧ G (a.fr + 2 * n + 1) (s.drop 256)) :
    AllG G (repM a b d k).2.1 := by
  induction k with
  | zero => exact h
  | succ k ih =>
    have ih := ih (fun d' n s hd hn => hb d' n s hd (by omega))
    simp only [repM]
    split
    · exact ih
    · cases hfk : fixB a b (repM a b d k).2.1 k with
      | none => exact ih
      | some s =>
        obtain ⟨h1, h2, h3⟩ := hb _ k s ih (by omega) hfk
        have hp := ih.put h1 h2 h3
        dsimp only
        split
        · exact hp
        · exact hp
theorem AllG.endM {G : Int → List UInt8 → Prop} {r : Int × DevM × Nat} (h : AllG G r.2.1) : AllG G (endM r).2 := by
  have hs := h.sync
  unfold Proofs.YtfkhgmdnajiabaaDoor.endM
  split
  · exact h
  · split
    · exact h
    · split
      · exact hs
      · exact hs
/-- Nothing waits behind Repair. -/
theorem rep_wait {b : Int → Option (List UInt8)} (hw : d.wait = []) (ho : d.off = false) (hfit : a.fits d.size) (hb : ∀ j s, b j = some s → s.length = 512) (k : Nat) (hk : (k : Int) ≤ a.pg) :
    ((repM a b d k).1 = 0 ∧ (repM a b d k).2.1.off = false ∧ (repM a b d k).2.1.size = d.size ∧ ((repM a b d k).2.2 = 0 → (repM a b d k).2.1 = d)) ∨ ((repM a b d k).1 = 7 ∧ (repM a b d k).2.1.wait = []) := by
  have hf2 := hfit
  obtain ⟨f1, f2, f3, f4, f5, f6, f7⟩ := hf2
  induction k with
  | zero => exact Or.inl ⟨rfl, ho, rfl, fun _ => rfl⟩
  | succ k ih =>
    simp only [repM]
    rcases ih (by omega) with ⟨i1, i2, i3, i4⟩ | ⟨i1, i2⟩
    · rw [if_neg (by simp [i1])]
      generalize repM a b d k = r at *
      obtain ⟨e, dk, n⟩ := r
      dsimp only at *
      cases hfk : fixB a b dk k with
      | none => exact Or.inl ⟨i1, i2, i3, i4⟩
      | some s =>
        have hs : s.length = 512 := by
          unfold fixB at hfk
          cases hbk : b k with
          | none => rw [hbk] at hfk; cases hfk
          | some t =>
            rw [hbk] at hfk
            dsimp only at hfk
            split at hfk
            · cases hfk
            · cases hfk; exact hb _ _ hbk
        have hp := fails_put (d := dk) (i := a.fr + 2 * k) (s := s) i2 (by rw [i3]; omega) hs
        dsimp only
        by_cases hz : (putM dk (a.fr + 2 * k) s).1 ≠ 0
        · rw [if_pos hz]
          rcases hp with hp | ⟨q1, q2, q3, q4⟩
          · exact absurd hp hz
          · exact Or.inr ⟨q1, q3⟩
        · rw [if_neg hz]
          have e1 := put_done hs (by simpa using hz)
          exact Or.inl ⟨rfl, e1.off, e1.size.trans i3, fun h => absurd h (by simp)⟩
    · rw [if_pos (by simp [i1])]
      exact Or.inr ⟨i1, i2⟩
theorem repair_wait (hw : d.wait = []) (ho : d.off = false) (hfit : a.fits d.size) (hd : d.fits) : (trepairM a d).2.wait = [] := by
  have hpg : (a.pg.toNat : Int) ≤ a.pg := by have := hfit.2.2.2.1; omega
  have h := rep_wait hw ho hfit (bestN_len a hd a.sl.toNat) a.pg.toNat hpg
  unfold trepairM endM
  rcases h with ⟨i1, i2, i3, i4⟩ | ⟨i1, i2⟩
  · rw [if_neg (by simp [i1])]
    by_cases hz : (repM a (bestN a d a.sl.toNat) d a.pg.toNat).2.2 = 0
    · rw [if_pos hz]
      show (repM a (bestN a d a.sl.toNat) d a.pg.toNat).2.1.wait = []
      rw [i4 hz]; exact hw
    · rw [if_neg hz]
      have hf := fails_sync i2
      have hs : (syncM (repM a (bestN a d a.sl.toNat) d a.pg.toNat).2.1).2.wait = [] := by
        rcases hf with hf | ⟨_, _, q3, _⟩
        · exact (sync_done hf).2
        · exact q3
      split
      · exact hs
      · exact hs
  · rw [if_pos (by simp [i1])]
    exact i2
/-- A Repair that may fail, too. -/
theorem Hurt.repair (h : Hurt a d now l L) (hr : Rising a now l) (hd : d.fits) : Hurt a (onM (trepairM a d).2) now l L := by
  have hfit := h.torn.size
  have hf2 := hfit
  obtain ⟨f1, f2, f3, f4, f5, f6, f7⟩ := hf2
  obtain ⟨G, hG⟩ : ∃ G : Int → List UInt8 → Prop, G = fun j s => s.length = 256 ∧ ((∀ p, 0 ≤ p → p < a.pg → j ≠ a.fr + 2 * p ∧ j ≠ a.fr + 2 * p + 1) → s = readM d j) ∧
      (∀ p, j = a.fr + 2 * p → 0 ≤ p → p < a.pg → (∃ u, Cand now l p u ∧ s = u.take 256) ∧ (wholeB (pgv a d p) = true → s = readM d j)) ∧
      (∀ p, j = a.fr + 2 * p + 1 → 0 ≤ p → p < a.pg → (∃ u, Cand now l p u ∧ s = u.drop 256) ∧ (wholeB (pgv a d p) = true → s = readM d j)) := ⟨_, rfl⟩
  have a0 : AllG G d := AllG.of_nowait h.torn.wait (fun j => by
    rw [hG]
    refine ⟨h.full j, fun _ => rfl, fun p e p0 p1 => ⟨?_, fun _ => rfl⟩, fun p e p0 p1 => ⟨?_, fun _ => rfl⟩⟩
    · obtain ⟨u, v, h1, h2, h3, h4⟩ := h.torn.halves p p0 p1
      exact ⟨u, h1, by rw [e]; exact h3⟩
    · obtain ⟨u, v, h1, h2, h3, h4⟩ := h.torn.halves p p0 p1
      exact ⟨v, h2, by rw [e]; exact h4⟩)
  have hkeep : ∀ d', AllG G d' → ∀ p, 0 ≤ p → p < a.pg → wholeB (pgv a d p) = true → pgv a d' p = pgv a d p := by
    intro d' hd' p p0 p1 hwh
    rw [hG] at hd'
    unfold pgv
    rw [((hd'.read _).2.2.1 p rfl p0 p1).2 hwh, ((hd'.read _).2.2.2 p rfl p0 p1).2 hwh]
  have a1 : AllG G (trepairM a d).2 := by
    unfold trepairM
    refine AllG.endM (a0.rep a.pg.toNat (fun d' n s hd' hn hfx => ?_))
    unfold fixB at hfx
    cases hbn : bestN a d a.sl.toNat n with
    | none => rw [hbn] at hfx; cases hfx
    | some t =>
      rw [hbn] at hfx
      dsimp only at hfx
      by_cases hwd : wholeB (pgv a d n) = true
      · have e := hkeep d' hd' n (by omega) (by omega) hwd
        rw [show pageR a d' n = pgv a d' n from rfl, e, if_pos hwd] at hfx
        cases hfx
      · have hs : s = t := by
          split at hfx
          · cases hfx
          · cases hfx; rfl
        subst hs
        have hlen := bestN_len a hd _ _ _ hbn
        obtain ⟨s', hs', hm⟩ := h.torn.mends n (by omega) (by omega) (by simpa using hwd)
        rw [hbn] at hs'
        injection hs' with hs'
        subst hs'
        rw [hG]
        refine ⟨hlen, ⟨by rw [List.length_take, hlen]; rfl, fun hno => absurd rfl (hno n (by omega) (by omega)).1, fun p e p0 p1 => ?_, fun p e p0 p1 => by omega⟩, ⟨by rw [List.length_drop, hlen], fun hno => absurd rfl (hno n (by omega) (by omega)).2, fun p e p0 p1 => by omega, fun p e p0 p1 => ?_⟩⟩
        · have : p = n := by omega
          subst this
          exact ⟨⟨s, Or.inr hm, rfl⟩, fun hh => absurd hh hwd⟩
        · have : p = n := by omega
          subst this
          exact ⟨⟨s, Or.inr hm, rfl⟩, fun hh => absurd hh hwd⟩
  have hsz : (trepairM a d).2.size = d.size := trepair_size a d h.off
  have hwt := repair_wait h.torn.wait h.off hfit hd
  have hk2 := hkeep _ a1
  rw [hG] at a1
  generalize (trepairM a d).2 = d' at *
  have slots : ∀ i : Nat, (i : Int) < a.sl → readM d' (a.sat + 3 * i) = readM d (a.sat + 3 * i) ∧ readM d' (a.sat + 3 * i + 1) = readM d (a.sat + 3 * i + 1) ∧ readM d' (a.sat + 3 * i + 1 + 1) = readM d (a.sat + 3 * i + 1 + 1) := fun i hi =>
    ⟨(a1.read _).2.1 (fun p p0 p1 => by omega), (a1.read _).2.1 (fun p p0 p1 => by omega), (a1.read _).2.1 (fun p p0 p1 => by omega)⟩
  have T : Torn a now l d' := by
    refine ⟨hwt, by rw [hsz]; exact hfit, fun p p0 p1 => ?_, fun p p0 p1 hv => ?_⟩
    · obtain ⟨⟨u, u1, u2⟩, _⟩ := (a1.read _).2.2.1 p rfl p0 p1
      obtain ⟨⟨v, v1, v2⟩, _⟩ := (a1.read _).2.2.2 p rfl p0 p1
      exact ⟨u, v, u1, v1, u2, v2⟩
    · rw [bestN_same (d := d) (d' := d') a.sl.toNat (fun i hi => slots i (by omega))]
      refine h.torn.mends p p0 p1 ?_
      cases hwd : wholeB (pgv a d p) with
      | false => rfl
      | true => rw [hk2 p p0 p1 hwd, hwd] at hv; cases hv
  exact ⟨rfl, T.on, fun j => (a1.read j).1, fun i hi => by rw [onM_read, (slots i hi).2.1]; exact h.slots i hi⟩
/-- A Repair that succeeds: each page is whole, what it had or what was to be written. -/
theorem Hurt.mend (h : Hurt a d now l L') (hf : d.fuse = 0) (hr : Rising a now l) (hd : d.fits) (hd2 : (trepairM a d).2.fits) (ho : ∀ p, 0 ≤ p → p < a.pg → lsnB (now p) ≤ L') (hL : ∀ x ∈ l, lsnB x.2 ≤ L') :
    (trepairM a d).1.2 = 0 ∧ Sound a (trepairM a d).2 (pgv a (trepairM a d).2) L' ∧ ∀ p, 0 ≤ p → p < a.pg → Cand now l p (pgv a (trepairM a d).2 p) := by
  have hfit := h.torn.size
  have hf2 := hfit
  obtain ⟨f1, f2, f3, f4, f5, f6, f7⟩ := hf2
  obtain ⟨h1, h2, h3⟩ := repair_calm hfit hd h.off hf
  generalize (trepairM a d).2 = d' at *
  have hC : ∀ p, 0 ≤ p → p < a.pg → Cand now l p (pgv a d' p) := by
    intro p p0 p1
    have hd := h2.done p.toNat (by omega)
    rw [show ((p.toNat : Nat) : Int) = p by omega] at hd
    by_cases hw : wholeB (pgv a d p) = true
    · have hw' : wholeB (pgv a d (p.toNat : Nat)) = true := by rw [show ((p.toNat : Nat) : Int) = p by omega]; exact hw
      rw [fixB_whole hw'] at hd
      dsimp only at hd
      rw [hd]
      obtain ⟨u, v, u1, v1, u2, v2⟩ := h.torn.halves p p0 p1
      have e : pgv a d p = u.take 256 ++ v.drop 256 := by unfold pgv; rw [u2, v2]
      rw [e] at hw ⊢
      rw [hr.torn p0 p1 u1 v1 hw]
      exact u1
    · obtain ⟨s, hs, hm⟩ := h.torn.mends p p0 p1 (by simpa using hw)
      have e : fixB a (bestN a d a.sl.toNat) d p.toNat = some s := by
        unfold fixB
        rw [show ((p.toNat : Nat) : Int) = p by omega, hs]
        dsimp only
        rw [if_neg]
        show ¬ wholeB (pgv a d (p.toNat : Nat)) = true
        rw [show ((p.toNat : Nat) : Int) = p by omega]; exact hw
      rw [e] at hd
      dsimp only at hd
      rw [hd]
      exact Or.inr hm
  have hslot : ∀ i : Nat, (i : Int) < a.sl → readM d' (a.sat + 3 * i + 1) = readM d (a.sat + 3 * i + 1) := fun i hi => h2.others _ (by omega)
  have hF : Full d' := fun j => readM_length hd2 j
  refine ⟨by rw [h1], ⟨h2.off, h3 h.torn.wait, by rw [h2.size]; exact hfit, hF, fun _ _ _ => rfl, fun p p0 p1 => ⟨hr.cand p0 p1 (hC p p0 p1), ?_⟩, fun i hi => by rw [hslot i hi]; exact h.slots i hi⟩, hC⟩
  rcases hC p p0 p1 with e | e
  · rw [e]; exact ho p p0 p1
  · exact hL _ e
end
end Go.Proofs.YtfkhgmdnajiabaaDoor
