/-
  Plain Lean, no program: what holds of all that may be on a device, whatever a Write comes to; a Repair where no power fails.
-/
import Derived.Test.YtfkhgmdnajiabaaDoorTwK
namespace Go.Proofs.YtfkhgmdnajiabaaDoor
set_option linter.unusedSimpArgs false
set_option linter.unusedVariables false

section
variable {G : Int → List UInt8 → Prop} {a : ArM} {d : DevM} {l : List Img}
/-- What an area's writes may lay down. -/
structure Lays (a : ArM) (G : Int → List UInt8 → Prop) (l : List Img) : Prop where
  name : ∀ x ∈ l, ∀ i : Nat, (i : Int) < a.sl → G (a.sat + 3 * i) (padB (nameB x.1)) ∧ G (a.sat + 3 * i + 1) (x.2.take 256) ∧ G (a.sat + 3 * i + 1 + 1) (x.2.drop 256)
  page : ∀ x ∈ l, G (a.fr + 2 * x.1) (x.2.take 256) ∧ G (a.fr + 2 * x.1 + 1) (x.2.drop 256)
theorem Lays.sub {r : List Img} (h : Lays a G l) (hs : ∀ x ∈ r, x ∈ l) : Lays a G r := ⟨fun x hx => h.name x (hs x hx), fun x hx => h.page x (hs x hx)⟩
theorem AllG.slots (h : AllG G d) (hl : Lays a G l) (hx : ∀ x ∈ l, x.2.length = 512) (hn : (l.length : Int) ≤ a.sl) : AllG G (runM (slotM a) d 0 l).2 := by
  refine AllG.run (slotM a) l 0 (fun d i x hx' _ hi hd => ?_) h
  obtain ⟨h1, h2, h3⟩ := hl.name x hx' i (by omega)
  unfold slotM
  split
  · exact hd.write h1
  · exact (hd.write h1).put (hx x hx') h2 h3
theorem AllG.pages (h : AllG G d) (hl : Lays a G l) (hx : ∀ x ∈ l, x.2.length = 512) : AllG G (runM (pageM a) d 0 l).2 := by
  refine AllG.run (pageM a) l 0 (fun d i x hx' _ hi hd => ?_) h
  obtain ⟨h1, h2⟩ := hl.page x hx'
  exact hd.put (hx x hx') h1 h2
theorem AllG.round (h : AllG G d) (hl : Lays a G l) (hx : ∀ x ∈ l, x.2.length = 512) (hn : (l.length : Int) ≤ a.sl) : AllG G (roundM a d l).2 := by
  have h1 := h.slots hl hx hn
  have h2 := h1.sync
  have h3 := h2.pages hl hx
  unfold roundM
  split
  · exact h1
  · split
    · exact h2
    · split
      · exact h3
      · exact h3.sync
theorem AllG.rounds (n : Nat) (h : AllG G d) (hl : Lays a G l) (hx : ∀ x ∈ l, x.2.length = 512) (hs : 1 ≤ a.sl) : AllG G (roundsM a n d l).2 := by
  induction n generalizing d l with
  | zero => exact h
  | succ n ih =>
    have hlt : (l.take (min a.sl.toNat l.length)).length = min a.sl.toNat l.length := by rw [List.length_take]; omega
    have h1 := h.round (hl.sub (r := l.take (min a.sl.toNat l.length)) fun x hx => List.mem_of_mem_take hx) (fun x h => hx x (List.mem_of_mem_take h)) (by rw [hlt]; omega)
    simp only [roundsM]
    split
    · exact h
    · split
      · exact h1
      · exact ih h1 (hl.sub fun x hx => List.mem_of_mem_drop hx) (fun x h => hx x (List.mem_of_mem_drop h))
theorem AllG.twrite (h : AllG G d) (hl : Lays a G l) (hx : ∀ x ∈ l, x.2.length = 512) (hs : 1 ≤ a.sl) : AllG G (twriteM a d l).2 := by
  unfold twriteM
  split
  · exact h.rounds _ hl hx hs
  · exact h
end

/-- Of what the slots hold. -/
theorem bestN_slot (a : ArM) (d : DevM) (k : Nat) (j : Int) (s : List UInt8) (h : bestN a d k j = some s) : ∃ i, i < k ∧ slotB a d i = true ∧ (slotN a d i : Int) = j ∧ slotS a d i = s := by
  induction k generalizing s with
  | zero => cases h
  | succ k ih =>
    simp only [bestN] at h
    split at h
    · rename_i hb
      dsimp only at h
      split at h
      · rename_i e
        cases h
        unfold betterB at hb
        rw [Bool.and_eq_true] at hb
        exact ⟨k, by omega, hb.1, e.symm, rfl⟩
      · obtain ⟨i, h1, h2⟩ := ih s h
        exact ⟨i, by omega, h2⟩
    · obtain ⟨i, h1, h2⟩ := ih s h
      exact ⟨i, by omega, h2⟩
theorem slotB_whole {a : ArM} {d : DevM} {i : Nat} (h : slotB a d i = true) : wholeB (slotS a d i) = true := by
  unfold slotB at h
  simp only [Bool.and_eq_true] at h
  exact h.2.2.1
theorem bestN_whole (a : ArM) (d : DevM) (k : Nat) (j : Int) (s : List UInt8) (h : bestN a d k j = some s) : wholeB s = true := by
  obtain ⟨i, _, h2, _, rfl⟩ := bestN_slot a d k j s h
  exact slotB_whole h2
/-- The slots are read alike. -/
theorem bestN_same {a : ArM} {d d' : DevM} (k : Nat) (hr : ∀ i : Nat, i < k → readM d' (a.sat + 3 * i) = readM d (a.sat + 3 * i) ∧ readM d' (a.sat + 3 * i + 1) = readM d (a.sat + 3 * i + 1) ∧ readM d' (a.sat + 3 * i + 1 + 1) = readM d (a.sat + 3 * i + 1 + 1)) : bestN a d' k = bestN a d k := by
  induction k with
  | zero => rfl
  | succ k ih =>
    have hk := hr k (by omega)
    have ih := ih (fun i hi => hr i (by omega))
    have e1 : slotN a d' k = slotN a d k := by unfold slotN; rw [hk.1]
    have e2 : slotS a d' k = slotS a d k := by unfold slotS; rw [hk.2.1, hk.2.2]
    have e3 : slotB a d' k = slotB a d k := by unfold slotB; rw [e1, e2, hk.1]
    have e4 : betterB a d' (bestN a d k) k = betterB a d (bestN a d k) k := by unfold betterB; rw [e1, e2, e3]
    simp only [bestN]
    rw [ih, e4, e1, e2]

/-- How many of the first k pages are to be repaired. -/
def fixes (a : ArM) (b : Int → Option (List UInt8)) (d : DevM) : Nat → Nat
  | 0 => 0
  | k + 1 => fixes a b d k + if (fixB a b d k).isSome = true then 1 else 0
theorem fixes_le (a : ArM) (b : Int → Option (List UInt8)) (d : DevM) (k : Nat) : fixes a b d k ≤ k := by
  induction k with
  | zero => exact Nat.le_refl _
  | succ k ih => simp only [fixes]; split <;> omega
/-- What repairing the first k pages leaves. -/
structure RepDone (a : ArM) (b : Int → Option (List UInt8)) (d d' : DevM) (k : Nat) : Prop where
  off : d'.off = false
  fuse : d'.fuse = 0
  size : d'.size = d.size
  done : ∀ p : Nat, p < k → pgv a d' p = match fixB a b d p with | some s => s | none => pgv a d p
  left : ∀ p : Nat, k ≤ p → pgv a d' p = pgv a d p
  others : ∀ j, (j < a.fr ∨ a.fr + 2 * a.pg ≤ j) → readM d' j = readM d j
theorem fixB_at {a : ArM} {b : Int → Option (List UInt8)} {d d' : DevM} {p : Nat} (h : pgv a d' p = pgv a d p) : fixB a b d' p = fixB a b d p := by
  unfold fixB
  cases b p with
  | none => rfl
  | some s =>
    show (if wholeB (pgv a d' p) = true then none else some s) = if wholeB (pgv a d p) = true then none else some s
    rw [h]
theorem rep_calm {a : ArM} {b : Int → Option (List UInt8)} {d : DevM} (hfit : a.fits d.size) (ho : d.off = false) (hf : d.fuse = 0) (hb : ∀ j s, b j = some s → s.length = 512) (k : Nat) (hk : (k : Int) ≤ a.pg) :
    (repM a b d k).1 = 0 ∧ (repM a b d k).2.2 = fixes a b d k ∧ RepDone a b d (repM a b d k).2.1 k := by
  obtain ⟨f1, f2, f3, f4, f5, f6, f7⟩ := hfit
  induction k with
  | zero => exact ⟨rfl, rfl, ho, hf, rfl, fun p hp => absurd hp (by omega), fun p _ => rfl, fun j _ => rfl⟩
  | succ k ih =>
    obtain ⟨h1, h2, h3⟩ := ih (by omega)
    have hfx : fixB a b (repM a b d k).2.1 k = fixB a b d k := fixB_at (h3.left k (Nat.le_refl _))
    simp only [repM]
    rw [if_neg (by simp [h1]), hfx]
    generalize repM a b d k = r at *
    obtain ⟨e, dk, c⟩ := r
    dsimp only at *
    cases hfk : fixB a b d k with
    | none =>
      dsimp only
      refine ⟨h1, by simp [fixes, hfk, h2], h3.off, h3.fuse, h3.size, fun p hp => ?_, fun p hp => h3.left p (by omega), h3.others⟩
      by_cases e : p = k
      · subst e; rw [h3.left p (Nat.le_refl _), hfk]
      · exact h3.done p (by omega)
    | some s =>
      dsimp only
      have hs : s.length = 512 := by
        unfold fixB at hfk
        cases hbk : b k with
        | none => rw [hbk] at hfk; cases hfk
        | some t =>
          rw [hbk] at hfk
          dsimp only at hfk
          split at hfk
          · cases hfk
          · cases hfk; exact hb _ _ hbk
      have hc := put_calm (i := a.fr + 2 * k) h3.off h3.fuse (by rw [h3.size]; omega) hs
      have e1 := put_done hs hc
      rw [if_neg (by simp [hc])]
      refine ⟨rfl, by simp [fixes, hfk, h2], e1.off, e1.fuse h3.fuse, e1.size.trans h3.size, fun p hp => ?_, fun p hp => ?_, fun j hj => ?_⟩
      · by_cases e : p = k
        · subst e
          rw [hfk]
          dsimp only
          unfold pgv
          rw [e1.read, e1.read, if_neg (by omega), if_pos rfl, if_pos rfl]
          exact take_drop_256 s
        · rw [← h3.done p (by omega)]
          unfold pgv
          rw [e1.read, e1.read, if_neg (by omega), if_neg (by omega), if_neg (by omega), if_neg (by omega)]
      · rw [← h3.left p (by omega)]
        unfold pgv
        rw [e1.read, e1.read, if_neg (by omega), if_neg (by omega), if_neg (by omega), if_neg (by omega)]
      · rw [e1.read, if_neg (by omega), if_neg (by omega)]
        exact h3.others j hj
/-- A Repair where no power fails. -/
theorem repair_calm {a : ArM} {d : DevM} (hfit : a.fits d.size) (hd : d.fits) (ho : d.off = false) (hf : d.fuse = 0) :
    (trepairM a d).1 = (((fixes a (bestN a d a.sl.toNat) d a.pg.toNat : Nat) : Int), (0 : Int)) ∧ RepDone a (bestN a d a.sl.toNat) d (trepairM a d).2 a.pg.toNat ∧ (d.wait = [] → (trepairM a d).2.wait = []) := by
  have hpg : (a.pg.toNat : Int) ≤ a.pg := by have := hfit.2.2.2.1; omega
  obtain ⟨h1, h2, h3⟩ := rep_calm hfit ho hf (bestN_len a hd a.sl.toNat) a.pg.toNat hpg
  unfold trepairM endM
  rw [if_neg (by simp [h1])]
  by_cases hz : (repM a (bestN a d a.sl.toNat) d a.pg.toNat).2.2 = 0
  · rw [if_pos hz]
    rw [h2] at hz
    refine ⟨by rw [hz]; rfl, h3, fun hw => ?_⟩
    have hn : ∀ k, k < a.pg.toNat → fixB a (bestN a d a.sl.toNat) d k = none := by
      have : ∀ n, fixes a (bestN a d a.sl.toNat) d n = 0 → ∀ k, k < n → fixB a (bestN a d a.sl.toNat) d k = none := by
        intro n
        induction n with
        | zero => intro _ k hk; omega
        | succ n ih =>
          intro hn k hk
          simp only [fixes] at hn
          by_cases e : k = n
          · subst e
            cases hfk : fixB a (bestN a d a.sl.toNat) d k with
            | none => rfl
            | some s => rw [hfk] at hn; simp at hn
          · exact ih (by omega) k (by omega)
      exact this _ hz
    rw [repM_none _ hn]
    exact hw
  · rw [if_neg hz]
    have hs := sync_calm h3.off h3.fuse
    obtain ⟨e, hw⟩ := sync_done hs
    rw [if_neg (by simp [hs])]
    refine ⟨by rw [h2], ⟨e.off, e.fuse h3.fuse, e.size.trans h3.size, fun p hp => ?_, fun p hp => ?_, fun j hj => ?_⟩, fun _ => hw⟩
    · rw [← h3.done p hp]; unfold pgv; rw [e.read, e.read]
    · rw [← h3.left p hp]; unfold pgv; rw [e.read, e.read]
    · rw [e.read]; exact h3.others j hj
theorem endM_cmds (r : Int × DevM × Nat) : (endM r).2.cmds ≤ r.2.1.cmds + 1 := by
  have h := syncM_cmds r.2.1
  unfold endM
  split
  · exact Nat.le_succ _
  · split
    · exact Nat.le_succ _
    · split
      · exact h
      · exact h
theorem trepair_cmds (a : ArM) (d : DevM) (ho : d.off = false) : (trepairM a d).2.cmds ≤ d.cmds + 2 * a.pg.toNat + 1 := by
  have h1 := endM_cmds (repM a (bestN a d a.sl.toNat) d a.pg.toNat)
  have h2 := (repM_all a (bestN a d a.sl.toNat) d ho a.pg.toNat).2.1
  unfold trepairM
  omega
theorem endM_size (r : Int × DevM × Nat) : (endM r).2.size = r.2.1.size := by
  have h := syncM_size r.2.1
  unfold endM
  split
  · rfl
  · split
    · rfl
    · split
      · exact h
      · exact h
theorem trepair_size (a : ArM) (d : DevM) (ho : d.off = false) : (trepairM a d).2.size = d.size :=
  (endM_size _).trans (repM_all a (bestN a d a.sl.toNat) d ho a.pg.toNat).1
/-- A second one finds nothing. -/
theorem repair_again {a : ArM} {d d' : DevM} (hfit : a.fits d.size) (hr : RepDone a (bestN a d a.sl.toNat) d d' a.pg.toNat) : trepairM a d' = ((0, 0), d') := by
  obtain ⟨f1, f2, f3, f4, f5, f6, f7⟩ := hfit
  have hb : bestN a d' a.sl.toNat = bestN a d a.sl.toNat := bestN_same _ (fun i hi => ⟨hr.others _ (by omega), hr.others _ (by omega), hr.others _ (by omega)⟩)
  unfold trepairM
  rw [hb, repM_none _ (fun k hk => ?_)]
  · unfold endM; simp
  · have hd := hr.done k hk
    cases hfk : fixB a (bestN a d a.sl.toNat) d k with
    | none =>
      rw [hfk] at hd
      rw [fixB_at hd]
      exact hfk
    | some s =>
      rw [hfk] at hd
      dsimp only at hd
      refine fixB_whole ?_
      rw [hd]
      unfold fixB at hfk
      cases hbk : bestN a d a.sl.toNat k with
      | none => rw [hbk] at hfk; cases hfk
      | some t =>
        rw [hbk] at hfk
        dsimp only at hfk
        split at hfk
        · cases hfk
        · cases hfk; exact bestN_whole a d _ _ _ hbk
end Go.Proofs.YtfkhgmdnajiabaaDoor
