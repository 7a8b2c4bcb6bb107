/-
  Walks: an area's Repair.
-/
import Derived.Test.YtjlcbabnkhdgpaaGreatDoorTwE
namespace Go.Proofs.YtjlcbabnkhdgpaaGreatDoor
set_option linter.unusedSimpArgs false
set_option linter.unusedVariables false
open Go.RowKit Go.Maps

def lsnB (l : List UInt8) : Nat := getB (l.take 6)
/-- Is slot k to be taken, beside what the first k slots hold? -/
def betterB (a : ArM) (d : DevM) (b : Int → Option (List UInt8)) (k : Nat) : Bool :=
  slotB a d k && (match b (slotN a d k) with | none => true | some o => decide (lsnB o < lsnB (slotS a d k)))
/-- The best of the first k slots, for each page. -/
def bestN (a : ArM) (d : DevM) : Nat → Int → Option (List UInt8)
  | 0 => fun _ => none
  | k + 1 => if betterB a d (bestN a d k) k = true then fun j => if j = (slotN a d k : Int) then some (slotS a d k) else bestN a d k j else bestN a d k
/-- A page's bytes, as they are. -/
def pageR (a : ArM) (d : DevM) (n : Nat) : List UInt8 := readM d (a.fr + 2 * n) ++ readM d (a.fr + 2 * n + 1)
/-- What page n is to have, if it is torn and a slot has it. -/
def fixB (a : ArM) (b : Int → Option (List UInt8)) (d : DevM) (n : Nat) : Option (List UInt8) := match b n with | none => none | some s => if wholeB (pageR a d n) = true then none else some s
/-- The first k pages are repaired: the error, the device, how many were. -/
def repM (a : ArM) (b : Int → Option (List UInt8)) (d : DevM) : Nat → Int × DevM × Nat
  | 0 => (0, d, 0)
  | k + 1 =>
    if (repM a b d k).1 ≠ 0 then repM a b d k
    else match fixB a b (repM a b d k).2.1 k with
    | none => repM a b d k
    | some s => if (putM (repM a b d k).2.1 (a.fr + 2 * k) s).1 ≠ 0 then ((putM (repM a b d k).2.1 (a.fr + 2 * k) s).1, (putM (repM a b d k).2.1 (a.fr + 2 * k) s).2, 0)
      else (0, (putM (repM a b d k).2.1 (a.fr + 2 * k) s).2, (repM a b d k).2.2 + 1)
def endM (r : Int × DevM × Nat) : (Int × Int) × DevM :=
  if r.1 ≠ 0 then ((0, r.1), r.2.1)
  else if r.2.2 = 0 then ((0, 0), r.2.1)
  else if (syncM r.2.1).1 ≠ 0 then ((0, (syncM r.2.1).1), (syncM r.2.1).2)
  else ((r.2.2, 0), (syncM r.2.1).2)
def trepairM (a : ArM) (d : DevM) : (Int × Int) × DevM := endM (repM a (bestN a d a.sl.toNat) d a.pg.toNat)

theorem writeM_on {d : DevM} {i : Int} {s : List UInt8} (h : (writeM d i s).1 = 0) : (writeM d i s).2.off = false := by
  unfold writeM at h ⊢
  split at h
  · cases h
  · rename_i ho
    split at h
    · cases h
    · split at h
      · cases h
      · split at h
        · cases h
        · rename_i h1 h2 h3
          rw [if_neg ho, if_neg h1, if_neg h2, if_neg h3]
          simpa [goM] using ho
theorem putM_on {d : DevM} {i : Int} {s : List UInt8} (h : (putM d i s).1 = 0) : (putM d i s).2.off = false := by
  unfold putM at h ⊢
  split at h
  · rename_i h1; exact absurd h h1
  · rename_i h1; rw [if_neg h1]; exact writeM_on h
theorem repM_all (a : ArM) (b : Int → Option (List UInt8)) (d : DevM) (ho : d.off = false) (k : Nat) :
    (repM a b d k).2.1.size = d.size ∧ (repM a b d k).2.1.cmds ≤ d.cmds + 2 * k ∧ ((repM a b d k).1 = 0 → (repM a b d k).2.1.off = false) ∧ (repM a b d k).2.2 ≤ k := by
  induction k with
  | zero => exact ⟨rfl, by simp [repM], fun _ => ho, by simp [repM]⟩
  | succ k ih =>
    obtain ⟨h1, h2, h3, h4⟩ := ih
    simp only [repM]
    generalize repM a b d k = r at *
    obtain ⟨e, dk, c⟩ := r
    dsimp only at *
    split
    · exact ⟨h1, Nat.le_trans h2 (by omega), h3, Nat.le_trans h4 (by omega)⟩
    · split
      · exact ⟨h1, Nat.le_trans h2 (by omega), h3, Nat.le_trans h4 (by omega)⟩
      · rename_i s _
        have hs := putM_size dk (a.fr + 2 * k) s
        have hc := putM_cmds dk (a.fr + 2 * k) s
        split
        · exact ⟨hs.trans h1, Nat.le_trans hc (by omega), fun h => by rename_i hne; exact absurd h hne, by simp⟩
        · rename_i hne
          exact ⟨hs.trans h1, Nat.le_trans hc (by omega), fun _ => putM_on (by simpa using hne), Nat.succ_le_succ h4⟩
theorem repM_stop (a : ArM) (b : Int → Option (List UInt8)) (d : DevM) (k n : Nat) (h : k + 1 ≤ n) (he : (repM a b d (k + 1)).1 ≠ 0) : repM a b d n = repM a b d (k + 1) := by
  obtain ⟨j, rfl⟩ : ∃ j, n = k + 1 + j := ⟨n - (k + 1), by omega⟩
  clear h
  induction j with
  | zero => rfl
  | succ j ih =>
    rw [show k + 1 + (j + 1) = (k + 1 + j) + 1 from rfl, repM, ih, if_pos he]
theorem bestN_len (a : ArM) {d : DevM} (hf : d.fits) (k : Nat) (j : Int) (s : List UInt8) (h : bestN a d k j = some s) : s.length = 512 := by
  induction k generalizing s with
  | zero => cases h
  | succ k ih =>
    simp only [bestN] at h
    split at h
    · dsimp only at h
      split at h
      · cases h
        unfold slotS
        rw [List.length_append, readM_length hf, readM_length hf]
      · exact ih s h
    · exact ih s h
theorem Kept.map_ {w w' : World} {n0 g m mb : Nat} {f : Int → Option (List UInt8)} {N : Nat} (hK : Kept n0 g m w w') (hM : MapIs w mb f N) (h1 : mb ≠ g) (h2 : mb ≠ m) : MapIs w' mb f N := by
  unfold MapIs at *
  obtain ⟨n, D, q1, ⟨es, c, hb, q2⟩, q3⟩ := hM
  exact ⟨n, D, q1, ⟨es, c, hK.at_ hb h1 h2 (by intro cs fz e; cases e), q2⟩, q3⟩
theorem MapIs.more_ {w : World} {m : Nat} {f : Int → Option (List UInt8)} {N N' : Nat} (hM : MapIs w m f N) (h : N ≤ N') : MapIs w m f N' := by
  unfold MapIs at *
  obtain ⟨n, D, q1, q⟩ := hM
  exact ⟨n, D, Nat.le_trans q1 h, q⟩
theorem MapIs.kind {w : World} {m : Nat} {f : Int → Option (List UInt8)} {N : Nat} (hM : MapIs w m f N) : ∃ es c, w.heap[m]? = some (.map es c) := by
  unfold MapIs at hM
  obtain ⟨n, D, q1, ⟨es, c, hb, q2⟩, q3⟩ := hM
  exact ⟨es, c, hb⟩
attribute [local irreducible] MapIs Tw

end Go.Proofs.YtjlcbabnkhdgpaaGreatDoor
