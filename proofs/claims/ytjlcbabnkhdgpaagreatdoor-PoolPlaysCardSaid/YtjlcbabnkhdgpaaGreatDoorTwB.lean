/-
  The plain form of what an area does; walks: Read, name.
-/
import Derived.Test.YtjlcbabnkhdgpaaGreatDoorTwA
namespace Go.Proofs.YtjlcbabnkhdgpaaGreatDoor
set_option linter.unusedSimpArgs false
set_option linter.unusedVariables false
open Go.RowKit Go.Maps

abbrev Img := Int × List UInt8
def nameB (n : Int) : List UInt8 := sealB ([67, 84] ++ putB 2 n.toNat)
def slotM (a : ArM) (d : DevM) (i : Nat) (x : Img) : Int × DevM :=
  if (writeM d (a.sat + 3 * i) (nameB x.1)).1 ≠ 0 then writeM d (a.sat + 3 * i) (nameB x.1) else putM (writeM d (a.sat + 3 * i) (nameB x.1)).2 (a.sat + 3 * i + 1) x.2
def pageM (a : ArM) (d : DevM) (_ : Nat) (x : Img) : Int × DevM := putM d (a.fr + 2 * x.1) x.2
/-- Step by step, up to the first that fails. -/
def runM (f : DevM → Nat → Img → Int × DevM) (d : DevM) (i : Nat) : List Img → Int × DevM
  | [] => (0, d)
  | x :: r => if (f d i x).1 ≠ 0 then f d i x else runM f (f d i x).2 (i + 1) r
def roundM (a : ArM) (d : DevM) (l : List Img) : Int × DevM :=
  if (runM (slotM a) d 0 l).1 ≠ 0 then runM (slotM a) d 0 l else
  if (syncM (runM (slotM a) d 0 l).2).1 ≠ 0 then syncM (runM (slotM a) d 0 l).2 else
  if (runM (pageM a) (syncM (runM (slotM a) d 0 l).2).2 0 l).1 ≠ 0 then runM (pageM a) (syncM (runM (slotM a) d 0 l).2).2 0 l else
  syncM (runM (pageM a) (syncM (runM (slotM a) d 0 l).2).2 0 l).2
/-- Rounds of no more than the slots (n: no fewer than the rounds). -/
def roundsM (a : ArM) : Nat → DevM → List Img → Int × DevM
  | 0, d, _ => (0, d)
  | n + 1, d, l => if l.length = 0 then (0, d) else
      if (roundM a d (l.take (min a.sl.toNat l.length))).1 ≠ 0 then roundM a d (l.take (min a.sl.toNat l.length))
      else roundsM a n (roundM a d (l.take (min a.sl.toNat l.length))).2 (l.drop (min a.sl.toNat l.length))
def goodB (a : ArM) (x : Img) : Bool := thereB a x.1 && (decide (x.2.length = 512) && wholeB x.2)
def twriteM (a : ArM) (d : DevM) (l : List Img) : Int × DevM := if l.all (goodB a) = true then roundsM a l.length d l else (1, d)

theorem runM_append (f : DevM → Nat → Img → Int × DevM) (d : DevM) (i : Nat) (p q : List Img) :
    runM f d i (p ++ q) = if (runM f d i p).1 ≠ 0 then runM f d i p else runM f (runM f d i p).2 (i + p.length) q := by
  induction p generalizing d i with
  | nil => simp [runM]
  | cons x p ih =>
    by_cases h : (f d i x).1 ≠ 0
    · have e1 : ∀ r, runM f d i (x :: r) = f d i x := fun r => by simp only [runM]; rw [if_pos h]
      rw [List.cons_append, e1, e1, if_pos h]
    · have e1 : ∀ r, runM f d i (x :: r) = runM f (f d i x).2 (i + 1) r := fun r => by simp only [runM]; rw [if_neg h]
      rw [List.cons_append, e1, e1, ih, List.length_cons, show i + (p.length + 1) = i + 1 + p.length by omega]
theorem runM_next (f : DevM → Nat → Img → Int × DevM) (d dk : DevM) (l : List Img) (k : Nat) (hk : k < l.length) (h : runM f d 0 (l.take k) = (0, dk)) :
    runM f d 0 (l.take (k + 1)) = f dk k l[k] := by
  have hl : (l.take k).length = k := by simp; omega
  rw [List.take_succ_eq_append_getElem hk, runM_append, h, if_neg (by simp), hl]
  simp only [runM, Nat.zero_add]
  by_cases h : (f dk k l[k]).1 ≠ 0
  · rw [if_pos h]
  · rw [if_neg h]
    have : (f dk k l[k]).1 = 0 := by simpa using h
    rw [← this]
theorem runM_stop (f : DevM → Nat → Img → Int × DevM) (d dk : DevM) (l : List Img) (k : Nat) (hk : k < l.length) (h : runM f d 0 (l.take k) = (0, dk)) (he : (f dk k l[k]).1 ≠ 0) :
    runM f d 0 l = f dk k l[k] := by
  have h1 := runM_next f d dk l k hk h
  conv => lhs; rw [← List.take_append_drop (k + 1) l]
  rw [runM_append, h1, if_pos he]
theorem runM_all (f : DevM → Nat → Img → Int × DevM) (c : Nat) (hf : ∀ d i x, (f d i x).2.size = d.size ∧ (f d i x).2.cmds ≤ d.cmds + c) (d : DevM) (i : Nat) (l : List Img) :
    (runM f d i l).2.size = d.size ∧ (runM f d i l).2.cmds ≤ d.cmds + c * l.length := by
  induction l generalizing d i with
  | nil => simp [runM]
  | cons x l ih =>
    have h1 := hf d i x
    have hm : c * (x :: l).length = c + c * l.length := by rw [List.length_cons, Nat.mul_succ, Nat.add_comm]
    simp only [runM]
    split
    · exact ⟨h1.1, by omega⟩
    · have h2 := ih (f d i x).2 (i + 1)
      exact ⟨h2.1.trans h1.1, by omega⟩
theorem slotM_all (a : ArM) (d : DevM) (i : Nat) (x : Img) : (slotM a d i x).2.size = d.size ∧ (slotM a d i x).2.cmds ≤ d.cmds + 3 := by
  unfold slotM
  have h1 := writeM_size d (a.sat + 3 * i) (nameB x.1)
  have h2 := writeM_cmds d (a.sat + 3 * i) (nameB x.1)
  split
  · exact ⟨h1, by omega⟩
  · have h3 := putM_size (writeM d (a.sat + 3 * i) (nameB x.1)).2 (a.sat + 3 * i + 1) x.2
    have h4 := putM_cmds (writeM d (a.sat + 3 * i) (nameB x.1)).2 (a.sat + 3 * i + 1) x.2
    exact ⟨h3.trans h1, by omega⟩
theorem pageM_all (a : ArM) (d : DevM) (i : Nat) (x : Img) : (pageM a d i x).2.size = d.size ∧ (pageM a d i x).2.cmds ≤ d.cmds + 2 :=
  ⟨putM_size _ _ _, putM_cmds _ _ _⟩
theorem roundM_all (a : ArM) (d : DevM) (l : List Img) : (roundM a d l).2.size = d.size ∧ (roundM a d l).2.cmds ≤ d.cmds + 5 * l.length + 2 := by
  unfold roundM
  have h1 := runM_all (slotM a) 3 (slotM_all a) d 0 l
  split
  · exact ⟨h1.1, by omega⟩
  · have h2 := syncM_size (runM (slotM a) d 0 l).2
    have h3 := syncM_cmds (runM (slotM a) d 0 l).2
    split
    · exact ⟨h2.trans h1.1, by omega⟩
    · have h4 := runM_all (pageM a) 2 (pageM_all a) (syncM (runM (slotM a) d 0 l).2).2 0 l
      split
      · exact ⟨h4.1.trans (h2.trans h1.1), by omega⟩
      · have h5 := syncM_size (runM (pageM a) (syncM (runM (slotM a) d 0 l).2).2 0 l).2
        have h6 := syncM_cmds (runM (pageM a) (syncM (runM (slotM a) d 0 l).2).2 0 l).2
        exact ⟨h5.trans (h4.1.trans (h2.trans h1.1)), by omega⟩

/-- The images of a slice, in a block that no device writes. -/
def ImgsAt (w : World) (g m : Nat) (A : Option Addr) (l : List Img) : Prop :=
  ∀ k (hk : k < l.length), ∃ b o, A = some ⟨b, o, none⟩ ∧ Out w g m b ∧ w.cell? ⟨b, o + k * 2, none⟩ = some (.int .i64 l[k].1) ∧ w.cell? ⟨b, o + k * 2 + 1, none⟩ = some (.string (bs l[k].2))
theorem cell_of_heap {w w' : World} {b : Nat} (h : w'.heap[b]? = w.heap[b]?) (o : Nat) : w'.cell? ⟨b, o, none⟩ = w.cell? ⟨b, o, none⟩ := by simp [World.cell?, h]
theorem ImgsAt.kept {w w' : World} {n0 g m : Nat} {A : Option Addr} {l : List Img} (h : ImgsAt w g m A l) (hK : Kept n0 g m w w') : ImgsAt w' g m A l := fun k hk => by
  obtain ⟨b, o, e, hO, h1, h2⟩ := h k hk
  have hO' := hO.kept hK
  exact ⟨b, o, e, hO'.2, by rw [cell_of_heap hO'.1]; exact h1, by rw [cell_of_heap hO'.1]; exact h2⟩

set_option maxHeartbeats 800000 in
set_option maxRecDepth 100000 in
theorem name_any (n : Int) (h0 : 0 ≤ n) (h1 : n ≤ 65535) (w : World) (ht : Turns w) :
    Calls Tryz.prog 112 #[.int .i64 n] w fun e w' => e = .returned (.string (bs (nameB n))) ∧ Below w.heap.size w w' := by
  have hp := put2 n h0 h1 w
  have hl : (putB 2 n.toNat).length = 2 := putB_length _ _
  have HT := Lib.hid ht
  have HN := Lib.hid (show nameB n = sealB ([67, 84] ++ putB 2 n.toNat) from rfl)
  clear ht
  generalize nameB n = nb at *
  generalize putB 2 n.toNat = pb at *
  have hq : ¬ 9223372036854775807 < 2 + pb.length := by omega
  go_enter Tryz.func112, Tryz.ntmps112
  go_wp2_with fail
  refine hp.mono ?_
  rintro e w1 ⟨rfl, hb⟩
  have hs := seal_any ([67, 84] ++ pb) (by simp; omega) w1 (HT.out.below hb)
  rw [← HN.out] at hs
  go_wp2_with fail
  refine hs.mono ?_
  rintro e w2 ⟨rfl, hb2⟩
  go_wp2_with fail
  go_ret
  exact ⟨rfl, hb.trans (hb2.mono hb.size)⟩

def treadM (a : ArM) (d : DevM) (n : Int) : List UInt8 × Int := if thereB a n = true then twoM d (a.fr + 2 * n) else ([], 1)
set_option maxHeartbeats 800000 in
set_option maxRecDepth 100000 in
theorem tread_any (n0 ga g m : Nat) (a : ArM) (d : DevM) (n : Int) (w : World) (h : Tw n0 w ga g m a d) (hc : d.cmds < 1000000000) :
    Calls Tryz.prog 30 #[.pointer (some ⟨ga, 0, none⟩), .int .i64 n] w fun e w' => e = .returned (.tuple #[.string (bs (treadM a d n).1), .int .i64 (treadM a d n).2]) ∧ Below w.heap.size w w' := by
  have ht := there_any n0 ga g m a d n w h
  by_cases hn : thereB a n = true
  · have e1 : treadM a d n = twoM d (a.fr + 2 * n) := by unfold treadM; rw [if_pos hn]
    rw [hn] at ht
    rw [e1]
    have hn' : 0 ≤ n ∧ n < a.pg := by unfold thereB at hn; simpa using hn
    obtain ⟨f1, f2, f3, f4, f5, f6, _⟩ := h.fits
    have hz := h.dv.size
    have h2 := two_any n0 ga g m a d (a.fr + 2 * n) w h (by omega) hc
    obtain ⟨c0, c1, c2, c3, c4⟩ := h.ar.cells
    generalize twoM d (a.fr + 2 * n) = r at *
    have q1 : IntKind.i64.wrap (2 * n) = 2 * n := by rw [IntKind.wrap_i64]; omega
    have q2 : IntKind.i64.wrap (a.fr + 2 * n) = a.fr + 2 * n := by rw [IntKind.wrap_i64]; omega
    clear h e1
    go_enter Tryz.func30, Tryz.ntmps30
    go_wp2_with fail
    refine ht.mono ?_
    rintro e w1 ⟨rfl, rfl⟩
    go_wp2_with fail
    refine h2.mono ?_
    rintro e w1 ⟨rfl, hb⟩
    go_wp2_with fail
    go_ret2
    exact ⟨rfl, hb⟩
  · have hn : thereB a n = false := by simpa using hn
    have e1 : treadM a d n = ([], 1) := by unfold treadM; rw [if_neg (by simp [hn])]
    rw [hn] at ht
    rw [e1]
    clear h e1
    go_enter Tryz.func30, Tryz.ntmps30
    go_wp2_with fail
    refine ht.mono ?_
    rintro e w1 ⟨rfl, rfl⟩
    go_wp2_with fail
    go_ret2
    exact ⟨rfl, Below.refl _ _⟩
set_option maxHeartbeats 800000 in
theorem tread_nil (n : Int) (w : World) :
    Calls Tryz.prog 30 #[.pointer none, .int .i64 n] w fun e w' => e = .returned (.tuple #[.string (bs []), .int .i64 1]) ∧ w = w' := by
  have ht := there_nil n w
  go_enter Tryz.func30, Tryz.ntmps30
  go_wp2_with fail
  refine ht.mono ?_
  rintro e w1 ⟨rfl, rfl⟩
  go_wp2_with fail
  go_ret2
  exact ⟨rfl, rfl⟩
end Go.Proofs.YtjlcbabnkhdgpaaGreatDoor
