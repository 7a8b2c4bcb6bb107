/-
  Plain Lean, no program: an area's Write, Read and Repair where no power fails; walks: a new device, speaks.
-/
import Derived.Test.YtjlcbabnkhdgpaaGreatDoorTwH
namespace Go.Proofs.YtjlcbabnkhdgpaaGreatDoor
set_option linter.unusedSimpArgs false
set_option linter.unusedVariables false
open Go.RowKit Go.Maps

/-- A page's bytes. -/
def pgv (a : ArM) (d : DevM) (p : Int) : List UInt8 := readM d (a.fr + 2 * p) ++ readM d (a.fr + 2 * p + 1)
theorem goodB_iff {a : ArM} {x : Img} : goodB a x = true ↔ GoodI a x ∧ wholeB x.2 = true := by
  unfold goodB thereB GoodI
  simp only [Bool.and_eq_true, decide_eq_true_eq]
  constructor
  · rintro ⟨h1, h2, h3⟩; exact ⟨⟨h1, h2⟩, h3⟩
  · rintro ⟨⟨h1, h2⟩, h3⟩; exact ⟨h1, h2, h3⟩
theorem take_drop_256 (s : List UInt8) : s.take 256 ++ s.drop 256 = s := List.take_append_drop 256 s
theorem RoundsDone.page {a : ArM} {d d' : DevM} {l : List Img} (h : RoundsDone a d d' l) (p : Int) (h0 : 0 ≤ p) (h1 : p < a.pg) : pgv a d' p = match lastAt l p with | some s => s | none => pgv a d p := by
  unfold pgv
  rw [h.pfirst p h0 h1, h.psecond p h0 h1]
  cases lastAt l p with
  | some s => exact take_drop_256 s
  | none => rfl
theorem write_calm_all {a : ArM} {d : DevM} {l : List Img} (hfit : a.fits d.size) (hx : ∀ x ∈ l, goodB a x = true) (ho : d.off = false) (hf : d.fuse = 0) :
    (twriteM a d l).1 = 0 ∧ RoundsDone a d (twriteM a d l).2 l := by
  have hx' : ∀ x ∈ l, GoodI a x := fun x h => (goodB_iff.1 (hx x h)).1
  have e : twriteM a d l = roundsM a l.length d l := by unfold twriteM; rw [if_pos (List.all_eq_true.2 hx)]
  rw [e]
  have h := rounds_calm l.length d l hfit hx' ho hf
  exact ⟨h, rounds_done l.length d l (Nat.le_refl _) hfit hx' ho h⟩
theorem write_bad {a : ArM} {d : DevM} {l : List Img} (h : ∃ x ∈ l, goodB a x = false) : twriteM a d l = (1, d) := by
  unfold twriteM
  rw [if_neg]
  intro hh
  obtain ⟨x, hx, hb⟩ := h
  rw [List.all_eq_true] at hh
  rw [hh x hx] at hb
  cases hb
theorem tread_on {a : ArM} {d : DevM} {p : Int} (ho : d.off = false) (h0 : 0 ≤ p) (h1 : p < a.pg) : treadM a d p = (pgv a d p, 0) := by
  unfold treadM twoM
  rw [if_pos (by unfold thereB; simp; omega), if_neg (by simp [ho])]; rfl
theorem tread_no {a : ArM} {d : DevM} {p : Int} (h : ¬ (0 ≤ p ∧ p < a.pg)) : treadM a d p = ([], 1) := by
  unfold treadM
  rw [if_neg (by unfold thereB; simp; omega)]
theorem repM_none {a : ArM} {b : Int → Option (List UInt8)} {d : DevM} (n : Nat) (h : ∀ k, k < n → fixB a b d k = none) : repM a b d n = (0, d, 0) := by
  induction n with
  | zero => rfl
  | succ n ih =>
    rw [repM, ih (fun k hk => h k (by omega)), if_neg (by simp)]
    dsimp only
    rw [h n (by omega)]
theorem fixB_whole {a : ArM} {b : Int → Option (List UInt8)} {d : DevM} {k : Nat} (h : wholeB (pgv a d k) = true) : fixB a b d k = none := by
  unfold fixB
  cases b k with
  | none => rfl
  | some s => show (if wholeB (pgv a d k) = true then none else some s) = none; rw [if_pos h]
theorem repair_none {a : ArM} {d : DevM} (h : ∀ k : Nat, (k : Int) < a.pg → wholeB (pgv a d k) = true) : trepairM a d = ((0, 0), d) := by
  unfold trepairM
  rw [repM_none _ (fun k hk => fixB_whole (h k (by omega)))]
  unfold endM
  simp
theorem newM_read (n j : Int) : readM (newM n) j = List.replicate 256 0 := rfl
theorem newM_page (a : ArM) (n p : Int) : pgv a (newM n) p = List.replicate 512 0 := by
  unfold pgv
  rw [newM_read, newM_read, List.replicate_append_replicate]
theorem zeros_whole : wholeB (List.replicate 512 (0 : UInt8)) = true := by decide +kernel
theorem zeros_noughts : noughtsB (List.replicate 512 (0 : UInt8)) = true := by decide +kernel

theorem devnew_dv (n0 : Nat) (n : Int) (h1 : 1 ≤ n) (h2 : n ≤ 4096) (w : World) (hn : n0 ≤ w.heap.size) :
    Calls Tryz.prog 8 #[.int .i64 n] w fun e w' => ∃ m, e = .returned (.tuple #[.pointer (some ⟨w.heap.size + 1, 0, none⟩), .int .i64 0]) ∧ Dv n0 w' (w.heap.size + 1) m (newM n) ∧ Below w.heap.size w w' := by
  refine (devnew_ok n0 n h1 h2 w hn).mono ?_
  rintro e w' ⟨rfl, ⟨m, v, kv, h⟩, hb⟩
  exact ⟨m, rfl, ⟨⟨v, kv, h⟩, by simp [newM]⟩, hb⟩
theorem Tw.glt {n0 ga g m : Nat} {w : World} {a : ArM} {d : DevM} (h : Tw n0 w ga g m a d) : g < w.heap.size := by
  obtain ⟨⟨v, kv, hD⟩, _⟩ := h.dv
  exact hD.blk.lt
theorem Tw.mlt {n0 ga g m : Nat} {w : World} {a : ArM} {d : DevM} (h : Tw n0 w ga g m a d) : m < w.heap.size := by
  obtain ⟨⟨v, kv, hD⟩, _⟩ := h.dv
  obtain ⟨es, c, hm⟩ := hD.map_
  exact heap_lt hm
theorem Dv.map2 {n0 g m : Nat} {w : World} {d : DevM} (h : Dv n0 w g m d) : ∃ es c, w.heap[m]? = some (.map es c) := by
  obtain ⟨⟨v, kv, hD⟩, _⟩ := h
  exact hD.map_
theorem Dv.blk2 {n0 g m : Nat} {w : World} {d : DevM} (h : Dv n0 w g m d) : ∃ cs, Blk w g 74 cs := by
  obtain ⟨⟨v, kv, hD⟩, _⟩ := h
  exact ⟨_, hD.blk⟩
/-- One image in a slice. -/
theorem imgs_one {w : World} {g m : Nat} (p : Int) (s : List UInt8) (hg : g < w.heap.size) (hm : m < w.heap.size) :
    ImgsAt (w.alloc (.cells #[.int .i64 p, .string (bs s)] 132)) g m (some ⟨w.heap.size, 0, none⟩) [(p, s)] := by
  intro k hk
  have hk0 : k = 0 := by simp at hk; omega
  subst hk0
  have hb := Blk.made w #[.int .i64 p, .string (bs s)] 132
  refine ⟨w.heap.size, 0, rfl, ⟨by omega, by omega, _, _, _, hb, by decide⟩, ?_, ?_⟩
  · simp
  · simp

end Go.Proofs.YtjlcbabnkhdgpaaGreatDoor
