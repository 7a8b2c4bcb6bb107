/-
  Walks: areas of pages that are written twice: New, Pages, there, two, put, Read, name.
-/
import Derived.Test.YtjlcbabnkhdgpaaGreatDoorRdB
import Derived.Test.YtjlcbabnkhdgpaaGreatDoorPageC
namespace Go.Proofs.YtjlcbabnkhdgpaaGreatDoor
set_option linter.unusedSimpArgs false
set_option linter.unusedVariables false
open Go.RowKit Go.Maps

/-- An area: where its slots begin, how many there are; where its pages begin, how many there are. -/
structure ArM where
  sat : Int
  sl : Int
  fr : Int
  pg : Int
def ArM.fits (a : ArM) (size : Int) : Prop := 0 ≤ a.sat ∧ 0 ≤ a.fr ∧ (1 ≤ a.sl ∧ a.sl ≤ 16) ∧ (1 ≤ a.pg ∧ a.pg ≤ 800) ∧ a.sat + 3 * a.sl ≤ size ∧ a.fr + 2 * a.pg ≤ size ∧ (a.fr + 2 * a.pg ≤ a.sat ∨ a.sat + 3 * a.sl ≤ a.fr)
def Ar (w : World) (ga g : Nat) (a : ArM) : Prop := Blk w ga 77 #[.pointer (some ⟨g, 0, none⟩), .int .i64 a.sat, .int .i64 a.sl, .int .i64 a.fr, .int .i64 a.pg]
/-- An area on its device. -/
def Tw (n0 : Nat) (w : World) (ga g m : Nat) (a : ArM) (d : DevM) : Prop := Ar w ga g a ∧ Dv n0 w g m d ∧ a.fits d.size ∧ Turns w ∧ 0 < n0
/-- A block that no device writes. -/
def Out (w : World) (g m b : Nat) : Prop := b ≠ g ∧ b ≠ m ∧ ∃ cs T fz, w.heap[b]? = some (.cells cs T fz) ∧ T ≠ 100
section
variable {w w' : World} {n0 ga g m : Nat} {a : ArM} {d d' : DevM}
theorem Turns.kept (h : Turns w) (hlt : 0 < n0) (hK : Kept n0 g m w w') : Turns w' := fun i hi => by
  have := hK.below.cell (p := ⟨0, i, none⟩) hlt
  rw [this]
  exact h i hi
theorem Ar.ne (h : Ar w ga g a) (hD : Dv n0 w g m d) : ga ≠ g ∧ ga ≠ m := by
  obtain ⟨⟨v, kv, hD⟩, _⟩ := hD
  refine ⟨Blk.ne h hD.blk (by decide), ?_⟩
  obtain ⟨es, c, hm⟩ := hD.map_
  intro e
  subst e
  unfold Ar Blk at h
  rw [h] at hm
  cases hm
theorem Ar.cells (h : Ar w ga g a) : w.cell? ⟨ga, 0, none⟩ = some (.pointer (some ⟨g, 0, none⟩)) ∧ w.cell? ⟨ga, 1, none⟩ = some (.int .i64 a.sat) ∧ w.cell? ⟨ga, 2, none⟩ = some (.int .i64 a.sl) ∧ w.cell? ⟨ga, 3, none⟩ = some (.int .i64 a.fr) ∧ w.cell? ⟨ga, 4, none⟩ = some (.int .i64 a.pg) :=
  ⟨h.cell 0, h.cell 1, h.cell 2, h.cell 3, h.cell 4⟩
theorem Tw.ar (h : Tw n0 w ga g m a d) : Ar w ga g a := h.1
theorem Tw.dv (h : Tw n0 w ga g m a d) : Dv n0 w g m d := h.2.1
theorem Tw.fits (h : Tw n0 w ga g m a d) : a.fits d.size := h.2.2.1
theorem Tw.turns (h : Tw n0 w ga g m a d) : Turns w := h.2.2.2.1
theorem Dv.n0le (h : Dv n0 w g m d) : n0 ≤ w.heap.size := by obtain ⟨⟨v, kv, h⟩, _⟩ := h; exact h.n0le
theorem Dv.size (h : Dv n0 w g m d) : 1 ≤ d.size ∧ d.size ≤ 4096 := by obtain ⟨⟨v, kv, h⟩, _⟩ := h; exact h.fits.1
theorem Dv.fits (h : Dv n0 w g m d) : d.fits := by obtain ⟨⟨v, kv, h⟩, _⟩ := h; exact h.fits
theorem lastAt_mem {l : List Wr} {i : Int} {s : List UInt8} (h : lastAt l i = some s) : ∃ x ∈ l, x.1 = i ∧ x.2 = s := by
  unfold lastAt at h
  cases hf : l.reverse.find? (fun x => x.1 == i) with
  | none => rw [hf] at h; simp at h
  | some x =>
    rw [hf] at h
    exact ⟨x, by simpa using List.mem_of_find?_eq_some hf, by simpa using List.find?_some hf, by simpa using h⟩
theorem readM_length (h : d.fits) (i : Int) : (readM d i).length = 256 := by
  unfold readM
  cases hl : lastAt d.wait i with
  | some s =>
    obtain ⟨x, hx, _, rfl⟩ := lastAt_mem hl
    exact (h.2.1 x hx).2
  | none =>
    cases hd : d.last i with
    | some s => exact h.2.2.1 i s hd
    | none => exact List.length_replicate
theorem Dv.up (h : Dv n0 w g m d) (hb : Below w.heap.size w w') : Dv n0 w' g m d := by obtain ⟨⟨v, kv, h⟩, hp⟩ := h; exact ⟨⟨v, kv, h.up hb⟩, hp⟩
theorem Tw.kept (h : Tw n0 w ga g m a d) (hD : Dv n0 w' g m d') (hs : d'.size = d.size) (hK : Kept n0 g m w w') : Tw n0 w' ga g m a d' := by
  obtain ⟨h1, h2, h3, h4, h5⟩ := h
  have hne := h1.ne h2
  exact ⟨hK.blk h1 hne.1 hne.2 (by decide), hD, by rw [hs]; exact h3, h4.kept h5 hK, h5⟩
theorem Tw.up (h : Tw n0 w ga g m a d) (hb : Below w.heap.size w w') : Tw n0 w' ga g m a d := h.kept (h.dv.up hb) rfl (Kept.of_below hb h.dv.n0le)
theorem Out.kept {b : Nat} (h : Out w g m b) (hK : Kept n0 g m w w') : w'.heap[b]? = w.heap[b]? ∧ Out w' g m b := by
  obtain ⟨h1, h2, cs, T, fz, h3, h4⟩ := h
  have e := hK.at_ h3 h1 h2 (by intro cs' fz' e; injection e with _ e _; exact h4 e)
  exact ⟨by rw [e, h3], h1, h2, cs, T, fz, e, h4⟩
theorem writeM_size (d : DevM) (i : Int) (s : List UInt8) : (writeM d i s).2.size = d.size := by
  unfold writeM
  split
  · rfl
  · split
    · rfl
    · split
      · rfl
      · split <;> rfl
theorem syncM_size (d : DevM) : (syncM d).2.size = d.size := by
  unfold syncM
  split
  · rfl
  · split <;> rfl
end

set_option maxHeartbeats 1600000 in
set_option maxRecDepth 100000 in
theorem twnew_ok (n0 g m : Nat) (a : ArM) (d : DevM) (w : World) (hD : Dv n0 w g m d) (ht : Turns w) (hlt : 0 < n0) (hf : a.fits d.size) :
    Calls Tryz.prog 9 #[.pointer (some ⟨g, 0, none⟩), .int .i64 a.sat, .int .i64 a.sl, .int .i64 a.fr, .int .i64 a.pg] w fun e w' =>
      e = .returned (.tuple #[.pointer (some ⟨w.heap.size, 0, none⟩), .int .i64 0]) ∧ Tw n0 w' w.heap.size g m a d ∧ Below w.heap.size w w' := by
  have hsz : ∀ W, Dv n0 W g m d → Calls Tryz.prog 33 #[.pointer (some ⟨g, 0, none⟩)] W fun e w' => e = .returned (.int .i64 d.size) ∧ W = w' := fun W hW => devsize_any n0 g d W (by obtain ⟨⟨v, kv, h⟩, _⟩ := hW; exact ⟨m, v, kv, h⟩)
  have hs0 := hsz w hD
  clear hsz
  have hsize := hD.size
  have hf0 := hf
  unfold ArM.fits at hf
  obtain ⟨p1, p2, ⟨p3, p4⟩, ⟨p5, p6⟩, p7, p8, p9⟩ := hf
  have q1 : decide (a.sat < 0) = false := by simp; omega
  have q2 : decide (a.fr < 0) = false := by simp; omega
  have q3 : decide (a.sl < 1) = false := by simp; omega
  have q4 : decide (16 < a.sl) = false := by simp; omega
  have q5 : decide (a.pg < 1) = false := by simp; omega
  have q6 : decide (800 < a.pg) = false := by simp; omega
  go_enter Tryz.func9, Tryz.ntmps9
  go_wp2_with fail
  refine hs0.mono ?_
  rintro e w' ⟨rfl, rfl⟩
  go_wp2_with fail
  refine hs0.mono ?_
  rintro e w' ⟨rfl, rfl⟩
  go_wp2_with fail
  all_goals
    go_ret2
    refine ⟨rfl, ⟨Blk.made _ _ _, hD.up ?_, hf0, ht.below ?_, hlt⟩, ?_⟩
    all_goals exact (Below.refl _ _).alloc (Nat.le_refl _) _
set_option maxHeartbeats 3200000 in
set_option maxRecDepth 100000 in
theorem twnew_no (n0 g m : Nat) (a : ArM) (d : DevM) (w : World) (hD : Dv n0 w g m d) (hf : ¬ a.fits d.size) :
    Calls Tryz.prog 9 #[.pointer (some ⟨g, 0, none⟩), .int .i64 a.sat, .int .i64 a.sl, .int .i64 a.fr, .int .i64 a.pg] w fun e w' =>
      e = .returned (.tuple #[.pointer none, .int .i64 1]) ∧ w = w' := by
  have hs0 : Calls Tryz.prog 33 #[.pointer (some ⟨g, 0, none⟩)] w fun e w' => e = .returned (.int .i64 d.size) ∧ w = w' := devsize_any n0 g d w (by obtain ⟨⟨v, kv, h⟩, _⟩ := hD; exact ⟨m, v, kv, h⟩)
  have hsize := hD.size
  by_cases q1 : decide (a.sat < 0) = true
  · clear hD hs0 hf
    go_enter Tryz.func9, Tryz.ntmps9
    go_wp2_with fail
    go_ret2
    exact ⟨rfl, rfl⟩
  replace q1 : decide (a.sat < 0) = false := by simpa using q1
  by_cases q2 : decide (a.fr < 0) = true
  · clear hD hs0 hf
    go_enter Tryz.func9, Tryz.ntmps9
    go_wp2_with fail
    go_ret2
    exact ⟨rfl, rfl⟩
  replace q2 : decide (a.fr < 0) = false := by simpa using q2
  by_cases q3 : decide (a.sl < 1) = true
  · clear hD hs0 hf
    go_enter Tryz.func9, Tryz.ntmps9
    go_wp2_with fail
    go_ret2
    exact ⟨rfl, rfl⟩
  replace q3 : decide (a.sl < 1) = false := by simpa using q3
  by_cases q4 : decide (16 < a.sl) = true
  · clear hD hs0 hf
    go_enter Tryz.func9, Tryz.ntmps9
    go_wp2_with fail
    go_ret2
    exact ⟨rfl, rfl⟩
  replace q4 : decide (16 < a.sl) = false := by simpa using q4
  by_cases q5 : decide (a.pg < 1) = true
  · clear hD hs0 hf
    go_enter Tryz.func9, Tryz.ntmps9
    go_wp2_with fail
    go_ret2
    exact ⟨rfl, rfl⟩
  replace q5 : decide (a.pg < 1) = false := by simpa using q5
  by_cases q6 : decide (800 < a.pg) = true
  · clear hD hs0 hf
    go_enter Tryz.func9, Tryz.ntmps9
    go_wp2_with fail
    go_ret2
    exact ⟨rfl, rfl⟩
  replace q6 : decide (800 < a.pg) = false := by simpa using q6
  have p1 : 0 ≤ a.sat := by simpa using q1
  have p2 : 0 ≤ a.fr := by simpa using q2
  have p3 : 1 ≤ a.sl := by have : ¬ a.sl < 1 := of_decide_eq_false q3; omega
  have p4 : a.sl ≤ 16 := by simpa using q4
  have p5 : 1 ≤ a.pg := by have : ¬ a.pg < 1 := of_decide_eq_false q5; omega
  have p6 : a.pg ≤ 800 := by simpa using q6
  have HF := Lib.hid hf
  clear hf hD
  go_enter Tryz.func9, Tryz.ntmps9
  go_wp2_with fail
  refine hs0.mono ?_
  rintro e w' ⟨rfl, rfl⟩
  go_wp2_with fail
  rotate_left
  · go_ret2
    exact ⟨rfl, rfl⟩
  refine hs0.mono ?_
  rintro e w' ⟨rfl, rfl⟩
  go_wp2_with fail
  all_goals first
    | (go_ret2; exact ⟨rfl, rfl⟩)
    | (exfalso
       apply HF.out
       unfold ArM.fits
       refine ⟨p1, p2, ⟨p3, p4⟩, ⟨p5, p6⟩, ?_, ?_, ?_⟩ <;> omega)

set_option maxHeartbeats 800000 in
theorem pages_any (n0 ga g m : Nat) (a : ArM) (d : DevM) (w : World) (h : Tw n0 w ga g m a d) :
    Calls Tryz.prog 34 #[.pointer (some ⟨ga, 0, none⟩)] w fun e w' => e = .returned (.int .i64 a.pg) ∧ w = w' := by
  obtain ⟨c0, c1, c2, c3, c4⟩ := h.ar.cells
  clear h
  go_enter Tryz.func34, Tryz.ntmps34
  go_wp2
  go_ret
  exact ⟨rfl, rfl⟩
theorem pages_nil (w : World) :
    Calls Tryz.prog 34 #[.pointer none] w fun e w' => e = .returned (.int .i64 0) ∧ w = w' := by
  go_enter Tryz.func34, Tryz.ntmps34
  go_wp2
  go_ret
  exact ⟨rfl, rfl⟩
def thereB (a : ArM) (n : Int) : Bool := decide (0 ≤ n) && decide (n < a.pg)
set_option maxHeartbeats 800000 in
theorem there_any (n0 ga g m : Nat) (a : ArM) (d : DevM) (n : Int) (w : World) (h : Tw n0 w ga g m a d) :
    Calls Tryz.prog 54 #[.pointer (some ⟨ga, 0, none⟩), .int .i64 n] w fun e w' => e = .returned (.bool (thereB a n)) ∧ w = w' := by
  obtain ⟨c0, c1, c2, c3, c4⟩ := h.ar.cells
  clear h
  by_cases h1 : decide (0 ≤ n) = true
  · go_enter Tryz.func54, Tryz.ntmps54
    go_wp2
    go_ret
    exact ⟨by unfold thereB; rw [h1]; simp, rfl⟩
  · replace h1 : decide (0 ≤ n) = false := by simpa using h1
    go_enter Tryz.func54, Tryz.ntmps54
    go_wp2
    go_ret
    exact ⟨by unfold thereB; rw [h1]; simp, rfl⟩
theorem there_nil (n : Int) (w : World) :
    Calls Tryz.prog 54 #[.pointer none, .int .i64 n] w fun e w' => e = .returned (.bool false) ∧ w = w' := by
  go_enter Tryz.func54, Tryz.ntmps54
  go_wp2
  go_ret
  exact ⟨rfl, rfl⟩

def twoM (d : DevM) (i : Int) : List UInt8 × Int := if d.off = true then ([], 7) else (readM d i ++ readM d (i + 1), 0)
def putM (d : DevM) (i : Int) (s : List UInt8) : Int × DevM := if (writeM d i (s.take 256)).1 ≠ 0 then writeM d i (s.take 256) else writeM (writeM d i (s.take 256)).2 (i + 1) (s.drop 256)
set_option maxHeartbeats 1600000 in
set_option maxRecDepth 100000 in
theorem two_any (n0 ga g m : Nat) (a : ArM) (d : DevM) (i : Int) (w : World) (h : Tw n0 w ga g m a d) (hi : 0 ≤ i ∧ i + 1 < d.size) (hc : d.cmds < 1000000000) :
    Calls Tryz.prog 55 #[.pointer (some ⟨ga, 0, none⟩), .int .i64 i] w fun e w' => e = .returned (.tuple #[.string (bs (twoM d i).1), .int .i64 (twoM d i).2]) ∧ Below w.heap.size w w' := by
  obtain ⟨c0, _⟩ := h.ar.cells
  have hsz := h.dv.size
  have hfit := h.dv.fits
  have hr := devread_any n0 g m d i w h.dv ⟨hi.1, by omega⟩ hc
  have hr2 : ∀ W, Below w.heap.size w W → Calls Tryz.prog 77 #[.pointer (some ⟨g, 0, none⟩), .int .i64 (i + 1)] W fun e w' => e = .returned (.tuple #[.string (bs (readE d (i + 1)).1), .int .i64 (readE d (i + 1)).2]) ∧ Below W.heap.size W w' := fun W hW => devread_any n0 g m d (i + 1) W (h.dv.up hW) ⟨by omega, hi.2⟩ hc
  have hc0 : ∀ W, Below w.heap.size w W → W.cell? ⟨ga, 0, none⟩ = some (.pointer (some ⟨g, 0, none⟩)) := fun W hW => (h.up hW).ar.cells.1
  clear h
  by_cases ho : d.off = true
  · have e1 : readE d i = ([], 7) := by unfold readE; rw [if_pos ho]
    have e2 : twoM d i = ([], 7) := by unfold twoM; rw [if_pos ho]
    rw [e1] at hr
    rw [e2]
    clear hr2
    dsimp only at hr
    go_enter Tryz.func55, Tryz.ntmps55
    go_wp2_with fail
    refine hr.mono ?_
    rintro e w' ⟨rfl, hb⟩
    go_wp2_with fail
    go_ret2
    exact ⟨rfl, hb⟩
  · have e1 : readE d i = (readM d i, 0) := by unfold readE; rw [if_neg ho]
    have e3 : readE d (i + 1) = (readM d (i + 1), 0) := by unfold readE; rw [if_neg ho]
    have e2 : twoM d i = (readM d i ++ readM d (i + 1), 0) := by unfold twoM; rw [if_neg ho]
    rw [e1] at hr
    rw [e3] at hr2
    rw [e2]
    have l1 := readM_length hfit i
    have l2 := readM_length hfit (i + 1)
    generalize readM d i = s1 at *
    generalize readM d (i + 1) = s2 at *
    have q2 : ¬ 9223372036854775807 < s1.length + s2.length := by omega
    have q1 : IntKind.i64.wrap (i + 1) = i + 1 := by rw [IntKind.wrap_i64]; omega
    dsimp only at hr hr2
    go_enter Tryz.func55, Tryz.ntmps55
    go_wp2_with fail
    refine hr.mono ?_
    rintro e w' ⟨rfl, hb⟩
    have c0' := hc0 w' hb
    go_wp2_with fail
    refine (hr2 w' hb).mono ?_
    rintro e w2 ⟨rfl, hb2⟩
    go_wp2_with fail
    go_ret2
    exact ⟨rfl, hb.trans (hb2.mono hb.size)⟩

theorem putM_size (d : DevM) (i : Int) (s : List UInt8) : (putM d i s).2.size = d.size := by
  unfold putM
  split
  · exact writeM_size _ _ _
  · rw [writeM_size, writeM_size]
theorem putM_cmds (d : DevM) (i : Int) (s : List UInt8) : (putM d i s).2.cmds ≤ d.cmds + 2 := by
  unfold putM
  have h1 := writeM_cmds d i (s.take 256)
  split
  · omega
  · have h2 := writeM_cmds (writeM d i (s.take 256)).2 (i + 1) (s.drop 256)
    omega
set_option maxHeartbeats 1600000 in
set_option maxRecDepth 100000 in
theorem put_any (n0 ga g m : Nat) (a : ArM) (d : DevM) (i : Int) (s : List UInt8) (w : World) (h : Tw n0 w ga g m a d) (hi : 0 ≤ i ∧ i + 1 < d.size) (hs : s.length = 512) (hc : d.cmds < 999999999) :
    Calls Tryz.prog 113 #[.pointer (some ⟨ga, 0, none⟩), .int .i64 i, .string (bs s)] w fun e w' => e = .returned (.int .i64 (putM d i s).1) ∧ Tw n0 w' ga g m a (putM d i s).2 ∧ Kept n0 g m w w' := by
  obtain ⟨c0, _⟩ := h.ar.cells
  have hsz := h.dv.size
  have hw2 : ∀ W, Dv n0 W g m (writeM d i (s.take 256)).2 → _ := fun W hW => devwrite_any n0 g m (writeM d i (s.take 256)).2 (i + 1) (s.drop 256) W hW (by have := writeM_cmds d i (s.take 256); omega)
  have hs1 := writeM_size d i (s.take 256)
  have hs2 := writeM_size (writeM d i (s.take 256)).2 (i + 1) (s.drop 256)
  obtain ⟨rr, hrr⟩ : ∃ r, r = putM d i s := ⟨_, rfl⟩
  rw [← hrr]
  unfold putM at hrr
  generalize hr1 : writeM d i (s.take 256) = r1 at *
  generalize writeM r1.2 (i + 1) (s.drop 256) = r2 at *
  obtain ⟨e1, d1⟩ := r1
  obtain ⟨e2, d2⟩ := r2
  dsimp only at *
  have HR := Lib.hid hr1
  clear hr1
  have H := Lib.hid h
  clear h
  have q1 : IntKind.i64.wrap (i + 1) = i + 1 := by rw [IntKind.wrap_i64]; omega
  by_cases he : e1 = 0
  · subst he
    rw [if_neg (by simp)] at hrr
    rw [hrr]
    clear hrr
    go_enter Tryz.func113, Tryz.ntmps113
    go_wp2_with fail
    refine wp_region_late 7 (fun w' => w'.cell? ⟨ga, 0, none⟩ = some (.pointer (some ⟨g, 0, none⟩))) (by kernel_rfl) ?_
    have hT : w.drew.cell? ⟨ga, 0, none⟩ = some (.pointer (some ⟨g, 0, none⟩)) := c0
    have bd : Below w.heap.size w w.drew := (Below.refl _ _).drew
    have hw := devwrite_any n0 g m d i (s.take 256) w.drew (H.out.dv.up bd) (by omega)
    rw [HR.out] at hw
    have H1 := Lib.hid (H.out.up bd); have HK := Lib.hid (Kept.of_below (g := g) (m := m) bd H.out.dv.n0le)
    clear bd H c0
    generalize w.drew = w1 at *
    show wpAnyK _ _ _ _ _ 7 9 #[false,false,false,false,false,false,false,false,false] _ _
    refine wpAnyK_takeAny (i := 0) (oi := ⟨some 8, _, _, _, _, _⟩) (v := ?_) rfl (by kernel_rfl) (by kernel_rfl) (by kernel_rfl) (by kernel_rfl) (fun _ _ _ h => h) (Or.inl ⟨by kernel_rfl, ?_⟩) (fun _ => hT) ?_
    rotate_left
    · intro w'; go_simp; rfl
    try simp only [Act.put, List.setIfInBounds_toArray, List.set_cons_zero, List.set_cons_succ]
    refine wpAnyK_takeAny (i := 1) (oi := ⟨some 9, _, _, _, _, _⟩) (v := ?_) rfl (by kernel_rfl) (by kernel_rfl) (by kernel_rfl) (by kernel_rfl) (fun _ _ _ h => h) (Or.inl ⟨by kernel_rfl, ?_⟩) (fun _ => hT) ?_
    rotate_left
    · intro w'; go_simp; rfl
    try simp only [Act.put, List.setIfInBounds_toArray, List.set_cons_zero, List.set_cons_succ]
    refine wpAnyK_takeAny (i := 2) (oi := ⟨some 10, _, _, _, _, _⟩) (v := ?_) rfl (by kernel_rfl) (by kernel_rfl) (by kernel_rfl) (by kernel_rfl) (fun _ _ _ h => h) (Or.inl ⟨by kernel_rfl, ?_⟩) (fun _ => hT) ?_
    rotate_left
    · intro w'; go_simp; rfl
    try simp only [Act.put, List.setIfInBounds_toArray, List.set_cons_zero, List.set_cons_succ]
    refine wpAnyK_take (i := 3) (oi := ⟨some 11, _, _, _, _, _⟩) (L := [7]) (v := ?_) rfl (by kernel_rfl) (by kernel_rfl) (by kernel_rfl) (by kernel_rfl) (fun _ _ _ h => h) (Or.inl ⟨by kernel_rfl, ?_⟩) hT ?_
    rotate_left
    · rintro w' t0; go_simp; rfl
    try simp only [Act.put, List.setIfInBounds_toArray, List.set_cons_zero, List.set_cons_succ]
    refine wpAnyK_takeAny (i := 4) (oi := ⟨some 12, _, _, _, _, _⟩) (v := ?_) rfl (by kernel_rfl) (by kernel_rfl) (by kernel_rfl) (by kernel_rfl) (fun _ _ _ h => h) (Or.inl ⟨by kernel_rfl, ?_⟩) (fun _ => hT) ?_
    rotate_left
    · intro w'; go_simp; rfl
    try simp only [Act.put, List.setIfInBounds_toArray, List.set_cons_zero, List.set_cons_succ]
    refine wpAnyK_takeAny (i := 5) (oi := ⟨some 13, _, _, _, _, _⟩) (v := ?_) rfl (by kernel_rfl) (by kernel_rfl) (by kernel_rfl) (by kernel_rfl) (fun _ _ _ h => h) (Or.inl ⟨by kernel_rfl, ?_⟩) (fun _ => hT) ?_
    rotate_left
    · intro w'; go_simp; rfl
    try simp only [Act.put, List.setIfInBounds_toArray, List.set_cons_zero, List.set_cons_succ]
    refine wpAnyK_takeAny (i := 6) (oi := ⟨some 14, _, _, _, _, _⟩) (v := ?_) rfl (by kernel_rfl) (by kernel_rfl) (by kernel_rfl) (by kernel_rfl) (fun _ _ _ h => h) (Or.inl ⟨by kernel_rfl, ?_⟩) (fun _ => hT) ?_
    rotate_left
    · intro w'; go_simp; rfl
    try simp only [Act.put, List.setIfInBounds_toArray, List.set_cons_zero, List.set_cons_succ]
    refine wpAnyK_ready (rs := [7]) (by kernel_rfl) (by simp) ?_
    refine AllReadyK.cons (o := ⟨some 15, _, _, _, _, _⟩) rfl (fun K hK => ?_) AllReadyK.nil
    go_simp
    refine hw.mono ?_
    rintro e w2 ⟨rfl, hD2, hK2⟩
    have H2 := Lib.hid (H1.out.kept hD2 hs1 hK2); have HK2 := Lib.hid (HK.out.trans hK2)
    clear hw H1 HK hD2 hK2 hT
    refine hK _ _ (fun h => by cases h) ?_
    clear hK K
    refine wpAnyK_ready (rs := [8]) (by kernel_rfl) (by simp) ?_
    refine AllReadyK.cons (o := ⟨some 7, _, _, _, _, _⟩) rfl (fun K hK => ?_) AllReadyK.nil
    go_simp
    refine hK _ _ (fun h => by cases h) ?_
    clear hK K
    refine wpAnyK_done (by kernel_rfl) ?_ _
    have c0 := H2.out.ar.cells.1
    go_wp2_with fail
    refine wp_region_late 8 (fun w' => w'.cell? ⟨ga, 0, none⟩ = some (.pointer (some ⟨g, 0, none⟩))) (by kernel_rfl) ?_
    have hT : w2.drew.cell? ⟨ga, 0, none⟩ = some (.pointer (some ⟨g, 0, none⟩)) := c0
    have bd : Below w2.heap.size w2 w2.drew := (Below.refl _ _).drew
    have hw := hw2 w2.drew (H2.out.dv.up bd)
    have H3 := Lib.hid (H2.out.up bd); have HK3 := Lib.hid (HK2.out.trans (Kept.of_below (g := g) (m := m) bd H2.out.dv.n0le))
    clear bd H2 HK2 c0
    generalize w2.drew = w3 at *
    show wpAnyK _ _ _ _ _ 8 10 #[false,false,false,false,false,false,false,false,false,false] _ _
    refine wpAnyK_takeAny (i := 0) (oi := ⟨some 19, _, _, _, _, _⟩) (v := ?_) rfl (by kernel_rfl) (by kernel_rfl) (by kernel_rfl) (by kernel_rfl) (fun _ _ _ h => h) (Or.inl ⟨by kernel_rfl, ?_⟩) (fun _ => hT) ?_
    rotate_left
    · intro w'; go_simp; rfl
    try simp only [Act.put, List.setIfInBounds_toArray, List.set_cons_zero, List.set_cons_succ]
    refine wpAnyK_takeAny (i := 1) (oi := ⟨some 20, _, _, _, _, _⟩) (v := ?_) rfl (by kernel_rfl) (by kernel_rfl) (by kernel_rfl) (by kernel_rfl) (fun _ _ _ h => h) (Or.inl ⟨by kernel_rfl, ?_⟩) (fun _ => hT) ?_
    rotate_left
    · intro w'; go_simp; rfl
    try simp only [Act.put, List.setIfInBounds_toArray, List.set_cons_zero, List.set_cons_succ]
    refine wpAnyK_takeAny (i := 2) (oi := ⟨some 21, _, _, _, _, _⟩) (v := ?_) rfl (by kernel_rfl) (by kernel_rfl) (by kernel_rfl) (by kernel_rfl) (fun _ _ _ h => h) (Or.inl ⟨by kernel_rfl, ?_⟩) (fun _ => hT) ?_
    rotate_left
    · intro w'; go_simp; rfl
    try simp only [Act.put, List.setIfInBounds_toArray, List.set_cons_zero, List.set_cons_succ]
    refine wpAnyK_take (i := 3) (oi := ⟨some 22, _, _, _, _, _⟩) (L := [8]) (v := ?_) rfl (by kernel_rfl) (by kernel_rfl) (by kernel_rfl) (by kernel_rfl) (fun _ _ _ h => h) (Or.inl ⟨by kernel_rfl, ?_⟩) hT ?_
    rotate_left
    · rintro w' t0; go_simp; rfl
    try simp only [Act.put, List.setIfInBounds_toArray, List.set_cons_zero, List.set_cons_succ]
    refine wpAnyK_takeAny (i := 4) (oi := ⟨some 23, _, _, _, _, _⟩) (v := ?_) rfl (by kernel_rfl) (by kernel_rfl) (by kernel_rfl) (by kernel_rfl) (fun _ _ _ h => h) (Or.inl ⟨by kernel_rfl, ?_⟩) (fun _ => hT) ?_
    rotate_left
    · intro w'; go_simp; rfl
    try simp only [Act.put, List.setIfInBounds_toArray, List.set_cons_zero, List.set_cons_succ]
    refine wpAnyK_takeAny (i := 5) (oi := ⟨some 24, _, _, _, _, _⟩) (v := ?_) rfl (by kernel_rfl) (by kernel_rfl) (by kernel_rfl) (by kernel_rfl) (fun _ _ _ h => h) (Or.inl ⟨by kernel_rfl, ?_⟩) (fun _ => hT) ?_
    rotate_left
    · intro w'; go_simp; rfl
    try simp only [Act.put, List.setIfInBounds_toArray, List.set_cons_zero, List.set_cons_succ]
    refine wpAnyK_takeAny (i := 6) (oi := ⟨some 25, _, _, _, _, _⟩) (v := ?_) rfl (by kernel_rfl) (by kernel_rfl) (by kernel_rfl) (by kernel_rfl) (fun _ _ _ h => h) (Or.inl ⟨by kernel_rfl, ?_⟩) (fun _ => hT) ?_
    rotate_left
    · intro w'; go_simp; rfl
    try simp only [Act.put, List.setIfInBounds_toArray, List.set_cons_zero, List.set_cons_succ]
    refine wpAnyK_takeAny (i := 7) (oi := ⟨some 26, _, _, _, _, _⟩) (v := ?_) rfl (by kernel_rfl) (by kernel_rfl) (by kernel_rfl) (by kernel_rfl) (fun _ _ _ h => h) (Or.inl ⟨by kernel_rfl, ?_⟩) (fun _ => hT) ?_
    rotate_left
    · intro w'; go_simp; rfl
    try simp only [Act.put, List.setIfInBounds_toArray, List.set_cons_zero, List.set_cons_succ]
    refine wpAnyK_ready (rs := [8]) (by kernel_rfl) (by simp) ?_
    refine AllReadyK.cons (o := ⟨some 27, _, _, _, _, _⟩) rfl (fun K hK => ?_) AllReadyK.nil
    go_simp
    rw [List.take_of_length_le (show s.length ≤ 512 by omega)]
    refine hw.mono ?_
    rintro e w4 ⟨rfl, hD4, hK4⟩
    have H4 := Lib.hid (H3.out.kept hD4 hs2 hK4); have HK4 := Lib.hid (HK3.out.trans hK4)
    clear hw H3 HK3 hD4 hK4 hT
    refine hK _ _ (fun h => by cases h) ?_
    clear hK K
    refine wpAnyK_ready (rs := [9]) (by kernel_rfl) (by simp) ?_
    refine AllReadyK.cons (o := ⟨some 6, _, _, _, _, _⟩) rfl (fun K hK => ?_) AllReadyK.nil
    go_simp
    refine hK _ _ (fun h => by cases h) ?_
    clear hK K
    refine wpAnyK_done (by kernel_rfl) ?_ _
    go_wp2_with fail
    go_ret
    exact ⟨rfl, H4.out, HK4.out⟩
  · rw [if_pos he] at hrr
    rw [hrr]
    clear hrr hw2 hs2
    go_enter Tryz.func113, Tryz.ntmps113
    go_wp2_with fail
    refine wp_region_late 7 (fun w' => w'.cell? ⟨ga, 0, none⟩ = some (.pointer (some ⟨g, 0, none⟩))) (by kernel_rfl) ?_
    have hT : w.drew.cell? ⟨ga, 0, none⟩ = some (.pointer (some ⟨g, 0, none⟩)) := c0
    have bd : Below w.heap.size w w.drew := (Below.refl _ _).drew
    have hw := devwrite_any n0 g m d i (s.take 256) w.drew (H.out.dv.up bd) (by omega)
    rw [HR.out] at hw
    have H1 := Lib.hid (H.out.up bd); have HK := Lib.hid (Kept.of_below (g := g) (m := m) bd H.out.dv.n0le)
    clear bd H c0
    generalize w.drew = w1 at *
    show wpAnyK _ _ _ _ _ 7 9 #[false,false,false,false,false,false,false,false,false] _ _
    refine wpAnyK_takeAny (i := 0) (oi := ⟨some 8, _, _, _, _, _⟩) (v := ?_) rfl (by kernel_rfl) (by kernel_rfl) (by kernel_rfl) (by kernel_rfl) (fun _ _ _ h => h) (Or.inl ⟨by kernel_rfl, ?_⟩) (fun _ => hT) ?_
    rotate_left
    · intro w'; go_simp; rfl
    try simp only [Act.put, List.setIfInBounds_toArray, List.set_cons_zero, List.set_cons_succ]
    refine wpAnyK_takeAny (i := 1) (oi := ⟨some 9, _, _, _, _, _⟩) (v := ?_) rfl (by kernel_rfl) (by kernel_rfl) (by kernel_rfl) (by kernel_rfl) (fun _ _ _ h => h) (Or.inl ⟨by kernel_rfl, ?_⟩) (fun _ => hT) ?_
    rotate_left
    · intro w'; go_simp; rfl
    try simp only [Act.put, List.setIfInBounds_toArray, List.set_cons_zero, List.set_cons_succ]
    refine wpAnyK_takeAny (i := 2) (oi := ⟨some 10, _, _, _, _, _⟩) (v := ?_) rfl (by kernel_rfl) (by kernel_rfl) (by kernel_rfl) (by kernel_rfl) (fun _ _ _ h => h) (Or.inl ⟨by kernel_rfl, ?_⟩) (fun _ => hT) ?_
    rotate_left
    · intro w'; go_simp; rfl
    try simp only [Act.put, List.setIfInBounds_toArray, List.set_cons_zero, List.set_cons_succ]
    refine wpAnyK_take (i := 3) (oi := ⟨some 11, _, _, _, _, _⟩) (L := [7]) (v := ?_) rfl (by kernel_rfl) (by kernel_rfl) (by kernel_rfl) (by kernel_rfl) (fun _ _ _ h => h) (Or.inl ⟨by kernel_rfl, ?_⟩) hT ?_
    rotate_left
    · rintro w' t0; go_simp; rfl
    try simp only [Act.put, List.setIfInBounds_toArray, List.set_cons_zero, List.set_cons_succ]
    refine wpAnyK_takeAny (i := 4) (oi := ⟨some 12, _, _, _, _, _⟩) (v := ?_) rfl (by kernel_rfl) (by kernel_rfl) (by kernel_rfl) (by kernel_rfl) (fun _ _ _ h => h) (Or.inl ⟨by kernel_rfl, ?_⟩) (fun _ => hT) ?_
    rotate_left
    · intro w'; go_simp; rfl
    try simp only [Act.put, List.setIfInBounds_toArray, List.set_cons_zero, List.set_cons_succ]
    refine wpAnyK_takeAny (i := 5) (oi := ⟨some 13, _, _, _, _, _⟩) (v := ?_) rfl (by kernel_rfl) (by kernel_rfl) (by kernel_rfl) (by kernel_rfl) (fun _ _ _ h => h) (Or.inl ⟨by kernel_rfl, ?_⟩) (fun _ => hT) ?_
    rotate_left
    · intro w'; go_simp; rfl
    try simp only [Act.put, List.setIfInBounds_toArray, List.set_cons_zero, List.set_cons_succ]
    refine wpAnyK_takeAny (i := 6) (oi := ⟨some 14, _, _, _, _, _⟩) (v := ?_) rfl (by kernel_rfl) (by kernel_rfl) (by kernel_rfl) (by kernel_rfl) (fun _ _ _ h => h) (Or.inl ⟨by kernel_rfl, ?_⟩) (fun _ => hT) ?_
    rotate_left
    · intro w'; go_simp; rfl
    try simp only [Act.put, List.setIfInBounds_toArray, List.set_cons_zero, List.set_cons_succ]
    refine wpAnyK_ready (rs := [7]) (by kernel_rfl) (by simp) ?_
    refine AllReadyK.cons (o := ⟨some 15, _, _, _, _, _⟩) rfl (fun K hK => ?_) AllReadyK.nil
    go_simp
    refine hw.mono ?_
    rintro e w2 ⟨rfl, hD2, hK2⟩
    have H2 := Lib.hid (H1.out.kept hD2 hs1 hK2); have HK2 := Lib.hid (HK.out.trans hK2)
    clear hw H1 HK hD2 hK2 hT
    refine hK _ _ (fun h => by cases h) ?_
    clear hK K
    refine wpAnyK_ready (rs := [8]) (by kernel_rfl) (by simp) ?_
    refine AllReadyK.cons (o := ⟨some 7, _, _, _, _, _⟩) rfl (fun K hK => ?_) AllReadyK.nil
    go_simp
    refine hK _ _ (fun h => by cases h) ?_
    clear hK K
    refine wpAnyK_done (by kernel_rfl) ?_ _
    go_wp2_with fail
    go_ret
    exact ⟨rfl, H2.out, HK2.out⟩
end Go.Proofs.YtjlcbabnkhdgpaaGreatDoor
