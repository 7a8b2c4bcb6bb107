/-
  Walks: a slot's image.
-/
import Derived.Test.YtfkhgmdnajiabaaDoorTwD
import Derived.Test.YtfkhgmdnajiabaaDoorQt
namespace Go.Proofs.YtfkhgmdnajiabaaDoor
set_option linter.unusedSimpArgs false
set_option linter.unusedVariables false
open Go.RowKit Go.Maps

def slotN (a : ArM) (d : DevM) (i : Nat) : Nat := getB (((readM d (a.sat + 3 * i)).take 4).drop 2)
def slotS (a : ArM) (d : DevM) (i : Nat) : List UInt8 := readM d (a.sat + 3 * i + 1) ++ readM d (a.sat + 3 * i + 1 + 1)
/-- Does slot i count? -/
def slotB (a : ArM) (d : DevM) (i : Nat) : Bool :=
  ((readM d (a.sat + 3 * i)).take 8 == nameB (slotN a d i)) && (thereB a (slotN a d i) && (wholeB (slotS a d i) && !noughtsB (slotS a d i)))

theorem slot_results (tmps : Array Value) (rb : Nat) (x y : Value) (W : World) {v0 v1 : Value} (h2 : tmps.getD 4 undef = .pointer (some ⟨rb, 0, none⟩)) (h3 : tmps.getD 5 undef = x) (h4 : tmps.getD 6 undef = y) (h : Blk W rb 36 #[v0, v1]) :
    (results Tryd.f30 tmps).run Tryd.prog W = .ok (.tuple #[.agg #[v0, v1], x, y]) W := by
  have c0 := h.cell 0
  have c1 := h.cell 1
  have h2' : tmps[4]?.getD undef = .pointer (some ⟨rb, 0, none⟩) := by simpa using h2
  have h3' : tmps[5]?.getD undef = x := by simpa using h3
  have h4' : tmps[6]?.getD undef = y := by simpa using h4
  simp [results, Tryd.results30, go_sem, c0, c1, h2', h3', h4']
set_option maxHeartbeats 6400000 in
set_option maxRecDepth 100000 in
theorem slot_on (n0 ga g m : Nat) (a : ArM) (d : DevM) (i : Nat) (w : World) (h : Tw n0 w ga g m a d) (hi : (i : Int) < a.sl) (hc : d.cmds < 900000000) (ho : d.off = false) :
    Calls Tryd.prog 30 #[.pointer (some ⟨ga, 0, none⟩), .int .i64 i] w fun e w' =>
      e = .returned (.tuple #[.agg #[.int .i64 (slotN a d i), .string (bs (slotS a d i))], .bool (slotB a d i), .int .i64 0]) ∧ Below w.heap.size w w' := by
  obtain ⟨f1, f2, f3, f4, f5, f6, _⟩ := h.fits
  have hz := h.dv.size
  have hfit := h.dv.fits
  have q1 : IntKind.i64.wrap (3 * (i : Int)) = 3 * (i : Int) := by rw [IntKind.wrap_i64]; omega
  have q2 : IntKind.i64.wrap (a.sat + 3 * (i : Int)) = a.sat + 3 * (i : Int) := by rw [IntKind.wrap_i64]; omega
  have q3 : IntKind.i64.wrap (a.sat + 3 * (i : Int) + 1) = a.sat + 3 * (i : Int) + 1 := by rw [IntKind.wrap_i64]; omega
  have hb0 : Below w.heap.size w (w.alloc (.cells #[.int .i64 0, .string ⟨#[]⟩] 36)) := (Below.refl _ _).alloc (Nat.le_refl _) _
  have hB0 := Blk.made w #[.int .i64 0, .string ⟨#[]⟩] 36
  have hT0 := h.up hb0
  have hr := devread_any n0 g m d (a.sat + 3 * (i : Int)) _ hT0.dv (by omega) (by omega)
  have ht := fun W hW => two_any n0 ga g m a d (a.sat + 3 * (i : Int) + 1) W hW (by omega) (by omega)
  have e1 : readE d (a.sat + 3 * (i : Int)) = (readM d (a.sat + 3 * (i : Int)), 0) := by unfold readE; rw [if_neg (by simp [ho])]
  have e2 : twoM d (a.sat + 3 * (i : Int) + 1) = (slotS a d i, 0) := by unfold twoM; rw [if_neg (by simp [ho])]; rfl
  rw [e1] at hr
  rw [e2] at ht
  have hlh : (readM d (a.sat + 3 * (i : Int))).length = 256 := readM_length hfit _
  have hls : (slotS a d i).length = 512 := by unfold slotS; rw [List.length_append, readM_length hfit, readM_length hfit]
  have hn : slotN a d i = getB (((readM d (a.sat + 3 * (i : Int))).take 4).drop 2) := rfl
  have hok : slotB a d i = (((readM d (a.sat + 3 * (i : Int))).take 8 == nameB (slotN a d i)) && (thereB a (slotN a d i) && (wholeB (slotS a d i) && !noughtsB (slotS a d i)))) := rfl
  have hnl : slotN a d i < 65536 := by
    rw [hn]
    have := getB_lt (((readM d (a.sat + 3 * (i : Int))).take 4).drop 2)
    rw [List.length_drop, List.length_take, hlh] at this
    exact this
  have hnml : (nameB (slotN a d i)).length = 8 := by unfold nameB sealB; simp [putB_length, markB_length]
  dsimp only at hr ht
  generalize readM d (a.sat + 3 * (i : Int)) = hd at *
  generalize slotS a d i = s at *
  generalize slotN a d i = n at *
  generalize slotB a d i = ok at *
  have c0 := hT0.cells.1
  have c1 := hT0.cells.2.1
  have HT := Lib.hid hT0; have HB := Lib.hid hB0; have HBL := Lib.hid hb0
  have HN := Lib.hid hn; have HOK := Lib.hid hok
  clear h hT0 hB0 hb0 e1 e2 hn hok hfit
  go_enter Tryd.func30, Tryd.ntmps30
  go_wp2_with fail
  refine hr.mono ?_
  rintro e w1 ⟨rfl, hb1⟩
  have HT1 := Lib.hid (HT.out.up hb1)
  have HB1 : Hid (Blk w1 w.heap.size 36 #[.int .i64 0, .string ⟨#[]⟩]) := Lib.hid (HB.out.up hb1)
  have HBL1 := Lib.hid (HBL.out.trans (hb1.mono HBL.out.size))
  clear hr hb1 HT HB HBL c0 c1
  go_wp2_with fail
  refine (ht w1 HT1.out).mono ?_
  rintro e w2 ⟨rfl, hb2⟩
  have HT2 := Lib.hid (HT1.out.up hb2)
  have HB2 : Hid (Blk w2 w.heap.size 36 #[.int .i64 0, .string ⟨#[]⟩]) := Lib.hid (HB1.out.up hb2)
  have HBL2 := Lib.hid (HBL1.out.trans (hb2.mono HBL1.out.size))
  clear ht hb2 HT1 HB1 HBL1
  go_wp2_with fail
  refine (get_any ((hd.take 4).drop 2) (by simp; omega) w2).mono ?_
  rintro e w2' ⟨rfl, rfl⟩
  rw [← HN.out]
  go_wp2_with fail
  have htw := fun W (hW : Turns W) => name_any (n : Int) (by omega) (by omega) W hW
  have hth := fun W hW => there_any n0 ga g m a d (n : Int) W hW
  have hwh := fun W hW => pagewhole_any s (by omega) W hW
  have hws : (decide (s.length = 512) && wholeB s) = wholeB s := by simp [hls]
  rw [hws] at hwh
  obtain ⟨tr, htr⟩ : ∃ t, Lib.trimB s 0 = t := ⟨_, rfl⟩
  have htm : ∀ W, Calls Tryd.prog 51 #[.string (bs s), .string ⟨#[0]⟩] W fun e w' => e = .returned (.string (bs tr)) ∧ (w' = W ∨ w' = W.drew) := fun W => by
    have hc := Tryd.strings_Trim_one (bs s) 0 (by decide) W (by simp; omega)
    have e0 : (⟨(Lib.trimB (bs s).data.toList 0).toArray⟩ : ByteArray) = bs tr := by rw [bs_data, htr]; rfl
    rw [e0] at hc
    exact hc
  have hne : (!noughtsB s) = !tr.isEmpty := by rw [← htr, trimB_nil]
  have hokv := HOK.out
  rw [hne] at hokv
  have hfin : ∀ (okv : Bool), ok = okv → Hid (ok = okv) := fun _ h => Lib.hid h
  have HT := HT2; have HB := HB2; have HBL := HBL2
  clear HT2 HB2 HBL2 hws htr hne HOK
  generalize nameB (n : Int) = nb at *
  have hb : Blk w2' w.heap.size 36 #[.int .i64 0, .string ⟨#[]⟩] := HB.out
  cases hb1 : (hd.take 8 == nb) with
  | false =>
    refine wp_region_q (fun W => Below w2'.heap.size w2' W) (by kernel_rfl) (by kernel_rfl) (Below.refl _ _).drew ?_
    refine q_val (o := ⟨some 47, _, _, _, _, _⟩) (v := ?_) (by kernel_rfl) (fun W hW => ?_) ?_
    rotate_left
    · go_simp; rfl
    try simp only [Act.put, List.setIfInBounds_toArray, List.set_cons_zero, List.set_cons_succ]
    refine q_val (o := ⟨some 48, _, _, _, _, _⟩) (v := ?_) (by kernel_rfl) (fun W hW => ?_) ?_
    rotate_left
    · go_simp; rfl
    try simp only [Act.put, List.setIfInBounds_toArray, List.set_cons_zero, List.set_cons_succ]
    refine q_call (o := ⟨some 49, _, _, _, _, _⟩) (by kernel_rfl) (fun W hW => ?_) (fun W hW => q_of hW (htw W (HT.out.up hW).turns)) ?_
    · go_simp
    try simp only [Act.put, List.setIfInBounds_toArray, List.set_cons_zero, List.set_cons_succ]
    refine q_val (o := ⟨some 50, _, _, _, _, _⟩) (v := ?_) (by kernel_rfl) (fun W hW => ?_) ?_
    rotate_left
    · go_simp; rfl
    try simp only [Act.put, List.setIfInBounds_toArray, List.set_cons_zero, List.set_cons_succ]
    refine q_val (o := ⟨some 51, _, _, _, _, _⟩) (v := ?_) (by kernel_rfl) (fun W hW => ?_) ?_
    rotate_left
    · go_simp; rfl
    try simp only [Act.put, List.setIfInBounds_toArray, List.set_cons_zero, List.set_cons_succ]
    refine q_val (o := ⟨some 52, _, _, _, _, _⟩) (v := ?_) (by kernel_rfl) (fun W hW => ?_) ?_
    rotate_left
    · go_simp; rfl
    try simp only [Act.put, List.setIfInBounds_toArray, List.set_cons_zero, List.set_cons_succ]
    refine q_call (o := ⟨some 53, _, _, _, _, _⟩) (by kernel_rfl) (fun W hW => ?_) (fun W hW => q_of hW (htw W (HT.out.up hW).turns)) ?_
    · go_simp
    try simp only [Act.put, List.setIfInBounds_toArray, List.set_cons_zero, List.set_cons_succ]
    refine q_val (o := ⟨some 54, _, _, _, _, _⟩) (v := ?_) (by kernel_rfl) (fun W hW => ?_) ?_
    rotate_left
    · go_simp; rfl
    try simp only [Act.put, List.setIfInBounds_toArray, List.set_cons_zero, List.set_cons_succ]
    refine q_val (o := ⟨some 55, _, _, _, _, _⟩) (v := ?_) (by kernel_rfl) (fun W hW => ?_) ?_
    rotate_left
    · go_simp; rfl
    try simp only [Act.put, List.setIfInBounds_toArray, List.set_cons_zero, List.set_cons_succ]
    refine q_skip (o := ⟨some 56, _, _, _, _, _⟩) (by kernel_rfl) ?_
    try simp only [Act.put, List.setIfInBounds_toArray, List.set_cons_zero, List.set_cons_succ]
    refine q_skip (o := ⟨some 57, _, _, _, _, _⟩) (by kernel_rfl) ?_
    try simp only [Act.put, List.setIfInBounds_toArray, List.set_cons_zero, List.set_cons_succ]
    refine q_skip (o := ⟨some 58, _, _, _, _, _⟩) (by kernel_rfl) ?_
    try simp only [Act.put, List.setIfInBounds_toArray, List.set_cons_zero, List.set_cons_succ]
    refine q_val (o := ⟨some 59, _, _, _, _, _⟩) (v := ?_) (by kernel_rfl) (fun W hW => ?_) ?_
    rotate_left
    · go_simp; rfl
    try simp only [Act.put, List.setIfInBounds_toArray, List.set_cons_zero, List.set_cons_succ]
    refine q_val (o := ⟨some 60, _, _, _, _, _⟩) (v := ?_) (by kernel_rfl) (fun W hW => ?_) ?_
    rotate_left
    · go_simp; rfl
    try simp only [Act.put, List.setIfInBounds_toArray, List.set_cons_zero, List.set_cons_succ]
    refine q_skip (o := ⟨some 61, _, _, _, _, _⟩) (by kernel_rfl) ?_
    try simp only [Act.put, List.setIfInBounds_toArray, List.set_cons_zero, List.set_cons_succ]
    refine q_skip (o := ⟨some 62, _, _, _, _, _⟩) (by kernel_rfl) ?_
    try simp only [Act.put, List.setIfInBounds_toArray, List.set_cons_zero, List.set_cons_succ]
    refine q_val (o := ⟨some 63, _, _, _, _, _⟩) (v := ?_) (by kernel_rfl) (fun W hW => ?_) ?_
    rotate_left
    · go_simp; rfl
    try simp only [Act.put, List.setIfInBounds_toArray, List.set_cons_zero, List.set_cons_succ]
    refine q_val (o := ⟨some 64, _, _, _, _, _⟩) (v := ?_) (by kernel_rfl) (fun W hW => ?_) ?_
    rotate_left
    · go_simp; rfl
    try simp only [Act.put, List.setIfInBounds_toArray, List.set_cons_zero, List.set_cons_succ]
    refine q_skip (o := ⟨some 65, _, _, _, _, _⟩) (by kernel_rfl) ?_
    try simp only [Act.put, List.setIfInBounds_toArray, List.set_cons_zero, List.set_cons_succ]
    refine q_skip (o := ⟨some 66, _, _, _, _, _⟩) (by kernel_rfl) ?_
    try simp only [Act.put, List.setIfInBounds_toArray, List.set_cons_zero, List.set_cons_succ]
    refine q_skip (o := ⟨some 67, _, _, _, _, _⟩) (by kernel_rfl) ?_
    try simp only [Act.put, List.setIfInBounds_toArray, List.set_cons_zero, List.set_cons_succ]
    refine q_val (o := ⟨some 68, _, _, _, _, _⟩) (v := ?_) (by kernel_rfl) (fun W hW => ?_) ?_
    rotate_left
    · go_simp; rfl
    try simp only [Act.put, List.setIfInBounds_toArray, List.set_cons_zero, List.set_cons_succ]
    refine q_val (o := ⟨some 12, _, _, _, _, _⟩) (v := ?_) (by kernel_rfl) (fun W hW => ?_) ?_
    rotate_left
    · go_simp; rfl
    try simp only [Act.put, List.setIfInBounds_toArray, List.set_cons_zero, List.set_cons_succ]
    refine q_end (fun W hW => ?_)
    have hokf : ok = false := by rw [hokv, hb1]; rfl
    subst hokf
    have hB3 : Blk W w.heap.size 36 #[.int .i64 0, .string ⟨#[]⟩] := hb.up hW
    have hb3 := HBL.out.trans (hW.mono HBL.out.size)
    have HB3 := Lib.hid hB3; have HBL3 := Lib.hid hb3
    have f0 := hB3.frozen 0
    have f1 := hB3.frozen 1
    have cc0 := hB3.cell 0
    have cc1 := hB3.cell 1
    clear hokv hfin hb HT HB HBL hth hwh htm htw hW hB3 hb3
    go_wp2_with fail
    have hB4 := (HB3.out.set 0 (.int .i64 n)).set 1 (.string (bs s))
    refine bodyPost_ret (slot_results _ _ _ _ _ rfl rfl rfl hB4) rfl ?_
    exact ⟨rfl, (HBL3.out.setCell (p := ⟨w.heap.size, 0, none⟩) (Nat.le_refl _) _).setCell (p := ⟨w.heap.size, 1, none⟩) (Nat.le_refl _) _⟩
  | true =>
    cases hb2 : thereB a (n : Int) with
    | false =>
      rw [hb2] at hth
      refine wp_region_q (fun W => Below w2'.heap.size w2' W) (by kernel_rfl) (by kernel_rfl) (Below.refl _ _).drew ?_
      refine q_val (o := ⟨some 47, _, _, _, _, _⟩) (v := ?_) (by kernel_rfl) (fun W hW => ?_) ?_
      rotate_left
      · go_simp; rfl
      try simp only [Act.put, List.setIfInBounds_toArray, List.set_cons_zero, List.set_cons_succ]
      refine q_val (o := ⟨some 48, _, _, _, _, _⟩) (v := ?_) (by kernel_rfl) (fun W hW => ?_) ?_
      rotate_left
      · go_simp; rfl
      try simp only [Act.put, List.setIfInBounds_toArray, List.set_cons_zero, List.set_cons_succ]
      refine q_call (o := ⟨some 49, _, _, _, _, _⟩) (by kernel_rfl) (fun W hW => ?_) (fun W hW => q_of hW (htw W (HT.out.up hW).turns)) ?_
      · go_simp
      try simp only [Act.put, List.setIfInBounds_toArray, List.set_cons_zero, List.set_cons_succ]
      refine q_val (o := ⟨some 50, _, _, _, _, _⟩) (v := ?_) (by kernel_rfl) (fun W hW => ?_) ?_
      rotate_left
      · go_simp; rfl
      try simp only [Act.put, List.setIfInBounds_toArray, List.set_cons_zero, List.set_cons_succ]
      refine q_val (o := ⟨some 51, _, _, _, _, _⟩) (v := ?_) (by kernel_rfl) (fun W hW => ?_) ?_
      rotate_left
      · go_simp; rfl
      try simp only [Act.put, List.setIfInBounds_toArray, List.set_cons_zero, List.set_cons_succ]
      refine q_val (o := ⟨some 52, _, _, _, _, _⟩) (v := ?_) (by kernel_rfl) (fun W hW => ?_) ?_
      rotate_left
      · go_simp; rfl
      try simp only [Act.put, List.setIfInBounds_toArray, List.set_cons_zero, List.set_cons_succ]
      refine q_call (o := ⟨some 53, _, _, _, _, _⟩) (by kernel_rfl) (fun W hW => ?_) (fun W hW => q_of hW (htw W (HT.out.up hW).turns)) ?_
      · go_simp
      try simp only [Act.put, List.setIfInBounds_toArray, List.set_cons_zero, List.set_cons_succ]
      refine q_val (o := ⟨some 54, _, _, _, _, _⟩) (v := ?_) (by kernel_rfl) (fun W hW => ?_) ?_
      rotate_left
      · go_simp; rfl
      try simp only [Act.put, List.setIfInBounds_toArray, List.set_cons_zero, List.set_cons_succ]
      refine q_val (o := ⟨some 55, _, _, _, _, _⟩) (v := ?_) (by kernel_rfl) (fun W hW => ?_) ?_
      rotate_left
      · go_simp; rfl
      try simp only [Act.put, List.setIfInBounds_toArray, List.set_cons_zero, List.set_cons_succ]
      refine q_val (o := ⟨some 56, _, _, _, _, _⟩) (v := ?_) (by kernel_rfl) (fun W hW => ?_) ?_
      rotate_left
      · go_simp; rfl
      try simp only [Act.put, List.setIfInBounds_toArray, List.set_cons_zero, List.set_cons_succ]
      refine q_val (o := ⟨some 57, _, _, _, _, _⟩) (v := ?_) (by kernel_rfl) (fun W hW => ?_) ?_
      rotate_left
      · go_simp; rfl
      try simp only [Act.put, List.setIfInBounds_toArray, List.set_cons_zero, List.set_cons_succ]
      refine q_call (o := ⟨some 58, _, _, _, _, _⟩) (by kernel_rfl) (fun W hW => ?_) (fun W hW => q_same hW (hth W (HT.out.up hW))) ?_
      · go_simp
      try simp only [Act.put, List.setIfInBounds_toArray, List.set_cons_zero, List.set_cons_succ]
      refine q_val (o := ⟨some 59, _, _, _, _, _⟩) (v := ?_) (by kernel_rfl) (fun W hW => ?_) ?_
      rotate_left
      · go_simp; rfl
      try simp only [Act.put, List.setIfInBounds_toArray, List.set_cons_zero, List.set_cons_succ]
      refine q_val (o := ⟨some 60, _, _, _, _, _⟩) (v := ?_) (by kernel_rfl) (fun W hW => ?_) ?_
      rotate_left
      · go_simp; rfl
      try simp only [Act.put, List.setIfInBounds_toArray, List.set_cons_zero, List.set_cons_succ]
      refine q_skip (o := ⟨some 61, _, _, _, _, _⟩) (by kernel_rfl) ?_
      try simp only [Act.put, List.setIfInBounds_toArray, List.set_cons_zero, List.set_cons_succ]
      refine q_skip (o := ⟨some 62, _, _, _, _, _⟩) (by kernel_rfl) ?_
      try simp only [Act.put, List.setIfInBounds_toArray, List.set_cons_zero, List.set_cons_succ]
      refine q_val (o := ⟨some 63, _, _, _, _, _⟩) (v := ?_) (by kernel_rfl) (fun W hW => ?_) ?_
      rotate_left
      · go_simp; rfl
      try simp only [Act.put, List.setIfInBounds_toArray, List.set_cons_zero, List.set_cons_succ]
      refine q_val (o := ⟨some 64, _, _, _, _, _⟩) (v := ?_) (by kernel_rfl) (fun W hW => ?_) ?_
      rotate_left
      · go_simp; rfl
      try simp only [Act.put, List.setIfInBounds_toArray, List.set_cons_zero, List.set_cons_succ]
      refine q_skip (o := ⟨some 65, _, _, _, _, _⟩) (by kernel_rfl) ?_
      try simp only [Act.put, List.setIfInBounds_toArray, List.set_cons_zero, List.set_cons_succ]
      refine q_skip (o := ⟨some 66, _, _, _, _, _⟩) (by kernel_rfl) ?_
      try simp only [Act.put, List.setIfInBounds_toArray, List.set_cons_zero, List.set_cons_succ]
      refine q_skip (o := ⟨some 67, _, _, _, _, _⟩) (by kernel_rfl) ?_
      try simp only [Act.put, List.setIfInBounds_toArray, List.set_cons_zero, List.set_cons_succ]
      refine q_val (o := ⟨some 68, _, _, _, _, _⟩) (v := ?_) (by kernel_rfl) (fun W hW => ?_) ?_
      rotate_left
      · go_simp; rfl
      try simp only [Act.put, List.setIfInBounds_toArray, List.set_cons_zero, List.set_cons_succ]
      refine q_val (o := ⟨some 12, _, _, _, _, _⟩) (v := ?_) (by kernel_rfl) (fun W hW => ?_) ?_
      rotate_left
      · go_simp; rfl
      try simp only [Act.put, List.setIfInBounds_toArray, List.set_cons_zero, List.set_cons_succ]
      refine q_end (fun W hW => ?_)
      have hokf : ok = false := by rw [hokv, hb1, hb2]; rfl
      subst hokf
      have hB3 : Blk W w.heap.size 36 #[.int .i64 0, .string ⟨#[]⟩] := hb.up hW
      have hb3 := HBL.out.trans (hW.mono HBL.out.size)
      have HB3 := Lib.hid hB3; have HBL3 := Lib.hid hb3
      have f0 := hB3.frozen 0
      have f1 := hB3.frozen 1
      have cc0 := hB3.cell 0
      have cc1 := hB3.cell 1
      clear hokv hfin hb HT HB HBL hth hwh htm htw hW hB3 hb3
      go_wp2_with fail
      have hB4 := (HB3.out.set 0 (.int .i64 n)).set 1 (.string (bs s))
      refine bodyPost_ret (slot_results _ _ _ _ _ rfl rfl rfl hB4) rfl ?_
      exact ⟨rfl, (HBL3.out.setCell (p := ⟨w.heap.size, 0, none⟩) (Nat.le_refl _) _).setCell (p := ⟨w.heap.size, 1, none⟩) (Nat.le_refl _) _⟩
    | true =>
      rw [hb2] at hth
      cases hb3 : wholeB s with
      | false =>
        rw [hb3] at hwh
        refine wp_region_q (fun W => Below w2'.heap.size w2' W) (by kernel_rfl) (by kernel_rfl) (Below.refl _ _).drew ?_
        refine q_val (o := ⟨some 47, _, _, _, _, _⟩) (v := ?_) (by kernel_rfl) (fun W hW => ?_) ?_
        rotate_left
        · go_simp; rfl
        try simp only [Act.put, List.setIfInBounds_toArray, List.set_cons_zero, List.set_cons_succ]
        refine q_val (o := ⟨some 48, _, _, _, _, _⟩) (v := ?_) (by kernel_rfl) (fun W hW => ?_) ?_
        rotate_left
        · go_simp; rfl
        try simp only [Act.put, List.setIfInBounds_toArray, List.set_cons_zero, List.set_cons_succ]
        refine q_call (o := ⟨some 49, _, _, _, _, _⟩) (by kernel_rfl) (fun W hW => ?_) (fun W hW => q_of hW (htw W (HT.out.up hW).turns)) ?_
        · go_simp
        try simp only [Act.put, List.setIfInBounds_toArray, List.set_cons_zero, List.set_cons_succ]
        refine q_val (o := ⟨some 50, _, _, _, _, _⟩) (v := ?_) (by kernel_rfl) (fun W hW => ?_) ?_
        rotate_left
        · go_simp; rfl
        try simp only [Act.put, List.setIfInBounds_toArray, List.set_cons_zero, List.set_cons_succ]
        refine q_val (o := ⟨some 51, _, _, _, _, _⟩) (v := ?_) (by kernel_rfl) (fun W hW => ?_) ?_
        rotate_left
        · go_simp; rfl
        try simp only [Act.put, List.setIfInBounds_toArray, List.set_cons_zero, List.set_cons_succ]
        refine q_val (o := ⟨some 52, _, _, _, _, _⟩) (v := ?_) (by kernel_rfl) (fun W hW => ?_) ?_
        rotate_left
        · go_simp; rfl
        try simp only [Act.put, List.setIfInBounds_toArray, List.set_cons_zero, List.set_cons_succ]
        refine q_call (o := ⟨some 53, _, _, _, _, _⟩) (by kernel_rfl) (fun W hW => ?_) (fun W hW => q_of hW (htw W (HT.out.up hW).turns)) ?_
        · go_simp
        try simp only [Act.put, List.setIfInBounds_toArray, List.set_cons_zero, List.set_cons_succ]
        refine q_val (o := ⟨some 54, _, _, _, _, _⟩) (v := ?_) (by kernel_rfl) (fun W hW => ?_) ?_
        rotate_left
        · go_simp; rfl
        try simp only [Act.put, List.setIfInBounds_toArray, List.set_cons_zero, List.set_cons_succ]
        refine q_val (o := ⟨some 55, _, _, _, _, _⟩) (v := ?_) (by kernel_rfl) (fun W hW => ?_) ?_
        rotate_left
        · go_simp; rfl
        try simp only [Act.put, List.setIfInBounds_toArray, List.set_cons_zero, List.set_cons_succ]
        refine q_val (o := ⟨some 56, _, _, _, _, _⟩) (v := ?_) (by kernel_rfl) (fun W hW => ?_) ?_
        rotate_left
        · go_simp; rfl
        try simp only [Act.put, List.setIfInBounds_toArray, List.set_cons_zero, List.set_cons_succ]
        refine q_val (o := ⟨some 57, _, _, _, _, _⟩) (v := ?_) (by kernel_rfl) (fun W hW => ?_) ?_
        rotate_left
        · go_simp; rfl
        try simp only [Act.put, List.setIfInBounds_toArray, List.set_cons_zero, List.set_cons_succ]
        refine q_call (o := ⟨some 58, _, _, _, _, _⟩) (by kernel_rfl) (fun W hW => ?_) (fun W hW => q_same hW (hth W (HT.out.up hW))) ?_
        · go_simp
        try simp only [Act.put, List.setIfInBounds_toArray, List.set_cons_zero, List.set_cons_succ]
        refine q_val (o := ⟨some 59, _, _, _, _, _⟩) (v := ?_) (by kernel_rfl) (fun W hW => ?_) ?_
        rotate_left
        · go_simp; rfl
        try simp only [Act.put, List.setIfInBounds_toArray, List.set_cons_zero, List.set_cons_succ]
        refine q_val (o := ⟨some 60, _, _, _, _, _⟩) (v := ?_) (by kernel_rfl) (fun W hW => ?_) ?_
        rotate_left
        · go_simp; rfl
        try simp only [Act.put, List.setIfInBounds_toArray, List.set_cons_zero, List.set_cons_succ]
        refine q_val (o := ⟨some 61, _, _, _, _, _⟩) (v := ?_) (by kernel_rfl) (fun W hW => ?_) ?_
        rotate_left
        · go_simp; rfl
        try simp only [Act.put, List.setIfInBounds_toArray, List.set_cons_zero, List.set_cons_succ]
        refine q_call (o := ⟨some 62, _, _, _, _, _⟩) (by kernel_rfl) (fun W hW => ?_) (fun W hW => q_of hW (hwh W (HT.out.up hW).turns)) ?_
        · go_simp
        try simp only [Act.put, List.setIfInBounds_toArray, List.set_cons_zero, List.set_cons_succ]
        refine q_val (o := ⟨some 63, _, _, _, _, _⟩) (v := ?_) (by kernel_rfl) (fun W hW => ?_) ?_
        rotate_left
        · go_simp; rfl
        try simp only [Act.put, List.setIfInBounds_toArray, List.set_cons_zero, List.set_cons_succ]
        refine q_val (o := ⟨some 64, _, _, _, _, _⟩) (v := ?_) (by kernel_rfl) (fun W hW => ?_) ?_
        rotate_left
        · go_simp; rfl
        try simp only [Act.put, List.setIfInBounds_toArray, List.set_cons_zero, List.set_cons_succ]
        refine q_skip (o := ⟨some 65, _, _, _, _, _⟩) (by kernel_rfl) ?_
        try simp only [Act.put, List.setIfInBounds_toArray, List.set_cons_zero, List.set_cons_succ]
        refine q_skip (o := ⟨some 66, _, _, _, _, _⟩) (by kernel_rfl) ?_
        try simp only [Act.put, List.setIfInBounds_toArray, List.set_cons_zero, List.set_cons_succ]
        refine q_skip (o := ⟨some 67, _, _, _, _, _⟩) (by kernel_rfl) ?_
        try simp only [Act.put, List.setIfInBounds_toArray, List.set_cons_zero, List.set_cons_succ]
        refine q_val (o := ⟨some 68, _, _, _, _, _⟩) (v := ?_) (by kernel_rfl) (fun W hW => ?_) ?_
        rotate_left
        · go_simp; rfl
        try simp only [Act.put, List.setIfInBounds_toArray, List.set_cons_zero, List.set_cons_succ]
        refine q_val (o := ⟨some 12, _, _, _, _, _⟩) (v := ?_) (by kernel_rfl) (fun W hW => ?_) ?_
        rotate_left
        · go_simp; rfl
        try simp only [Act.put, List.setIfInBounds_toArray, List.set_cons_zero, List.set_cons_succ]
        refine q_end (fun W hW => ?_)
        have hokf : ok = false := by rw [hokv, hb1, hb2, hb3]; rfl
        subst hokf
        have hB3 : Blk W w.heap.size 36 #[.int .i64 0, .string ⟨#[]⟩] := hb.up hW
        have hb3 := HBL.out.trans (hW.mono HBL.out.size)
        have HB3 := Lib.hid hB3; have HBL3 := Lib.hid hb3
        have f0 := hB3.frozen 0
        have f1 := hB3.frozen 1
        have cc0 := hB3.cell 0
        have cc1 := hB3.cell 1
        clear hokv hfin hb HT HB HBL hth hwh htm htw hW hB3 hb3
        go_wp2_with fail
        have hB4 := (HB3.out.set 0 (.int .i64 n)).set 1 (.string (bs s))
        refine bodyPost_ret (slot_results _ _ _ _ _ rfl rfl rfl hB4) rfl ?_
        exact ⟨rfl, (HBL3.out.setCell (p := ⟨w.heap.size, 0, none⟩) (Nat.le_refl _) _).setCell (p := ⟨w.heap.size, 1, none⟩) (Nat.le_refl _) _⟩
      | true =>
        rw [hb3] at hwh
        refine wp_region_q (fun W => Below w2'.heap.size w2' W) (by kernel_rfl) (by kernel_rfl) (Below.refl _ _).drew ?_
        refine q_val (o := ⟨some 47, _, _, _, _, _⟩) (v := ?_) (by kernel_rfl) (fun W hW => ?_) ?_
        rotate_left
        · go_simp; rfl
        try simp only [Act.put, List.setIfInBounds_toArray, List.set_cons_zero, List.set_cons_succ]
        refine q_val (o := ⟨some 48, _, _, _, _, _⟩) (v := ?_) (by kernel_rfl) (fun W hW => ?_) ?_
        rotate_left
        · go_simp; rfl
        try simp only [Act.put, List.setIfInBounds_toArray, List.set_cons_zero, List.set_cons_succ]
        refine q_call (o := ⟨some 49, _, _, _, _, _⟩) (by kernel_rfl) (fun W hW => ?_) (fun W hW => q_of hW (htw W (HT.out.up hW).turns)) ?_
        · go_simp
        try simp only [Act.put, List.setIfInBounds_toArray, List.set_cons_zero, List.set_cons_succ]
        refine q_val (o := ⟨some 50, _, _, _, _, _⟩) (v := ?_) (by kernel_rfl) (fun W hW => ?_) ?_
        rotate_left
        · go_simp; rfl
        try simp only [Act.put, List.setIfInBounds_toArray, List.set_cons_zero, List.set_cons_succ]
        refine q_val (o := ⟨some 51, _, _, _, _, _⟩) (v := ?_) (by kernel_rfl) (fun W hW => ?_) ?_
        rotate_left
        · go_simp; rfl
        try simp only [Act.put, List.setIfInBounds_toArray, List.set_cons_zero, List.set_cons_succ]
        refine q_val (o := ⟨some 52, _, _, _, _, _⟩) (v := ?_) (by kernel_rfl) (fun W hW => ?_) ?_
        rotate_left
        · go_simp; rfl
        try simp only [Act.put, List.setIfInBounds_toArray, List.set_cons_zero, List.set_cons_succ]
        refine q_call (o := ⟨some 53, _, _, _, _, _⟩) (by kernel_rfl) (fun W hW => ?_) (fun W hW => q_of hW (htw W (HT.out.up hW).turns)) ?_
        · go_simp
        try simp only [Act.put, List.setIfInBounds_toArray, List.set_cons_zero, List.set_cons_succ]
        refine q_val (o := ⟨some 54, _, _, _, _, _⟩) (v := ?_) (by kernel_rfl) (fun W hW => ?_) ?_
        rotate_left
        · go_simp; rfl
        try simp only [Act.put, List.setIfInBounds_toArray, List.set_cons_zero, List.set_cons_succ]
        refine q_val (o := ⟨some 55, _, _, _, _, _⟩) (v := ?_) (by kernel_rfl) (fun W hW => ?_) ?_
        rotate_left
        · go_simp; rfl
        try simp only [Act.put, List.setIfInBounds_toArray, List.set_cons_zero, List.set_cons_succ]
        refine q_val (o := ⟨some 56, _, _, _, _, _⟩) (v := ?_) (by kernel_rfl) (fun W hW => ?_) ?_
        rotate_left
        · go_simp; rfl
        try simp only [Act.put, List.setIfInBounds_toArray, List.set_cons_zero, List.set_cons_succ]
        refine q_val (o := ⟨some 57, _, _, _, _, _⟩) (v := ?_) (by kernel_rfl) (fun W hW => ?_) ?_
        rotate_left
        · go_simp; rfl
        try simp only [Act.put, List.setIfInBounds_toArray, List.set_cons_zero, List.set_cons_succ]
        refine q_call (o := ⟨some 58, _, _, _, _, _⟩) (by kernel_rfl) (fun W hW => ?_) (fun W hW => q_same hW (hth W (HT.out.up hW))) ?_
        · go_simp
        try simp only [Act.put, List.setIfInBounds_toArray, List.set_cons_zero, List.set_cons_succ]
        refine q_val (o := ⟨some 59, _, _, _, _, _⟩) (v := ?_) (by kernel_rfl) (fun W hW => ?_) ?_
        rotate_left
        · go_simp; rfl
        try simp only [Act.put, List.setIfInBounds_toArray, List.set_cons_zero, List.set_cons_succ]
        refine q_val (o := ⟨some 60, _, _, _, _, _⟩) (v := ?_) (by kernel_rfl) (fun W hW => ?_) ?_
        rotate_left
        · go_simp; rfl
        try simp only [Act.put, List.setIfInBounds_toArray, List.set_cons_zero, List.set_cons_succ]
        refine q_val (o := ⟨some 61, _, _, _, _, _⟩) (v := ?_) (by kernel_rfl) (fun W hW => ?_) ?_
        rotate_left
        · go_simp; rfl
        try simp only [Act.put, List.setIfInBounds_toArray, List.set_cons_zero, List.set_cons_succ]
        refine q_call (o := ⟨some 62, _, _, _, _, _⟩) (by kernel_rfl) (fun W hW => ?_) (fun W hW => q_of hW (hwh W (HT.out.up hW).turns)) ?_
        · go_simp
        try simp only [Act.put, List.setIfInBounds_toArray, List.set_cons_zero, List.set_cons_succ]
        refine q_val (o := ⟨some 63, _, _, _, _, _⟩) (v := ?_) (by kernel_rfl) (fun W hW => ?_) ?_
        rotate_left
        · go_simp; rfl
        try simp only [Act.put, List.setIfInBounds_toArray, List.set_cons_zero, List.set_cons_succ]
        refine q_val (o := ⟨some 64, _, _, _, _, _⟩) (v := ?_) (by kernel_rfl) (fun W hW => ?_) ?_
        rotate_left
        · go_simp; rfl
        try simp only [Act.put, List.setIfInBounds_toArray, List.set_cons_zero, List.set_cons_succ]
        refine q_val (o := ⟨some 65, _, _, _, _, _⟩) (v := ?_) (by kernel_rfl) (fun W hW => ?_) ?_
        rotate_left
        · go_simp; rfl
        try simp only [Act.put, List.setIfInBounds_toArray, List.set_cons_zero, List.set_cons_succ]
        refine q_call (o := ⟨some 66, _, _, _, _, _⟩) (by kernel_rfl) (fun W hW => ?_) (fun W hW => q_drew hW (htm W)) ?_
        · go_simp
        try simp only [Act.put, List.setIfInBounds_toArray, List.set_cons_zero, List.set_cons_succ]
        refine q_val (o := ⟨some 67, _, _, _, _, _⟩) (v := ?_) (by kernel_rfl) (fun W hW => ?_) ?_
        rotate_left
        · go_simp; rfl
        try simp only [Act.put, List.setIfInBounds_toArray, List.set_cons_zero, List.set_cons_succ]
        refine q_val (o := ⟨some 68, _, _, _, _, _⟩) (v := ?_) (by kernel_rfl) (fun W hW => ?_) ?_
        rotate_left
        · go_simp; rfl
        try simp only [Act.put, List.setIfInBounds_toArray, List.set_cons_zero, List.set_cons_succ]
        refine q_val (o := ⟨some 12, _, _, _, _, _⟩) (v := ?_) (by kernel_rfl) (fun W hW => ?_) ?_
        rotate_left
        · go_simp; rfl
        try simp only [Act.put, List.setIfInBounds_toArray, List.set_cons_zero, List.set_cons_succ]
        refine q_end (fun W hW => ?_)
        have hokf : ok = !tr.isEmpty := by rw [hokv, hb1, hb2, hb3]; rfl
        subst hokf
        have hB3 : Blk W w.heap.size 36 #[.int .i64 0, .string ⟨#[]⟩] := hb.up hW
        have hb3 := HBL.out.trans (hW.mono HBL.out.size)
        have HB3 := Lib.hid hB3; have HBL3 := Lib.hid hb3
        have f0 := hB3.frozen 0
        have f1 := hB3.frozen 1
        have cc0 := hB3.cell 0
        have cc1 := hB3.cell 1
        clear hokv hfin hb HT HB HBL hth hwh htm htw hW hB3 hb3
        go_wp2_with fail
        have hB4 := (HB3.out.set 0 (.int .i64 n)).set 1 (.string (bs s))
        refine bodyPost_ret (slot_results _ _ _ _ _ rfl rfl rfl hB4) rfl ?_
        exact ⟨rfl, (HBL3.out.setCell (p := ⟨w.heap.size, 0, none⟩) (Nat.le_refl _) _).setCell (p := ⟨w.heap.size, 1, none⟩) (Nat.le_refl _) _⟩
end Go.Proofs.YtfkhgmdnajiabaaDoor
