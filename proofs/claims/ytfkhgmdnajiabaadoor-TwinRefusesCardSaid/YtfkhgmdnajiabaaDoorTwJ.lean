/-
  Walks: TwinRefuses.
-/
import Derived.Test.YtfkhgmdnajiabaaDoorTwI
namespace Go.Proofs.YtfkhgmdnajiabaaDoor
set_option linter.unusedSimpArgs false
set_option linter.unusedVariables false
open Go.RowKit Go.Maps

/-- May there be such an area on 40 sectors? -/
def mayB (a : ArM) : Bool := decide (0 ≤ a.sat) && (decide (0 ≤ a.fr) && (decide (1 ≤ a.sl) && (decide (a.sl ≤ 13) && (decide (1 ≤ a.pg) && (decide (a.pg ≤ 20) && (decide (a.sat ≤ 40 - 3 * a.sl) && (decide (a.fr ≤ 40 - 2 * a.pg) && (decide (a.fr + 2 * a.pg ≤ a.sat) || decide (a.sat + 3 * a.sl ≤ a.fr)))))))))
theorem mayB_fits (a : ArM) : a.fits 40 ↔ mayB a = true := by
  unfold ArM.fits mayB
  simp only [Bool.and_eq_true, Bool.or_eq_true, decide_eq_true_eq]
  constructor <;> intro h <;> omega

/-- A Write where no power fails. -/
theorem write_small {a : ArM} {d : DevM} {l : List Img} (hfit : a.fits d.size) (ho : d.off = false) (hf : d.fuse = 0) :
    (twriteM a d l).1 = (if l.all (goodB a) = true then 0 else 1) ∧ (twriteM a d l).2.off = false ∧ (twriteM a d l).2.fuse = 0 ∧ (twriteM a d l).2.size = d.size ∧ (twriteM a d l).2.cmds ≤ d.cmds + 7 * l.length := by
  by_cases h : l.all (goodB a) = true
  · obtain ⟨h1, h2⟩ := write_calm_all hfit (List.all_eq_true.1 h) ho hf
    rw [if_pos h]
    refine ⟨h1, h2.off, h2.fuse hf, h2.size, ?_⟩
    have := (roundsM_all a hfit.2.2.1.1 l.length d l).2
    unfold twriteM
    rw [if_pos h]
    exact this
  · have e : twriteM a d l = (1, d) := by unfold twriteM; rw [if_neg h]
    rw [e, if_neg h]
    exact ⟨rfl, ho, hf, rfl, by simp⟩
theorem Dv.map2 {n0 g m : Nat} {w : World} {d : DevM} (h : Dv n0 w g m d) : ∃ es c, w.heap[m]? = some (.map es c) := by
  obtain ⟨⟨v, kv, hD⟩, _⟩ := h
  exact hD.map_
theorem Dv.blk2 {n0 g m : Nat} {w : World} {d : DevM} (h : Dv n0 w g m d) : ∃ cs, Blk w g 66 cs := by
  obtain ⟨⟨v, kv, hD⟩, _⟩ := h
  exact ⟨_, hD.blk⟩
theorem repair_nil (w : World) :
    Calls Tryd.prog 13 #[.pointer none] w fun e w' => e = .returned (.tuple #[.int .i64 0, .int .i64 1]) ∧ w = w' := by
  go_enter Tryd.func13, Tryd.ntmps13
  go_wp2_with fail
  go_ret2
  exact ⟨rfl, rfl⟩
theorem imgs_two {w : World} {g m : Nat} (p q : Int) (s t : List UInt8) (hg : g < w.heap.size) (hm : m < w.heap.size) :
    ImgsAt (w.alloc (.cells #[.int .i64 p, .string (bs s), .int .i64 q, .string (bs t)] 36)) g m (some ⟨w.heap.size, 0, none⟩) [(p, s), (q, t)] := by
  intro k hk
  have hb := Blk.made w #[.int .i64 p, .string (bs s), .int .i64 q, .string (bs t)] 36
  refine ⟨w.heap.size, 0, rfl, ⟨by omega, by omega, _, _, _, hb, by decide⟩, ?_, ?_⟩
  · rcases (show k = 0 ∨ k = 1 by simp at hk; omega) with rfl | rfl <;> simp
  · rcases (show k = 0 ∨ k = 1 by simp at hk; omega) with rfl | rfl <;> simp

set_option maxHeartbeats 6400000 in
set_option maxRecDepth 100000 in
theorem refuses_any (n : ArM) (xp : Int) (t raw : List UInt8) (ht : t.length ≤ 140737488355328) (hr : raw.length ≤ 140737488355328) (w : World) (hT : Turns w) :
    Calls Tryd.prog 3 #[.agg #[.int .i64 n.sat, .int .i64 n.sl, .int .i64 n.fr, .int .i64 n.pg], .agg #[.int .i64 xp, .string (bs t)], .string (bs raw)] w
      fun e w' => e = .returned (.bool true) ∧ Below w.heap.size w w' := by
  obtain ⟨s, hs⟩ : ∃ s, s = imgB 1 t := ⟨_, rfl⟩
  have himg := fun W hW => image_any xp 1 t (by decide) (by decide) ht W hW
  rw [← hs] at himg
  have hsl : s.length = 512 := by rw [hs]; exact imgB_length (by decide) (by decide)
  have hsw : wholeB s = true := by rw [hs]; exact imgB_whole (by decide) (by decide)
  have hsn : noughtsB s = false := by rw [hs]; exact imgB_noughts (by decide) (by decide)
  have hlt := hT.lt
  have hlt2 : 0 < w.heap.size := hlt
  obtain ⟨w1, hw1⟩ : ∃ x, x = w.alloc (.cells #[.int .i64 n.sat, .int .i64 n.sl, .int .i64 n.fr, .int .i64 n.pg] 22) := ⟨_, rfl⟩
  obtain ⟨w2, hw2⟩ : ∃ x, x = w1.alloc (.cells #[.int .i64 xp, .string (bs t)] 24) := ⟨_, rfl⟩
  have hz1 : w1.heap.size = w.heap.size + 1 := by rw [hw1]; simp
  have hb1 : Below w.heap.size w w1 := by rw [hw1]; exact (Below.refl _ _).alloc (Nat.le_refl _) _
  have hb2 : Below w.heap.size w w2 := by rw [hw2]; exact hb1.alloc hb1.size _
  have hB1 : Blk w1 w.heap.size 22 #[.int .i64 n.sat, .int .i64 n.sl, .int .i64 n.fr, .int .i64 n.pg] := by rw [hw1]; exact Blk.made _ _ _
  have hB2 : Blk w2 w1.heap.size 24 #[.int .i64 xp, .string (bs t)] := by rw [hw2]; exact Blk.made _ _ _
  have hB1' : Blk w2 w.heap.size 22 #[.int .i64 n.sat, .int .i64 n.sl, .int .i64 n.fr, .int .i64 n.pg] := by rw [hw2]; exact hB1.alloc _
  have hsp := speaks_any w2 (hT.below hb2)
  rw [hz1] at hB2
  rw [hw1] at hw2
  have HI := Lib.hid himg; have HSL := Lib.hid hsl; have HSW := Lib.hid hsw; have HSN := Lib.hid hsn; have HLT := Lib.hid hlt; have HB := Lib.hid hb2; have HP := Lib.hid hB1'; have HX := Lib.hid hB2; have HW := Lib.hid hw2; have HT := Lib.hid (hT.below hb2)
  clear hs himg hsl hsw hsn hlt hlt2 hw1 hz1 hb1 hb2 hB1 hB2 hB1' hw2 hT
  go_enter Tryd.func3, Tryd.ntmps3
  go_wp2_with fail
  rw [← HW.out]
  refine hsp.mono ?_
  clear hsp
  rintro e w3 ⟨rfl, hb3⟩
  have HP3 : Hid (Blk w3 w.heap.size 22 _) := Lib.hid (HP.out.up hb3); have HX3 : Hid (Blk w3 (w.heap.size + 1) 24 _) := Lib.hid (HX.out.up hb3)
  have HB3 := Lib.hid (HB.out.trans (hb3.mono HB.out.size)); have HT3 := Lib.hid (HT.out.below hb3)
  clear hb3 HP HX HB HT HW
  go_wp2_with fail
  refine (devnew_dv w.heap.size 40 (by decide) (by decide) w3 HB3.out.size).mono ?_
  rintro e w4 ⟨m, rfl, hD, hb4⟩
  have hP4 := HP3.out.up hb4
  have HP4 : Hid (Blk w4 w.heap.size 22 _) := Lib.hid hP4; have HX4 : Hid (Blk w4 (w.heap.size + 1) 24 _) := Lib.hid (HX3.out.up hb4)
  have HB4 := Lib.hid (HB3.out.trans (hb4.mono HB3.out.size)); have HT4 := Lib.hid (HT3.out.below hb4); have HD4 := Lib.hid hD
  clear hb4 hD HP3 HX3 HB3 HT3
  have c0 := hP4.cell 0
  have c1 := hP4.cell 1
  have c2 := hP4.cell 2
  have c3 := hP4.cell 3
  replace c0 : w4.cell? ⟨w.heap.size, 0, none⟩ = some (.int .i64 n.sat) := c0
  replace c1 : w4.cell? ⟨w.heap.size, 1, none⟩ = some (.int .i64 n.sl) := c1
  replace c2 : w4.cell? ⟨w.heap.size, 2, none⟩ = some (.int .i64 n.fr) := c2
  replace c3 : w4.cell? ⟨w.heap.size, 3, none⟩ = some (.int .i64 n.pg) := c3
  clear hP4
  generalize w3.heap.size + 1 = g at *
  have hnew : Calls Tryd.prog 9 #[.pointer (some ⟨g, 0, none⟩), .int .i64 n.sat, .int .i64 n.sl, .int .i64 n.fr, .int .i64 n.pg] w4 fun e w' =>
      ∃ p, e = .returned (.tuple #[.pointer p, .int .i64 (if mayB n = true then 0 else 1)]) ∧ p.isSome = mayB n ∧ Below w4.heap.size w4 w' := by
    by_cases hf : n.fits 40
    · have hm := (mayB_fits n).1 hf
      refine (twnew_ok w.heap.size g m n (newM 40) w4 HD4.out HT4.out HLT.out hf).mono ?_
      rintro e w' ⟨rfl, _, hb⟩
      exact ⟨_, by rw [if_pos hm], by rw [hm]; rfl, hb⟩
    · have hm : ¬ mayB n = true := fun h => hf ((mayB_fits n).2 h)
      refine (twnew_no w.heap.size g m n (newM 40) w4 HD4.out hf).mono ?_
      rintro e w' ⟨rfl, rfl⟩
      exact ⟨none, by rw [if_neg hm], by simpa using hm, Below.refl _ _⟩
  go_wp2_with fail
  refine hnew.mono ?_
  clear hnew c0 c1 c2 c3
  rintro e w5 ⟨pa, rfl, hpa, hb5⟩
  have hP5 := HP4.out.up hb5
  have HX5 : Hid (Blk w5 (w.heap.size + 1) 24 _) := Lib.hid (HX4.out.up hb5)
  have HB5 := Lib.hid (HB4.out.trans (hb5.mono HB4.out.size)); have HT5 := Lib.hid (HT4.out.below hb5); have HD5 := Lib.hid (HD4.out.up hb5); have HPA := Lib.hid hpa
  clear hb5 HP4 HX4 HB4 HT4 HD4 hpa
  have c0 := hP5.cell 0
  have c1 := hP5.cell 1
  have c2 := hP5.cell 2
  have c3 := hP5.cell 3
  replace c0 : w5.cell? ⟨w.heap.size, 0, none⟩ = some (.int .i64 n.sat) := c0
  replace c1 : w5.cell? ⟨w.heap.size, 1, none⟩ = some (.int .i64 n.sl) := c1
  replace c2 : w5.cell? ⟨w.heap.size, 2, none⟩ = some (.int .i64 n.fr) := c2
  replace c3 : w5.cell? ⟨w.heap.size, 3, none⟩ = some (.int .i64 n.pg) := c3
  clear hP5
  obtain ⟨er, her⟩ : ∃ x : Int, x = if mayB n = true then 0 else 1 := ⟨_, rfl⟩
  rw [← her]
  have HER := Lib.hid her
  clear her
  obtain ⟨mb, hmb⟩ : ∃ x, x = mayB n := ⟨_, rfl⟩
  have HMB := Lib.hid hmb
  rw [← hmb] at HER HPA
  clear hmb
  go_upto_region 5 with fail
  go_cut [11] (fun r wx => r = .bool mb ∧ wx = w5)
  case first =>
    clear HX5 HB5 HT5 HD5 HPA HI HER
    obtain ⟨sat, sl, fr, pg⟩ := n
    dsimp only at *
    simp only [List.append_eq, List.cons_append, List.nil_append]
    by_cases h0 : 0 ≤ sat
    rotate_left
    · have n0 : decide (0 ≤ sat) = false := decide_eq_false h0
      have hv : mb = false := by rw [HMB.out]; unfold mayB; simp; omega
      subst hv
      clear HMB
      go_wp2_with fail
      go_meet
      case rel => exact ⟨rfl, rfl⟩
    have t0 : decide (0 ≤ sat) = true := decide_eq_true h0
    by_cases h1 : 0 ≤ fr
    rotate_left
    · have n1 : decide (0 ≤ fr) = false := decide_eq_false h1
      have hv : mb = false := by rw [HMB.out]; unfold mayB; simp; omega
      subst hv
      clear HMB
      go_wp2_with fail
      go_meet
      case rel => exact ⟨rfl, rfl⟩
    have t1 : decide (0 ≤ fr) = true := decide_eq_true h1
    by_cases h2 : 1 ≤ sl
    rotate_left
    · have n2 : decide (1 ≤ sl) = false := decide_eq_false h2
      have hv : mb = false := by rw [HMB.out]; unfold mayB; simp; omega
      subst hv
      clear HMB
      go_wp2_with fail
      go_meet
      case rel => exact ⟨rfl, rfl⟩
    have t2 : decide (1 ≤ sl) = true := decide_eq_true h2
    by_cases h3 : sl ≤ 13
    rotate_left
    · have n3 : decide (sl ≤ 13) = false := decide_eq_false h3
      have hv : mb = false := by rw [HMB.out]; unfold mayB; simp; omega
      subst hv
      clear HMB
      go_wp2_with fail
      go_meet
      case rel => exact ⟨rfl, rfl⟩
    have t3 : decide (sl ≤ 13) = true := decide_eq_true h3
    have q1 : IntKind.i64.wrap (3 * sl) = 3 * sl := by rw [IntKind.wrap_i64]; omega
    have q2 : IntKind.i64.wrap (40 - 3 * sl) = 40 - 3 * sl := by rw [IntKind.wrap_i64]; omega
    by_cases h4 : 1 ≤ pg
    rotate_left
    · have n4 : decide (1 ≤ pg) = false := decide_eq_false h4
      have hv : mb = false := by rw [HMB.out]; unfold mayB; simp; omega
      subst hv
      clear HMB
      go_wp2_with fail
      go_meet
      case rel => exact ⟨rfl, rfl⟩
    have t4 : decide (1 ≤ pg) = true := decide_eq_true h4
    by_cases h5 : pg ≤ 20
    rotate_left
    · have n5 : decide (pg ≤ 20) = false := decide_eq_false h5
      have hv : mb = false := by rw [HMB.out]; unfold mayB; simp; omega
      subst hv
      clear HMB
      go_wp2_with fail
      go_meet
      case rel => exact ⟨rfl, rfl⟩
    have t5 : decide (pg ≤ 20) = true := decide_eq_true h5
    have q3 : IntKind.i64.wrap (2 * pg) = 2 * pg := by rw [IntKind.wrap_i64]; omega
    have q4 : IntKind.i64.wrap (40 - 2 * pg) = 40 - 2 * pg := by rw [IntKind.wrap_i64]; omega
    by_cases h6 : sat ≤ 40 - 3 * sl
    rotate_left
    · have n6 : decide (sat ≤ 40 - 3 * sl) = false := decide_eq_false h6
      have hv : mb = false := by rw [HMB.out]; unfold mayB; simp; omega
      subst hv
      clear HMB
      go_wp2_with fail
      go_meet
      case rel => exact ⟨rfl, rfl⟩
    have t6 : decide (sat ≤ 40 - 3 * sl) = true := decide_eq_true h6
    by_cases h7 : fr ≤ 40 - 2 * pg
    rotate_left
    · have n7 : decide (fr ≤ 40 - 2 * pg) = false := decide_eq_false h7
      have hv : mb = false := by rw [HMB.out]; unfold mayB; simp; omega
      subst hv
      clear HMB
      go_wp2_with fail
      go_meet
      case rel => exact ⟨rfl, rfl⟩
    have t7 : decide (fr ≤ 40 - 2 * pg) = true := decide_eq_true h7
    have q5 : IntKind.i64.wrap (fr + 2 * pg) = fr + 2 * pg := by rw [IntKind.wrap_i64]; omega
    have q6 : IntKind.i64.wrap (sat + 3 * sl) = sat + 3 * sl := by rw [IntKind.wrap_i64]; omega
    by_cases h8 : fr + 2 * pg ≤ sat
    · have t8 : decide (fr + 2 * pg ≤ sat) = true := decide_eq_true h8
      have hv : mb = true := by rw [HMB.out]; unfold mayB; simp; omega
      subst hv
      clear HMB
      go_wp2_with fail
      go_meet
      case rel => exact ⟨rfl, rfl⟩
    have n8 : decide (fr + 2 * pg ≤ sat) = false := decide_eq_false h8
    by_cases h9 : sat + 3 * sl ≤ fr
    · have t9 : decide (sat + 3 * sl ≤ fr) = true := decide_eq_true h9
      have hv : mb = true := by rw [HMB.out]; unfold mayB; simp; omega
      subst hv
      clear HMB
      go_wp2_with fail
      go_meet
      case rel => exact ⟨rfl, rfl⟩
    · have n9 : decide (sat + 3 * sl ≤ fr) = false := decide_eq_false h9
      have hv : mb = false := by rw [HMB.out]; unfold mayB; simp; omega
      subst hv
      clear HMB
      go_wp2_with fail
      go_meet
      case rel => exact ⟨rfl, rfl⟩
  case rest =>
    obtain ⟨rfl, rfl⟩ := hcut
    clear HMB c0 c1 c2 c3
    obtain ⟨b, hbb⟩ : ∃ b : ArM, b = ⟨0, 2, 10, 8⟩ := ⟨_, rfl⟩
    have hfit : b.fits (newM 40).size := by rw [hbb]; simp [ArM.fits, newM]
    have hbg : ∀ y : Int, thereB b y = (decide (0 ≤ y) && decide (y < 8)) := fun y => by rw [hbb]; rfl
    have hnew2 := fun W h1 h2 => twnew_ok w.heap.size g m b (newM 40) W h1 h2 HLT.out hfit
    rw [show (Value.int .i64 b.sat) = .int .i64 0 by rw [hbb], show (Value.int .i64 b.sl) = .int .i64 2 by rw [hbb], show (Value.int .i64 b.fr) = .int .i64 10 by rw [hbb], show (Value.int .i64 b.pg) = .int .i64 8 by rw [hbb]] at hnew2
    -- the first Write
    have hg1 : [(xp, s)].all (goodB b) = thereB b xp := by
      show (goodB b (xp, s) && true) = _
      unfold goodB
      rw [show wholeB (xp, s).2 = true from HSW.out, show decide ((xp, s).2.length = 512) = true from decide_eq_true HSL.out]
      simp
    obtain ⟨f1, f2, f3, f4, f5⟩ := write_small (a := b) (d := newM 40) (l := [(xp, s)]) hfit rfl rfl
    rw [hg1] at f1
    have hw1 := fun (ga : Nat) (W : World) h1 h2 => twrite_any w.heap.size ga g m b (newM 40) (some ⟨W.heap.size, 0, none⟩) 1 [(xp, s)] (W.alloc (.cells #[.int .i64 xp, .string (bs s)] 36)) h1 h2 (by simp) (by simp) (fun x hx => by simp at hx; subst hx; show s.length ≤ _; have := HSL.out; omega) (by decide)
    generalize twriteM b (newM 40) [(xp, s)] = r1 at *
    obtain ⟨v1, d1⟩ := r1
    dsimp only at f1 f2 f3 f4 f5 hw1
    -- the second
    obtain ⟨raw', hraw'⟩ : ∃ x, x = raw.take 600 := ⟨_, rfl⟩
    have hrl : raw'.length ≤ 600 := by rw [hraw']; simp; omega
    have hrt : raw.take (min (raw.length : Int) 600).toNat = raw' := by
      rw [hraw']
      by_cases h : raw.length ≤ 600
      · rw [show (min (raw.length : Int) 600).toNat = raw.length by omega, List.take_length, List.take_of_length_le h]
      · rw [show (min (raw.length : Int) 600).toNat = 600 by omega]
    have hg2 : [((1 : Int), s), (2, raw')].all (goodB b) = refW raw' := by
      show (goodB b (1, s) && (goodB b (2, raw') && true)) = _
      unfold goodB
      rw [show wholeB ((1 : Int), s).2 = true from HSW.out, show decide (((1 : Int), s).2.length = 512) = true from decide_eq_true HSL.out, hbg, hbg]
      simp [refW]
    obtain ⟨k1, k2, k3, k4, k5⟩ := write_small (a := b) (d := d1) (l := [((1 : Int), s), (2, raw')]) (by rw [f4]; exact hfit) f2 f3
    rw [hg2] at k1
    have hw2 := fun (ga : Nat) (W : World) h1 h2 => twrite_any w.heap.size ga g m b d1 (some ⟨W.heap.size, 0, none⟩) 2 [((1 : Int), s), (2, raw')] (W.alloc (.cells #[.int .i64 1, .string (bs s), .int .i64 2, .string (bs raw')] 36)) h1 h2 (by simp) (by simp)
      (fun x hx => by simp at hx; have := HSL.out; rcases hx with rfl | rfl <;> (dsimp only; omega)) (by have : (newM 40).cmds = 0 := rfl; simp at f5; omega)
    generalize twriteM b d1 [((1 : Int), s), (2, raw')] = r2 at *
    obtain ⟨v2, d2⟩ := r2
    dsimp only at k1 k2 k3 k4 k5 hw2
    have hc2 : d2.cmds < 1000000 := by have : (newM 40).cmds = 0 := rfl; simp at f5 k5; omega
    -- what is read
    have hrd := fun (ga : Nat) (W : World) h1 => tread_any w.heap.size ga g m b d2 xp W h1 (by omega)
    have hv3 : (treadM b d2 xp).2 = if thereB b xp = true then 0 else 1 := by
      unfold treadM twoM
      rw [if_neg (show ¬ d2.off = true by simp [k2])]
      by_cases h : thereB b xp = true
      · rw [if_pos h, if_pos h]
      · rw [if_neg h, if_neg h]
    generalize treadM b d2 xp = r3 at *
    obtain ⟨s3, v3⟩ := r3
    dsimp only at hrd hv3
    have hrw := fun W => refwhole9_any raw' (by omega) W
    have hno := fun W => refnothing_any s (by have := HSL.out; omega) W
    rw [HSN.out] at hno
    obtain ⟨tb, htb⟩ : ∃ x, x = thereB b xp := ⟨_, rfl⟩
    obtain ⟨rb, hrb⟩ : ∃ x, x = refW raw' := ⟨_, rfl⟩
    rw [← htb] at f1 hv3
    rw [← hrb] at k1 hrw
    rw [hbg] at htb
    have F1 := Lib.hid f1; have K1 := Lib.hid k1; have V3 := Lib.hid hv3; have TB := Lib.hid htb
    have HN2 := Lib.hid hnew2; have HW1 := Lib.hid hw1; have HW2 := Lib.hid hw2; have HRD := Lib.hid hrd; have HRW := Lib.hid hrw; have HNO := Lib.hid hno; have HRT := Lib.hid hrt
    clear hbb hfit hbg hnew2 hg1 f1 f2 f3 f4 f5 hw1 hraw' hrl hrt hg2 k1 k2 k3 k4 k5 hw2 hc2 hrd hv3 hrw hno htb hrb
    cases mb with
    | true =>
      have hpv : pa.isSome = true := HPA.out
      have hev : er = 0 := HER.out
      clear HPA HER
      subst hev
      obtain ⟨pa, rfl⟩ := Option.isSome_iff_exists.1 hpv
      clear hpv
      go_wp2_with fail
      rw [HRT.out]
      refine (HN2.out wc HD5.out HT5.out).mono ?_
      rintro e w6 ⟨rfl, hT6, hb6⟩
      have HT6 := Lib.hid hT6; have HX6 : Hid (Blk w6 (w.heap.size + 1) 24 _) := Lib.hid (HX5.out.up hb6); have HB6 := Lib.hid (HB5.out.trans (hb6.mono HB5.out.size))
      clear hT6 hb6 HX5 HB5 HT5 HD5
      generalize wc.heap.size = ga at *
      have x0 := HX6.out.cell 0
      have x1 := HX6.out.cell 1
      replace x0 : w6.cell? ⟨w.heap.size + 1, 0, none⟩ = some (.int .i64 xp) := x0
      replace x1 : w6.cell? ⟨w.heap.size + 1, 1, none⟩ = some (.string (bs t)) := x1
      have hi := HI.out
      have hT6 := HT6.out
      go_wp2_with fail
      refine wp_region_any (by kernel_rfl) ?_
      show wpAny _ _ _ _ 9 #[false,false,false,false,false,false,false,false,false] _ (World.drew _)
      refine wpAny_take (i := 0) (oi := ⟨some 139, _, _, _, _, _⟩) (v := ?_) rfl (by kernel_rfl) (by kernel_rfl) (by kernel_rfl) (fun _ _ _ h => h) (Or.inl ⟨by kernel_rfl, ?_⟩) ?_
      rotate_left
      · intro w'; go_simp; rfl
      try simp only [Act.put, List.setIfInBounds_toArray, List.set_cons_zero, List.set_cons_succ]
      refine wpAny_upto 6 [1, 2, 3, 4, 5] (fun W => Below w6.heap.size w6 W) (g := 3) (by kernel_rfl) (by kernel_rfl) (by kernel_rfl) (by kernel_rfl) (Below.refl _ _).drew ?_
      refine q_val (o := ⟨some 140, _, _, _, _, _⟩) (v := ?_) (by kernel_rfl) (fun W hW => ?_) ?_
      rotate_left
      · go_simp; rfl
      try simp only [Act.put, List.setIfInBounds_toArray, List.set_cons_zero, List.set_cons_succ]
      refine q_val (o := ⟨some 141, _, _, _, _, _⟩) (v := ?_) (by kernel_rfl) (fun W hW => ?_) ?_
      rotate_left
      · have x0 := up_cell hW x0; have x1 := up_cell hW x1; go_simp; rfl
      try simp only [Act.put, List.setIfInBounds_toArray, List.set_cons_zero, List.set_cons_succ]
      refine q_val (o := ⟨some 142, _, _, _, _, _⟩) (v := ?_) (by kernel_rfl) (fun W hW => ?_) ?_
      rotate_left
      · have x0 := up_cell hW x0; have x1 := up_cell hW x1; go_simp; rfl
      try simp only [Act.put, List.setIfInBounds_toArray, List.set_cons_zero, List.set_cons_succ]
      refine q_call (o := ⟨some 143, _, _, _, _, _⟩) (by kernel_rfl) (fun W hW => ?_) (fun W hW => q_of hW (hi W (hT6.up hW).turns)) ?_
      · go_simp
      try simp only [Act.put, List.setIfInBounds_toArray, List.set_cons_zero, List.set_cons_succ]
      refine q_val (o := ⟨some 144, _, _, _, _, _⟩) (v := ?_) (by kernel_rfl) (fun W hW => ?_) ?_
      rotate_left
      · go_simp; rfl
      try simp only [Act.put, List.setIfInBounds_toArray, List.set_cons_zero, List.set_cons_succ]
      refine q_end (fun W hW => ?_)
      show wpAny _ _ _ _ 3 #[true,true,true,true,true,true,false,false,false] _ _
      refine wpAny_ready (rs := [6]) (by kernel_rfl) (by simp) ?_
      refine AllReady.cons (o := ⟨some 145, _, _, _, _, _⟩) rfl (fun K hK => ?_) AllReady.nil
      go_simp
      refine hK _ _ ?_
      clear hK K
      refine wpAny_ready (rs := [7]) (by kernel_rfl) (by simp) ?_
      refine AllReady.cons (o := ⟨some 146, _, _, _, _, _⟩) rfl (fun K hK => ?_) AllReady.nil
      go_simp
      have hb7 : Below W.heap.size W (W.alloc (.cells #[.int .i64 xp, .string (bs s)] 36)) := (Below.refl _ _).alloc (Nat.le_refl _) _
      have hTW := hT6.up hW
      have hw7 := HW1.out ga W (hTW.up hb7) (imgs_one xp s hTW.glt hTW.mlt)
      have hX7 : Blk _ (w.heap.size + 1) 24 _ := (HX6.out.up hW).up hb7
      have hB7 := (HB6.out.trans (hW.mono HB6.out.size)).trans (hb7.mono (HB6.out.trans (hW.mono HB6.out.size)).size)
      have hx2 : w.heap.size + 1 ≠ g ∧ w.heap.size + 1 ≠ m := by
        obtain ⟨es, c, hm⟩ := hTW.dv.map2
        obtain ⟨cs, hg⟩ := hTW.dv.blk2
        have hX := HX6.out.up hW
        unfold Blk at hX hg
        constructor
        · intro e; rw [e, hg] at hX; injection hX with hX; injection hX with _ hX; exact absurd hX (by decide)
        · intro e; rw [e, hm] at hX; injection hX with hX; cases hX
      clear HT6 HX6 HB6 x0 x1 hb7 hTW hW hT6
      refine hw7.mono ?_
      clear hw7
      rintro e w8 ⟨rfl, hT8, hk8⟩
      refine hK _ _ ?_
      clear hK K
      refine wpAny_take (i := 8) (oi := ⟨some 14, _, _, _, _, _⟩) (v := ?_) rfl (by kernel_rfl) (by kernel_rfl) (by kernel_rfl) (fun _ _ _ h => h) (Or.inl ⟨by kernel_rfl, ?_⟩) ?_
      rotate_left
      · intro w'; go_simp; rfl
      try simp only [Act.put, List.setIfInBounds_toArray, List.set_cons_zero, List.set_cons_succ]
      refine wpAny_done (by kernel_rfl) ?_ _
      have HT8 := Lib.hid hT8; have HX8 : Hid (Blk w8 (w.heap.size + 1) 24 _) := Lib.hid (hk8.blk hX7 hx2.1 hx2.2 (by decide)); have HB8 := Lib.hid (hB7.trans hk8.below)
      clear hT8 hk8 hX7 hB7 hx2
      have x0 := HX8.out.cell 0
      have x1 := HX8.out.cell 1
      replace x0 : w8.cell? ⟨w.heap.size + 1, 0, none⟩ = some (.int .i64 xp) := x0
      replace x1 : w8.cell? ⟨w.heap.size + 1, 1, none⟩ = some (.string (bs t)) := x1
      go_wp2_with fail
      refine (hi w8 HT8.out.turns).mono ?_
      rintro e w9 ⟨rfl, hb9⟩
      have HT9 := Lib.hid (HT8.out.up hb9); have HX9 : Hid (Blk w9 (w.heap.size + 1) 24 _) := Lib.hid (HX8.out.up hb9); have HB9 := Lib.hid (HB8.out.trans (hb9.mono HB8.out.size))
      clear hb9 HT8 HX8 HB8 x0 x1
      have hb10 : Below w9.heap.size w9 (w9.alloc (.cells #[.int .i64 1, .string (bs s), .int .i64 2, .string (bs raw')] 36)) := (Below.refl _ _).alloc (Nat.le_refl _) _
      have hw9 := HW2.out ga w9 (HT9.out.up hb10) (imgs_two 1 2 s raw' HT9.out.glt HT9.out.mlt)
      have HX10 : Hid (Blk _ (w.heap.size + 1) 24 _) := Lib.hid (HX9.out.up hb10)
      have HB10 := Lib.hid (HB9.out.trans (hb10.mono HB9.out.size))
      have hx2 : w.heap.size + 1 ≠ g ∧ w.heap.size + 1 ≠ m := by
        obtain ⟨es, c, hm⟩ := HT9.out.dv.map2
        obtain ⟨cs, hg⟩ := HT9.out.dv.blk2
        have hX := HX9.out
        unfold Blk at hX hg
        constructor
        · intro e; rw [e, hg] at hX; injection hX with hX; injection hX with _ hX; exact absurd hX (by decide)
        · intro e; rw [e, hm] at hX; injection hX with hX; cases hX
      clear hb10 HT9 HX9 HB9
      go_wp2_with fail
      refine hw9.mono ?_
      clear hw9
      rintro e w11 ⟨rfl, hT11, hk11⟩
      have HT11 := Lib.hid hT11; have HX11 : Hid (Blk w11 (w.heap.size + 1) 24 _) := Lib.hid (hk11.blk HX10.out hx2.1 hx2.2 (by decide)); have HB11 := Lib.hid (HB10.out.trans hk11.below)
      clear hT11 hk11 HX10 HB10 hx2
      have x0 := HX11.out.cell 0
      have x1 := HX11.out.cell 1
      replace x0 : w11.cell? ⟨w.heap.size + 1, 0, none⟩ = some (.int .i64 xp) := x0
      replace x1 : w11.cell? ⟨w.heap.size + 1, 1, none⟩ = some (.string (bs t)) := x1
      have hn1 := fun W => tread_nil 0 W
      have hn2 := repair_nil
      have hn3 := fun W => twrite_nil (.slice none 0 0) W
      have hn4 := pages_nil
      have HN1 := Lib.hid hn1; have HN22 := Lib.hid hn2; have HN3 := Lib.hid hn3; have HN4 := Lib.hid hn4
      clear hn1 hn2 hn3 hn4
      go_wp2_with fail
      refine (HN1.out _).mono ?_
      rintro e w12 ⟨rfl, rfl⟩
      go_wp2_with fail
      refine (HN22.out _).mono ?_
      rintro e w12 ⟨rfl, rfl⟩
      go_wp2_with fail
      refine (HRD.out ga _ HT11.out).mono ?_
      rintro e w12 ⟨rfl, hb12⟩
      have HT12 := Lib.hid (HT11.out.up hb12); have HX12 : Hid (Blk w12 (w.heap.size + 1) 24 _) := Lib.hid (HX11.out.up hb12); have HB12 := Lib.hid (HB11.out.trans (hb12.mono HB11.out.size))
      clear hb12 HT11 HX11 HB11 x0 x1
      have x0 := HX12.out.cell 0
      have x1 := HX12.out.cell 1
      replace x0 : w12.cell? ⟨w.heap.size + 1, 0, none⟩ = some (.int .i64 xp) := x0
      replace x1 : w12.cell? ⟨w.heap.size + 1, 1, none⟩ = some (.string (bs t)) := x1
      clear HW1 HW2 HN2 HRD HI HN1 HN22 HRT
      by_cases h0 : 0 ≤ xp
      · have t0 : decide (0 ≤ xp) = true := decide_eq_true h0
        by_cases h1 : xp < 8
        · have t1 : decide (xp < 8) = true := decide_eq_true h1
          have htb : tb = true := by rw [TB.out, t0, t1]; rfl
          clear TB
          subst tb
          obtain rfl : v1 = 0 := F1.out
          obtain rfl : v3 = 0 := V3.out
          clear F1 V3
          cases rb with
          | true =>
            obtain rfl : v2 = 0 := K1.out
            clear K1
            go_wp2_with fail
            refine (HRW.out _).mono ?_
            rintro e w13 ⟨rfl, hb13⟩
            go_wp2_with fail
            refine (HN3.out _).mono ?_
            rintro e w14 ⟨rfl, rfl⟩
            go_wp2_with fail
            refine (HN4.out _).mono ?_
            rintro e w14 ⟨rfl, rfl⟩
            have x0 := up_cell hb13 x0
            have x1 := up_cell hb13 x1
            have HT13 := Lib.hid (HT12.out.up hb13); have HB13 := Lib.hid (HB12.out.trans (hb13.mono HB12.out.size))
            clear hb13 HT12 HB12 HX12
            go_wp2_with fail
            refine (hi _ HT13.out.turns).mono ?_
            rintro e w14 ⟨rfl, hb14⟩
            go_wp2_with fail
            refine (HNO.out _).mono ?_
            rintro e w15 ⟨rfl, rfl⟩
            go_wp2_with fail
            go_ret
            exact ⟨rfl, HB13.out.trans (hb14.mono HB13.out.size)⟩
          | false =>
            obtain rfl : v2 = 1 := K1.out
            clear K1
            go_wp2_with fail
            refine (HRW.out _).mono ?_
            rintro e w13 ⟨rfl, hb13⟩
            go_wp2_with fail
            refine (HN3.out _).mono ?_
            rintro e w14 ⟨rfl, rfl⟩
            go_wp2_with fail
            refine (HN4.out _).mono ?_
            rintro e w14 ⟨rfl, rfl⟩
            have x0 := up_cell hb13 x0
            have x1 := up_cell hb13 x1
            have HT13 := Lib.hid (HT12.out.up hb13); have HB13 := Lib.hid (HB12.out.trans (hb13.mono HB12.out.size))
            clear hb13 HT12 HB12 HX12
            go_wp2_with fail
            refine (hi _ HT13.out.turns).mono ?_
            rintro e w14 ⟨rfl, hb14⟩
            go_wp2_with fail
            refine (HNO.out _).mono ?_
            rintro e w15 ⟨rfl, rfl⟩
            go_wp2_with fail
            go_ret
            exact ⟨rfl, HB13.out.trans (hb14.mono HB13.out.size)⟩
        · have t1 : decide (xp < 8) = false := decide_eq_false h1
          have htb : tb = false := by rw [TB.out, t0, t1]; rfl
          clear TB
          subst tb
          obtain rfl : v1 = 1 := F1.out
          obtain rfl : v3 = 1 := V3.out
          clear F1 V3
          cases rb with
          | true =>
            obtain rfl : v2 = 0 := K1.out
            clear K1
            go_wp2_with fail
            refine (HRW.out _).mono ?_
            rintro e w13 ⟨rfl, hb13⟩
            go_wp2_with fail
            refine (HN3.out _).mono ?_
            rintro e w14 ⟨rfl, rfl⟩
            go_wp2_with fail
            refine (HN4.out _).mono ?_
            rintro e w14 ⟨rfl, rfl⟩
            have x0 := up_cell hb13 x0
            have x1 := up_cell hb13 x1
            have HT13 := Lib.hid (HT12.out.up hb13); have HB13 := Lib.hid (HB12.out.trans (hb13.mono HB12.out.size))
            clear hb13 HT12 HB12 HX12
            go_wp2_with fail
            refine (hi _ HT13.out.turns).mono ?_
            rintro e w14 ⟨rfl, hb14⟩
            go_wp2_with fail
            refine (HNO.out _).mono ?_
            rintro e w15 ⟨rfl, rfl⟩
            go_wp2_with fail
            go_ret
            exact ⟨rfl, HB13.out.trans (hb14.mono HB13.out.size)⟩
          | false =>
            obtain rfl : v2 = 1 := K1.out
            clear K1
            go_wp2_with fail
            refine (HRW.out _).mono ?_
            rintro e w13 ⟨rfl, hb13⟩
            go_wp2_with fail
            refine (HN3.out _).mono ?_
            rintro e w14 ⟨rfl, rfl⟩
            go_wp2_with fail
            refine (HN4.out _).mono ?_
            rintro e w14 ⟨rfl, rfl⟩
            have x0 := up_cell hb13 x0
            have x1 := up_cell hb13 x1
            have HT13 := Lib.hid (HT12.out.up hb13); have HB13 := Lib.hid (HB12.out.trans (hb13.mono HB12.out.size))
            clear hb13 HT12 HB12 HX12
            go_wp2_with fail
            refine (hi _ HT13.out.turns).mono ?_
            rintro e w14 ⟨rfl, hb14⟩
            go_wp2_with fail
            refine (HNO.out _).mono ?_
            rintro e w15 ⟨rfl, rfl⟩
            go_wp2_with fail
            go_ret
            exact ⟨rfl, HB13.out.trans (hb14.mono HB13.out.size)⟩
      · have t0 : decide (0 ≤ xp) = false := decide_eq_false h0
        have htb : tb = false := by rw [TB.out, t0]; rfl
        clear TB
        subst tb
        obtain rfl : v1 = 1 := F1.out
        obtain rfl : v3 = 1 := V3.out
        clear F1 V3
        cases rb with
        | true =>
          obtain rfl : v2 = 0 := K1.out
          clear K1
          go_wp2_with fail
          refine (HRW.out _).mono ?_
          rintro e w13 ⟨rfl, hb13⟩
          go_wp2_with fail
          refine (HN3.out _).mono ?_
          rintro e w14 ⟨rfl, rfl⟩
          go_wp2_with fail
          refine (HN4.out _).mono ?_
          rintro e w14 ⟨rfl, rfl⟩
          have x0 := up_cell hb13 x0
          have x1 := up_cell hb13 x1
          have HT13 := Lib.hid (HT12.out.up hb13); have HB13 := Lib.hid (HB12.out.trans (hb13.mono HB12.out.size))
          clear hb13 HT12 HB12 HX12
          go_wp2_with fail
          refine (hi _ HT13.out.turns).mono ?_
          rintro e w14 ⟨rfl, hb14⟩
          go_wp2_with fail
          refine (HNO.out _).mono ?_
          rintro e w15 ⟨rfl, rfl⟩
          go_wp2_with fail
          go_ret
          exact ⟨rfl, HB13.out.trans (hb14.mono HB13.out.size)⟩
        | false =>
          obtain rfl : v2 = 1 := K1.out
          clear K1
          go_wp2_with fail
          refine (HRW.out _).mono ?_
          rintro e w13 ⟨rfl, hb13⟩
          go_wp2_with fail
          refine (HN3.out _).mono ?_
          rintro e w14 ⟨rfl, rfl⟩
          go_wp2_with fail
          refine (HN4.out _).mono ?_
          rintro e w14 ⟨rfl, rfl⟩
          have x0 := up_cell hb13 x0
          have x1 := up_cell hb13 x1
          have HT13 := Lib.hid (HT12.out.up hb13); have HB13 := Lib.hid (HB12.out.trans (hb13.mono HB12.out.size))
          clear hb13 HT12 HB12 HX12
          go_wp2_with fail
          refine (hi _ HT13.out.turns).mono ?_
          rintro e w14 ⟨rfl, hb14⟩
          go_wp2_with fail
          refine (HNO.out _).mono ?_
          rintro e w15 ⟨rfl, rfl⟩
          go_wp2_with fail
          go_ret
          exact ⟨rfl, HB13.out.trans (hb14.mono HB13.out.size)⟩
    | false =>
      have hpv : pa.isSome = false := HPA.out
      have hev : er = 1 := HER.out
      clear HPA HER
      subst hev
      have hpn : pa = none := by simpa using hpv
      subst hpn
      clear hpv
      go_wp2_with fail
      rw [HRT.out]
      refine (HN2.out wc HD5.out HT5.out).mono ?_
      rintro e w6 ⟨rfl, hT6, hb6⟩
      have HT6 := Lib.hid hT6; have HX6 : Hid (Blk w6 (w.heap.size + 1) 24 _) := Lib.hid (HX5.out.up hb6); have HB6 := Lib.hid (HB5.out.trans (hb6.mono HB5.out.size))
      clear hT6 hb6 HX5 HB5 HT5 HD5
      generalize wc.heap.size = ga at *
      have x0 := HX6.out.cell 0
      have x1 := HX6.out.cell 1
      replace x0 : w6.cell? ⟨w.heap.size + 1, 0, none⟩ = some (.int .i64 xp) := x0
      replace x1 : w6.cell? ⟨w.heap.size + 1, 1, none⟩ = some (.string (bs t)) := x1
      have hi := HI.out
      have hT6 := HT6.out
      go_wp2_with fail
      refine wp_region_any (by kernel_rfl) ?_
      show wpAny _ _ _ _ 9 #[false,false,false,false,false,false,false,false,false] _ (World.drew _)
      refine wpAny_take (i := 0) (oi := ⟨some 139, _, _, _, _, _⟩) (v := ?_) rfl (by kernel_rfl) (by kernel_rfl) (by kernel_rfl) (fun _ _ _ h => h) (Or.inl ⟨by kernel_rfl, ?_⟩) ?_
      rotate_left
      · intro w'; go_simp; rfl
      try simp only [Act.put, List.setIfInBounds_toArray, List.set_cons_zero, List.set_cons_succ]
      refine wpAny_upto 6 [1, 2, 3, 4, 5] (fun W => Below w6.heap.size w6 W) (g := 3) (by kernel_rfl) (by kernel_rfl) (by kernel_rfl) (by kernel_rfl) (Below.refl _ _).drew ?_
      refine q_val (o := ⟨some 140, _, _, _, _, _⟩) (v := ?_) (by kernel_rfl) (fun W hW => ?_) ?_
      rotate_left
      · go_simp; rfl
      try simp only [Act.put, List.setIfInBounds_toArray, List.set_cons_zero, List.set_cons_succ]
      refine q_val (o := ⟨some 141, _, _, _, _, _⟩) (v := ?_) (by kernel_rfl) (fun W hW => ?_) ?_
      rotate_left
      · have x0 := up_cell hW x0; have x1 := up_cell hW x1; go_simp; rfl
      try simp only [Act.put, List.setIfInBounds_toArray, List.set_cons_zero, List.set_cons_succ]
      refine q_val (o := ⟨some 142, _, _, _, _, _⟩) (v := ?_) (by kernel_rfl) (fun W hW => ?_) ?_
      rotate_left
      · have x0 := up_cell hW x0; have x1 := up_cell hW x1; go_simp; rfl
      try simp only [Act.put, List.setIfInBounds_toArray, List.set_cons_zero, List.set_cons_succ]
      refine q_call (o := ⟨some 143, _, _, _, _, _⟩) (by kernel_rfl) (fun W hW => ?_) (fun W hW => q_of hW (hi W (hT6.up hW).turns)) ?_
      · go_simp
      try simp only [Act.put, List.setIfInBounds_toArray, List.set_cons_zero, List.set_cons_succ]
      refine q_val (o := ⟨some 144, _, _, _, _, _⟩) (v := ?_) (by kernel_rfl) (fun W hW => ?_) ?_
      rotate_left
      · go_simp; rfl
      try simp only [Act.put, List.setIfInBounds_toArray, List.set_cons_zero, List.set_cons_succ]
      refine q_end (fun W hW => ?_)
      show wpAny _ _ _ _ 3 #[true,true,true,true,true,true,false,false,false] _ _
      refine wpAny_ready (rs := [6]) (by kernel_rfl) (by simp) ?_
      refine AllReady.cons (o := ⟨some 145, _, _, _, _, _⟩) rfl (fun K hK => ?_) AllReady.nil
      go_simp
      refine hK _ _ ?_
      clear hK K
      refine wpAny_ready (rs := [7]) (by kernel_rfl) (by simp) ?_
      refine AllReady.cons (o := ⟨some 146, _, _, _, _, _⟩) rfl (fun K hK => ?_) AllReady.nil
      go_simp
      have hb7 : Below W.heap.size W (W.alloc (.cells #[.int .i64 xp, .string (bs s)] 36)) := (Below.refl _ _).alloc (Nat.le_refl _) _
      have hTW := hT6.up hW
      have hw7 := HW1.out ga W (hTW.up hb7) (imgs_one xp s hTW.glt hTW.mlt)
      have hX7 : Blk _ (w.heap.size + 1) 24 _ := (HX6.out.up hW).up hb7
      have hB7 := (HB6.out.trans (hW.mono HB6.out.size)).trans (hb7.mono (HB6.out.trans (hW.mono HB6.out.size)).size)
      have hx2 : w.heap.size + 1 ≠ g ∧ w.heap.size + 1 ≠ m := by
        obtain ⟨es, c, hm⟩ := hTW.dv.map2
        obtain ⟨cs, hg⟩ := hTW.dv.blk2
        have hX := HX6.out.up hW
        unfold Blk at hX hg
        constructor
        · intro e; rw [e, hg] at hX; injection hX with hX; injection hX with _ hX; exact absurd hX (by decide)
        · intro e; rw [e, hm] at hX; injection hX with hX; cases hX
      clear HT6 HX6 HB6 x0 x1 hb7 hTW hW hT6
      refine hw7.mono ?_
      clear hw7
      rintro e w8 ⟨rfl, hT8, hk8⟩
      refine hK _ _ ?_
      clear hK K
      refine wpAny_take (i := 8) (oi := ⟨some 14, _, _, _, _, _⟩) (v := ?_) rfl (by kernel_rfl) (by kernel_rfl) (by kernel_rfl) (fun _ _ _ h => h) (Or.inl ⟨by kernel_rfl, ?_⟩) ?_
      rotate_left
      · intro w'; go_simp; rfl
      try simp only [Act.put, List.setIfInBounds_toArray, List.set_cons_zero, List.set_cons_succ]
      refine wpAny_done (by kernel_rfl) ?_ _
      have HT8 := Lib.hid hT8; have HX8 : Hid (Blk w8 (w.heap.size + 1) 24 _) := Lib.hid (hk8.blk hX7 hx2.1 hx2.2 (by decide)); have HB8 := Lib.hid (hB7.trans hk8.below)
      clear hT8 hk8 hX7 hB7 hx2
      have x0 := HX8.out.cell 0
      have x1 := HX8.out.cell 1
      replace x0 : w8.cell? ⟨w.heap.size + 1, 0, none⟩ = some (.int .i64 xp) := x0
      replace x1 : w8.cell? ⟨w.heap.size + 1, 1, none⟩ = some (.string (bs t)) := x1
      go_wp2_with fail
      refine (hi w8 HT8.out.turns).mono ?_
      rintro e w9 ⟨rfl, hb9⟩
      have HT9 := Lib.hid (HT8.out.up hb9); have HX9 : Hid (Blk w9 (w.heap.size + 1) 24 _) := Lib.hid (HX8.out.up hb9); have HB9 := Lib.hid (HB8.out.trans (hb9.mono HB8.out.size))
      clear hb9 HT8 HX8 HB8 x0 x1
      have hb10 : Below w9.heap.size w9 (w9.alloc (.cells #[.int .i64 1, .string (bs s), .int .i64 2, .string (bs raw')] 36)) := (Below.refl _ _).alloc (Nat.le_refl _) _
      have hw9 := HW2.out ga w9 (HT9.out.up hb10) (imgs_two 1 2 s raw' HT9.out.glt HT9.out.mlt)
      have HX10 : Hid (Blk _ (w.heap.size + 1) 24 _) := Lib.hid (HX9.out.up hb10)
      have HB10 := Lib.hid (HB9.out.trans (hb10.mono HB9.out.size))
      have hx2 : w.heap.size + 1 ≠ g ∧ w.heap.size + 1 ≠ m := by
        obtain ⟨es, c, hm⟩ := HT9.out.dv.map2
        obtain ⟨cs, hg⟩ := HT9.out.dv.blk2
        have hX := HX9.out
        unfold Blk at hX hg
        constructor
        · intro e; rw [e, hg] at hX; injection hX with hX; injection hX with _ hX; exact absurd hX (by decide)
        · intro e; rw [e, hm] at hX; injection hX with hX; cases hX
      clear hb10 HT9 HX9 HB9
      go_wp2_with fail
      refine hw9.mono ?_
      clear hw9
      rintro e w11 ⟨rfl, hT11, hk11⟩
      have HT11 := Lib.hid hT11; have HX11 : Hid (Blk w11 (w.heap.size + 1) 24 _) := Lib.hid (hk11.blk HX10.out hx2.1 hx2.2 (by decide)); have HB11 := Lib.hid (HB10.out.trans hk11.below)
      clear hT11 hk11 HX10 HB10 hx2
      have x0 := HX11.out.cell 0
      have x1 := HX11.out.cell 1
      replace x0 : w11.cell? ⟨w.heap.size + 1, 0, none⟩ = some (.int .i64 xp) := x0
      replace x1 : w11.cell? ⟨w.heap.size + 1, 1, none⟩ = some (.string (bs t)) := x1
      have hn1 := fun W => tread_nil 0 W
      have hn2 := repair_nil
      have hn3 := fun W => twrite_nil (.slice none 0 0) W
      have hn4 := pages_nil
      have HN1 := Lib.hid hn1; have HN22 := Lib.hid hn2; have HN3 := Lib.hid hn3; have HN4 := Lib.hid hn4
      clear hn1 hn2 hn3 hn4
      go_wp2_with fail
      refine (HN1.out _).mono ?_
      rintro e w12 ⟨rfl, rfl⟩
      go_wp2_with fail
      refine (HN22.out _).mono ?_
      rintro e w12 ⟨rfl, rfl⟩
      go_wp2_with fail
      refine (HRD.out ga _ HT11.out).mono ?_
      rintro e w12 ⟨rfl, hb12⟩
      have HT12 := Lib.hid (HT11.out.up hb12); have HX12 : Hid (Blk w12 (w.heap.size + 1) 24 _) := Lib.hid (HX11.out.up hb12); have HB12 := Lib.hid (HB11.out.trans (hb12.mono HB11.out.size))
      clear hb12 HT11 HX11 HB11 x0 x1
      have x0 := HX12.out.cell 0
      have x1 := HX12.out.cell 1
      replace x0 : w12.cell? ⟨w.heap.size + 1, 0, none⟩ = some (.int .i64 xp) := x0
      replace x1 : w12.cell? ⟨w.heap.size + 1, 1, none⟩ = some (.string (bs t)) := x1
      clear HW1 HW2 HN2 HRD HI HN1 HN22 HRT
      by_cases h0 : 0 ≤ xp
      · have t0 : decide (0 ≤ xp) = true := decide_eq_true h0
        by_cases h1 : xp < 8
        · have t1 : decide (xp < 8) = true := decide_eq_true h1
          have htb : tb = true := by rw [TB.out, t0, t1]; rfl
          clear TB
          subst tb
          obtain rfl : v1 = 0 := F1.out
          obtain rfl : v3 = 0 := V3.out
          clear F1 V3
          cases rb with
          | true =>
            obtain rfl : v2 = 0 := K1.out
            clear K1
            go_wp2_with fail
            refine (HRW.out _).mono ?_
            rintro e w13 ⟨rfl, hb13⟩
            go_wp2_with fail
            refine (HN3.out _).mono ?_
            rintro e w14 ⟨rfl, rfl⟩
            go_wp2_with fail
            refine (HN4.out _).mono ?_
            rintro e w14 ⟨rfl, rfl⟩
            have x0 := up_cell hb13 x0
            have x1 := up_cell hb13 x1
            have HT13 := Lib.hid (HT12.out.up hb13); have HB13 := Lib.hid (HB12.out.trans (hb13.mono HB12.out.size))
            clear hb13 HT12 HB12 HX12
            go_wp2_with fail
            refine (hi _ HT13.out.turns).mono ?_
            rintro e w14 ⟨rfl, hb14⟩
            go_wp2_with fail
            refine (HNO.out _).mono ?_
            rintro e w15 ⟨rfl, rfl⟩
            go_wp2_with fail
            go_ret
            exact ⟨rfl, HB13.out.trans (hb14.mono HB13.out.size)⟩
          | false =>
            obtain rfl : v2 = 1 := K1.out
            clear K1
            go_wp2_with fail
            refine (HRW.out _).mono ?_
            rintro e w13 ⟨rfl, hb13⟩
            go_wp2_with fail
            refine (HN3.out _).mono ?_
            rintro e w14 ⟨rfl, rfl⟩
            go_wp2_with fail
            refine (HN4.out _).mono ?_
            rintro e w14 ⟨rfl, rfl⟩
            have x0 := up_cell hb13 x0
            have x1 := up_cell hb13 x1
            have HT13 := Lib.hid (HT12.out.up hb13); have HB13 := Lib.hid (HB12.out.trans (hb13.mono HB12.out.size))
            clear hb13 HT12 HB12 HX12
            go_wp2_with fail
            refine (hi _ HT13.out.turns).mono ?_
            rintro e w14 ⟨rfl, hb14⟩
            go_wp2_with fail
            refine (HNO.out _).mono ?_
            rintro e w15 ⟨rfl, rfl⟩
            go_wp2_with fail
            go_ret
            exact ⟨rfl, HB13.out.trans (hb14.mono HB13.out.size)⟩
        · have t1 : decide (xp < 8) = false := decide_eq_false h1
          have htb : tb = false := by rw [TB.out, t0, t1]; rfl
          clear TB
          subst tb
          obtain rfl : v1 = 1 := F1.out
          obtain rfl : v3 = 1 := V3.out
          clear F1 V3
          cases rb with
          | true =>
            obtain rfl : v2 = 0 := K1.out
            clear K1
            go_wp2_with fail
            refine (HRW.out _).mono ?_
            rintro e w13 ⟨rfl, hb13⟩
            go_wp2_with fail
            refine (HN3.out _).mono ?_
            rintro e w14 ⟨rfl, rfl⟩
            go_wp2_with fail
            refine (HN4.out _).mono ?_
            rintro e w14 ⟨rfl, rfl⟩
            have x0 := up_cell hb13 x0
            have x1 := up_cell hb13 x1
            have HT13 := Lib.hid (HT12.out.up hb13); have HB13 := Lib.hid (HB12.out.trans (hb13.mono HB12.out.size))
            clear hb13 HT12 HB12 HX12
            go_wp2_with fail
            refine (hi _ HT13.out.turns).mono ?_
            rintro e w14 ⟨rfl, hb14⟩
            go_wp2_with fail
            refine (HNO.out _).mono ?_
            rintro e w15 ⟨rfl, rfl⟩
            go_wp2_with fail
            go_ret
            exact ⟨rfl, HB13.out.trans (hb14.mono HB13.out.size)⟩
          | false =>
            obtain rfl : v2 = 1 := K1.out
            clear K1
            go_wp2_with fail
            refine (HRW.out _).mono ?_
            rintro e w13 ⟨rfl, hb13⟩
            go_wp2_with fail
            refine (HN3.out _).mono ?_
            rintro e w14 ⟨rfl, rfl⟩
            go_wp2_with fail
            refine (HN4.out _).mono ?_
            rintro e w14 ⟨rfl, rfl⟩
            have x0 := up_cell hb13 x0
            have x1 := up_cell hb13 x1
            have HT13 := Lib.hid (HT12.out.up hb13); have HB13 := Lib.hid (HB12.out.trans (hb13.mono HB12.out.size))
            clear hb13 HT12 HB12 HX12
            go_wp2_with fail
            refine (hi _ HT13.out.turns).mono ?_
            rintro e w14 ⟨rfl, hb14⟩
            go_wp2_with fail
            refine (HNO.out _).mono ?_
            rintro e w15 ⟨rfl, rfl⟩
            go_wp2_with fail
            go_ret
            exact ⟨rfl, HB13.out.trans (hb14.mono HB13.out.size)⟩
      · have t0 : decide (0 ≤ xp) = false := decide_eq_false h0
        have htb : tb = false := by rw [TB.out, t0]; rfl
        clear TB
        subst tb
        obtain rfl : v1 = 1 := F1.out
        obtain rfl : v3 = 1 := V3.out
        clear F1 V3
        cases rb with
        | true =>
          obtain rfl : v2 = 0 := K1.out
          clear K1
          go_wp2_with fail
          refine (HRW.out _).mono ?_
          rintro e w13 ⟨rfl, hb13⟩
          go_wp2_with fail
          refine (HN3.out _).mono ?_
          rintro e w14 ⟨rfl, rfl⟩
          go_wp2_with fail
          refine (HN4.out _).mono ?_
          rintro e w14 ⟨rfl, rfl⟩
          have x0 := up_cell hb13 x0
          have x1 := up_cell hb13 x1
          have HT13 := Lib.hid (HT12.out.up hb13); have HB13 := Lib.hid (HB12.out.trans (hb13.mono HB12.out.size))
          clear hb13 HT12 HB12 HX12
          go_wp2_with fail
          refine (hi _ HT13.out.turns).mono ?_
          rintro e w14 ⟨rfl, hb14⟩
          go_wp2_with fail
          refine (HNO.out _).mono ?_
          rintro e w15 ⟨rfl, rfl⟩
          go_wp2_with fail
          go_ret
          exact ⟨rfl, HB13.out.trans (hb14.mono HB13.out.size)⟩
        | false =>
          obtain rfl : v2 = 1 := K1.out
          clear K1
          go_wp2_with fail
          refine (HRW.out _).mono ?_
          rintro e w13 ⟨rfl, hb13⟩
          go_wp2_with fail
          refine (HN3.out _).mono ?_
          rintro e w14 ⟨rfl, rfl⟩
          go_wp2_with fail
          refine (HN4.out _).mono ?_
          rintro e w14 ⟨rfl, rfl⟩
          have x0 := up_cell hb13 x0
          have x1 := up_cell hb13 x1
          have HT13 := Lib.hid (HT12.out.up hb13); have HB13 := Lib.hid (HB12.out.trans (hb13.mono HB12.out.size))
          clear hb13 HT12 HB12 HX12
          go_wp2_with fail
          refine (hi _ HT13.out.turns).mono ?_
          rintro e w14 ⟨rfl, hb14⟩
          go_wp2_with fail
          refine (HNO.out _).mono ?_
          rintro e w15 ⟨rfl, rfl⟩
          go_wp2_with fail
          go_ret
          exact ⟨rfl, HB13.out.trans (hb14.mono HB13.out.size)⟩
end Go.Proofs.YtfkhgmdnajiabaaDoor
