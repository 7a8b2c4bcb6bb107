/-
  PROVED HERE: the card of 'PoolRefuses': whatever is handed in, the law returns true, and leaves what it was handed as it was. No condition but the row's own (the listed variables' content, the reach).
-/
import Derived.Test.YtjlcbabnkhdgpaaGreatDoorPinsC
import Derived.Test.YtjlcbabnkhdgpaaGreatDoorTwK
import Derived.Test.YtjlcbabnkhdgpaaGreatDoorFrmP
import Derived.LaidMore
import Derived.Lay
import Derived.SevenTiedAt
import Derived.Stop.Joined
namespace Go.Proofs.YtjlcbabnkhdgpaaGreatDoor
section
set_option linter.unusedSimpArgs false
set_option linter.unusedVariables false
open Go.RowKit Go.Maps

theorem held_nil (w : World) :
    Calls Tryz.prog 14 #[.pointer none] w fun e w' => e = .returned (.tuple #[.slice none 0 0, .slice none 0 0]) ∧ Below w.heap.size w w' := by
  have hB0 : Below w.heap.size w ((w.alloc (.cells #[.slice none 0 0] 22)).alloc (.cells #[.slice none 0 0] 22)) := ((Below.refl _ w).alloc (Nat.le_refl _) _).alloc (by simp) _
  go_enter Tryz.func14, Tryz.ntmps14
  go_wp2_with fail
  go_ret2
  exact ⟨rfl, hB0⟩
section
variable {ff : FuncId} {fi ca : Array Value}
theorem fun_nil (w : World) : (binOp .eql 34 (.func (.func ff) fi ca) .nilFunc).run Tryz.prog w = .ok (.bool false) w := by
  have h1 : ∀ d, (Op.equalIn (d + 1) 34 (.func (.func ff) fi ca) .nilFunc).run Tryz.prog w = .ok false w := fun d => by
    simp [Op.equalIn, run_underlying Tryz.underlying34]
  simp only [binOp]
  simp [Op.equal, Op.maxDepth, h1 9999]
theorem nil_nil (w : World) : (binOp .eql 34 .nilFunc .nilFunc).run Tryz.prog w = .ok (.bool true) w := by
  have h1 : ∀ d, (Op.equalIn (d + 1) 34 .nilFunc .nilFunc).run Tryz.prog w = .ok true w := fun d => by
    simp [Op.equalIn, run_underlying Tryz.underlying34]
  simp only [binOp]
  simp [Op.equal, Op.maxDepth, h1 9999]
set_option maxRecDepth 100000 in
theorem ponew_bad (ga : Nat) (most : Int) (w : World) (h : most < 1 ∨ 64 < most) :
    Calls Tryz.prog 10 #[.pointer (some ⟨ga, 0, none⟩), .int .i64 most, .func (.func ff) fi ca] w fun e w' => e = .returned (.tuple #[.pointer none, .int .i64 1]) ∧ w = w' := by
  have hq := fun w => fun_nil (ff := ff) (fi := fi) (ca := ca) w
  by_cases h1 : most < 1
  · clear h
    go_enter Tryz.func10, Tryz.ntmps10
    go_wp2_with fail
    go_ret2
    exact ⟨rfl, rfl⟩
  · have h2 : 64 < most := by omega
    clear h
    go_enter Tryz.func10, Tryz.ntmps10
    go_wp2_with fail
    go_ret2
    exact ⟨rfl, rfl⟩
set_option maxRecDepth 100000 in
theorem ponew_nila (most : Int) (w : World) :
    Calls Tryz.prog 10 #[.pointer none, .int .i64 most, .func (.func ff) fi ca] w fun e w' => e = .returned (.tuple #[.pointer none, .int .i64 1]) ∧ w = w' := by
  go_enter Tryz.func10, Tryz.ntmps10
  go_wp2_with fail
  go_ret2
  exact ⟨rfl, rfl⟩
set_option maxRecDepth 100000 in
theorem ponew_nilf (ga : Nat) (most : Int) (w : World) :
    Calls Tryz.prog 10 #[.pointer (some ⟨ga, 0, none⟩), .int .i64 most, .nilFunc] w fun e w' => e = .returned (.tuple #[.pointer none, .int .i64 1]) ∧ w = w' := by
  have hq := fun w => nil_nil w
  go_enter Tryz.func10, Tryz.ntmps10
  go_wp2_with fail
  go_ret2
  exact ⟨rfl, rfl⟩
end
/-- Page 1 with some byte at its second place. -/
def torn (by_ : UInt8) : List UInt8 := 0 :: by_ :: List.replicate 510 0
theorem torn_whole (b : UInt8) : wholeB (torn b) = decide (b = 0) := by
  by_cases h : b = 0
  · subst h
    rw [show torn 0 = List.replicate 512 0 by kernel_rfl, zeros_whole]; rfl
  · have h1 : noughtsB (torn b) = false := by
      unfold noughtsB torn
      have hb : (b == 0) = false := by simpa using h
      rw [List.all_cons, List.all_cons, hb]; rfl
    have h2 : twiceB (torn b) = false := by
      have e1 : ((torn b).take 508).take 6 = [0, b, 0, 0, 0, 0] := by kernel_rfl
      have e2 : ((torn b).take 508).drop 502 = [0, 0, 0, 0, 0, 0] := by kernel_rfl
      unfold twiceB
      rw [e1, e2]
      simp [h]
    unfold wholeB
    rw [h1, h2]
    simp [h]
theorem torn_len (b : UInt8) : (torn b).length = 512 := by kernel_rfl
/-- The device behind the write. -/
def tornM (b : UInt8) : DevM := (writeM (newM 40) 12 [0, b]).2
theorem torn_write (b : UInt8) : writeM (newM 40) 12 [0, b] = (0, tornM b) := by kernel_rfl
theorem torn_read (b : UInt8) : treadM arm8 (tornM b) 1 = (torn b, 0) := by kernel_rfl
theorem pinQ_torn (b : UInt8) (x : Nat) (h : b = 0) : pinQ arm8 (spaceP okS arm8 4 [] [] () (tornM b)) 1 x = ((torn b, 0), [(1, x, ⟨torn b, 1, false⟩)], [1], (), tornM b) := by
  rw [show spaceP okS arm8 4 [] [] () (tornM b) = (0, [], [], (), tornM b) from rfl]
  unfold pinQ
  dsimp only
  rw [torn_read, torn_whole, decide_eq_true h, if_neg (by simp), if_neg (by simp), if_neg (by simp)]
  rfl
theorem pinQ_torn' (b : UInt8) (x : Nat) (h : b ≠ 0) : pinQ arm8 (spaceP okS arm8 4 [] [] () (tornM b)) 1 x = (([], 19), [], [], (), tornM b) := by
  rw [show spaceP okS arm8 4 [] [] () (tornM b) = (0, [], [], (), tornM b) from rfl]
  unfold pinQ
  dsimp only
  rw [torn_read, torn_whole, decide_eq_false h, if_neg (by simp), if_neg (by simp), if_pos rfl]
theorem tornM_cmds (b : UInt8) : (tornM b).cmds = 1 := by kernel_rfl
theorem tornM_size (b : UInt8) : (tornM b).size = (newM 40).size := by kernel_rfl
attribute [irreducible] torn tornM
theorem flR_ok {n0 ga g m : Nat} {a : ArM} : FlOk n0 ga g m a 17 #[] #[] EU XU okS := by
  refine FlOk.const (enters_of Tryz.func17 (by kernel_rfl) rfl) (fun n w => ?_)
  go_enter Tryz.func17, Tryz.ntmps17
  go_wp2_with fail
  go_ret
  exact ⟨rfl, rfl⟩
set_option maxHeartbeats 6400000 in
set_option maxRecDepth 100000 in
theorem prefuses_any (f n : Int) (y : UInt8) (w : World) (ht : Turns w) :
    Calls Tryz.prog 4 #[.int .i64 f, .int .i64 n, .int .u8 (y.toNat : Int)] w fun e w' => e = .returned (.bool true) ∧ Below w.heap.size w w' := by
  have hlt := ht.lt
  have hsp := speaks10_any w ht
  have hd := fun W (hW : w.heap.size ≤ W.heap.size) => devnew_dv w.heap.size 40 (by decide) (by decide) W hW
  have hnew := fun g m W h1 h2 => twnew_ok w.heap.size g m arm8 (newM 40) W h1 h2 hlt arm8_fits
  have HNW := Lib.hid hnew; have HT := Lib.hid ht; have HD0 := Lib.hid hd
  clear hlt hnew ht hd
  go_enter Tryz.func4, Tryz.ntmps4
  go_wp2_with fail
  refine hsp.mono ?_
  clear hsp
  rintro e w0 ⟨rfl, hb0⟩
  have hd := HD0.out w0 hb0.size
  have HB0 := Lib.hid hb0
  clear hb0 HD0
  go_wp2_with fail
  refine hd.mono ?_
  rintro e w1 ⟨m, rfl, hD, hb1⟩
  have HD := Lib.hid hD; have HB1 := Lib.hid (HB0.out.trans (hb1.mono HB0.out.size))
  clear hd hD hb1 HB0
  go_wp2_with fail
  refine (HNW.out _ m w1 HD.out (HT.out.below HB1.out)).mono ?_
  rintro e w2 ⟨rfl, hT2, hb2⟩
  have HT2 := Lib.hid hT2; have HB2 := Lib.hid (HB1.out.trans (hb2.mono HB1.out.size))
  clear hT2 hb2 HD HB1 HNW
  generalize w1.heap.size = ga at *
  generalize w0.heap.size + 1 = g at *
  by_cases h1 : f < 1
  · have hpn := ponew_bad (ff := 17) (fi := #[]) (ca := #[]) ga f w2 (Or.inl h1)
    have r1 : ¬ (1 ≤ f) := by omega
    clear h1
    go_wp2_with fail
    refine hpn.mono ?_
    clear hpn
    rintro e w3 ⟨rfl, rfl⟩
    obtain ⟨w3, e3⟩ : ∃ q, q = w2 := ⟨_, rfl⟩
    subst e3
    have HT3 := HT2; have HB3 := HB2
    have nl := fun W => ponew_nila (ff := 17) (fi := #[]) (ca := #[]) 4 W
    go_wp2_with fail
    refine (nl _).mono ?_
    clear nl
    rintro e w4 ⟨rfl, rfl⟩
    have nf := fun W => ponew_nilf ga 4 W
    go_wp2_with fail
    refine (nf _).mono ?_
    clear nf
    rintro e w4 ⟨rfl, rfl⟩
    have hb4 : Below w3.heap.size w3 (w3.alloc (.cells (Lib.byteCells [0, y]).toArray 5)) := (Below.refl _ _).alloc (Nat.le_refl _) _
    have hr := (RowB.made w3 [0, y]).conv 2 2 rfl
    have hdw := devwrite_any w.heap.size g m (newM 40) 12 [0, y] _ (HT3.out.dv.up hb4) (by decide)
    have HB4 := Lib.hid (HB3.out.trans (hb4.mono HB3.out.size))
    have HT4 := Lib.hid (HT3.out.up hb4)
    rw [torn_write] at hdw
    have hbc : (Lib.byteCells [0, y]).toArray = #[.int .u8 0, .int .u8 (y.toNat : Int)] := rfl
    rw [hbc] at hr hdw HB4 HT4
    clear hb4 hbc HT3
    go_wp2_with fail
    refine hdw.mono ?_
    clear hdw hr
    rintro e w5 ⟨rfl, hD5, hK5⟩
    have HT5 := Lib.hid (HT4.out.kept hD5 (tornM_size y) hK5)
    have HB5 := Lib.hid (HB4.out.trans hK5.below)
    clear hD5 hK5 HT4 HB4 HB3
    have hpn := ponew_ok w.heap.size ga 4 17 #[] #[] w5 (by decide) (by decide) HB5.out.size
    go_wp2_with fail
    refine hpn.mono ?_
    clear hpn
    rintro e w6 ⟨gp, rfl, hP6, -, hb6⟩
    have HS6 := Lib.hid (Sy.start hP6 (HT5.out.up hb6))
    have HB6 := Lib.hid (HB5.out.trans (hb6.mono HB5.out.size))
    clear hP6 hb6 HT5 HB5
    have hp1 := pin_new w6 1 HS6.out flR_ok (by unfold NoPage arm8; decide) rfl (by decide) (by decide) (fun k hk => by cases hk) (fun x hx => by cases hx) (by rw [tornM_cmds]; decide) okS_cmds
    go_wp2_with fail
    refine hp1.mono ?_
    clear hp1
    rintro e w7 ⟨x7, rfl, hP7⟩
    by_cases hy : y = 0
    · rw [pinQ_torn y x7 hy] at hP7 ⊢
      have hyz : (y.toNat : Int) = 0 := by subst hy; rfl
      dsimp only at hP7 ⊢
      have HB7 := Lib.hid (HB6.out.trans (hP7.below HB6.out.size))
      obtain ⟨hv7, uv7, hS7, -⟩ := hP7
      have HS7 := Lib.hid hS7
      clear hS7 HS6 hy
      have np := fun W => pin_nil W n
      have nh := fun W => held_nil W
      have hfd : (fd [(1, x7, ⟨torn y, 1, false⟩)] 1).isSome = true := rfl
      go_wp2_with fail
      refine (np _).mono ?_
      clear np
      rintro e w8 ⟨rfl, rfl⟩
      go_wp2_with fail
      refine (nh _).mono ?_
      clear nh
      rintro e w9 ⟨rfl, hb9⟩
      have HS9 := Lib.hid (HS7.out.up flR_ok hb9)
      have HB9 := Lib.hid (HB7.out.trans (hb9.mono HB7.out.size))
      have na := has_any w9 1 HS9.out.po
      rw [hfd] at na
      clear hb9 HB7 HS7
      go_wp2_with fail
      refine na.mono ?_
      clear na
      rintro e w8 ⟨rfl, hb8⟩
      have HB8 := Lib.hid (HB9.out.trans (hb8.mono HB9.out.size))
      clear hb8
      have nu := fun W => unpin_nil W n
      have nt := fun W => pput_nil W n (.string ⟨#[]⟩)
      have ne := fun W => evict_nil W n
      have nf := fun W => flush_nil W
      have ns := fun W => has_nil W n
      go_wp2_with fail
      refine (nu _).mono ?_
      clear nu
      rintro e w9 ⟨rfl, rfl⟩
      go_wp2_with fail
      refine (nt _).mono ?_
      clear nt
      rintro e w9 ⟨rfl, rfl⟩
      go_wp2_with fail
      refine (ne _).mono ?_
      clear ne
      rintro e w9 ⟨rfl, rfl⟩
      go_wp2_with fail
      refine (nf _).mono ?_
      clear nf
      rintro e w9 ⟨rfl, rfl⟩
      go_wp2_with fail
      refine (ns _).mono ?_
      clear ns
      rintro e w9 ⟨rfl, rfl⟩
      go_wp2_with fail
      go_ret
      exact ⟨by first | rfl | exact ret_bool (by simp [hyz]; omega), HB8.out⟩
    · rw [pinQ_torn' y x7 hy] at hP7 ⊢
      have hyz : ¬ (y.toNat : Int) = 0 := fun e => hy (UInt8.toNat_inj.1 (by rw [show (0 : UInt8).toNat = 0 from rfl]; omega))
      dsimp only at hP7 ⊢
      have HB7 := Lib.hid (HB6.out.trans (hP7.below HB6.out.size))
      obtain ⟨hv7, uv7, hS7, -⟩ := hP7
      have HS7 := Lib.hid hS7
      clear hS7 HS6 hy
      have np := fun W => pin_nil W n
      have nh := fun W => held_nil W
      have hfd : (fd [] 1).isSome = false := rfl
      go_wp2_with fail
      refine (np _).mono ?_
      clear np
      rintro e w8 ⟨rfl, rfl⟩
      go_wp2_with fail
      refine (nh _).mono ?_
      clear nh
      rintro e w9 ⟨rfl, hb9⟩
      have HS9 := Lib.hid (HS7.out.up flR_ok hb9)
      have HB9 := Lib.hid (HB7.out.trans (hb9.mono HB7.out.size))
      have na := has_any w9 1 HS9.out.po
      rw [hfd] at na
      clear hb9 HB7 HS7
      go_wp2_with fail
      refine na.mono ?_
      clear na
      rintro e w8 ⟨rfl, hb8⟩
      have HB8 := Lib.hid (HB9.out.trans (hb8.mono HB9.out.size))
      clear hb8
      have nu := fun W => unpin_nil W n
      have nt := fun W => pput_nil W n (.string ⟨#[]⟩)
      have ne := fun W => evict_nil W n
      have nf := fun W => flush_nil W
      have ns := fun W => has_nil W n
      go_wp2_with fail
      refine (nu _).mono ?_
      clear nu
      rintro e w9 ⟨rfl, rfl⟩
      go_wp2_with fail
      refine (nt _).mono ?_
      clear nt
      rintro e w9 ⟨rfl, rfl⟩
      go_wp2_with fail
      refine (ne _).mono ?_
      clear ne
      rintro e w9 ⟨rfl, rfl⟩
      go_wp2_with fail
      refine (nf _).mono ?_
      clear nf
      rintro e w9 ⟨rfl, rfl⟩
      go_wp2_with fail
      refine (ns _).mono ?_
      clear ns
      rintro e w9 ⟨rfl, rfl⟩
      go_wp2_with fail
      go_ret
      exact ⟨by first | rfl | exact ret_bool (by simp [hyz]; omega), HB8.out⟩
  by_cases h2 : 64 < f
  · have hpn := ponew_bad (ff := 17) (fi := #[]) (ca := #[]) ga f w2 (Or.inr h2)
    have r1 : 1 ≤ f := by omega
    have r2 : ¬ (f ≤ 64) := by omega
    clear h1 h2
    go_wp2_with fail
    refine hpn.mono ?_
    clear hpn
    rintro e w3 ⟨rfl, rfl⟩
    obtain ⟨w3, e3⟩ : ∃ q, q = w2 := ⟨_, rfl⟩
    subst e3
    have HT3 := HT2; have HB3 := HB2
    have nl := fun W => ponew_nila (ff := 17) (fi := #[]) (ca := #[]) 4 W
    go_wp2_with fail
    refine (nl _).mono ?_
    clear nl
    rintro e w4 ⟨rfl, rfl⟩
    have nf := fun W => ponew_nilf ga 4 W
    go_wp2_with fail
    refine (nf _).mono ?_
    clear nf
    rintro e w4 ⟨rfl, rfl⟩
    have hb4 : Below w3.heap.size w3 (w3.alloc (.cells (Lib.byteCells [0, y]).toArray 5)) := (Below.refl _ _).alloc (Nat.le_refl _) _
    have hr := (RowB.made w3 [0, y]).conv 2 2 rfl
    have hdw := devwrite_any w.heap.size g m (newM 40) 12 [0, y] _ (HT3.out.dv.up hb4) (by decide)
    have HB4 := Lib.hid (HB3.out.trans (hb4.mono HB3.out.size))
    have HT4 := Lib.hid (HT3.out.up hb4)
    rw [torn_write] at hdw
    have hbc : (Lib.byteCells [0, y]).toArray = #[.int .u8 0, .int .u8 (y.toNat : Int)] := rfl
    rw [hbc] at hr hdw HB4 HT4
    clear hb4 hbc HT3
    go_wp2_with fail
    refine hdw.mono ?_
    clear hdw hr
    rintro e w5 ⟨rfl, hD5, hK5⟩
    have HT5 := Lib.hid (HT4.out.kept hD5 (tornM_size y) hK5)
    have HB5 := Lib.hid (HB4.out.trans hK5.below)
    clear hD5 hK5 HT4 HB4 HB3
    have hpn := ponew_ok w.heap.size ga 4 17 #[] #[] w5 (by decide) (by decide) HB5.out.size
    go_wp2_with fail
    refine hpn.mono ?_
    clear hpn
    rintro e w6 ⟨gp, rfl, hP6, -, hb6⟩
    have HS6 := Lib.hid (Sy.start hP6 (HT5.out.up hb6))
    have HB6 := Lib.hid (HB5.out.trans (hb6.mono HB5.out.size))
    clear hP6 hb6 HT5 HB5
    have hp1 := pin_new w6 1 HS6.out flR_ok (by unfold NoPage arm8; decide) rfl (by decide) (by decide) (fun k hk => by cases hk) (fun x hx => by cases hx) (by rw [tornM_cmds]; decide) okS_cmds
    go_wp2_with fail
    refine hp1.mono ?_
    clear hp1
    rintro e w7 ⟨x7, rfl, hP7⟩
    by_cases hy : y = 0
    · rw [pinQ_torn y x7 hy] at hP7 ⊢
      have hyz : (y.toNat : Int) = 0 := by subst hy; rfl
      dsimp only at hP7 ⊢
      have HB7 := Lib.hid (HB6.out.trans (hP7.below HB6.out.size))
      obtain ⟨hv7, uv7, hS7, -⟩ := hP7
      have HS7 := Lib.hid hS7
      clear hS7 HS6 hy
      have np := fun W => pin_nil W n
      have nh := fun W => held_nil W
      have hfd : (fd [(1, x7, ⟨torn y, 1, false⟩)] 1).isSome = true := rfl
      go_wp2_with fail
      refine (np _).mono ?_
      clear np
      rintro e w8 ⟨rfl, rfl⟩
      go_wp2_with fail
      refine (nh _).mono ?_
      clear nh
      rintro e w9 ⟨rfl, hb9⟩
      have HS9 := Lib.hid (HS7.out.up flR_ok hb9)
      have HB9 := Lib.hid (HB7.out.trans (hb9.mono HB7.out.size))
      have na := has_any w9 1 HS9.out.po
      rw [hfd] at na
      clear hb9 HB7 HS7
      go_wp2_with fail
      refine na.mono ?_
      clear na
      rintro e w8 ⟨rfl, hb8⟩
      have HB8 := Lib.hid (HB9.out.trans (hb8.mono HB9.out.size))
      clear hb8
      have nu := fun W => unpin_nil W n
      have nt := fun W => pput_nil W n (.string ⟨#[]⟩)
      have ne := fun W => evict_nil W n
      have nf := fun W => flush_nil W
      have ns := fun W => has_nil W n
      go_wp2_with fail
      refine (nu _).mono ?_
      clear nu
      rintro e w9 ⟨rfl, rfl⟩
      go_wp2_with fail
      refine (nt _).mono ?_
      clear nt
      rintro e w9 ⟨rfl, rfl⟩
      go_wp2_with fail
      refine (ne _).mono ?_
      clear ne
      rintro e w9 ⟨rfl, rfl⟩
      go_wp2_with fail
      refine (nf _).mono ?_
      clear nf
      rintro e w9 ⟨rfl, rfl⟩
      go_wp2_with fail
      refine (ns _).mono ?_
      clear ns
      rintro e w9 ⟨rfl, rfl⟩
      go_wp2_with fail
      go_ret
      exact ⟨by first | rfl | exact ret_bool (by simp [hyz]; omega), HB8.out⟩
    · rw [pinQ_torn' y x7 hy] at hP7 ⊢
      have hyz : ¬ (y.toNat : Int) = 0 := fun e => hy (UInt8.toNat_inj.1 (by rw [show (0 : UInt8).toNat = 0 from rfl]; omega))
      dsimp only at hP7 ⊢
      have HB7 := Lib.hid (HB6.out.trans (hP7.below HB6.out.size))
      obtain ⟨hv7, uv7, hS7, -⟩ := hP7
      have HS7 := Lib.hid hS7
      clear hS7 HS6 hy
      have np := fun W => pin_nil W n
      have nh := fun W => held_nil W
      have hfd : (fd [] 1).isSome = false := rfl
      go_wp2_with fail
      refine (np _).mono ?_
      clear np
      rintro e w8 ⟨rfl, rfl⟩
      go_wp2_with fail
      refine (nh _).mono ?_
      clear nh
      rintro e w9 ⟨rfl, hb9⟩
      have HS9 := Lib.hid (HS7.out.up flR_ok hb9)
      have HB9 := Lib.hid (HB7.out.trans (hb9.mono HB7.out.size))
      have na := has_any w9 1 HS9.out.po
      rw [hfd] at na
      clear hb9 HB7 HS7
      go_wp2_with fail
      refine na.mono ?_
      clear na
      rintro e w8 ⟨rfl, hb8⟩
      have HB8 := Lib.hid (HB9.out.trans (hb8.mono HB9.out.size))
      clear hb8
      have nu := fun W => unpin_nil W n
      have nt := fun W => pput_nil W n (.string ⟨#[]⟩)
      have ne := fun W => evict_nil W n
      have nf := fun W => flush_nil W
      have ns := fun W => has_nil W n
      go_wp2_with fail
      refine (nu _).mono ?_
      clear nu
      rintro e w9 ⟨rfl, rfl⟩
      go_wp2_with fail
      refine (nt _).mono ?_
      clear nt
      rintro e w9 ⟨rfl, rfl⟩
      go_wp2_with fail
      refine (ne _).mono ?_
      clear ne
      rintro e w9 ⟨rfl, rfl⟩
      go_wp2_with fail
      refine (nf _).mono ?_
      clear nf
      rintro e w9 ⟨rfl, rfl⟩
      go_wp2_with fail
      refine (ns _).mono ?_
      clear ns
      rintro e w9 ⟨rfl, rfl⟩
      go_wp2_with fail
      go_ret
      exact ⟨by first | rfl | exact ret_bool (by simp [hyz]; omega), HB8.out⟩
  · have r1 : 1 ≤ f := by omega
    have r2 : f ≤ 64 := by omega
    have hpn := ponew_ok w.heap.size ga f 17 #[] #[] w2 r1 r2 HB2.out.size
    clear h1 h2
    go_wp2_with fail
    refine hpn.mono ?_
    clear hpn
    rintro e w3 ⟨gq, rfl, -, -, hb3⟩
    have HT3 := Lib.hid (HT2.out.up hb3)
    have HB3 := Lib.hid (HB2.out.trans (hb3.mono HB2.out.size))
    clear hb3
    have nl := fun W => ponew_nila (ff := 17) (fi := #[]) (ca := #[]) 4 W
    go_wp2_with fail
    refine (nl _).mono ?_
    clear nl
    rintro e w4 ⟨rfl, rfl⟩
    have nf := fun W => ponew_nilf ga 4 W
    go_wp2_with fail
    refine (nf _).mono ?_
    clear nf
    rintro e w4 ⟨rfl, rfl⟩
    have hb4 : Below w3.heap.size w3 (w3.alloc (.cells (Lib.byteCells [0, y]).toArray 5)) := (Below.refl _ _).alloc (Nat.le_refl _) _
    have hr := (RowB.made w3 [0, y]).conv 2 2 rfl
    have hdw := devwrite_any w.heap.size g m (newM 40) 12 [0, y] _ (HT3.out.dv.up hb4) (by decide)
    have HB4 := Lib.hid (HB3.out.trans (hb4.mono HB3.out.size))
    have HT4 := Lib.hid (HT3.out.up hb4)
    rw [torn_write] at hdw
    have hbc : (Lib.byteCells [0, y]).toArray = #[.int .u8 0, .int .u8 (y.toNat : Int)] := rfl
    rw [hbc] at hr hdw HB4 HT4
    clear hb4 hbc HT3
    go_wp2_with fail
    refine hdw.mono ?_
    clear hdw hr
    rintro e w5 ⟨rfl, hD5, hK5⟩
    have HT5 := Lib.hid (HT4.out.kept hD5 (tornM_size y) hK5)
    have HB5 := Lib.hid (HB4.out.trans hK5.below)
    clear hD5 hK5 HT4 HB4 HB3
    have hpn := ponew_ok w.heap.size ga 4 17 #[] #[] w5 (by decide) (by decide) HB5.out.size
    go_wp2_with fail
    refine hpn.mono ?_
    clear hpn
    rintro e w6 ⟨gp, rfl, hP6, -, hb6⟩
    have HS6 := Lib.hid (Sy.start hP6 (HT5.out.up hb6))
    have HB6 := Lib.hid (HB5.out.trans (hb6.mono HB5.out.size))
    clear hP6 hb6 HT5 HB5
    have hp1 := pin_new w6 1 HS6.out flR_ok (by unfold NoPage arm8; decide) rfl (by decide) (by decide) (fun k hk => by cases hk) (fun x hx => by cases hx) (by rw [tornM_cmds]; decide) okS_cmds
    go_wp2_with fail
    refine hp1.mono ?_
    clear hp1
    rintro e w7 ⟨x7, rfl, hP7⟩
    by_cases hy : y = 0
    · rw [pinQ_torn y x7 hy] at hP7 ⊢
      have hyz : (y.toNat : Int) = 0 := by subst hy; rfl
      dsimp only at hP7 ⊢
      have HB7 := Lib.hid (HB6.out.trans (hP7.below HB6.out.size))
      obtain ⟨hv7, uv7, hS7, -⟩ := hP7
      have HS7 := Lib.hid hS7
      clear hS7 HS6 hy
      have np := fun W => pin_nil W n
      have nh := fun W => held_nil W
      have hfd : (fd [(1, x7, ⟨torn y, 1, false⟩)] 1).isSome = true := rfl
      go_wp2_with fail
      refine (np _).mono ?_
      clear np
      rintro e w8 ⟨rfl, rfl⟩
      go_wp2_with fail
      refine (nh _).mono ?_
      clear nh
      rintro e w9 ⟨rfl, hb9⟩
      have HS9 := Lib.hid (HS7.out.up flR_ok hb9)
      have HB9 := Lib.hid (HB7.out.trans (hb9.mono HB7.out.size))
      have na := has_any w9 1 HS9.out.po
      rw [hfd] at na
      clear hb9 HB7 HS7
      go_wp2_with fail
      refine na.mono ?_
      clear na
      rintro e w8 ⟨rfl, hb8⟩
      have HB8 := Lib.hid (HB9.out.trans (hb8.mono HB9.out.size))
      clear hb8
      have nu := fun W => unpin_nil W n
      have nt := fun W => pput_nil W n (.string ⟨#[]⟩)
      have ne := fun W => evict_nil W n
      have nf := fun W => flush_nil W
      have ns := fun W => has_nil W n
      go_wp2_with fail
      refine (nu _).mono ?_
      clear nu
      rintro e w9 ⟨rfl, rfl⟩
      go_wp2_with fail
      refine (nt _).mono ?_
      clear nt
      rintro e w9 ⟨rfl, rfl⟩
      go_wp2_with fail
      refine (ne _).mono ?_
      clear ne
      rintro e w9 ⟨rfl, rfl⟩
      go_wp2_with fail
      refine (nf _).mono ?_
      clear nf
      rintro e w9 ⟨rfl, rfl⟩
      go_wp2_with fail
      refine (ns _).mono ?_
      clear ns
      rintro e w9 ⟨rfl, rfl⟩
      go_wp2_with fail
      go_ret
      exact ⟨by first | rfl | exact ret_bool (by simp [hyz]; omega), HB8.out⟩
    · rw [pinQ_torn' y x7 hy] at hP7 ⊢
      have hyz : ¬ (y.toNat : Int) = 0 := fun e => hy (UInt8.toNat_inj.1 (by rw [show (0 : UInt8).toNat = 0 from rfl]; omega))
      dsimp only at hP7 ⊢
      have HB7 := Lib.hid (HB6.out.trans (hP7.below HB6.out.size))
      obtain ⟨hv7, uv7, hS7, -⟩ := hP7
      have HS7 := Lib.hid hS7
      clear hS7 HS6 hy
      have np := fun W => pin_nil W n
      have nh := fun W => held_nil W
      have hfd : (fd [] 1).isSome = false := rfl
      go_wp2_with fail
      refine (np _).mono ?_
      clear np
      rintro e w8 ⟨rfl, rfl⟩
      go_wp2_with fail
      refine (nh _).mono ?_
      clear nh
      rintro e w9 ⟨rfl, hb9⟩
      have HS9 := Lib.hid (HS7.out.up flR_ok hb9)
      have HB9 := Lib.hid (HB7.out.trans (hb9.mono HB7.out.size))
      have na := has_any w9 1 HS9.out.po
      rw [hfd] at na
      clear hb9 HB7 HS7
      go_wp2_with fail
      refine na.mono ?_
      clear na
      rintro e w8 ⟨rfl, hb8⟩
      have HB8 := Lib.hid (HB9.out.trans (hb8.mono HB9.out.size))
      clear hb8
      have nu := fun W => unpin_nil W n
      have nt := fun W => pput_nil W n (.string ⟨#[]⟩)
      have ne := fun W => evict_nil W n
      have nf := fun W => flush_nil W
      have ns := fun W => has_nil W n
      go_wp2_with fail
      refine (nu _).mono ?_
      clear nu
      rintro e w9 ⟨rfl, rfl⟩
      go_wp2_with fail
      refine (nt _).mono ?_
      clear nt
      rintro e w9 ⟨rfl, rfl⟩
      go_wp2_with fail
      refine (ne _).mono ?_
      clear ne
      rintro e w9 ⟨rfl, rfl⟩
      go_wp2_with fail
      refine (nf _).mono ?_
      clear nf
      rintro e w9 ⟨rfl, rfl⟩
      go_wp2_with fail
      refine (ns _).mono ?_
      clear ns
      rintro e w9 ⟨rfl, rfl⟩
      go_wp2_with fail
      go_ret
      exact ⟨by first | rfl | exact ret_bool (by simp [hyz]; omega), HB8.out⟩
end
end Go.Proofs.YtjlcbabnkhdgpaaGreatDoor
namespace Go.Proofs.YtjlcbabnkhdgpaaGreatDoor.poolRefuses
set_option linter.unusedSimpArgs false
set_option linter.unusedVariables false
open Go.ChangeShapes Go.WideShapes Go.ChangeAt Go.RowKit

set_option maxRecDepth 100000 in
theorem contract (H : Type) (enc : TypeId × Value → H) (W : World) (base : Nat) (args : Array Value) (ds gs : List (DataW H)) (before : List MemPlace)
    (hval : ∀ (j : Nat) t v, Tryz.f4.params[j]? = some t → args[j]? = some v → Value.okWide Tryz.prog W .any base t v)
    (hW : DataW.Whole enc Tryz.prog Tryz.f4.params.toList Rows.poolRefusesSpec.vars false W args.toList ds gs before)
    (hz : (DataW.weightsEach Tryz.prog (Tryz.f4.params.toList ++ (OpenSpec.ofChange Rows.poolRefusesSpec).bare.plain.varTypes Tryz.prog) (ds ++ gs)).all (· ≤ reachBytes) = true)
    (hL : laidMetH Tryz.prog Rows.poolRefusesRow.laid W) :
    Calls Tryz.prog 4 args W fun e W' => ∃ v, e = .returned v ∧ Rows.poolRefusesSpec.post enc Tryz.prog Tryz.f4 false true false false W args v W' := by
  have hW' := hW
  have hlt := hW.lt
  obtain ⟨p, q, hA0, hV, rfl, _, _⟩ := hW
  have hA : DataW.TrodAll enc Tryz.prog W 0 (fun _ => true) true Tryz.f4.params.toList args.toList ds p := hA0
  obtain ⟨rfl, rfl⟩ := trodVars_none hV
  rw [Tryz.params4] at hA hval hz
  obtain ⟨v0, v1, v2, d0, d1, d2, p0, p1, p2, rfl, rfl, rfl, h0, h1, h2⟩ := trodAll_three hA
  have k0 := h0
  have k1 := h1
  have k2 := h2
  simp only [List.append_nil] at hlt hW'
  have l0 : ∀ x ∈ p0, x.block < W.heap.size := fun x hx => by
    refine hlt x ?_
    simp [hx]
  have z0 : ∀ n ∈ d0.weights Tryz.prog 3, n ≤ reachBytes := fun n hn => by simpa using List.all_eq_true.1 hz _ (DataW.weights_mem_each (j := 0) (t := 3) rfl rfl n hn)
  have o0 := hval 0 3 v0 rfl rfl
  have l1 : ∀ x ∈ p1, x.block < W.heap.size := fun x hx => by
    refine hlt x ?_
    simp [hx]
  have z1 : ∀ n ∈ d1.weights Tryz.prog 3, n ≤ reachBytes := fun n hn => by simpa using List.all_eq_true.1 hz _ (DataW.weights_mem_each (j := 1) (t := 3) rfl rfl n hn)
  have o1 := hval 1 3 v1 rfl rfl
  have l2 : ∀ x ∈ p2, x.block < W.heap.size := fun x hx => by
    refine hlt x ?_
    simp [hx]
  have z2 : ∀ n ∈ d2.weights Tryz.prog 5, n ≤ reachBytes := fun n hn => by simpa using List.all_eq_true.1 hz _ (DataW.weights_mem_each (j := 2) (t := 5) rfl rfl n hn)
  have o2 := hval 2 5 v2 rfl rfl
  have hT := turns_of hL
  obtain ⟨fs, rfl, rfl, rfl, hf⟩ := open_int Tryz.underlying3 o0 h0
  obtain ⟨ns, rfl, rfl, rfl, hn⟩ := open_int Tryz.underlying3 o1 h1
  obtain ⟨ys, rfl, rfl, rfl, hy⟩ := open_int Tryz.underlying5 o2 h2
  have hyr : 0 ≤ ys ∧ ys ≤ 255 := by simp only [Lit.wf, Bool.and_eq_true, decide_eq_true_eq] at hy; exact hy
  have hy2 : ((UInt8.ofNat ys.toNat).toNat : Int) = ys := by rw [UInt8.toNat_ofNat']; omega
  have hc := prefuses_any fs ns (UInt8.ofNat ys.toNat) W hT
  rw [hy2] at hc
  refine hc.mono fun e W' ⟨he, hb⟩ => ?_
  subst he
  exact ⟨_, rfl, post_below (pv := []) hW' hb (fun _ _ _ => trodAll_cons_mk (shut_bool Tryz.underlying4 _) trodAll_mk0)
    (trodAll_mk3 (Below.trod laidOut (by kernel_rfl) (of_decide_eq_true (by kernel_rfl)) k0 hb l0) (Below.trod laidOut (by kernel_rfl) (of_decide_eq_true (by kernel_rfl)) k1 hb l1) (Below.trod laidOut (by kernel_rfl) (of_decide_eq_true (by kernel_rfl)) k2 hb l2)) rfl⟩

theorem laid_met (os : Os) : laidMetH Tryz.prog Rows.poolRefusesRow.laid (((World.laidAll Tryz.prog os Rows.poolRefusesRow.laid).forCall (fun _ _ => 0) ⟨#[], #[.int .i64 0, .int .i64 0, .int .u8 0], []⟩).memory) := by
  rw [MakeChecks.laidMetH_plain _ _ _ (by kernel_rfl)]; exact laidMet_laidAll _ (by kernel_rfl) (by kernel_rfl)
theorem reads (os : Os) {H : Type} (enc : TypeId × Value → H) : ∃ places, DataW.whole enc Tryz.prog ((World.laidAll Tryz.prog os Rows.poolRefusesRow.laid).forCall (fun _ _ => 0) ⟨#[], #[.int .i64 0, .int .i64 0, .int .u8 0], []⟩).memory Tryz.f4.params.toList Rows.poolRefusesSpec.vars false #[.int .i64 0, .int .i64 0, .int .u8 0].toList 8 = some ([.lit (.int .i64 0), .lit (.int .i64 0), .lit (.int .u8 0)], [], places) :=
  ⟨[], by kernel_rfl⟩

set_option maxRecDepth 100000 in
theorem lifted (os : Os) (started : os.Started) (H : Type) (enc : TypeId × Value → H) (F : Stop.Interp) :
    ReturnsInHanded {} Tryz.checked os 4 .any ((OpenSpec.ofChange Rows.poolRefusesSpec).preRow enc Tryz.prog Tryz.f4 Rows.poolRefusesRow.domain false Rows.poolRefusesRow.laid) (((OpenSpec.ofChange Rows.poolRefusesSpec).at F).post enc Tryz.prog Tryz.f4 false true false false) := by
  obtain ⟨places, hx⟩ := reads os enc
  refine returnsInHanded_of_row (C := Tryz.checked) (s := OpenSpec.ofChange Rows.poolRefusesSpec) own started (by kernel_rfl) Tryz.func4
    (witness_row_at (enc := enc) (C := Tryz.checked) false (World.laidAll Tryz.prog os Rows.poolRefusesRow.laid) #[.int .i64 0, .int .i64 0, .int .u8 0] (World.laidAll_os _ _ _) (by kernel_rfl) (by kernel_rfl) (by kernel_rfl)
      (OpenSpec.preRow_of_cond 8 hx (by kernel_rfl) (fun k hk => by cases hk) (by kernel_rfl) (laid_met os))) ?_
  intro W base args ds gs before hval hW _ _ hz hL _ _
  exact contract H enc W base args ds gs before hval hW hz hL

theorem said : Rows.PoolRefusesSaid :=
  OpenClaim.holds_of_cond 4 Tryz.f4 rfl rfl rfl rfl rfl rfl rfl ⟨rfl, rfl, rfl, rfl, rfl⟩ rfl rfl rfl rfl rfl (by kernel_rfl) Tryz.func4 (by kernel_rfl)
    (of_decide_eq_true (by kernel_rfl)) (by unfold Func.isWrapper; first | (rw [if_pos (by decide +kernel)]; kernel_rfl) | (rw [if_neg (by decide +kernel)]; exact ⟨rfl, rfl⟩))
    (fun os started H enc _ F => by rw [OpenClaim.pre_eq_preRow]; exact lifted os started H enc F)

theorem plain (f : FuncId) (fn : Func) (hf : Tryz.pinned.checked.prog.funcNamed "concordance/concordancelaw10.PoolRefuses" = some f) (hfn : Tryz.pinned.checked.prog.funcs[f]? = some fn) :
    false = Tryz.pinned.checked.prog.looks [] ∧ ∀ (j : Nat) t, fn.params[j]? = some t → Tryz.pinned.checked.prog.wantsStandIn t = false := by
  obtain rfl : f = 4 := Option.some.inj ((show Tryz.prog.funcNamed "concordance/concordancelaw10.PoolRefuses" = some 4 by kernel_rfl).symm.trans hf) |>.symm
  obtain rfl : fn = Tryz.f4 := (Option.some.inj (Tryz.func4.symm.trans hfn)).symm
  refine ⟨by kernel_rfl, fun j t ht => ?_⟩
  rw [Tryz.params4] at ht
  have hm : t = 3 ∨ t = 3 ∨ t = 5 := by simpa using Array.mem_of_getElem? ht
  rcases hm with rfl | rfl | rfl
  · exact (show Tryz.prog.wantsStandIn 3 = false by kernel_rfl)
  · exact (show Tryz.prog.wantsStandIn 3 = false by kernel_rfl)
  · exact (show Tryz.prog.wantsStandIn 5 = false by kernel_rfl)

/-- THE CARD. -/
theorem card : Rows.PoolRefusesCardSaid :=
  Claim7.holds_tied_plain_at .later [] _ _ _ _ said (fun _ h => by cases h) (by kernel_rfl) (fun _ h => by cases h) poolRefuses_row_tie rfl ⟨rfl, rfl⟩ (by kernel_rfl) rfl plain (by kernel_rfl)
end Go.Proofs.YtjlcbabnkhdgpaaGreatDoor.poolRefuses
