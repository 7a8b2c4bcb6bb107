/-
  Walks: the device's Sync.
-/
import Derived.Test.YtjlcbabnkhdgpaaGreatDoorDevD
import Derived.Deep.LoopGhost
namespace Go.Proofs.YtjlcbabnkhdgpaaGreatDoor
set_option linter.unusedSimpArgs false
set_option linter.unusedVariables false
open Go.RowKit Go.Maps

set_option maxHeartbeats 3200000 in
set_option maxRecDepth 100000 in
theorem devsync_ok (n0 g m : Nat) (v kv : Value) (d : DevM) (w : World) (h : DevAt n0 w g m v kv d) (ho : d.off = false) (hfu : d.fuse ≠ 1) (hc : d.cmds < 1000000000) (hp : d.puts + d.wait.length ≤ d.cmds) :
    Calls Tryz.prog 114 #[.pointer (some ⟨g, 0, none⟩)] w fun e w' => e = .returned (.int .i64 0) ∧
      DevAt n0 w' g m (.slice none 0 0) kv { goM d with wait := [], last := putAll d.last d.wait, puts := d.puts + d.wait.length } ∧ Kept n0 g m w w' := by
  obtain ⟨⟨c0, c1, c2, c3, c4, c5, c6⟩, f2, f6⟩ := h.cells
  have hcm := command_go n0 g m v kv d w h hfu hc
  obtain ⟨fz, hfz⟩ : ∃ fz, fz = (if 1 < d.fuse then d.fuse - 1 else d.fuse) := ⟨_, rfl⟩
  have hgo : goM d = { d with fuse := fz, cmds := d.cmds + 1 } := by unfold goM; rw [hfz]
  rw [hgo] at hcm ⊢
  clear hgo hfz
  have hfit := h.fits
  have HFIT := Lib.hid hfit
  have HP := Lib.hid hp
  have hwl : d.wait.length ≤ 1000000000 := by have := hfit.2.2.2.1.2; omega
  rw [ho] at c3
  clear h ho hfu hfit hp
  go_enter Tryz.func114, Tryz.ntmps114
  go_wp2_with fail
  refine hcm.mono ?_
  clear hcm c0 c1 c2 c3 c4 c5 c6 f2 f6
  rintro e w1 ⟨rfl, hD, hK⟩
  obtain ⟨⟨_, _, c2, _⟩, _⟩ := hD.cells
  obtain ⟨A, cap, rfl, hw⟩ := hD.waits
  replace c2 : w1.cell? ⟨g, 2, none⟩ = some (.slice A d.wait.length cap) := c2
  have HD := Lib.hid hD; have HK := Lib.hid hK
  clear hD hK hw
  go_wp2_with fail
  go_loopg [21] d.wait.length (fun gh i wr => ∃ k : Nat, k ≤ d.wait.length ∧ gh = d.wait.length - k ∧ i = .int .i64 k ∧
    DevAt n0 wr g m (.slice A d.wait.length cap) kv { d with last := putAll d.last (d.wait.take k), puts := d.puts + k, fuse := fz, cmds := d.cmds + 1 } ∧ Kept n0 g m w wr)
  case atStart => exact ⟨0, Nat.zero_le _, rfl, rfl, by simpa [putAll] using HD.out, HK.out⟩
  case round =>
    clear HD HK c2
    obtain ⟨k, hk, rfl, rfl, hD, hK⟩ := hrel
    by_cases hlt : k < d.wait.length
    · have hfd := hD.fits
      have hn0 : n0 ≤ wr.heap.size := by have := hD; unfold DevAt at this; exact this.2.2.2.2.2.2
      obtain ⟨A', cap', hv, hw⟩ := hD.waits
      injection hv with hA _ hcap
      subst hA hcap
      obtain ⟨gb, rfl, e0, e1⟩ := hw k hlt
      obtain ⟨x, hx⟩ : ∃ x, x = d.wait[k] := ⟨_, rfl⟩
      have hxm : x ∈ d.wait := by rw [hx]; exact List.getElem_mem hlt
      dsimp only at e0 e1
      rw [← hx] at e0 e1
      have HX := Lib.hid hx
      have HXS : Hid (x.2.length = 256) := Lib.hid (HFIT.out.2.1 x hxm).2
      have HXI : Hid (in64 x.1) := Lib.hid (by have h1 := (HFIT.out.2.1 x hxm).1; have h2 := HFIT.out.1; unfold in64; omega)
      obtain ⟨sec, dat⟩ := x
      dsimp only at e0 e1
      have hb2 : Below wr.heap.size wr (wr.alloc (.cells #[.int .i64 sec, .string (bs dat)] 100)) := (Below.refl _ _).alloc (Nat.le_refl _) _
      have hD2 := hD.up hb2
      have hK2 := hK.trans (Kept.of_below hb2 hn0)
      have hB2 := Blk.made wr #[.int .i64 sec, .string (bs dat)] 100
      have HD := Lib.hid hD2; have HK := Lib.hid hK2; have HB := Lib.hid hB2
      have hn2 : n0 ≤ (wr.alloc (.cells #[.int .i64 sec, .string (bs dat)] 100)).heap.size := Nat.le_trans hn0 hb2.size
      clear hD hK hx hxm hw hD2 hK2 hB2 hb2 hfd
      go_wp2_with fail
      generalize wr.alloc (.cells #[.int .i64 sec, .string (bs dat)] 100) = w2 at *
      generalize wr.heap.size = wb at *
      clear e0 e1
      refine wp_region_late 8 (fun w' => w'.cell? ⟨g, 1, none⟩ = some (.map (some m)) ∧ w'.cell? ⟨wb, 0, none⟩ = some (.int .i64 sec) ∧ w'.cell? ⟨wb, 1, none⟩ = some (.string (bs dat))) (by kernel_rfl) ?_
      have bd : Below w2.heap.size w2 w2.drew := (Below.refl _ _).drew
      have hD3 := HD.out.up bd
      have hK3 := HK.out.trans (Kept.of_below bd hn2)
      have hT : w2.drew.cell? ⟨g, 1, none⟩ = some (.map (some m)) ∧ w2.drew.cell? ⟨wb, 0, none⟩ = some (.int .i64 sec) ∧ w2.drew.cell? ⟨wb, 1, none⟩ = some (.string (bs dat)) := ⟨HD.out.cells.1.2.1, HB.out.cell 0, HB.out.cell 1⟩
      clear HD HK HB bd hn0 hn2
      generalize w2.drew = w3 at *
      obtain ⟨w4, hrun, hM4, hg4⟩ := hD3.lasts.put (by have := HP.out; show d.puts + k < 1000000000; omega) sec HXI.out dat (by have h6 : dat.length = 256 := HXS.out; omega)
      have hP := hD3.put hM4 hg4 (by
        intro i s hs
        have hfd := hD3.fits.2.2.1
        dsimp only at hs hfd
        by_cases e : i = sec
        · rw [if_pos e] at hs
          cases hs
          exact HXS.out
        · rw [if_neg e] at hs
          exact hfd i s hs) (by have := HP.out; show d.puts + k + 1 ≤ d.cmds + 1; omega)
      have HD := Lib.hid hP.1; have HK := Lib.hid (hK3.trans hP.2)
      clear hP hM4 hg4 hD3 hK3
      show wpAnyK _ _ _ _ _ 8 9 #[false,false,false,false,false,false,false,false,false] _ _
      refine wpAnyK_takeAny (i := 0) (oi := ⟨some 25, _, _, _, _, _⟩) (v := ?_) rfl (by kernel_rfl) (by kernel_rfl) (by kernel_rfl) (by kernel_rfl) (fun _ _ _ h => h) (Or.inl ⟨by kernel_rfl, ?_⟩) (fun _ => hT) ?_
      rotate_left
      · intro w'; go_simp; rfl
      try simp only [Act.put, List.setIfInBounds_toArray, List.set_cons_zero, List.set_cons_succ]
      refine wpAnyK_takeAny (i := 1) (oi := ⟨some 26, _, _, _, _, _⟩) (v := ?_) rfl (by kernel_rfl) (by kernel_rfl) (by kernel_rfl) (by kernel_rfl) (fun _ _ _ h => h) (Or.inl ⟨by kernel_rfl, ?_⟩) (fun _ => hT) ?_
      rotate_left
      · intro w'; go_simp; rfl
      try simp only [Act.put, List.setIfInBounds_toArray, List.set_cons_zero, List.set_cons_succ]
      refine wpAnyK_takeAny (i := 2) (oi := ⟨some 27, _, _, _, _, _⟩) (v := ?_) rfl (by kernel_rfl) (by kernel_rfl) (by kernel_rfl) (by kernel_rfl) (fun _ _ _ h => h) (Or.inl ⟨by kernel_rfl, ?_⟩) (fun _ => hT) ?_
      rotate_left
      · intro w'; go_simp; rfl
      try simp only [Act.put, List.setIfInBounds_toArray, List.set_cons_zero, List.set_cons_succ]
      refine wpAnyK_take (i := 3) (oi := ⟨some 28, _, _, _, _, _⟩) (L := [8]) (v := ?_) rfl (by kernel_rfl) (by kernel_rfl) (by kernel_rfl) (by kernel_rfl) (fun _ _ _ h => h) (Or.inl ⟨by kernel_rfl, ?_⟩) hT ?_
      rotate_left
      · rintro w' ⟨t0, t1, t2⟩; go_simp; rfl
      try simp only [Act.put, List.setIfInBounds_toArray, List.set_cons_zero, List.set_cons_succ]
      refine wpAnyK_takeAny (i := 4) (oi := ⟨some 29, _, _, _, _, _⟩) (v := ?_) rfl (by kernel_rfl) (by kernel_rfl) (by kernel_rfl) (by kernel_rfl) (fun _ _ _ h => h) (Or.inl ⟨by kernel_rfl, ?_⟩) (fun _ => hT) ?_
      rotate_left
      · intro w'; go_simp; rfl
      try simp only [Act.put, List.setIfInBounds_toArray, List.set_cons_zero, List.set_cons_succ]
      refine wpAnyK_take (i := 5) (oi := ⟨some 30, _, _, _, _, _⟩) (L := [8]) (v := ?_) rfl (by kernel_rfl) (by kernel_rfl) (by kernel_rfl) (by kernel_rfl) (fun _ _ _ h => h) (Or.inl ⟨by kernel_rfl, ?_⟩) hT ?_
      rotate_left
      · rintro w' ⟨t0, t1, t2⟩; go_simp; rfl
      try simp only [Act.put, List.setIfInBounds_toArray, List.set_cons_zero, List.set_cons_succ]
      refine wpAnyK_takeAny (i := 6) (oi := ⟨some 31, _, _, _, _, _⟩) (v := ?_) rfl (by kernel_rfl) (by kernel_rfl) (by kernel_rfl) (by kernel_rfl) (fun _ _ _ h => h) (Or.inl ⟨by kernel_rfl, ?_⟩) (fun _ => hT) ?_
      rotate_left
      · intro w'; go_simp; rfl
      try simp only [Act.put, List.setIfInBounds_toArray, List.set_cons_zero, List.set_cons_succ]
      refine wpAnyK_take (i := 7) (oi := ⟨some 32, _, _, _, _, _⟩) (L := [8]) (v := ?_) rfl (by kernel_rfl) (by kernel_rfl) (by kernel_rfl) (by kernel_rfl) (fun _ _ _ h => h) (Or.inl ⟨by kernel_rfl, ?_⟩) hT ?_
      rotate_left
      · rintro w' ⟨t0, t1, t2⟩; go_simp; rfl
      try simp only [Act.put, List.setIfInBounds_toArray, List.set_cons_zero, List.set_cons_succ]
      refine wpAnyK_ready (rs := [8]) (by kernel_rfl) (by simp) ?_
      refine AllReadyK.cons (o := ⟨none, _, _, _, _, _⟩) rfl (fun K hK => ?_) AllReadyK.nil
      go_simp
      refine hK _ _ (fun h => by cases h) ?_
      clear hK K
      refine wpAnyK_done (by kernel_rfl) ?_ _
      have hD := HD.out
      clear HD hT hrun
      go_wp2_with fail
      go_roundg (d.wait.length - (k + 1))
      case measure => omega
      case rel =>
        refine ⟨k + 1, by omega, rfl, by go_num, ?_, HK.out⟩
        have e : putAll d.last (d.wait.take (k + 1)) = fun j => if j = sec then some dat else putAll d.last (d.wait.take k) j := by
          rw [List.take_succ_eq_append_getElem hlt, putAll_snoc, ← HX.out]
        rw [e]
        exact hD
    · have hkk : k = d.wait.length := by omega
      rw [hkk, List.take_length] at hD
      have hN := hD.none_
      have hS := Kept.setDev hD 2 (.slice none 0 0)
      have f2 := hD.cells.2.1
      have c2 := hD.cells.1.2.2.1
      have HN := Lib.hid hN; have HK := Lib.hid (hK.trans hS)
      clear hD hN hS hK hkk
      go_wp2_with fail
      go_ret
      exact ⟨rfl, HN.out, HK.out⟩

def syncM (d : DevM) : Int × DevM :=
  if d.off = true then (7, d) else if d.fuse = 1 then (7, failM d d.keep) else (0, { goM d with wait := [], last := putAll d.last d.wait, puts := d.puts + d.wait.length })
theorem syncM_cmds (d : DevM) : (syncM d).2.cmds ≤ d.cmds + 1 := by
  unfold syncM
  split
  · simp
  · split <;> simp [failM, goM]
set_option maxHeartbeats 1600000 in
set_option maxRecDepth 100000 in
theorem devsync_off (n0 g m : Nat) (v kv : Value) (d : DevM) (w : World) (h : DevAt n0 w g m v kv d) (ho : d.off = true) :
    Calls Tryz.prog 114 #[.pointer (some ⟨g, 0, none⟩)] w fun e w' => e = .returned (.int .i64 7) ∧ w = w' := by
  obtain ⟨⟨c0, c1, c2, c3, c4, c5, c6⟩, f2, f6⟩ := h.cells
  rw [ho] at c3
  clear h ho
  go_enter Tryz.func114, Tryz.ntmps114
  go_wp2_with fail
  go_ret
  exact ⟨rfl, rfl⟩
set_option maxHeartbeats 1600000 in
set_option maxRecDepth 100000 in
theorem devsync_no (n0 g m : Nat) (v kv : Value) (d : DevM) (w : World) (h : DevAt n0 w g m v kv d) (ho : d.off = false) (hfu : d.fuse = 1) (hp : d.puts + d.wait.length ≤ d.cmds) (hc : d.cmds < 1000000000) :
    Calls Tryz.prog 114 #[.pointer (some ⟨g, 0, none⟩)] w fun e w' => e = .returned (.int .i64 7) ∧
      DevAt n0 w' g m (.slice none 0 0) (.slice none 0 0) (failM d d.keep) ∧ Kept n0 g m w w' := by
  obtain ⟨⟨c0, c1, c2, c3, c4, c5, c6⟩, f2, f6⟩ := h.cells
  have hcm := command_no n0 g m v kv d w h hfu hp hc
  rw [ho] at c3
  clear h ho hfu
  go_enter Tryz.func114, Tryz.ntmps114
  go_wp2_with fail
  refine hcm.mono ?_
  clear hcm c0 c1 c2 c3 c4 c5 c6 f2 f6
  rintro e w1 ⟨rfl, hD, hK⟩
  have HD := Lib.hid hD; have HK := Lib.hid hK
  clear hD hK
  go_wp2_with fail
  go_ret
  exact ⟨rfl, HD.out, HK.out⟩
theorem devsync_any (n0 g m : Nat) (d : DevM) (w : World) (h : Dv n0 w g m d) (hc : d.cmds < 1000000000) :
    Calls Tryz.prog 114 #[.pointer (some ⟨g, 0, none⟩)] w fun e w' => e = .returned (.int .i64 (syncM d).1) ∧ Dv n0 w' g m (syncM d).2 ∧ Kept n0 g m w w' := by
  obtain ⟨⟨v, kv, h⟩, hp⟩ := h
  unfold syncM
  split
  · rename_i ho
    refine (devsync_off n0 g m v kv d w h ho).mono ?_
    rintro e w' ⟨rfl, rfl⟩
    exact ⟨rfl, ⟨⟨_, _, h⟩, hp⟩, Kept.refl _ _ _ _⟩
  · rename_i ho
    have ho : d.off = false := by simpa using ho
    split
    · rename_i hf
      refine (devsync_no n0 g m v kv d w h ho hf hp hc).mono ?_
      rintro e w' ⟨rfl, hD, hK⟩
      exact ⟨rfl, ⟨⟨_, _, hD⟩, by simpa [failM] using hp⟩, hK⟩
    · rename_i hf
      refine (devsync_ok n0 g m v kv d w h ho hf hc hp).mono ?_
      rintro e w' ⟨rfl, hD, hK⟩
      exact ⟨rfl, ⟨⟨_, _, hD⟩, by simp [goM]; omega⟩, hK⟩
end Go.Proofs.YtjlcbabnkhdgpaaGreatDoor
