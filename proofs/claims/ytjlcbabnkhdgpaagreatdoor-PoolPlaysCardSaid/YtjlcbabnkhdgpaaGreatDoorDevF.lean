/-
  Walks: the power goes: the device's fail; its command.
-/
import Derived.Test.YtjlcbabnkhdgpaaGreatDoorDevC
import Derived.Deep.LoopGhost
namespace Go.Proofs.YtjlcbabnkhdgpaaGreatDoor
set_option linter.unusedSimpArgs false
set_option linter.unusedVariables false
open Go.RowKit Go.Maps

/-- Is the k-th of what waits kept? -/
def keepAt (ks : List Int) (k : Nat) : Bool := decide (0 < ks.length) && decide (ks.getD (k % ks.length) 0 ≠ 0)
/-- What lasts when the first k of what waits were kept, or not. -/
def keptN (f : Int → Option (List UInt8)) (l : List (Int × List UInt8)) (ks : List Int) : Nat → Int → Option (List UInt8)
  | 0 => f
  | k + 1 => if keepAt ks k then fun j => if j = (l.getD k (0, [])).1 then some (l.getD k (0, [])).2 else keptN f l ks k j else keptN f l ks k
def failM (d : DevM) (ks : List Int) : DevM := { d with last := keptN d.last d.wait ks d.wait.length, wait := [], off := true, fuse := 0, keep := [], puts := d.puts + d.wait.length }
def cmdM (d : DevM) : Bool × DevM := if d.fuse = 1 then (false, failM d d.keep) else (true, { d with fuse := if 1 < d.fuse then d.fuse - 1 else d.fuse, cmds := d.cmds + 1 })

section
variable {w w' : World} {n0 g m : Nat} {v kv : Value} {d : DevM}
theorem ownsRow_ints {n1 : Nat} {u : Value} {ks : List Int} (ho' : w.ownsRow n1 3 1 u ks.length (ks.map (Value.int .i64))) :
    ∃ A cap, u = .slice A ks.length cap ∧ ∀ k, k < ks.length → ∃ gb, A = some ⟨gb, 0, none⟩ ∧ w.cell? ⟨gb, k, none⟩ = some (.int .i64 (ks.getD k 0)) := by
  have ho := ho'
  obtain ⟨hx, hh⟩ := ho
  rcases hh with ⟨hv, hn⟩ | ⟨gb, cap, cur, hv, _, _, _, _⟩
  · refine ⟨none, 0, by rw [hv, hn], fun k hk => by omega⟩
  · refine ⟨some ⟨gb, 0, none⟩, cap, hv, fun k hk => ⟨gb, rfl, ?_⟩⟩
    have := ho'.cells (g := gb) (by rw [hv]; rfl) k (.int .i64 (ks.getD k 0)) (by simp [List.getD, hk])
    have e : (⟨gb, 0, none⟩ : Addr).add k = ⟨gb, k, none⟩ := by unfold Addr.add; split <;> simp_all
    rw [e] at this
    exact this
theorem DevAt.more (h : DevAt n0 w g m v kv d) (hp : d.puts + 1 ≤ d.cmds) : DevAt n0 w g m v kv { d with puts := d.puts + 1 } := by
  unfold DevAt at *
  obtain ⟨h1, h2, ⟨n, D, q1, q2⟩, h4, h5, h6, h7⟩ := h
  exact ⟨h1, h2, ⟨n, D, by simp; omega, q2⟩, h4, h5, ⟨h6.1, h6.2.1, h6.2.2.1, ⟨hp, h6.2.2.2.1.2⟩, h6.2.2.2.2⟩, h7⟩
theorem DevAt.n0le (h : DevAt n0 w g m v kv d) : n0 ≤ w.heap.size := by unfold DevAt at h; exact h.2.2.2.2.2.2
theorem DevAt.map_ (h : DevAt n0 w g m v kv d) : ∃ es c, w.heap[m]? = some (.map es c) := by
  unfold DevAt at h
  obtain ⟨_, _, _, ho, _⟩ := h.2.2.1
  obtain ⟨es, c, hb, _⟩ := ho
  exact ⟨es, c, hb⟩
theorem DevAt.frozen (h : DevAt n0 w g m v kv d) (j : Nat) : w.frozen? ⟨g, j, none⟩ = false := h.blk.frozen j
/-- No row of what is kept any more. -/
theorem DevAt.nokeep (h : DevAt n0 w g m v kv d) : DevAt n0 (w.setCell ⟨g, 5, none⟩ (.slice none 0 0)) g m v (.slice none 0 0) { d with keep := [] } := by
  unfold DevAt at h
  obtain ⟨h1, h2, h3, h4, h5, h6, h7⟩ := h
  have hg := grown_setCell w g 5 (.slice none 0 0)
  have hmg : some m ≠ some g := by
    intro e
    injection e with e
    subst e
    obtain ⟨_, _, _, ho, _⟩ := h3
    obtain ⟨es, c, hb, _⟩ := ho
    unfold Blk at h2
    rw [h2] at hb
    cases hb
  unfold DevAt
  exact ⟨h1, by simpa using h2.set 5 (.slice none 0 0), h3.kept hg hmg, own_grown h4 h2 (by decide) hg, World.ownsRow_nil _ _ _ _, h6, by simpa [World.setCell] using h7⟩
theorem DevAt.blown (h : DevAt n0 w g m v kv d) :
    DevAt n0 ((((w.setCell ⟨g, 2, none⟩ (.slice none 0 0)).setCell ⟨g, 3, none⟩ (.bool true)).setCell ⟨g, 4, none⟩ (.int .i64 0)).setCell ⟨g, 5, none⟩ (.slice none 0 0)) g m (.slice none 0 0) (.slice none 0 0) { d with wait := [], off := true, fuse := 0, keep := [] } ∧
    Kept n0 g m w ((((w.setCell ⟨g, 2, none⟩ (.slice none 0 0)).setCell ⟨g, 3, none⟩ (.bool true)).setCell ⟨g, 4, none⟩ (.int .i64 0)).setCell ⟨g, 5, none⟩ (.slice none 0 0)) := by
  have k1 := Kept.setDev h 2 (.slice none 0 0)
  have h1 := h.none_
  have k2 := Kept.setDev h1 3 (.bool true)
  have h2 := h1.set (j := 3) (u := .bool true) (d' := { d with wait := [], off := true }) rfl rfl rfl rfl h1.fits (by simp)
  have k3 := Kept.setDev h2 4 (.int .i64 0)
  have h3 := h2.set (j := 4) (u := .int .i64 0) (d' := { d with wait := [], off := true, fuse := 0 }) rfl rfl rfl rfl ⟨h2.fits.1, h2.fits.2.1, h2.fits.2.2.1, h2.fits.2.2.2.1, by constructor <;> simp⟩ (by simp)
  exact ⟨h3.nokeep, ((k1.trans k2).trans k3).trans (Kept.setDev h3 5 _)⟩
theorem DevAt.row_put {n1 : Nat} {u : Value} {T : TypeId} {sz n : Nat} {xs : List Value} (h : DevAt n0 w g m v kv d) (ho : w.ownsRow n1 T sz u n xs) (hg : w.grownBy w' (some m)) : w'.ownsRow n1 T sz u n xs := by
  obtain ⟨es, c, hm⟩ := h.map_
  exact ownsRow_grown ho hg (fun gg e cs fz hh => by injection e with e; subst e; rw [hm] at hh; cases hh)
end

set_option maxHeartbeats 3200000 in
set_option maxRecDepth 100000 in
theorem devfail_any (n0 n1 g m : Nat) (v kv u : Value) (ks : List Int) (d : DevM) (w : World) (h : DevAt n0 w g m v kv d) (hp : d.puts + d.wait.length ≤ d.cmds) (hc : d.cmds < 1000000000) (hks : w.ownsRow n1 3 1 u ks.length (ks.map (Value.int .i64))) :
    Calls Tryz.prog 65 #[.pointer (some ⟨g, 0, none⟩), u] w fun e w' => e = .returned (.tuple #[]) ∧
      DevAt n0 w' g m (.slice none 0 0) (.slice none 0 0) (failM d ks) ∧ Kept n0 g m w w' := by
  obtain ⟨⟨c0, c1, c2, c3, c4, c5, c6⟩, f2, f6⟩ := h.cells
  obtain ⟨A, cap, rfl, hw⟩ := h.waits
  obtain ⟨AK, capK, hu, _⟩ := ownsRow_ints hks
  subst hu
  have hwl : d.wait.length ≤ 1000000000 := by have := h.fits.2.2.2.1.2; omega
  have hfit := h.fits
  have HFIT := Lib.hid hfit
  have HP := Lib.hid hp
  have HD := Lib.hid h; have HKS := Lib.hid hks
  clear h hp hfit hw hks
  go_enter Tryz.func65, Tryz.ntmps65
  go_wp2_with fail
  go_loopg [11] d.wait.length (fun gh i wr => ∃ k : Nat, k ≤ d.wait.length ∧ gh = d.wait.length - k ∧ i = .int .i64 k ∧
    DevAt n0 wr g m (.slice A d.wait.length cap) kv { d with last := keptN d.last d.wait ks k, puts := d.puts + k } ∧ wr.ownsRow n1 3 1 (.slice AK ks.length capK) ks.length (ks.map (Value.int .i64)) ∧ Kept n0 g m w wr)
  case atStart => exact ⟨0, Nat.zero_le _, rfl, rfl, HD.out, HKS.out, Kept.refl _ _ _ _⟩
  case round =>
    clear HD HKS c0 c1 c2 c3 c4 c5 c6 f2 f6
    obtain ⟨k, hk, rfl, rfl, hD, hS, hK⟩ := hrel
    by_cases hlt : k < d.wait.length
    · have hn0 := hD.n0le
      obtain ⟨A', cap', hv, hw⟩ := hD.waits
      injection hv with hA _ hcap
      subst hA hcap
      obtain ⟨gb, rfl, e0, e1⟩ := hw k hlt
      obtain ⟨x, hx⟩ : ∃ x, x = d.wait[k] := ⟨_, rfl⟩
      have hxm : x ∈ d.wait := by rw [hx]; exact List.getElem_mem hlt
      dsimp only at e0 e1
      rw [← hx] at e0 e1
      have hxd : d.wait.getD k (0, []) = x := by rw [hx]; simp [List.getD, hlt]
      have HX := Lib.hid hxd
      have HXS : Hid (x.2.length = 256) := Lib.hid (HFIT.out.2.1 x hxm).2
      have HXI : Hid (in64 x.1) := Lib.hid (by have h1 := (HFIT.out.2.1 x hxm).1; have h2 := HFIT.out.1; unfold in64; omega)
      obtain ⟨sec, dat⟩ := x
      dsimp only at e0 e1
      have hb2 : Below wr.heap.size wr (wr.alloc (.cells #[.int .i64 sec, .string (bs dat)] 100)) := (Below.refl _ _).alloc (Nat.le_refl _) _
      have hD2 := hD.up hb2
      have hK2 := hK.trans (Kept.of_below hb2 hn0)
      have hB2 := Blk.made wr #[.int .i64 sec, .string (bs dat)] 100
      have hS2 := ownsRow_grown hS (grown_of_below hb2 none) (by simp)
      have hn2 : n0 ≤ (wr.alloc (.cells #[.int .i64 sec, .string (bs dat)] 100)).heap.size := Nat.le_trans hn0 hb2.size
      obtain ⟨AK', capK', hu', hks2⟩ := ownsRow_ints hS2
      injection hu' with hA2 _ hcap2
      subst hA2 hcap2
      have HD := Lib.hid hD2; have HK := Lib.hid hK2; have HB := Lib.hid hB2; have HS := Lib.hid hS2
      clear hD hK hx hxm hw hD2 hK2 hB2 hb2 hS hS2 hxd
      by_cases hk0 : 0 < ks.length
      · have hmod : k % ks.length < ks.length := Nat.mod_lt _ hk0
        obtain ⟨kb, rfl, hkc⟩ := hks2 _ hmod
        clear hks2
        obtain ⟨kvl, hkvl⟩ : ∃ x, x = ks.getD (k % ks.length) 0 := ⟨_, rfl⟩
        rw [← hkvl] at hkc
        have HL := Lib.hid hkvl
        clear hkvl
        by_cases hkz : kvl = 0
        · subst hkz
          have hkn : keptN d.last d.wait ks (k + 1) = keptN d.last d.wait ks k := by
            have : keepAt ks k = false := by unfold keepAt; rw [← HL.out]; simp
            unfold keptN; rw [this]; simp; cases k <;> rfl
          have HN := Lib.hid hkn
          clear hkn
          go_wp2_with fail
          go_roundg (d.wait.length - (k + 1))
          case measure => omega
          case rel =>
            refine ⟨k + 1, by omega, rfl, by go_num, ?_, HS.out, HK.out⟩
            rw [HN.out]
            exact HD.out.more (by have := HP.out; show d.puts + k + 1 ≤ d.cmds; omega)
        · have hkn : keptN d.last d.wait ks (k + 1) = fun j => if j = sec then some dat else keptN d.last d.wait ks k j := by
            have : keepAt ks k = true := by unfold keepAt; rw [← HL.out]; simp [hk0, hkz]
            unfold keptN; rw [this, HX.out]; simp; cases k <;> rfl
          have HN := Lib.hid hkn
          clear hkn
          go_wp2_with fail
          generalize wr.alloc (.cells #[.int .i64 sec, .string (bs dat)] 100) = w2 at *
          generalize wr.heap.size = wb at *
          clear e0 e1 hkc
          refine wp_region_late 8 (fun w' => w'.cell? ⟨g, 1, none⟩ = some (.map (some m)) ∧ w'.cell? ⟨wb, 0, none⟩ = some (.int .i64 sec) ∧ w'.cell? ⟨wb, 1, none⟩ = some (.string (bs dat))) (by kernel_rfl) ?_
          have bd : Below w2.heap.size w2 w2.drew := (Below.refl _ _).drew
          have hD3 := HD.out.up bd
          have hK3 := HK.out.trans (Kept.of_below bd hn2)
          have hS3 := ownsRow_grown HS.out (grown_of_below bd none) (by simp)
          have hT : w2.drew.cell? ⟨g, 1, none⟩ = some (.map (some m)) ∧ w2.drew.cell? ⟨wb, 0, none⟩ = some (.int .i64 sec) ∧ w2.drew.cell? ⟨wb, 1, none⟩ = some (.string (bs dat)) := ⟨HD.out.cells.1.2.1, HB.out.cell 0, HB.out.cell 1⟩
          clear HD HK HB HS bd hn0 hn2
          generalize w2.drew = w3 at *
          obtain ⟨w4, hrun, hM4, hg4⟩ := hD3.lasts.put (by have := HP.out; show d.puts + k < 1000000000; omega) sec HXI.out dat (by have h6 : dat.length = 256 := HXS.out; omega)
          have hS4 := hD3.row_put hS3 hg4
          have hP := hD3.put hM4 hg4 (by
            intro i s hs
            have hfd := hD3.fits.2.2.1
            dsimp only at hs hfd
            by_cases e : i = sec
            · rw [if_pos e] at hs
              cases hs
              exact HXS.out
            · rw [if_neg e] at hs
              exact hfd i s hs) (by have := HP.out; show d.puts + k + 1 ≤ d.cmds; omega)
          have HD := Lib.hid hP.1; have HK := Lib.hid (hK3.trans hP.2); have HS := Lib.hid hS4
          clear hP hM4 hg4 hD3 hK3 hS3 hS4
          show wpAnyK _ _ _ _ _ 8 9 #[false,false,false,false,false,false,false,false,false] _ _
          refine wpAnyK_takeAny (i := 0) (oi := ⟨some 29, _, _, _, _, _⟩) (v := ?_) rfl (by kernel_rfl) (by kernel_rfl) (by kernel_rfl) (by kernel_rfl) (fun _ _ _ h => h) (Or.inl ⟨by kernel_rfl, ?_⟩) (fun _ => hT) ?_
          rotate_left
          · intro w'; go_simp; rfl
          try simp only [Act.put, List.setIfInBounds_toArray, List.set_cons_zero, List.set_cons_succ]
          refine wpAnyK_takeAny (i := 1) (oi := ⟨some 30, _, _, _, _, _⟩) (v := ?_) rfl (by kernel_rfl) (by kernel_rfl) (by kernel_rfl) (by kernel_rfl) (fun _ _ _ h => h) (Or.inl ⟨by kernel_rfl, ?_⟩) (fun _ => hT) ?_
          rotate_left
          · intro w'; go_simp; rfl
          try simp only [Act.put, List.setIfInBounds_toArray, List.set_cons_zero, List.set_cons_succ]
          refine wpAnyK_takeAny (i := 2) (oi := ⟨some 31, _, _, _, _, _⟩) (v := ?_) rfl (by kernel_rfl) (by kernel_rfl) (by kernel_rfl) (by kernel_rfl) (fun _ _ _ h => h) (Or.inl ⟨by kernel_rfl, ?_⟩) (fun _ => hT) ?_
          rotate_left
          · intro w'; go_simp; rfl
          try simp only [Act.put, List.setIfInBounds_toArray, List.set_cons_zero, List.set_cons_succ]
          refine wpAnyK_take (i := 3) (oi := ⟨some 32, _, _, _, _, _⟩) (L := [8]) (v := ?_) rfl (by kernel_rfl) (by kernel_rfl) (by kernel_rfl) (by kernel_rfl) (fun _ _ _ h => h) (Or.inl ⟨by kernel_rfl, ?_⟩) hT ?_
          rotate_left
          · rintro w' ⟨t0, t1, t2⟩; go_simp; rfl
          try simp only [Act.put, List.setIfInBounds_toArray, List.set_cons_zero, List.set_cons_succ]
          refine wpAnyK_takeAny (i := 4) (oi := ⟨some 33, _, _, _, _, _⟩) (v := ?_) rfl (by kernel_rfl) (by kernel_rfl) (by kernel_rfl) (by kernel_rfl) (fun _ _ _ h => h) (Or.inl ⟨by kernel_rfl, ?_⟩) (fun _ => hT) ?_
          rotate_left
          · intro w'; go_simp; rfl
          try simp only [Act.put, List.setIfInBounds_toArray, List.set_cons_zero, List.set_cons_succ]
          refine wpAnyK_take (i := 5) (oi := ⟨some 34, _, _, _, _, _⟩) (L := [8]) (v := ?_) rfl (by kernel_rfl) (by kernel_rfl) (by kernel_rfl) (by kernel_rfl) (fun _ _ _ h => h) (Or.inl ⟨by kernel_rfl, ?_⟩) hT ?_
          rotate_left
          · rintro w' ⟨t0, t1, t2⟩; go_simp; rfl
          try simp only [Act.put, List.setIfInBounds_toArray, List.set_cons_zero, List.set_cons_succ]
          refine wpAnyK_takeAny (i := 6) (oi := ⟨some 35, _, _, _, _, _⟩) (v := ?_) rfl (by kernel_rfl) (by kernel_rfl) (by kernel_rfl) (by kernel_rfl) (fun _ _ _ h => h) (Or.inl ⟨by kernel_rfl, ?_⟩) (fun _ => hT) ?_
          rotate_left
          · intro w'; go_simp; rfl
          try simp only [Act.put, List.setIfInBounds_toArray, List.set_cons_zero, List.set_cons_succ]
          refine wpAnyK_take (i := 7) (oi := ⟨some 36, _, _, _, _, _⟩) (L := [8]) (v := ?_) rfl (by kernel_rfl) (by kernel_rfl) (by kernel_rfl) (by kernel_rfl) (fun _ _ _ h => h) (Or.inl ⟨by kernel_rfl, ?_⟩) hT ?_
          rotate_left
          · rintro w' ⟨t0, t1, t2⟩; go_simp; rfl
          try simp only [Act.put, List.setIfInBounds_toArray, List.set_cons_zero, List.set_cons_succ]
          refine wpAnyK_ready (rs := [8]) (by kernel_rfl) (by simp) ?_
          refine AllReadyK.cons (o := ⟨none, _, _, _, _, _⟩) rfl (fun K hK => ?_) AllReadyK.nil
          go_simp
          refine hK _ _ (fun h => by cases h) ?_
          clear hK K
          refine wpAnyK_done (by kernel_rfl) ?_ _
          have hD := HD.out
          clear HD hT hrun
          go_wp2_with fail
          go_roundg (d.wait.length - (k + 1))
          case measure => omega
          case rel =>
            refine ⟨k + 1, by omega, rfl, by go_num, ?_, HS.out, HK.out⟩
            rw [HN.out]
            exact hD
      · have hz : ks = [] := List.eq_nil_of_length_eq_zero (by omega)
        subst hz
        have hkn : keptN d.last d.wait [] (k + 1) = keptN d.last d.wait [] k := by
          unfold keptN; simp [keepAt]; cases k <;> rfl
        have HN := Lib.hid hkn
        clear hks2 hk0 hkn
        go_wp2_with fail
        go_roundg (d.wait.length - (k + 1))
        case measure => omega
        case rel =>
          refine ⟨k + 1, by omega, rfl, by go_num, ?_, HS.out, HK.out⟩
          rw [HN.out]
          exact HD.out.more (by have := HP.out; show d.puts + k + 1 ≤ d.cmds; omega)
    · have hkk : k = d.wait.length := by omega
      subst hkk
      have hB := hD.blown
      obtain ⟨⟨_, _, c2, c3, c4, c5, _⟩, _⟩ := hD.cells
      dsimp only at c2 c3 c4 c5
      have f2 := hD.frozen 2
      have f3 := hD.frozen 3
      have f4 := hD.frozen 4
      have f5 := hD.frozen 5
      have HB := Lib.hid hB.1; have HK := Lib.hid (hK.trans hB.2)
      clear hB hD hK hS
      go_wp2_with fail
      go_end0
      exact ⟨rfl, HB.out, HK.out⟩

/-- A command is done. -/
def goM (d : DevM) : DevM := { d with fuse := if 1 < d.fuse then d.fuse - 1 else d.fuse, cmds := d.cmds + 1 }
set_option maxHeartbeats 1600000 in
set_option maxRecDepth 100000 in
theorem command_go (n0 g m : Nat) (v kv : Value) (d : DevM) (w : World) (h : DevAt n0 w g m v kv d) (hf : d.fuse ≠ 1) (hc : d.cmds < 1000000000) :
    Calls Tryz.prog 43 #[.pointer (some ⟨g, 0, none⟩)] w fun e w' => e = .returned (.bool true) ∧ DevAt n0 w' g m v kv (goM d) ∧ Kept n0 g m w w' := by
  have hfit := h.fits
  have hfr := hfit.2.2.2.2
  by_cases h1 : 1 < d.fuse
  · have k1 := Kept.setDev h 4 (.int .i64 (d.fuse - 1))
    have q1 := h.set (j := 4) (u := .int .i64 (d.fuse - 1)) (d' := { d with fuse := d.fuse - 1 }) rfl rfl rfl rfl ⟨hfit.1, hfit.2.1, hfit.2.2.1, hfit.2.2.2.1, by constructor <;> simp <;> omega⟩ (by simp)
    have k2 := Kept.setDev q1 6 (.int .i64 ((d.cmds : Int) + 1))
    have q2 := q1.set (j := 6) (u := .int .i64 ((d.cmds : Int) + 1)) (d' := { d with fuse := d.fuse - 1, cmds := d.cmds + 1 }) rfl rfl rfl rfl ⟨hfit.1, hfit.2.1, hfit.2.2.1, ⟨by have := hfit.2.2.2.1.1; simp; omega, by have := hfit.2.2.2.1.2; simp; omega⟩, by constructor <;> simp <;> omega⟩ (by simp)
    have e : goM d = { d with fuse := d.fuse - 1, cmds := d.cmds + 1 } := by unfold goM; rw [if_pos h1]
    rw [e]
    obtain ⟨⟨c0, c1, c2, c3, c4, c5, c6⟩, _, f6⟩ := h.cells
    have f4 := h.frozen 4
    have hne : (d.fuse == 1) = false := by simpa using hf
    have HD := Lib.hid q2; have HK := Lib.hid (k1.trans k2)
    clear h hfit q1 q2 k1 k2 e
    have f2 : ¬ d.fuse - 1 < -9223372036854775808 := by omega
    have f3 : IntKind.i64.wrap (d.fuse - 1) = d.fuse - 1 := by rw [IntKind.wrap_i64]; omega
    go_enter Tryz.func43, Tryz.ntmps43
    go_wp2_with fail
    go_ret
    exact ⟨rfl, HD.out, HK.out⟩
  · have h0 : d.fuse = 0 := by omega
    have k2 := Kept.setDev h 6 (.int .i64 ((d.cmds : Int) + 1))
    have q2 := h.set (j := 6) (u := .int .i64 ((d.cmds : Int) + 1)) (d' := { d with cmds := d.cmds + 1 }) rfl rfl rfl rfl ⟨hfit.1, hfit.2.1, hfit.2.2.1, ⟨by have := hfit.2.2.2.1.1; simp; omega, by have := hfit.2.2.2.1.2; simp; omega⟩, hfr⟩ (by simp)
    have e : goM d = { d with cmds := d.cmds + 1 } := by unfold goM; rw [if_neg h1]
    rw [e]
    obtain ⟨⟨c0, c1, c2, c3, c4, c5, c6⟩, _, f6⟩ := h.cells
    rw [h0] at c4
    have HD := Lib.hid q2; have HK := Lib.hid k2
    clear h hfit q2 k2 e hf h0 h1 hfr
    go_enter Tryz.func43, Tryz.ntmps43
    go_wp2_with fail
    go_ret
    exact ⟨rfl, HD.out, HK.out⟩

set_option maxHeartbeats 1600000 in
set_option maxRecDepth 100000 in
theorem command_no (n0 g m : Nat) (v kv : Value) (d : DevM) (w : World) (h : DevAt n0 w g m v kv d) (hf : d.fuse = 1) (hp : d.puts + d.wait.length ≤ d.cmds) (hc : d.cmds < 1000000000) :
    Calls Tryz.prog 43 #[.pointer (some ⟨g, 0, none⟩)] w fun e w' => e = .returned (.bool false) ∧ DevAt n0 w' g m (.slice none 0 0) (.slice none 0 0) (failM d d.keep) ∧ Kept n0 g m w w' := by
  have hks : w.ownsRow n0 3 1 kv d.keep.length (d.keep.map (Value.int .i64)) := by have := h; unfold DevAt at this; exact this.2.2.2.2.1
  have hcall := devfail_any n0 n0 g m v kv kv d.keep d w h hp hc hks
  obtain ⟨⟨c0, c1, c2, c3, c4, c5, c6⟩, _, f6⟩ := h.cells
  rw [hf] at c4
  clear h hf hks
  go_enter Tryz.func43, Tryz.ntmps43
  go_wp2_with fail
  refine hcall.mono ?_
  clear hcall
  rintro e w1 ⟨rfl, hD, hK⟩
  have HD := Lib.hid hD; have HK := Lib.hid hK
  clear hD hK
  go_wp2_with fail
  go_ret
  exact ⟨rfl, HD.out, HK.out⟩
end Go.Proofs.YtjlcbabnkhdgpaaGreatDoor
