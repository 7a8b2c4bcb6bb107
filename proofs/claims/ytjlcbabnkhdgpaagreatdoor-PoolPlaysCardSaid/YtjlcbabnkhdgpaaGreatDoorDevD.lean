/-
  Walks: the device's Write.
-/
import Derived.Test.YtjlcbabnkhdgpaaGreatDoorDevF
namespace Go.Proofs.YtjlcbabnkhdgpaaGreatDoor
set_option linter.unusedSimpArgs false
set_option linter.unusedVariables false
open Go.RowKit Go.Maps

theorem entTwo (i : Int) (s : List UInt8) : ∀ u ∈ ([.int .i64 i, .string (bs s)] : List Value), u.oneCell' = true := by
  intro u hu
  simp at hu
  rcases hu with h | h <;> subst h <;> rfl

/-- A device, for its users: what it holds, and that its counts agree. -/
def Dv (n0 : Nat) (w : World) (g m : Nat) (d : DevM) : Prop := (∃ v kv, DevAt n0 w g m v kv d) ∧ d.puts + d.wait.length ≤ d.cmds
def padB (s : List UInt8) : List UInt8 := s ++ List.replicate (256 - s.length) 0
def writeM (d : DevM) (i : Int) (s : List UInt8) : Int × DevM :=
  if d.off = true then (7, d) else if i < 0 ∨ d.size ≤ i then (1, d) else if 256 < s.length then (6, d) else if d.fuse = 1 then (7, failM d d.keep) else (0, { goM d with wait := d.wait ++ [(i, padB s)] })

set_option maxHeartbeats 1600000 in
set_option maxRecDepth 100000 in
theorem devwrite_off (n0 g m : Nat) (v kv : Value) (d : DevM) (i : Int) (s : List UInt8) (w : World) (h : DevAt n0 w g m v kv d) (ho : d.off = true) :
    Calls Tryz.prog 18 #[.pointer (some ⟨g, 0, none⟩), .int .i64 i, .string (bs s)] w fun e w' => e = .returned (.int .i64 7) ∧ w = w' := by
  obtain ⟨⟨c0, c1, c2, c3, c4, c5, c6⟩, f2, f6⟩ := h.cells
  rw [ho] at c3
  clear h ho
  go_enter Tryz.func18, Tryz.ntmps18
  go_wp2
  go_ret
  exact ⟨rfl, rfl⟩
set_option maxHeartbeats 1600000 in
set_option maxRecDepth 100000 in
theorem devwrite_arg (n0 g m : Nat) (v kv : Value) (d : DevM) (i : Int) (s : List UInt8) (w : World) (h : DevAt n0 w g m v kv d) (ho : d.off = false) (hi : i < 0 ∨ d.size ≤ i) :
    Calls Tryz.prog 18 #[.pointer (some ⟨g, 0, none⟩), .int .i64 i, .string (bs s)] w fun e w' => e = .returned (.int .i64 1) ∧ w = w' := by
  obtain ⟨⟨c0, c1, c2, c3, c4, c5, c6⟩, f2, f6⟩ := h.cells
  rw [ho] at c3
  clear h ho
  by_cases h1 : i < 0
  · clear hi
    go_enter Tryz.func18, Tryz.ntmps18
    go_wp2
    go_ret
    exact ⟨rfl, rfl⟩
  · have h2 : d.size ≤ i := by omega
    clear hi
    go_enter Tryz.func18, Tryz.ntmps18
    go_wp2
    go_ret
    exact ⟨rfl, rfl⟩
set_option maxHeartbeats 1600000 in
set_option maxRecDepth 100000 in
theorem devwrite_long (n0 g m : Nat) (v kv : Value) (d : DevM) (i : Int) (s : List UInt8) (w : World) (h : DevAt n0 w g m v kv d) (ho : d.off = false) (hi : 0 ≤ i ∧ i < d.size) (hs : 256 < s.length) :
    Calls Tryz.prog 18 #[.pointer (some ⟨g, 0, none⟩), .int .i64 i, .string (bs s)] w fun e w' => e = .returned (.int .i64 6) ∧ w = w' := by
  obtain ⟨⟨c0, c1, c2, c3, c4, c5, c6⟩, f2, f6⟩ := h.cells
  rw [ho] at c3
  obtain ⟨i1, i2⟩ := hi
  have i3 : ¬ i < 0 := by omega
  have i4 : ¬ d.size ≤ i := by omega
  have i5 : (256 : Int) < (s.length : Int) := by omega
  clear h ho
  go_enter Tryz.func18, Tryz.ntmps18
  go_wp2
  go_ret
  exact ⟨rfl, rfl⟩
set_option maxHeartbeats 1600000 in
set_option maxRecDepth 100000 in
theorem devwrite_no (n0 g m : Nat) (v kv : Value) (d : DevM) (i : Int) (s : List UInt8) (w : World) (h : DevAt n0 w g m v kv d) (ho : d.off = false) (hfu : d.fuse = 1) (hi : 0 ≤ i ∧ i < d.size) (hs : s.length ≤ 256) (hp : d.puts + d.wait.length ≤ d.cmds) (hc : d.cmds < 1000000000) :
    Calls Tryz.prog 18 #[.pointer (some ⟨g, 0, none⟩), .int .i64 i, .string (bs s)] w fun e w' => e = .returned (.int .i64 7) ∧
      DevAt n0 w' g m (.slice none 0 0) (.slice none 0 0) (failM d d.keep) ∧ Kept n0 g m w w' := by
  obtain ⟨⟨c0, c1, c2, c3, c4, c5, c6⟩, f2, f6⟩ := h.cells
  have hcm := command_no n0 g m v kv d w h hfu hp hc
  rw [ho] at c3
  obtain ⟨i1, i2⟩ := hi
  have i3 : ¬ i < 0 := by omega
  have i4 : ¬ d.size ≤ i := by omega
  have i5 : ¬ (256 : Int) < (s.length : Int) := by omega
  clear h ho hfu
  go_enter Tryz.func18, Tryz.ntmps18
  go_wp2_with fail
  refine hcm.mono ?_
  clear hcm c0 c1 c2 c3 c4 c5 c6 f2 f6
  rintro e w1 ⟨rfl, hD, hK⟩
  have HD := Lib.hid hD; have HK := Lib.hid hK
  clear hD hK
  go_wp2_with fail
  go_ret
  exact ⟨rfl, HD.out, HK.out⟩

set_option maxHeartbeats 3200000 in
set_option maxRecDepth 100000 in
theorem devwrite_ok (n0 g m : Nat) (v kv : Value) (d : DevM) (i : Int) (s : List UInt8) (w : World) (h : DevAt n0 w g m v kv d) (ho : d.off = false) (hfu : d.fuse ≠ 1) (hi : 0 ≤ i ∧ i < d.size) (hs : s.length ≤ 256) (hc : d.cmds < 1000000000) :
    Calls Tryz.prog 18 #[.pointer (some ⟨g, 0, none⟩), .int .i64 i, .string (bs s)] w fun e w' => e = .returned (.int .i64 0) ∧
      (∃ v', DevAt n0 w' g m v' kv { goM d with wait := d.wait ++ [(i, padB s)] }) ∧ Kept n0 g m w w' := by
  obtain ⟨⟨c0, c1, c2, c3, c4, c5, c6⟩, f2, f6⟩ := h.cells
  have hcm := command_go n0 g m v kv d w h hfu hc
  have hwl : d.wait.length ≤ d.cmds := h.fits.2.2.2.1.2
  have HWL := Lib.hid hwl
  clear hwl hfu
  have hn0 : n0 ≤ w.heap.size := by unfold DevAt at h; exact h.2.2.2.2.2.2
  rw [ho] at c3
  obtain ⟨i1, i2⟩ := hi
  have i3 : ¬ i < 0 := by omega
  have i4 : ¬ d.size ≤ i := by omega
  have i5 : ¬ (256 : Int) < (s.length : Int) := by omega
  clear h ho
  go_enter Tryz.func18, Tryz.ntmps18
  go_wp2_with fail
  refine hcm.mono ?_
  clear hcm c0 c1 c2 c3 c4 c5 c6 f2 f6
  rintro e w1 ⟨rfl, hD, hK⟩
  have hn1 : n0 ≤ w1.heap.size := by unfold DevAt at hD; exact hD.2.2.2.2.2.2
  have HD := Lib.hid hD; have HK := Lib.hid hK
  clear hD hK
  go_wp2_with fail
  have c2 := HD.out.cells.1.2.2.1
  refine wp_region_late 14 (fun w' => w'.cell? ⟨g, 2, none⟩ = some v) (by kernel_rfl) ?_
  have bd : Below w1.heap.size w1 w1.drew := (Below.refl _ _).drew
  have hD2 := HD.out.up bd
  have hK2 := HK.out.trans (Kept.of_below bd hn1)
  have hT : w1.drew.cell? ⟨g, 2, none⟩ = some v := c2
  have hn2 : n0 ≤ w1.drew.heap.size := hn1
  clear HD HK bd c2
  have HD := Lib.hid hD2; have HK := Lib.hid hK2
  clear hD2 hK2
  generalize w1.drew = w2 at *
  show wpAnyK _ _ _ _ _ 14 18 #[false,false,false,false,false,false,false,false,false,false,false,false,false,false,false,false,false,false] _ _
  refine wpAnyK_takeAny (i := 0) (oi := ⟨some 34, _, _, _, _, _⟩) (v := ?_) rfl (by kernel_rfl) (by kernel_rfl) (by kernel_rfl) (by kernel_rfl) (fun _ _ _ h => h) (Or.inl ⟨by kernel_rfl, ?_⟩) (fun _ => hT) ?_
  rotate_left
  · intro w'; go_simp; rfl
  try simp only [Act.put, List.setIfInBounds_toArray, List.set_cons_zero, List.set_cons_succ]
  refine wpAnyK_takeAny (i := 1) (oi := ⟨some 35, _, _, _, _, _⟩) (v := ?_) rfl (by kernel_rfl) (by kernel_rfl) (by kernel_rfl) (by kernel_rfl) (fun _ _ _ h => h) (Or.inl ⟨by kernel_rfl, ?_⟩) (fun _ => hT) ?_
  rotate_left
  · intro w'; go_simp; rfl
  try simp only [Act.put, List.setIfInBounds_toArray, List.set_cons_zero, List.set_cons_succ]
  refine wpAnyK_takeAny (i := 2) (oi := ⟨some 36, _, _, _, _, _⟩) (v := ?_) rfl (by kernel_rfl) (by kernel_rfl) (by kernel_rfl) (by kernel_rfl) (fun _ _ _ h => h) (Or.inl ⟨by kernel_rfl, ?_⟩) (fun _ => hT) ?_
  rotate_left
  · intro w'; go_simp; rfl
  try simp only [Act.put, List.setIfInBounds_toArray, List.set_cons_zero, List.set_cons_succ]
  refine wpAnyK_takeAny (i := 3) (oi := ⟨some 37, _, _, _, _, _⟩) (v := ?_) rfl (by kernel_rfl) (by kernel_rfl) (by kernel_rfl) (by kernel_rfl) (fun _ _ _ h => h) (Or.inl ⟨by kernel_rfl, ?_⟩) (fun _ => hT) ?_
  rotate_left
  · intro w'; go_simp; rfl
  try simp only [Act.put, List.setIfInBounds_toArray, List.set_cons_zero, List.set_cons_succ]
  refine wpAnyK_take (i := 4) (oi := ⟨some 38, _, _, _, _, _⟩) (L := [14]) (v := ?_) rfl (by kernel_rfl) (by kernel_rfl) (by kernel_rfl) (by kernel_rfl) (fun _ _ _ h => h) (Or.inl ⟨by kernel_rfl, ?_⟩) hT ?_
  rotate_left
  · rintro w' t0; go_simp; rfl
  try simp only [Act.put, List.setIfInBounds_toArray, List.set_cons_zero, List.set_cons_succ]
  refine wpAnyK_takeAny (i := 5) (oi := ⟨some 39, _, _, _, _, _⟩) (v := ?_) rfl (by kernel_rfl) (by kernel_rfl) (by kernel_rfl) (by kernel_rfl) (fun _ _ _ h => h) (Or.inl ⟨by kernel_rfl, ?_⟩) (fun _ => hT) ?_
  rotate_left
  · intro w'; go_simp; rfl
  try simp only [Act.put, List.setIfInBounds_toArray, List.set_cons_zero, List.set_cons_succ]
  refine wpAnyK_takeAny (i := 6) (oi := ⟨some 40, _, _, _, _, _⟩) (v := ?_) rfl (by kernel_rfl) (by kernel_rfl) (by kernel_rfl) (by kernel_rfl) (fun _ _ _ h => h) (Or.inl ⟨by kernel_rfl, ?_⟩) (fun _ => hT) ?_
  rotate_left
  · intro w'; go_simp; rfl
  try simp only [Act.put, List.setIfInBounds_toArray, List.set_cons_zero, List.set_cons_succ]
  refine wpAnyK_takeAny (i := 7) (oi := ⟨some 41, _, _, _, _, _⟩) (v := ?_) rfl (by kernel_rfl) (by kernel_rfl) (by kernel_rfl) (by kernel_rfl) (fun _ _ _ h => h) (Or.inl ⟨by kernel_rfl, ?_⟩) (fun _ => hT) ?_
  rotate_left
  · intro w'; go_simp; rfl
  try simp only [Act.put, List.setIfInBounds_toArray, List.set_cons_zero, List.set_cons_succ]
  refine wpAnyK_takeAny (i := 8) (oi := ⟨some 42, _, _, _, _, _⟩) (v := ?_) rfl (by kernel_rfl) (by kernel_rfl) (by kernel_rfl) (by kernel_rfl) (fun _ _ _ h => h) (Or.inl ⟨by kernel_rfl, ?_⟩) (fun _ => hT) ?_
  rotate_left
  · intro w'; go_simp; rfl
  try simp only [Act.put, List.setIfInBounds_toArray, List.set_cons_zero, List.set_cons_succ]
  refine wpAnyK_takeAny (i := 9) (oi := ⟨some 43, _, _, _, _, _⟩) (v := ?_) rfl (by kernel_rfl) (by kernel_rfl) (by kernel_rfl) (by kernel_rfl) (fun _ _ _ h => h) (Or.inl ⟨by kernel_rfl, ?_⟩) (fun _ => hT) ?_
  rotate_left
  · intro w'; go_simp; rfl
  try simp only [Act.put, List.setIfInBounds_toArray, List.set_cons_zero, List.set_cons_succ]
  clear hT
  refine wpAnyK_ready (rs := [10]) (by kernel_rfl) (by simp) ?_
  refine AllReadyK.cons (o := ⟨some 44, _, _, _, _, _⟩) rfl (fun K hK => ?_) AllReadyK.nil
  go_simp
  have wsub : IntKind.i64.wrap ((256 : Int) - (s.length : Int)) = ((256 - s.length : Nat) : Int) := by rw [IntKind.wrap_i64]; omega
  have wsub2 : ((256 : Int) - (s.length : Int)) = ((256 - s.length : Nat) : Int) := by omega
  first | rw [wsub] | rw [wsub2]
  clear wsub wsub2
  refine (Tryz.strings_Repeat ⟨#[0]⟩ (256 - s.length) w2 (by omega) (by show 1 * (256 - s.length) ≤ _; omega)).mono ?_
  rintro e w3 ⟨rfl, hby⟩
  rw [repeat_zero]
  have hD3 := HD.out.up hby
  have hK3 := HK.out.trans (Kept.of_below hby hn2)
  have hn3 : n0 ≤ w3.heap.size := Nat.le_trans hn2 hby.size
  clear HD HK hby
  have HD := Lib.hid hD3; have HK := Lib.hid hK3
  clear hD3 hK3
  refine hK _ _ (fun _ => HD.out.cells.1.2.2.1) ?_
  clear hK K
  obtain ⟨pad, hpad⟩ : ∃ x, x = List.replicate (256 - s.length) (0 : UInt8) := ⟨_, rfl⟩
  rw [← hpad]
  have hpl : pad.length = 256 - s.length := by rw [hpad, List.length_replicate]
  have hq : ¬ 9223372036854775807 < s.length + pad.length := by omega
  have hsl : (s ++ pad).length = 256 := by rw [List.length_append]; omega
  have HPAD := Lib.hid hpad
  clear hpad
  refine wpAnyK_takeAny (i := 11) (oi := ⟨some 45, _, _, _, _, _⟩) (v := ?_) rfl (by kernel_rfl) (by kernel_rfl) (by kernel_rfl) (by kernel_rfl) (fun _ _ _ h => h) (Or.inl ⟨by kernel_rfl, ?_⟩) (fun _ => HD.out.cells.1.2.2.1) ?_
  rotate_left
  · intro w'; go_simp; rfl
  try simp only [Act.put, List.setIfInBounds_toArray, List.set_cons_zero, List.set_cons_succ]
  obtain ⟨sp, hsp⟩ : ∃ x, x = s ++ pad := ⟨_, rfl⟩
  rw [← hsp] at hsl ⊢
  have HSL := Lib.hid hsl; have HSP := Lib.hid (hsp.trans (by rw [HPAD.out]))
  clear hsl hpl hq hsp HPAD
  refine wpAnyK_takeAny (i := 12) (oi := ⟨some 46, _, _, _, _, _⟩) (v := ?_) rfl (by kernel_rfl) (by kernel_rfl) (by kernel_rfl) (by kernel_rfl) (fun _ _ _ h => h) (Or.inl ⟨by kernel_rfl, ?_⟩) (fun _ => HD.out.cells.1.2.2.1) ?_
  rotate_left
  · intro w'; go_simp; rfl
  try simp only [Act.put, List.setIfInBounds_toArray, List.set_cons_zero, List.set_cons_succ]
  have hb4 : Below w3.heap.size w3 (w3.alloc (.cells #[.int .i64 i, .string (bs sp)] 100)) := (Below.refl _ _).alloc (Nat.le_refl _) _
  have hD4 := HD.out.up hb4
  have hK4 := HK.out.trans (Kept.of_below hb4 hn3)
  have hn4 : n0 ≤ (w3.alloc (.cells #[.int .i64 i, .string (bs sp)] 100)).heap.size := Nat.le_trans hn3 hb4.size
  have hnews : ∀ j y, ([.int .i64 i, .string (bs sp)] : List Value)[j]? = some y → (w3.alloc (.cells #[.int .i64 i, .string (bs sp)] 100)).cell? ((⟨w3.heap.size, 0, none⟩ : Addr).add j) = some y :=
    fun j y hj => World.news_of_block (Blk.made w3 #[.int .i64 i, .string (bs sp)] 100) j y (by simpa using hj)
  clear HD HK hb4
  refine wpAnyK_ready (rs := [13]) (by kernel_rfl) (by simp) ?_
  refine AllReadyK.cons (o := ⟨some 47, _, _, _, _, _⟩) rfl (fun K hK => ?_) AllReadyK.nil
  go_simp
  refine hK _ _ (fun _ => hD4.cells.1.2.2.1) ?_
  clear hK K
  generalize w3.alloc (.cells #[.int .i64 i, .string (bs sp)] 100) = w4 at *
  generalize w3.heap.size = gE at *
  have hown : w4.ownsRow n0 100 2 v d.wait.length (waitCells d.wait) := by have := hD4; unfold DevAt at this; exact this.2.2.2.1
  obtain ⟨i0, z0, hi0, hz0, hs0, hb0, hc0⟩ := info_write
  refine wpAnyK_ready (rs := [14]) (by kernel_rfl) (by simp) ?_
  refine AllReadyK.cons (o := ⟨some 48, _, _, _, _, _⟩) rfl (fun K hK => ?_) AllReadyK.nil
  refine step_append_lies w4 rfl (.tmp 38) (.tmp 47) 72 rfl n0 100 i0 z0 2 24 Tryz.underlying72 hi0 hz0 hs0 hb0 hc0 (by decide) v d.wait.length _ rfl hown ⟨gE, 0, none⟩ 1 1 [.int .i64 i, .string (bs sp)] rfl rfl hnews (entTwo _ _) (by decide) ?c1 ?c2 hn4 _ rfl ?_
  case c1 => have := HWL.out; unfold maxLen; omega
  case c2 => have := HWL.out; omega
  intro g2 n2 w5 hown5 hgr5 _ _
  try simp only [Act.put, List.setIfInBounds_toArray, List.set_cons_zero, List.set_cons_succ]
  obtain ⟨hb5, hD5, hK5⟩ := hD4.grow hgr5 i sp ⟨i1, i2⟩ HSL.out (by have := HWL.out; show d.wait.length + 1 ≤ d.cmds + 1; omega) hown5
  have hc5 := hb5.cell 2
  have hf5 := hb5.frozen 2
  replace hc5 : w5.cell? ⟨g, 2, none⟩ = some v := hc5
  refine hK _ _ (fun h => by cases h) ?_
  have HD := Lib.hid hD5; have HK := Lib.hid (hK4.trans hK5)
  clear hK K hown5 hgr5 hnews hown hD4 hK4 hi0 hz0 hs0 hb0 hc0 hb5 hD5 hK5
  refine wpAnyK_takeAny (i := 15) (oi := ⟨some 49, _, _, _, _, _⟩) (v := ?_) rfl (by kernel_rfl) (by kernel_rfl) (by kernel_rfl) (by kernel_rfl) (fun _ _ _ h => h) (Or.inl ⟨by kernel_rfl, ?_⟩) (fun h => by cases h) ?_
  rotate_left
  · intro w'; go_simp; rfl
  try simp only [Act.put, List.setIfInBounds_toArray, List.set_cons_zero, List.set_cons_succ]
  refine wpAnyK_takeAny (i := 16) (oi := ⟨some 50, _, _, _, _, _⟩) (v := ?_) rfl (by kernel_rfl) (by kernel_rfl) (by kernel_rfl) (by kernel_rfl) (fun _ _ _ h => h) (Or.inl ⟨by kernel_rfl, ?_⟩) (fun h => by cases h) ?_
  rotate_left
  · intro w'; go_simp; rfl
  try simp only [Act.put, List.setIfInBounds_toArray, List.set_cons_zero, List.set_cons_succ]
  refine wpAnyK_ready (rs := [17]) (by kernel_rfl) (by simp) ?_
  refine AllReadyK.cons (o := ⟨none, _, _, _, _, _⟩) rfl (fun K hK => ?_) AllReadyK.nil
  go_simp
  refine hK _ _ (fun h => by cases h) ?_
  clear hK K
  refine wpAnyK_done (by kernel_rfl) ?_ _
  clear hc5 hf5
  go_wp2_with fail
  go_ret
  have hD := HD.out
  rw [HSP.out] at hD
  exact ⟨rfl, ⟨_, hD⟩, HK.out⟩

theorem writeM_cmds (d : DevM) (i : Int) (s : List UInt8) : (writeM d i s).2.cmds ≤ d.cmds + 1 := by
  unfold writeM
  split
  · simp
  · split
    · simp
    · split
      · simp
      · split <;> simp [failM, goM]
theorem devwrite_any (n0 g m : Nat) (d : DevM) (i : Int) (s : List UInt8) (w : World) (h : Dv n0 w g m d) (hc : d.cmds < 1000000000) :
    Calls Tryz.prog 18 #[.pointer (some ⟨g, 0, none⟩), .int .i64 i, .string (bs s)] w fun e w' => e = .returned (.int .i64 (writeM d i s).1) ∧
      Dv n0 w' g m (writeM d i s).2 ∧ Kept n0 g m w w' := by
  obtain ⟨⟨v, kv, h⟩, hp⟩ := h
  unfold writeM
  split
  · rename_i ho
    refine (devwrite_off n0 g m v kv d i s w h ho).mono ?_
    rintro e w' ⟨rfl, rfl⟩
    exact ⟨rfl, ⟨⟨_, _, h⟩, hp⟩, Kept.refl _ _ _ _⟩
  · rename_i ho
    have ho : d.off = false := by simpa using ho
    split
    · rename_i hi
      refine (devwrite_arg n0 g m v kv d i s w h ho hi).mono ?_
      rintro e w' ⟨rfl, rfl⟩
      exact ⟨rfl, ⟨⟨_, _, h⟩, hp⟩, Kept.refl _ _ _ _⟩
    · rename_i hi
      have hi : 0 ≤ i ∧ i < d.size := by omega
      split
      · rename_i hs
        refine (devwrite_long n0 g m v kv d i s w h ho hi hs).mono ?_
        rintro e w' ⟨rfl, rfl⟩
        exact ⟨rfl, ⟨⟨_, _, h⟩, hp⟩, Kept.refl _ _ _ _⟩
      · rename_i hs
        split
        · rename_i hf
          refine (devwrite_no n0 g m v kv d i s w h ho hf hi (by omega) hp hc).mono ?_
          rintro e w' ⟨rfl, hD, hK⟩
          exact ⟨rfl, ⟨⟨_, _, hD⟩, by simpa [failM] using hp⟩, hK⟩
        · rename_i hf
          refine (devwrite_ok n0 g m v kv d i s w h ho hf hi (by omega) hc).mono ?_
          rintro e w' ⟨rfl, ⟨v', hD⟩, hK⟩
          exact ⟨rfl, ⟨⟨_, _, hD⟩, by simp [goM]; omega⟩, hK⟩
end Go.Proofs.YtjlcbabnkhdgpaaGreatDoor
