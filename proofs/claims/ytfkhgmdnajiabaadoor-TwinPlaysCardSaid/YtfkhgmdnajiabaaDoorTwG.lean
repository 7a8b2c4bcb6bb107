/-
  Walks: the device's Off, On, Open, Blow, Fuse; slices.Clone of numbers.
-/
import Derived.Test.YtfkhgmdnajiabaaDoorTwF
import Derived.Laws.AppendOwn
import Derived.Lib.SliceRun
import Derived.Laws.OwnMore
import Derived.Lib.AppendZeros
namespace Go.Proofs.YtfkhgmdnajiabaaDoor
set_option linter.unusedSimpArgs false
set_option linter.unusedVariables false
open Go.RowKit Go.Maps

theorem info_int : ∃ i z, Tryd.prog.info? 3 = some i ∧ i.zero = some z ∧ i.size = 1 ∧ i.bytes = 8 ∧ z.cells.size = 1 := by
  have h : (Tryd.prog.info? 3).bind (fun i => i.zero.map fun z => (i.size, i.bytes, z.cells.size)) = some (1, 8, 1) := by kernel_rfl
  cases hi : Tryd.prog.info? 3 with
  | none => rw [hi] at h; simp at h
  | some i =>
    rw [hi] at h
    cases hz : i.zero with
    | none => simp [hz] at h
    | some z =>
      simp [hz] at h
      exact ⟨i, z, rfl, hz, h.1, h.2.1, h.2.2⟩
/-- Numbers in a slice. -/
def IntsAt (w : World) (v : Value) (ks : List Int) : Prop := ∃ A cap, v = .slice A ks.length cap ∧ (A = none → cap = 0 ∧ ks = []) ∧ ∀ ad, A = some ad → ∀ (j : Nat) (u : Value), (ks.map (Value.int .i64))[j]? = some u → w.cell? (ad.add j) = some u
theorem ints_append (base : Nat) (v : Value) (xs ks : List Int) (s : Value) (w : World) (ho : w.ownsRow base 3 1 v xs.length (xs.map (Value.int .i64))) (hs : IntsAt w s ks) (hx : xs.length ≤ 1000000) (hk : ks.length ≤ 1000000) (hb : base ≤ w.heap.size) :
    ∃ v' w', (Builtin.append_ #[52, 52] 52 #[v, s]).run Tryd.prog w = .ok v' w' ∧ w'.ownsRow base 3 1 v' (xs ++ ks).length ((xs ++ ks).map (Value.int .i64)) ∧ w.grownBy w' v.ownBlock := by
  obtain ⟨A, cap, rfl, h1, h2⟩ := hs
  obtain ⟨i, z, hi, hz, hsz, hby, hzs⟩ := info_int
  cases A with
  | none =>
    obtain ⟨rfl, rfl⟩ := h1 rfl
    have hr := run_append_owned_none (P := Tryd.prog) (w := w) base 52 52 3 i 1 Tryd.underlying52 hi v _ _ ho
    exact ⟨v, w, hr, by simpa using ho, ⟨rfl, rfl, rfl, Nat.le_refl _, fun _ _ _ => rfl⟩⟩
  | some ad =>
    obtain ⟨v', w', hr, q1, q2, _⟩ := run_append_own (P := Tryd.prog) w base 52 52 3 i z 1 8 Tryd.underlying52 hi hz hsz hby hzs (by decide) v xs.length _ ho ad ks.length cap (ks.map (Value.int .i64)) (by simp) (h2 ad rfl)
      (fun u hu => by obtain ⟨x, _, rfl⟩ := List.mem_map.1 hu; rfl) (by unfold maxLen; omega) (by omega) hb
    exact ⟨v', w', hr, by simpa using q1, q2⟩
theorem IntsAt.of_own {base : Nat} {v : Value} {ks : List Int} {w : World} (ho : w.ownsRow base 3 1 v ks.length (ks.map (Value.int .i64))) : IntsAt w v ks := by
  have ho' := ho
  obtain ⟨hx, hh⟩ := ho
  rcases hh with ⟨hv, hn⟩ | ⟨gb, cap, cur, hv, _, _, _, _⟩
  · have : ks = [] := List.eq_nil_of_length_eq_zero hn
    subst this
    exact ⟨none, 0, hv, fun _ => ⟨rfl, rfl⟩, fun ad h => by cases h⟩
  · exact ⟨some ⟨gb, 0, none⟩, cap, hv, (fun h => by cases h), fun ad h j u hu => by cases h; exact ho'.cells (g := gb) (by rw [hv]; rfl) j u hu⟩
theorem IntsAt.below {w w' : World} {v : Value} {ks : List Int} (h : IntsAt w v ks) (hb : Below w.heap.size w w') : IntsAt w' v ks := by
  obtain ⟨A, cap, rfl, h1, h2⟩ := h
  exact ⟨A, cap, rfl, h1, fun ad e j u hu => up_cell hb (h2 ad e j u hu)⟩

set_option maxHeartbeats 800000 in
set_option maxRecDepth 100000 in
theorem clone_any (ks : List Int) (s : Value) (w : World) (hs : IntsAt w s ks) (hk : ks.length ≤ 1000000) :
    Calls Tryd.prog 36 #[s] w fun e w' => ∃ v, e = .returned v ∧ w'.ownsRow w.heap.size 3 1 v ks.length (ks.map (Value.int .i64)) ∧ Below w.heap.size w w' := by
  have hs' := hs
  obtain ⟨A, cap, rfl, h1, h2⟩ := hs
  have qe := fun (w : World) (a : Option Addr) (n c n' c' : Nat) => Lib.run_eql_slice_nil (P := Tryd.prog) w 52 3 a n c n' c' Tryd.underlying52
  cases A with
  | none =>
    obtain ⟨rfl, rfl⟩ := h1 rfl
    clear hs' h2
    go_enter Tryd.func36, Tryd.ntmps36
    go_wp2_with fail
    go_ret
    exact ⟨_, rfl, World.ownsRow_nil _ _ _ _, Below.refl _ _⟩
  | some ad =>
    obtain ⟨w1, hw1⟩ : ∃ x, x = w.alloc (.cells #[] 3) := ⟨_, rfl⟩
    have hb1 : Below w.heap.size w w1 := by rw [hw1]; exact (Below.refl _ _).alloc (Nat.le_refl _) _
    have ho : w1.ownsRow w.heap.size 3 1 (.slice (some ⟨w.heap.size, 0, none⟩) 0 0) ([] : List Int).length (([] : List Int).map (Value.int .i64)) := by
      rw [hw1]
      exact World.ownsRow_made w #[] 0 (Nat.le_refl _) (by unfold maxLen; omega) (by simp)
    obtain ⟨v', w', hr, q1, q2⟩ := ints_append w.heap.size _ [] ks _ w1 ho (hs'.below hb1) (by simp) hk hb1.size
    have hb2 : Below w.heap.size w w' := hb1.grown q2 hb1.size (fun k e => by simp [Value.ownBlock] at e; omega)
    have H1 := Lib.hid q1; have H2 := Lib.hid hb2
    simp only [List.nil_append] at H1
    rw [hw1] at hr
    clear hs' h2 h1 hb1 ho q1 q2 hb2 hw1
    go_enter Tryd.func36, Tryd.ntmps36
    go_wp2_with (at_builtin; refine Lib.wpList_append_run _ rfl _ _ _ _ rfl _ _ rfl rfl _ _ hr ?_)
    go_ret
    exact ⟨_, rfl, H1.out, H2.out⟩

def onM (d : DevM) : DevM := { d with off := false, fuse := 0, keep := [] }
def fuseM (d : DevM) (n : Int) (ks : List Int) : DevM := { d with fuse := max n 1, keep := ks }
section
variable {w w' : World} {n0 g m : Nat} {v kv : Value} {d : DevM}
theorem ownsRow_base {base base' : Nat} {e : TypeId} {sz n : Nat} {v : Value} {xs : List Value} (h : w.ownsRow base e sz v n xs) (hb : base' ≤ base) : w.ownsRow base' e sz v n xs := by
  refine ⟨h.1, ?_⟩
  rcases h.2 with h2 | ⟨g, cap, cur, hv, hg, q⟩
  · exact Or.inl h2
  · exact Or.inr ⟨g, cap, cur, hv, Nat.le_trans hb hg, q⟩
theorem DevAt.setKeep (h : DevAt n0 w g m v kv d) (ks : List Int) (kv' : Value) (ho : w.ownsRow n0 3 1 kv' ks.length (ks.map (Value.int .i64))) : DevAt n0 (w.setCell ⟨g, 5, none⟩ kv') g m v kv' { d with keep := ks } := by
  unfold DevAt at h
  obtain ⟨h1, h2, h3, h4, h5, h6, h7⟩ := h
  have hg := grown_setCell w g 5 kv'
  have hmg : some m ≠ some g := by
    intro e
    injection e with e
    subst e
    obtain ⟨_, _, _, ho, _⟩ := h3
    obtain ⟨es, c, hb, _⟩ := ho
    unfold Blk at h2
    rw [h2] at hb
    cases hb
  unfold DevAt
  exact ⟨h1, by simpa using h2.set 5 kv', h3.kept hg hmg, own_grown h4 h2 (by decide) hg, own_grown ho h2 (by decide) hg, h6, by simpa [World.setCell] using h7⟩
end

set_option maxHeartbeats 800000 in
set_option maxRecDepth 100000 in
theorem devoff_any (n0 g m : Nat) (d : DevM) (w : World) (h : Dv n0 w g m d) :
    Calls Tryd.prog 22 #[.pointer (some ⟨g, 0, none⟩)] w fun e w' => e = .returned (.bool d.off) ∧ w = w' := by
  obtain ⟨⟨v, kv, h⟩, _⟩ := h
  obtain ⟨⟨_, _, _, c3, _⟩, _⟩ := h.cells
  clear h
  go_enter Tryd.func22, Tryd.ntmps22
  go_wp2_with fail
  go_ret
  exact ⟨rfl, rfl⟩
set_option maxHeartbeats 1600000 in
set_option maxRecDepth 100000 in
theorem devon_any (n0 g m : Nat) (d : DevM) (w : World) (h : Dv n0 w g m d) :
    Calls Tryd.prog 18 #[.pointer (some ⟨g, 0, none⟩)] w fun e w' => e = .returned (.tuple #[]) ∧ Dv n0 w' g m (onM d) ∧ Kept n0 g m w w' := by
  obtain ⟨⟨v, kv, h⟩, hp⟩ := h
  have hf := h.fits
  have k1 := Kept.setDev h 3 (.bool false)
  have h1 := h.set (j := 3) (u := .bool false) (d' := { d with off := false }) rfl rfl rfl rfl hf (by simp)
  have k2 := Kept.setDev h1 4 (.int .i64 0)
  have h2 := h1.set (j := 4) (u := .int .i64 0) (d' := { d with off := false, fuse := 0 }) rfl rfl rfl rfl ⟨hf.1, hf.2.1, hf.2.2.1, hf.2.2.2.1, by constructor <;> simp⟩ (by simp)
  have k3 := Kept.setDev h2 5 (.slice none 0 0)
  have h3 := h2.nokeep
  have H : Hid (Dv n0 _ g m (onM d)) := Lib.hid ⟨⟨v, _, h3⟩, hp⟩
  have HK := Lib.hid ((k1.trans k2).trans k3)
  have f3 := h.frozen 3
  have f4 := h.frozen 4
  have f5 := h.frozen 5
  obtain ⟨⟨_, _, _, c3, c4, c5, _⟩, _⟩ := h.cells
  clear h k1 h1 k2 h2 k3 h3 hf hp
  go_enter Tryd.func18, Tryd.ntmps18
  go_wp2_with fail
  go_end0
  exact ⟨rfl, H.out, HK.out⟩
set_option maxHeartbeats 1600000 in
set_option maxRecDepth 100000 in
theorem devfuse_any (n0 g m : Nat) (d : DevM) (n : Int) (ks : List Int) (s : Value) (w : World) (h : Dv n0 w g m d) (hs : IntsAt w s ks) (hk : ks.length ≤ 1000000) (ho : d.off = false) (hn : n ≤ 1000000) :
    Calls Tryd.prog 20 #[.pointer (some ⟨g, 0, none⟩), .int .i64 n, s] w fun e w' => e = .returned (.tuple #[]) ∧ Dv n0 w' g m (fuseM d n ks) ∧ Kept n0 g m w w' := by
  obtain ⟨⟨v, kv, h⟩, hp⟩ := h
  have f3 := h.frozen 3
  obtain ⟨⟨_, _, _, c3, c4, c5, _⟩, _⟩ := h.cells
  rw [ho] at c3
  have H := Lib.hid h
  have hcl := clone_any ks s w hs hk
  clear h hs
  go_enter Tryd.func20, Tryd.ntmps20
  go_wp2_with fail
  refine hcl.mono ?_
  rintro e w1 ⟨kv', rfl, how, hb⟩
  obtain ⟨A', cap', hkv, _, _⟩ := IntsAt.of_own how
  subst hkv
  have h1 := H.out.up hb
  have hf := h1.fits
  have how' := ownsRow_base how H.out.n0le
  have k0 : Kept n0 g m w w1 := Kept.of_below hb H.out.n0le
  have k1 := Kept.setDev h1 4 (.int .i64 (max n 1))
  have h2 := h1.set (j := 4) (u := .int .i64 (max n 1)) (d' := { d with fuse := max n 1 }) rfl rfl rfl rfl ⟨hf.1, hf.2.1, hf.2.2.1, hf.2.2.2.1, by constructor <;> show _ ≤ _ <;> simp <;> omega⟩ (by simp)
  have k2 := Kept.setDev h2 5 (.slice A' ks.length cap')
  have hr := own_grown how' h1.blk (by decide) (grown_setCell w1 g 4 (.int .i64 (max n 1)))
  have h3 := h2.setKeep ks _ hr
  have HD : Hid (Dv n0 _ g m (fuseM d n ks)) := Lib.hid ⟨⟨v, _, h3⟩, hp⟩
  have HK := Lib.hid ((k0.trans k1).trans k2)
  have f4 := h1.frozen 4
  have f5 := h1.frozen 5
  obtain ⟨⟨_, _, _, _, d4, d5, _⟩, _⟩ := h1.cells
  clear hcl how hb h1 hf how' k0 k1 h2 k2 hr h3 H c3 c4 c5 f3 hp
  go_wp2_with fail
  go_end0
  exact ⟨rfl, HD.out, HK.out⟩
set_option maxHeartbeats 1600000 in
set_option maxRecDepth 100000 in
theorem devopen_any (n0 g m : Nat) (d : DevM) (w : World) (h : Dv n0 w g m d) :
    Calls Tryd.prog 19 #[.pointer (some ⟨g, 0, none⟩)] w fun e w' => e = .returned (.tuple #[.int .i64 d.wait.length, .int .i64 d.cmds]) ∧ Below w.heap.size w w' := by
  obtain ⟨⟨v, kv, h⟩, hp⟩ := h
  obtain ⟨A, cap, rfl, _⟩ := h.waits
  obtain ⟨⟨_, _, c2, _, _, _, c6⟩, _⟩ := h.cells
  clear h
  go_enter Tryd.func19, Tryd.ntmps19
  go_wp2_with fail
  refine wp_region_q (fun W => Below w.heap.size w W) (by kernel_rfl) (by kernel_rfl) (Below.refl _ _).drew ?_
  refine q_val (o := ⟨some 6, _, _, _, _, _⟩) (v := ?_) (by kernel_rfl) (fun W hW => ?_) ?_
  rotate_left
  · go_simp; rfl
  try simp only [Act.put, List.setIfInBounds_toArray, List.set_cons_zero, List.set_cons_succ]
  refine q_val (o := ⟨some 7, _, _, _, _, _⟩) (v := ?_) (by kernel_rfl) (fun W hW => ?_) ?_
  rotate_left
  · go_simp; rfl
  try simp only [Act.put, List.setIfInBounds_toArray, List.set_cons_zero, List.set_cons_succ]
  refine q_val (o := ⟨some 8, _, _, _, _, _⟩) (v := ?_) (by kernel_rfl) (fun W hW => ?_) ?_
  rotate_left
  · go_simp; rfl
  try simp only [Act.put, List.setIfInBounds_toArray, List.set_cons_zero, List.set_cons_succ]
  refine q_val (o := ⟨some 9, _, _, _, _, _⟩) (v := ?_) (by kernel_rfl) (fun W hW => ?_) ?_
  rotate_left
  · have c2 := up_cell hW c2; have c6 := up_cell hW c6; go_simp; rfl
  try simp only [Act.put, List.setIfInBounds_toArray, List.set_cons_zero, List.set_cons_succ]
  refine q_val (o := ⟨some 10, _, _, _, _, _⟩) (v := ?_) (by kernel_rfl) (fun W hW => ?_) ?_
  rotate_left
  · go_simp; rfl
  try simp only [Act.put, List.setIfInBounds_toArray, List.set_cons_zero, List.set_cons_succ]
  refine q_val (o := ⟨some 11, _, _, _, _, _⟩) (v := ?_) (by kernel_rfl) (fun W hW => ?_) ?_
  rotate_left
  · go_simp; rfl
  try simp only [Act.put, List.setIfInBounds_toArray, List.set_cons_zero, List.set_cons_succ]
  refine q_val (o := ⟨some 12, _, _, _, _, _⟩) (v := ?_) (by kernel_rfl) (fun W hW => ?_) ?_
  rotate_left
  · go_simp; rfl
  try simp only [Act.put, List.setIfInBounds_toArray, List.set_cons_zero, List.set_cons_succ]
  refine q_val (o := ⟨some 13, _, _, _, _, _⟩) (v := ?_) (by kernel_rfl) (fun W hW => ?_) ?_
  rotate_left
  · go_simp; rfl
  try simp only [Act.put, List.setIfInBounds_toArray, List.set_cons_zero, List.set_cons_succ]
  refine q_val (o := ⟨some 14, _, _, _, _, _⟩) (v := ?_) (by kernel_rfl) (fun W hW => ?_) ?_
  rotate_left
  · have c2 := up_cell hW c2; have c6 := up_cell hW c6; go_simp; rfl
  try simp only [Act.put, List.setIfInBounds_toArray, List.set_cons_zero, List.set_cons_succ]
  refine q_val (o := ⟨some 2, _, _, _, _, _⟩) (v := ?_) (by kernel_rfl) (fun W hW => ?_) ?_
  rotate_left
  · go_simp; rfl
  try simp only [Act.put, List.setIfInBounds_toArray, List.set_cons_zero, List.set_cons_succ]
  refine q_val (o := ⟨some 3, _, _, _, _, _⟩) (v := ?_) (by kernel_rfl) (fun W hW => ?_) ?_
  rotate_left
  · go_simp; rfl
  try simp only [Act.put, List.setIfInBounds_toArray, List.set_cons_zero, List.set_cons_succ]
  refine q_end (fun W hW => ?_)
  go_wp2_with fail
  go_ret2
  exact ⟨rfl, hW⟩
set_option maxHeartbeats 1600000 in
set_option maxRecDepth 100000 in
theorem devblow_any (n0 g m : Nat) (d : DevM) (w : World) (h : Dv n0 w g m d) (ho : d.off = false) (hc : d.cmds < 1000000000) :
    Calls Tryd.prog 17 #[.pointer (some ⟨g, 0, none⟩), .slice none 0 0] w fun e w' => e = .returned (.tuple #[]) ∧ Dv n0 w' g m (failM d []) ∧ Kept n0 g m w w' := by
  have hoff := devoff_any n0 g m d w h
  rw [ho] at hoff
  obtain ⟨⟨v, kv, h⟩, hp⟩ := h
  have hfl := devfail_any n0 0 g m v kv (.slice none 0 0) [] d w h hp hc (World.ownsRow_nil _ _ _ _)
  clear h
  go_enter Tryd.func17, Tryd.ntmps17
  go_wp2_with fail
  refine hoff.mono ?_
  rintro e w1 ⟨rfl, rfl⟩
  go_wp2_with fail
  refine hfl.mono ?_
  rintro e w1 ⟨rfl, hD, hK⟩
  have HD : Hid (Dv n0 w1 g m (failM d [])) := Lib.hid ⟨⟨_, _, hD⟩, hp⟩
  have HK := Lib.hid hK
  clear hD hK hfl hoff
  go_wp2_with fail
  go_end0
  exact ⟨rfl, HD.out, HK.out⟩
end Go.Proofs.YtfkhgmdnajiabaaDoor
