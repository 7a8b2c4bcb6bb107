/-
  The law PoolPins, walked.
-/
import Derived.Test.YtjlcbabnkhdgpaaGreatDoorPinsB
import Derived.Maps.AppendAt
import Derived.Maps.OwnIn
import Derived.BigQuiet
import Derived.Test.YtjlcbabnkhdgpaaGreatDoorTwK
namespace Go.Proofs.YtjlcbabnkhdgpaaGreatDoor
section
set_option linter.unusedSimpArgs false
set_option linter.unusedVariables false
open Go.RowKit Go.Maps

/-- A frame. -/
structure FrM where
  bytes : List UInt8
  pins : Nat
  dirty : Bool
/-- A page's number, its frame's block, its frame. -/
abbrev Hl := Int × Nat × FrM
def psOf (hs : List Hl) : List (Int × Nat) := hs.map fun x => (x.1, x.2.1)
def frC (f : FrM) : Array Value := #[.string (bs f.bytes), .int .i64 (f.pins : Int), .bool f.dirty]
def fd (hs : List Hl) (k : Int) : Option (Nat × FrM) := (hs.find? (fun x => x.1 == k)).map (·.2)
def setF (hs : List Hl) (k : Int) (f : FrM) : List Hl := hs.map fun x => if x.1 = k then (x.1, x.2.1, f) else x
def insF (hs : List Hl) (k : Int) (y : Nat × FrM) : List Hl := hs.take (posL (psOf hs) k) ++ [(k, y)] ++ hs.drop (posL (psOf hs) k)
def delF (hs : List Hl) (k : Int) : List Hl := if hasL (psOf hs) k = true then hs.take (posL (psOf hs) k) ++ hs.drop (posL (psOf hs) k + 1) else hs
theorem psOf_length (hs : List Hl) : (psOf hs).length = hs.length := List.length_map _
theorem hasL_fd (hs : List Hl) (k : Int) : hasL (psOf hs) k = (fd hs k).isSome := by
  unfold hasL psOf fd
  rw [List.any_map, Option.isSome_map, Bool.eq_iff_iff, List.any_eq_true, List.find?_isSome]
  exact Iff.rfl
theorem getL_fd (hs : List Hl) (k : Int) : getL (psOf hs) k = (fd hs k).map (·.1) := by
  unfold getL psOf fd
  rw [List.find?_map, Option.map_map, Option.map_map]
  rfl
theorem gpL_fd (hs : List Hl) (k : Int) : gpL (psOf hs) k = (fd hs k).map (fun y => ⟨y.1, 0, none⟩) := by
  unfold gpL
  rw [getL_fd, Option.map_map]
  rfl
theorem fd_mem {hs : List Hl} {k : Int} {y : Nat × FrM} (h : fd hs k = some y) : (k, y) ∈ hs := by
  unfold fd at h
  obtain ⟨x, hx, rfl⟩ := Option.map_eq_some_iff.1 h
  have h1 := List.mem_of_find?_eq_some hx
  have h2 := List.find?_some hx
  have h3 : x.1 = k := by simpa using h2
  rw [← h3]
  exact h1
theorem psOf_set (hs : List Hl) (k : Int) (f : FrM) : psOf (setF hs k f) = psOf hs := by
  unfold psOf setF
  rw [List.map_map]
  apply List.map_congr_left
  intro x _
  simp only [Function.comp]
  split <;> rfl
/-- The pool's blocks. -/
structure PoAt (n0 : Nat) (w : World) (gp ga : Nat) (most : Int) (fl hv uv : Value) (hs : List Hl) (us : List Int) : Prop where
  blk : Blk w gp 84 #[.pointer (some ⟨ga, 0, none⟩), .int .i64 most, fl, hv, uv]
  row : w.ownsRow n0 118 2 hv (psOf hs).length (prC (psOf hs))
  lst : Ints n0 w uv us
  frm : ∀ x ∈ hs, Blk w x.2.1 90 (frC x.2.2)
  nod : (hs.map (·.2.1)).Nodup
  rise : Rise (psOf hs)
  gpn : n0 ≤ gp
  frn : ∀ x ∈ hs, n0 ≤ x.2.1
  size : n0 ≤ w.heap.size
  few : hs.length ≤ 1000
  fewu : us.length ≤ 1000
def PF (gp : Nat) (hv uv : Value) (hs : List Hl) : Nat → Prop := fun b => b = gp ∨ some b = hv.ownBlock ∨ some b = uv.ownBlock ∨ b ∈ hs.map (·.2.1)
section
variable {F : Nat → Prop} {n0 gp ga : Nat} {w w' : World} {most : Int} {fl hv uv : Value} {hs : List Hl} {us : List Int}
theorem PoAt.fr (h : PoAt n0 w gp ga most fl hv uv hs us) (hf : Fr F w w') (hF : ∀ b, PF gp hv uv hs b → ¬ F b) : PoAt n0 w' gp ga most fl hv uv hs us :=
  ⟨hf.blk h.blk (hF _ (Or.inl rfl)), hf.own h.row (fun b e => hF b (Or.inr (Or.inl e.symm))), hf.own h.lst (fun b e => hF b (Or.inr (Or.inr (Or.inl e.symm)))),
    fun x hx => hf.blk (h.frm x hx) (hF _ (Or.inr (Or.inr (Or.inr (List.mem_map_of_mem (f := fun x : Hl => x.2.1) hx))))), h.nod, h.rise, h.gpn, h.frn, Nat.le_trans h.size hf.size, h.few, h.fewu⟩
theorem PoAt.up (h : PoAt n0 w gp ga most fl hv uv hs us) (hb : Below w.heap.size w w') : PoAt n0 w' gp ga most fl hv uv hs us :=
  h.fr (Fr.up (F := fun _ => False) hb) (fun _ _ e => e)
theorem PoAt.cells (h : PoAt n0 w gp ga most fl hv uv hs us) : w.cell? ⟨gp, 0, none⟩ = some (.pointer (some ⟨ga, 0, none⟩)) ∧ w.cell? ⟨gp, 1, none⟩ = some (.int .i64 most) ∧ w.cell? ⟨gp, 2, none⟩ = some fl ∧ w.cell? ⟨gp, 3, none⟩ = some hv ∧ w.cell? ⟨gp, 4, none⟩ = some uv :=
  ⟨h.blk.cell 0, h.blk.cell 1, h.blk.cell 2, h.blk.cell 3, h.blk.cell 4⟩
theorem PoAt.lt (h : PoAt n0 w gp ga most fl hv uv hs us) (b : Nat) (hb : PF gp hv uv hs b) : b < w.heap.size := by
  rcases hb with rfl | e | e | e
  · exact h.blk.lt
  · exact (h.row.lt _ e.symm).2
  · exact (h.lst.lt _ e.symm).2
  · obtain ⟨x, hx, rfl⟩ := List.mem_map.1 e
    exact (h.frm x hx).lt
theorem PoAt.ge (h : PoAt n0 w gp ga most fl hv uv hs us) (b : Nat) (hb : PF gp hv uv hs b) : n0 ≤ b := by
  rcases hb with rfl | e | e | e
  · exact h.gpn
  · exact (h.row.lt _ e.symm).1
  · exact (h.lst.lt _ e.symm).1
  · obtain ⟨x, hx, rfl⟩ := List.mem_map.1 e
    exact h.frn x hx
theorem PoAt.get (h : PoAt n0 w gp ga most fl hv uv hs us) (k : Int) :
    Calls Tryz.prog 35 #[.pointer (some ⟨gp, 3, none⟩), .int .i64 k] w fun e w' => e = .returned (.tuple #[.pointer ((fd hs k).map (fun y => ⟨y.1, 0, none⟩)), .bool (fd hs k).isSome]) ∧ Below w.heap.size w w' := by
  have := mgetF_any gp 3 hv (psOf hs) k w h.cells.2.2.2.1 (PrsAt.of_own h.row) h.rise (by rw [psOf_length]; have := h.few; omega)
  rwa [hasL_fd, gpL_fd] at this
theorem PoAt.frame (h : PoAt n0 w gp ga most fl hv uv hs us) {k : Int} {y : Nat × FrM} (hk : fd hs k = some y) : Blk w y.1 90 (frC y.2) := h.frm _ (fd_mem hk)
/-- A store into a frame. -/
theorem PoAt.setFrame (h : PoAt n0 w gp ga most fl hv uv hs us) {k : Int} {y : Nat × FrM} (hk : fd hs k = some y) {f : FrM} (hf : Fr (fun b => b = y.1) w w') (hb : Blk w' y.1 90 (frC f)) : PoAt n0 w' gp ga most fl hv uv (setF hs k f) us := by
  have hY := h.frame hk
  have hm := fd_mem hk
  have hne : ∀ x ∈ hs, x.1 ≠ k → x.2.1 ≠ y.1 := by
    intro x hx hxk e
    have := h.nod
    have hinj := (List.pairwise_map.1 (List.nodup_iff_pairwise_ne.1 this))
    rcases List.mem_iff_getElem.1 hx with ⟨i, hi, rfl⟩
    rcases List.mem_iff_getElem.1 hm with ⟨j, hj, hjk⟩
    have hij : i ≠ j := fun e2 => by subst e2; rw [hjk] at hxk; exact hxk rfl
    rcases Nat.lt_or_gt_of_ne hij with h1 | h1
    · exact (List.pairwise_iff_getElem.1 hinj i j hi hj h1) (by rw [e, hjk])
    · exact (List.pairwise_iff_getElem.1 hinj j i hj hi h1) (by rw [e, hjk])
  have hkey : ∀ x ∈ hs, x.1 = k → x.2.1 = y.1 := by
    intro x hx e
    rcases List.mem_iff_getElem.1 hx with ⟨i, hi, rfl⟩
    rcases List.mem_iff_getElem.1 hm with ⟨j, hj, hjk⟩
    have hr := h.rise
    have hg : ∀ q (hq : q < hs.length), (psOf hs)[q]'(by rw [psOf_length]; exact hq) = (hs[q].1, hs[q].2.1) := fun q hq => by simp [psOf]
    rcases Nat.lt_trichotomy i j with h1 | h1 | h1
    · have := hr.lt h1 (by rw [psOf_length]; exact hj)
      rw [hg i hi, hg j hj, hjk] at this
      simp only at this
      omega
    · subst h1; rw [hjk]
    · have := hr.lt h1 (by rw [psOf_length]; exact hi)
      rw [hg i hi, hg j hj, hjk] at this
      simp only at this
      omega
  refine ⟨hf.blk h.blk (h.blk.ne hY (by decide)), by rw [psOf_set]; exact hf.own h.row (fun b e e2 => (hY.notOwn h.row (by decide)) (by rw [e, e2])), hf.own h.lst (fun b e e2 => (hY.notOwn h.lst (by decide)) (by rw [e, e2])), ?_, ?_, by rw [psOf_set]; exact h.rise, h.gpn, ?_, Nat.le_trans h.size hf.size, by unfold setF; rw [List.length_map]; exact h.few, h.fewu⟩
  · intro x hx
    obtain ⟨z, hz, rfl⟩ := List.mem_map.1 hx
    split
    · rename_i e
      rw [show (z.1, z.2.1, f).2.1 = y.1 from hkey z hz e]
      exact hb
    · rename_i e
      exact hf.blk (h.frm z hz) (hne z hz e)
  · have : (setF hs k f).map (·.2.1) = hs.map (·.2.1) := by
      unfold setF
      rw [List.map_map]
      apply List.map_congr_left
      intro x _
      simp only [Function.comp]
      split <;> rfl
    rw [this]
    exact h.nod
  · intro x hx
    obtain ⟨z, hz, rfl⟩ := List.mem_map.1 hx
    split <;> exact h.frn z hz
end
end
end Go.Proofs.YtjlcbabnkhdgpaaGreatDoor
namespace Go.Proofs.YtjlcbabnkhdgpaaGreatDoor
section
set_option linter.unusedSimpArgs false
set_option linter.unusedVariables false
open Go.RowKit Go.Maps

def Pb (hs : List Hl) (N : Nat) : Prop := ∀ x ∈ hs, x.2.2.pins ≤ N
theorem Pb.fd {hs : List Hl} {N : Nat} (h : Pb hs N) {k : Int} {y : Nat × FrM} (hk : fd hs k = some y) : y.2.pins ≤ N := h _ (fd_mem hk)
def pinE (o : Option (Nat × FrM)) : Int := match o with | some _ => 0 | none => 17
def pinnedM (hs : List Hl) (k : Int) : Option (Nat × FrM) := (fd hs k).filter (fun y => decide (y.2.pins ≠ 0))
section
variable {n0 gp ga : Nat} {most : Int} {fl hv uv : Value} {hs : List Hl} {us : List Int}
set_option maxHeartbeats 800000 in
set_option maxRecDepth 100000 in
theorem pinned_any (w : World) (k : Int) (h : PoAt n0 w gp ga most fl hv uv hs us) :
    Calls Tryz.prog 40 #[.pointer (some ⟨gp, 0, none⟩), .int .i64 k] w fun e w' => e = .returned (.tuple #[.pointer ((pinnedM hs k).map (fun y => ⟨y.1, 0, none⟩)), .int .i64 (pinE (pinnedM hs k))]) ∧ Below w.heap.size w w' := by
  have hg := h.get (k := k)
  have H := Lib.hid h
  cases hk : fd hs k with
  | none =>
    rw [hk] at hg
    have HM := Lib.hid (show pinnedM hs k = none by rw [pinnedM, hk]; rfl)
    clear h hk
    go_enter Tryz.func40, Tryz.ntmps40
    go_wp2_with fail
    refine hg.mono ?_
    clear hg
    rintro e w2 ⟨rfl, hb⟩
    go_wp2_with fail
    go_ret2
    exact ⟨by rw [HM.out]; rfl, hb⟩
  | some y =>
    rw [hk] at hg
    have hY := h.frame hk
    by_cases hp : y.2.pins = 0
    · have HM := Lib.hid (show pinnedM hs k = none by rw [pinnedM, hk]; simp [Option.filter, hp])
      have HY := Lib.hid hY; have HP := Lib.hid hp
      clear h hk hY hp
      go_enter Tryz.func40, Tryz.ntmps40
      go_wp2_with fail
      refine hg.mono ?_
      clear hg
      rintro e w2 ⟨rfl, hb⟩
      have c1 : w2.cell? ⟨y.1, 1, none⟩ = some (.int .i64 0) := by
        have : w2.cell? ⟨y.1, 1, none⟩ = some (.int .i64 (y.2.pins : Int)) := (HY.out.up hb).cell 1
        rw [this, HP.out]; rfl
      go_wp2_with fail
      go_ret2
      exact ⟨by rw [HM.out]; rfl, hb⟩
    · have HM := Lib.hid (show pinnedM hs k = some y by rw [pinnedM, hk]; simp [Option.filter, hp])
      have hpI : ¬ ((y.2.pins : Int) = 0) := by omega
      have HY := Lib.hid hY
      clear h hk hY hp
      go_enter Tryz.func40, Tryz.ntmps40
      go_wp2_with fail
      refine hg.mono ?_
      clear hg
      rintro e w2 ⟨rfl, hb⟩
      have c1 : w2.cell? ⟨y.1, 1, none⟩ = some (.int .i64 (y.2.pins : Int)) := (HY.out.up hb).cell 1
      go_wp2_with fail
      go_ret2
      exact ⟨by rw [HM.out]; rfl, hb⟩
theorem pinned_nil (w : World) (k : Int) :
    Calls Tryz.prog 40 #[.pointer none, .int .i64 k] w fun e w' => e = .returned (.tuple #[.pointer none, .int .i64 1]) ∧ w = w' := by
  go_enter Tryz.func40, Tryz.ntmps40
  go_wp2_with fail
  go_ret2
  exact ⟨rfl, rfl⟩
def unpinF (f : FrM) : FrM := { f with pins := f.pins - 1 }
def unpinM (hs : List Hl) (k : Int) : Int × List Hl := match pinnedM hs k with | some y => (0, setF hs k (unpinF y.2)) | none => (17, hs)
theorem pinnedM_fd {hs : List Hl} {k : Int} {y : Nat × FrM} (h : pinnedM hs k = some y) : fd hs k = some y ∧ y.2.pins ≠ 0 := by
  unfold pinnedM at h
  rw [Option.filter_eq_some_iff] at h
  exact ⟨h.1, by simpa using h.2⟩
set_option maxHeartbeats 800000 in
set_option maxRecDepth 100000 in
theorem unpin_any (w : World) (k : Int) (N : Nat) (h : PoAt n0 w gp ga most fl hv uv hs us) (hp : Pb hs N) (hN : N ≤ 1000000) :
    Calls Tryz.prog 13 #[.pointer (some ⟨gp, 0, none⟩), .int .i64 k] w fun e w' => e = .returned (.int .i64 (unpinM hs k).1) ∧ PoAt n0 w' gp ga most fl hv uv (unpinM hs k).2 us ∧ Fr (PF gp hv uv hs) w w' := by
  have hg := pinned_any w k h
  have H := Lib.hid h
  cases hk : pinnedM hs k with
  | none =>
    rw [hk] at hg
    have HM := Lib.hid (show unpinM hs k = (17, hs) by rw [unpinM, hk])
    clear h hk hp
    go_enter Tryz.func13, Tryz.ntmps13
    go_wp2_with fail
    refine hg.mono ?_
    clear hg
    rintro e w2 ⟨rfl, hb⟩
    have Hb := Lib.hid hb
    clear hb
    go_wp2_with fail
    go_ret
    exact ⟨by rw [HM.out]; rfl, by rw [HM.out]; exact H.out.up Hb.out, Fr.up Hb.out⟩
  | some y =>
    rw [hk] at hg
    obtain ⟨hf, hp0⟩ := pinnedM_fd hk
    have hpb := hp.fd hf
    have hY := h.frame hf
    have HM := Lib.hid (show unpinM hs k = (0, setF hs k (unpinF y.2)) by rw [unpinM, hk])
    have hw1 : IntKind.i64.wrap ((y.2.pins : Int) - 1) = ((y.2.pins - 1 : Nat) : Int) := by rw [wrap_i64_in _ (by omega)]; omega
    have HY := Lib.hid hY; have HF := Lib.hid hf
    clear h hk hp hY hp0 hpb hf
    go_enter Tryz.func13, Tryz.ntmps13
    go_wp2_with fail
    refine hg.mono ?_
    clear hg
    rintro e w2 ⟨rfl, hb⟩
    have hY2 := HY.out.up hb
    have c1 : w2.cell? ⟨y.1, 1, none⟩ = some (.int .i64 (y.2.pins : Int)) := hY2.cell 1
    have f1 := hY2.frozen 1
    have hB3 : Blk (w2.setCell ⟨y.1, 1, none⟩ (.int .i64 ((y.2.pins - 1 : Nat) : Int))) y.1 90 (frC (unpinF y.2)) := by
      have := hY2.set 1 (.int .i64 ((y.2.pins - 1 : Nat) : Int))
      exact this
    have HP := Lib.hid ((H.out.up hb).setFrame HF.out (Fr.setCell w2 y.1 1 _) hB3)
    have Hb := Lib.hid hb
    clear hY2 hB3 hb
    go_wp2_with fail
    go_ret
    refine ⟨by rw [HM.out]; rfl, by rw [HM.out]; exact HP.out, ?_⟩
    exact (Fr.up Hb.out).trans (Fr.setCell w2 y.1 1 _) (fun b _ e => Or.inr (Or.inr (Or.inr (by rw [e]; exact List.mem_map_of_mem (f := fun x : Hl => x.2.1) (fd_mem HF.out)))))
theorem unpin_nil (w : World) (k : Int) :
    Calls Tryz.prog 13 #[.pointer none, .int .i64 k] w fun e w' => e = .returned (.int .i64 1) ∧ w = w' := by
  have hg := pinned_nil w k
  go_enter Tryz.func13, Tryz.ntmps13
  go_wp2_with fail
  refine hg.mono ?_
  rintro e w2 ⟨rfl, rfl⟩
  go_wp2_with fail
  go_ret
  exact ⟨rfl, rfl⟩
set_option maxRecDepth 100000 in
theorem has_any (w : World) (k : Int) (h : PoAt n0 w gp ga most fl hv uv hs us) :
    Calls Tryz.prog 15 #[.pointer (some ⟨gp, 0, none⟩), .int .i64 k] w fun e w' => e = .returned (.bool (fd hs k).isSome) ∧ Below w.heap.size w w' := by
  have hg := h.get (k := k)
  clear h
  go_enter Tryz.func15, Tryz.ntmps15
  go_wp2_with fail
  refine hg.mono ?_
  clear hg
  rintro e w2 ⟨rfl, hb⟩
  go_wp2_with fail
  go_ret
  exact ⟨rfl, hb⟩
theorem has_nil (w : World) (k : Int) :
    Calls Tryz.prog 15 #[.pointer none, .int .i64 k] w fun e w' => e = .returned (.bool false) ∧ w = w' := by
  go_enter Tryz.func15, Tryz.ntmps15
  go_wp2_with fail
  go_ret
  exact ⟨rfl, rfl⟩
def putF (f : FrM) (s : List UInt8) : FrM := { f with bytes := s, dirty := f.dirty || !(f.bytes == s) }
def pputM (hs : List Hl) (k : Int) (s : List UInt8) : Int × List Hl := match pinnedM hs k with | some y => if s.length = 512 ∧ wholeB s = true then (0, setF hs k (putF y.2 s)) else (1, hs) | none => (17, hs)
set_option maxHeartbeats 1600000 in
set_option maxRecDepth 100000 in
theorem pput_any (w : World) (k : Int) (s : List UInt8) (h : PoAt n0 w gp ga most fl hv uv hs us) (ht : Turns w) (hs' : s.length ≤ 140737488355328) :
    Calls Tryz.prog 19 #[.pointer (some ⟨gp, 0, none⟩), .int .i64 k, .string (bs s)] w fun e w' => e = .returned (.int .i64 (pputM hs k s).1) ∧ PoAt n0 w' gp ga most fl hv uv (pputM hs k s).2 us ∧ Fr (PF gp hv uv hs) w w' := by
  have hg := pinned_any w k h
  have H := Lib.hid h
  have HT := Lib.hid ht
  clear ht
  cases hk : pinnedM hs k with
  | none =>
    rw [hk] at hg
    have HM := Lib.hid (show pputM hs k s = (17, hs) by rw [pputM, hk])
    clear h hk
    unfold pinE at hg
    go_enter Tryz.func19, Tryz.ntmps19
    go_wp2_with fail
    refine hg.mono ?_
    clear hg
    rintro e w2 ⟨rfl, hb⟩
    have Hb := Lib.hid hb
    clear hb
    go_wp2_with fail
    go_ret
    exact ⟨by rw [HM.out]; rfl, by rw [HM.out]; exact H.out.up Hb.out, Fr.up Hb.out⟩
  | some y =>
    rw [hk] at hg
    obtain ⟨hf, _⟩ := pinnedM_fd hk
    have HF := Lib.hid hf
    have hwh := fun W hT => pagewhole_any s hs' W hT
    unfold pinE at hg
    by_cases hw : s.length = 512 ∧ wholeB s = true
    · have HM := Lib.hid (show pputM hs k s = (0, setF hs k (putF y.2 s)) by rw [pputM, hk]; dsimp only; rw [if_pos hw])
      rw [show (decide (s.length = 512) && wholeB s) = true by simp [hw]] at hwh
      have hY := Lib.hid (h.frame hf)
      clear h hk hf hw
      go_enter Tryz.func19, Tryz.ntmps19
      go_wp2_with fail
      refine hg.mono ?_
      clear hg
      rintro e w2 ⟨rfl, hb⟩
      go_wp2_with fail
      refine (hwh w2 (HT.out.below hb)).mono ?_
      clear hwh
      rintro e w3 ⟨rfl, hb3⟩
      have hb4 := hb.trans (hb3.mono hb.size)
      have hY2 := hY.out.up hb4
      have c0 : w3.cell? ⟨y.1, 0, none⟩ = some (.string (bs y.2.bytes)) := hY2.cell 0
      have c2 : w3.cell? ⟨y.1, 2, none⟩ = some (.bool y.2.dirty) := hY2.cell 2
      have f0 := hY2.frozen 0
      have f2 := hY2.frozen 2
      have hd : (putF y.2 s).dirty = (y.2.dirty || !(y.2.bytes == s)) := rfl
      have hB3 : Blk (w3.setCell ⟨y.1, 2, none⟩ (.bool (putF y.2 s).dirty)) y.1 90 #[.string (bs y.2.bytes), .int .i64 (y.2.pins : Int), .bool (putF y.2 s).dirty] := hY2.set 2 _
      have c3 := hB3.cell 0
      have f3 := hB3.frozen 0
      have hB4 : Blk ((w3.setCell ⟨y.1, 2, none⟩ (.bool (putF y.2 s).dirty)).setCell ⟨y.1, 0, none⟩ (.string (bs s))) y.1 90 (frC (putF y.2 s)) := hB3.set 0 _
      have hFr : Fr (fun b => b = y.1) w3 ((w3.setCell ⟨y.1, 2, none⟩ (.bool (putF y.2 s).dirty)).setCell ⟨y.1, 0, none⟩ (.string (bs s))) := (Fr.setCell w3 y.1 2 _).trans (Fr.setCell _ y.1 0 _) (fun _ _ e => e)
      have HP := Lib.hid ((H.out.up hb4).setFrame HF.out hFr hB4)
      have Hb := Lib.hid hb4; have HFr := Lib.hid hFr
      have c3 : (w3.setCell ⟨y.1, 2, none⟩ (.bool (putF y.2 s).dirty)).cell? ⟨y.1, 0, none⟩ = some (.string (bs y.2.bytes)) := hB3.cell 0
      clear hY2 hB4 hb hb3 hb4 hFr
      cases hdy : y.2.dirty with
      | true =>
        rw [hdy] at hd c2
        rw [Bool.true_or] at hd
        rw [hd] at HP HFr c3 f3
        clear hB3 hd hdy
        go_wp2_with fail
        go_ret
        refine ⟨by rw [HM.out]; rfl, by rw [HM.out]; exact HP.out, ?_⟩
        exact (Fr.up Hb.out).trans HFr.out (fun b _ e => Or.inr (Or.inr (Or.inr (by rw [e]; exact List.mem_map_of_mem (f := fun x : Hl => x.2.1) (fd_mem HF.out)))))
      | false =>
        rw [hdy] at hd c2
        rw [Bool.false_or] at hd
        rw [hd] at HP HFr c3 f3
        clear hB3 hd hdy
        go_wp2_with fail
        go_ret
        refine ⟨by rw [HM.out]; rfl, by rw [HM.out]; exact HP.out, ?_⟩
        exact (Fr.up Hb.out).trans HFr.out (fun b _ e => Or.inr (Or.inr (Or.inr (by rw [e]; exact List.mem_map_of_mem (f := fun x : Hl => x.2.1) (fd_mem HF.out)))))
    · have HM := Lib.hid (show pputM hs k s = (1, hs) by rw [pputM, hk]; dsimp only; rw [if_neg hw])
      have hwf : (decide (s.length = 512) && wholeB s) = false := by
        rw [Bool.and_eq_false_iff]
        by_cases h5 : s.length = 512
        · right
          cases hww : wholeB s with
          | true => exact absurd ⟨h5, hww⟩ hw
          | false => rfl
        · left; simp [h5]
      rw [hwf] at hwh
      clear h hk hf hw hwf
      go_enter Tryz.func19, Tryz.ntmps19
      go_wp2_with fail
      refine hg.mono ?_
      clear hg
      rintro e w2 ⟨rfl, hb⟩
      go_wp2_with fail
      refine (hwh w2 (HT.out.below hb)).mono ?_
      clear hwh
      rintro e w3 ⟨rfl, hb3⟩
      have Hb := Lib.hid (hb.trans (hb3.mono hb.size))
      clear hb hb3
      go_wp2_with fail
      go_ret
      exact ⟨by rw [HM.out]; rfl, by rw [HM.out]; exact H.out.up Hb.out, Fr.up Hb.out⟩
theorem pput_nil (w : World) (k : Int) (v : Value) :
    Calls Tryz.prog 19 #[.pointer none, .int .i64 k, v] w fun e w' => e = .returned (.int .i64 1) ∧ w = w' := by
  have hg := pinned_nil w k
  go_enter Tryz.func19, Tryz.ntmps19
  go_wp2_with fail
  refine hg.mono ?_
  rintro e w2 ⟨rfl, rfl⟩
  go_wp2_with fail
  go_ret
  exact ⟨rfl, rfl⟩
theorem evict_nil (w : World) (k : Int) :
    Calls Tryz.prog 16 #[.pointer none, .int .i64 k] w fun e w' => e = .returned (.int .i64 1) ∧ w = w' := by
  go_enter Tryz.func16, Tryz.ntmps16
  go_wp2_with fail
  go_ret
  exact ⟨rfl, rfl⟩
theorem flush_nil (w : World) :
    Calls Tryz.prog 20 #[.pointer none] w fun e w' => e = .returned (.int .i64 1) ∧ w = w' := by
  go_enter Tryz.func20, Tryz.ntmps20
  go_wp2_with fail
  go_ret
  exact ⟨rfl, rfl⟩
theorem pin_nil (w : World) (k : Int) :
    Calls Tryz.prog 12 #[.pointer none, .int .i64 k] w fun e w' => e = .returned (.tuple #[.string ⟨#[]⟩, .int .i64 1]) ∧ w = w' := by
  go_enter Tryz.func12, Tryz.ntmps12
  go_wp2_with fail
  go_ret2
  exact ⟨rfl, rfl⟩
set_option maxRecDepth 100000 in
theorem ponew_ok (n0 ga : Nat) (most : Int) (ff : FuncId) (fi ca : Array Value) (w : World) (h1 : 1 ≤ most) (h2 : most ≤ 64) (hn : n0 ≤ w.heap.size) :
    Calls Tryz.prog 10 #[.pointer (some ⟨ga, 0, none⟩), .int .i64 most, .func (.func ff) fi ca] w fun e w' => ∃ gp, e = .returned (.tuple #[.pointer (some ⟨gp, 0, none⟩), .int .i64 0]) ∧
      PoAt n0 w' gp ga most (.func (.func ff) fi ca) (.slice none 0 0) (.slice none 0 0) [] [] ∧ gp = w.heap.size ∧ Below w.heap.size w w' := by
  have e1 : decide (most < 1) = false := by simp; omega
  have e2 : decide (64 < most) = false := by simp; omega
  have hP : PoAt n0 (w.alloc (.cells #[.pointer (some ⟨ga, 0, none⟩), .int .i64 most, .func (.func ff) fi ca, .slice none 0 0, .slice none 0 0] 84)) w.heap.size ga most (.func (.func ff) fi ca) (.slice none 0 0) (.slice none 0 0) [] [] :=
    ⟨Blk.made w _ _, World.ownsRow_nil _ _ _ _, World.ownsRow_nil _ _ _ _, (fun x hx => by cases hx), List.nodup_nil, List.Pairwise.nil, hn, (fun x hx => by cases hx), by simp; omega, Nat.zero_le _, Nat.zero_le _⟩
  have HP := Lib.hid hP
  have Hb := Lib.hid ((Below.refl w.heap.size w).alloc (Nat.le_refl _) (.cells #[.pointer (some ⟨ga, 0, none⟩), .int .i64 most, .func (.func ff) fi ca, .slice none 0 0, .slice none 0 0] 84))
  clear hP
  have hq : ∀ w : World, (binOp .eql 34 (.func (.func ff) fi ca) .nilFunc).run Tryz.prog w = .ok (.bool false) w := fun w => by
    have h1 : ∀ d, (Op.equalIn (d + 1) 34 (.func (.func ff) fi ca) .nilFunc).run Tryz.prog w = .ok false w := fun d => by
      simp [Op.equalIn, run_underlying Tryz.underlying34]
    simp only [binOp]
    simp [Op.equal, Op.maxDepth, h1 9999]
  go_enter Tryz.func10, Tryz.ntmps10
  go_wp2_with fail
  go_ret2
  exact ⟨_, rfl, HP.out, rfl, Hb.out⟩
end
end
end Go.Proofs.YtjlcbabnkhdgpaaGreatDoor
namespace Go.Proofs.YtjlcbabnkhdgpaaGreatDoor
section
set_option linter.unusedSimpArgs false
set_option linter.unusedVariables false
open Go.RowKit Go.Maps

section
variable {n0 gp ga g m : Nat} {a : ArM} {d : DevM} {w w' : World} {most : Int} {fl hv uv : Value} {hs : List Hl} {us : List Int}
/-- The row to keep has a block of its own kind. -/
theorem Tw.keepRow (h : Tw n0 w ga g m a d) {kv : Value} {b : Nat} (hc : w.cell? ⟨g, 5, none⟩ = some kv) (hb : kv.ownBlock = some b) : ∃ cs, Blk w b 3 cs := by
  obtain ⟨_, ⟨⟨v, kv', hD⟩, _⟩, _⟩ := h
  have hc' := hD.cells.1.2.2.2.2.2.1
  rw [hc] at hc'
  injection hc' with e
  subst e
  unfold DevAt at hD
  rcases hD.2.2.2.2.1.2 with ⟨e1, _⟩ | ⟨g', cap, cur, hv', _, hh, _⟩
  · rw [e1] at hb; cases hb
  · rw [hv'] at hb
    injection hb with hb
    subst hb
    exact ⟨cur, hh⟩
theorem blk_type {T T' : TypeId} {b : Nat} {cs cs' : Array Value} (h : Blk w b T cs) (h' : w.heap[b]? = some (.cells cs' T' (0, 0))) : T = T' := by
  unfold Blk at h
  rw [h] at h'
  injection h' with h'
  injection h' with _ h' _
theorem PoAt.kind (h : PoAt n0 w gp ga most fl hv uv hs us) {b : Nat} (hb : PF gp hv uv hs b) :
    ∃ T cs, Blk w b T cs ∧ (T = 84 ∨ T = 118 ∨ (T = 3 ∧ some b = uv.ownBlock) ∨ T = 90) := by
  rcases hb with rfl | e | e | e
  · exact ⟨_, _, h.blk, Or.inl rfl⟩
  · rcases h.row.2 with ⟨e1, _⟩ | ⟨g', cap, cur, hv', _, hh, _⟩
    · rw [e1] at e; cases e
    · rw [hv'] at e
      injection e with e
      subst e
      exact ⟨_, _, hh, Or.inr (Or.inl rfl)⟩
  · have e' := e
    rcases h.lst.2 with ⟨e1, _⟩ | ⟨g', cap, cur, hv', _, hh, _⟩
    · rw [e1] at e; cases e
    · rw [hv'] at e
      injection e with e
      subst e
      exact ⟨_, _, hh, Or.inr (Or.inr (Or.inl ⟨rfl, e'⟩))⟩
  · obtain ⟨x, hx, rfl⟩ := List.mem_map.1 e
    exact ⟨_, _, h.frm x hx, Or.inr (Or.inr (Or.inr rfl))⟩
theorem PoAt.notDev (h : PoAt n0 w gp ga most fl hv uv hs us) (hT : Tw n0 w ga g m a d) {b : Nat} (hb : PF gp hv uv hs b) : ¬ DevF w g m b ∧ b ≠ ga := by
  obtain ⟨T, cs, hB, hk⟩ := h.kind hb
  have h1 : T ≠ 74 ∧ T ≠ 100 ∧ T ≠ 77 := by
    rcases hk with rfl | rfl | ⟨rfl, _⟩ | rfl <;> exact ⟨by decide, by decide, by decide⟩
  refine ⟨fun hd => ?_, fun e => ?_⟩
  · rcases hd with e | e | ⟨cs', fz, e⟩
    · obtain ⟨cs2, hg⟩ := hT.dv.blk2
      subst e
      exact h1.1 (blk_type hB hg)
    · obtain ⟨es, c, hm⟩ := hT.dv.map2
      subst e
      unfold Blk at hB
      rw [hB] at hm
      cases hm
    · unfold Blk at hB
      rw [hB] at e
      injection e with e
      injection e with _ e _
      exact h1.2.1 e
  · subst e
    exact h1.2.2 (blk_type hB hT.ar)
end
/-- What a flush does: its state's step, the device's. -/
structure FlOk (n0 ga g m : Nat) (a : ArM) (ff : FuncId) (fi ca : Array Value) {σ : Type} (E : σ → World → Prop) (XF : World → Nat → Prop) (step : σ → DevM → Int → Int × σ × DevM) (SM : σ → Prop) : Prop where
  ent : ∀ (args : Array Value) (w : World), (callFunc ff args).run Tryz.prog w = .ok (.enter ff args) w
  fr : ∀ {F : Nat → Prop} {s : σ} {w w' : World}, E s w → Fr F w w' → (∀ b, XF w b → ¬ F b) → E s w' ∧ ∀ b, XF w' b → XF w b
  lt : ∀ {s : σ} {w : World} {b : Nat}, E s w → XF w b → n0 ≤ b ∧ b < w.heap.size
  cel : ∀ {s : σ} {w : World} {b : Nat}, E s w → XF w b → ∃ cs T fz, w.heap[b]? = some (.cells cs T fz)
  call : ∀ (s : σ) (w : World) (d : DevM) (n : Int), E s w → SM s → Tw n0 w ga g m a d → 0 ≤ n → n ≤ 281474976710655 → d.cmds < 800000000 → (∀ b, XF w b → ¬ DevF w g m b ∧ b ≠ ga) →
    (∀ kv b, w.cell? ⟨g, 5, none⟩ = some kv → kv.ownBlock = some b → ¬ XF w b) →
    Calls Tryz.prog ff (fi.push (.int .i64 n) ++ ca) w fun e w' => e = .returned (.int .i64 (step s d n).1) ∧ E (step s d n).2.1 w' ∧ Tw n0 w' ga g m a (step s d n).2.2 ∧
      Fr (fun b => XF w b ∨ DevF w g m b) w w' ∧ KeepC g w w' ∧ (∀ b, XF w' b → XF w b ∨ w.heap.size ≤ b) ∧ (∀ b, XF w' b → ¬ DevF w' g m b ∧ b ≠ ga) ∧ (∀ kv b, w'.cell? ⟨g, 5, none⟩ = some kv → kv.ownBlock = some b → ¬ XF w' b) ∧ Below n0 w w'
/-- Pool, area, device, and what the flush holds. -/
structure Sy (n0 : Nat) (w : World) (gp ga g m : Nat) (a : ArM) (most : Int) (ff : FuncId) (fi ca : Array Value) {σ : Type} (E : σ → World → Prop) (XF : World → Nat → Prop) (hv uv : Value) (hs : List Hl) (us : List Int) (d : DevM) (s : σ) : Prop where
  po : PoAt n0 w gp ga most (.func (.func ff) fi ca) hv uv hs us
  tw : Tw n0 w ga g m a d
  env : E s w
  x1 : ∀ b, XF w b → ¬ PF gp hv uv hs b
  x2 : ∀ b, XF w b → ¬ DevF w g m b ∧ b ≠ ga
  x3 : ∀ kv b, w.cell? ⟨g, 5, none⟩ = some kv → kv.ownBlock = some b → ¬ XF w b ∧ some b ≠ uv.ownBlock
section
variable {n0 gp ga g m : Nat} {a : ArM} {d d' : DevM} {w w' : World} {most : Int} {ff : FuncId} {fi ca : Array Value} {hv uv hv' uv' : Value} {hs hs' : List Hl} {us us' : List Int}
variable {σ : Type} {E : σ → World → Prop} {XF : World → Nat → Prop} {step : σ → DevM → Int → Int × σ × DevM} {SM : σ → Prop} {s : σ}
theorem Sy.keepNot (h : Sy n0 w gp ga g m a most ff fi ca E XF hv uv hs us d s) {kv : Value} {b : Nat} (hc : w.cell? ⟨g, 5, none⟩ = some kv) (hb : kv.ownBlock = some b) : ¬ PF gp hv uv hs b := by
  intro hP
  obtain ⟨cs, hI⟩ := h.tw.keepRow hc hb
  obtain ⟨T, cs', hB, hk⟩ := h.po.kind hP
  have : T = 3 := blk_type hB hI
  rcases hk with e | e | ⟨_, e⟩ | e
  · rw [this] at e; exact absurd e (by decide)
  · rw [this] at e; exact absurd e (by decide)
  · exact (h.x3 kv b hc hb).2 e
  · rw [this] at e; exact absurd e (by decide)
theorem devF_same {F : Nat → Prop} (hf : Fr F w w') {b : Nat} (hl : b < w.heap.size) (hF : ¬ F b) (h : DevF w' g m b) : DevF w g m b := by
  rcases h with e | e | ⟨cs, fz, e⟩
  · exact Or.inl e
  · exact Or.inr (Or.inl e)
  · exact Or.inr (Or.inr ⟨cs, fz, by rw [← hf.block b hl hF]; exact e⟩)
theorem Tw.keepSame {F : Nat → Prop} (h : Tw n0 w ga g m a d) (hf : Fr F w w') (hF : ¬ F g) : w'.cell? ⟨g, 5, none⟩ = w.cell? ⟨g, 5, none⟩ := World.cell?_of_block (a := ⟨g, 5, none⟩) (hf.block g h.glt hF)
/-- The pool's own blocks have changed. -/
theorem Sy.pool (h : Sy n0 w gp ga g m a most ff fi ca E XF hv uv hs us d s) (hK : FlOk n0 ga g m a ff fi ca E XF step SM) (hP : PoAt n0 w' gp ga most (.func (.func ff) fi ca) hv' uv' hs' us') (hF : Fr (PF gp hv uv hs) w w')
    (hn : ∀ b, PF gp hv' uv' hs' b → PF gp hv uv hs b ∨ w.heap.size ≤ b) : Sy n0 w' gp ga g m a most ff fi ca E XF hv' uv' hs' us' d s := by
  have hD : ∀ b, PF gp hv uv hs b → ¬ DevF w g m b ∧ b ≠ ga := fun b hb => h.po.notDev h.tw hb
  have hg : ¬ PF gp hv uv hs g := fun hb => (hD g hb).1 (Or.inl rfl)
  have hT : Tw n0 w' ga g m a d := h.tw.fr hF (fun hb => (hD ga hb).2 rfl) hg (fun hb => (hD m hb).1 (Or.inr (Or.inl rfl))) (fun b cs fz e hb => (hD b hb).1 (Or.inr (Or.inr ⟨cs, fz, e⟩))) (fun kv b hc hb => h.keepNot hc hb) (fun b hb => h.po.ge b hb)
  obtain ⟨hE, hX⟩ := hK.fr h.env hF (fun b hb hp => h.x1 b hb hp)
  refine ⟨hP, hT, hE, fun b hb hp => ?_, fun b hb => ⟨fun hd => ?_, (h.x2 b (hX b hb)).2⟩, fun kv b hc hb => ?_⟩
  · have hxl := (hK.lt h.env (hX b hb)).2
    rcases hn b hp with h1 | h1
    · exact h.x1 b (hX b hb) h1
    · omega
  · have hxl := (hK.lt h.env (hX b hb)).2
    exact (h.x2 b (hX b hb)).1 (devF_same hF hxl (h.x1 b (hX b hb)) hd)
  · rw [h.tw.keepSame hF hg] at hc
    obtain ⟨h1, h2⟩ := h.x3 kv b hc hb
    refine ⟨fun hx => h1 (hX b hx), fun e => ?_⟩
    obtain ⟨cs, hI⟩ := h.tw.keepRow hc hb
    rcases hn b (Or.inr (Or.inr (Or.inl e))) with h3 | h3
    · exact h.keepNot hc hb h3
    · have := hI.lt; omega
/-- The device has done commands. -/
theorem Sy.dev (h : Sy n0 w gp ga g m a most ff fi ca E XF hv uv hs us d s) (hK : FlOk n0 ga g m a ff fi ca E XF step SM) (hT : Tw n0 w' ga g m a d') (hk : Kept n0 g m w w') : Sy n0 w' gp ga g m a most ff fi ca E XF hv uv hs us d' s := by
  have hF := Fr.kept hk
  have hP : PoAt n0 w' gp ga most (.func (.func ff) fi ca) hv uv hs us := h.po.fr hF (fun b hb => (h.po.notDev h.tw hb).1)
  obtain ⟨hE, hX⟩ := hK.fr h.env hF (fun b hb => (h.x2 b hb).1)
  refine ⟨hP, hT, hE, fun b hb hp => h.x1 b (hX b hb) hp, fun b hb => ?_, fun kv b hc hb => ?_⟩
  · have hxl := (hK.lt h.env (hX b hb)).2
    exact ⟨fun hd => (h.x2 b (hX b hb)).1 (devF_same hF hxl (h.x2 b (hX b hb)).1 hd), (h.x2 b (hX b hb)).2⟩
  · rcases hk.keepC h.tw.glt kv hc with h1 | h1
    · obtain ⟨h2, h3⟩ := h.x3 kv b h1 hb
      exact ⟨fun hx => h2 (hX b hx), h3⟩
    · have hge := h1 b hb
      refine ⟨fun hx => ?_, fun e => ?_⟩
      · have := (hK.lt h.env (hX b hx)).2; omega
      · have := h.po.lt b (Or.inr (Or.inr (Or.inl e))); omega
theorem Sy.up (h : Sy n0 w gp ga g m a most ff fi ca E XF hv uv hs us d s) (hK : FlOk n0 ga g m a ff fi ca E XF step SM) (hb : Below w.heap.size w w') : Sy n0 w' gp ga g m a most ff fi ca E XF hv uv hs us d s :=
  h.dev hK (h.tw.up hb) (Kept.of_below hb h.tw.n0le)
/-- The flush has been called. -/
theorem Sy.flush {s' : σ} (h : Sy n0 w gp ga g m a most ff fi ca E XF hv uv hs us d s) (hK : FlOk n0 ga g m a ff fi ca E XF step SM) (hE : E s' w') (hT : Tw n0 w' ga g m a d') (hF : Fr (fun b => XF w b ∨ DevF w g m b) w w') (hC : KeepC g w w') (hX : ∀ b, XF w' b → XF w b ∨ w.heap.size ≤ b) (h2 : ∀ b, XF w' b → ¬ DevF w' g m b ∧ b ≠ ga) (h3 : ∀ kv b, w'.cell? ⟨g, 5, none⟩ = some kv → kv.ownBlock = some b → ¬ XF w' b) :
    Sy n0 w' gp ga g m a most ff fi ca E XF hv uv hs us d' s' := by
  have hP : PoAt n0 w' gp ga most (.func (.func ff) fi ca) hv uv hs us := h.po.fr hF (fun b hb hf => by
    rcases hf with hf | hf
    · exact h.x1 b hf hb
    · exact (h.po.notDev h.tw hb).1 hf)
  refine ⟨hP, hT, hE, fun b hb hp => ?_, h2, fun kv b hc hb => ⟨h3 kv b hc hb, fun e => ?_⟩⟩
  · rcases hX b hb with h1 | h1
    · exact h.x1 b h1 hp
    · have := h.po.lt b hp; omega
  · rcases hC h.tw.glt kv hc with h1 | h1
    · exact (h.x3 kv b h1 hb).2 e
    · have hge := h1 b hb
      have := h.po.lt b (Or.inr (Or.inr (Or.inl e))); omega
theorem own_notDev {base k n : Nat} {T : TypeId} {v : Value} {xs : List Value} (ho : w.ownsRow base T k v n xs) (hT : Tw n0 w ga g m a d) (h1 : T ≠ 74) (h2 : T ≠ 100) {b : Nat} (hb : v.ownBlock = some b) : ¬ DevF w g m b := by
  rcases ho.2 with ⟨e1, _⟩ | ⟨g', cap, cur, hv', _, hh, _⟩
  · rw [e1] at hb; cases hb
  · rw [hv'] at hb
    injection hb with hb
    subst hb
    intro hd
    rcases hd with e | e | ⟨cs', fz, e⟩
    · obtain ⟨cs2, hg⟩ := hT.dv.blk2
      subst e
      unfold Blk at hg
      rw [hh] at hg
      injection hg with hg
      injection hg with _ hg _
      exact h1 hg
    · obtain ⟨es, c, hm⟩ := hT.dv.map2
      subst e
      rw [hh] at hm
      cases hm
    · rw [hh] at e
      injection e with e
      injection e with _ e _
      exact h2 e
theorem devF_or {F : Nat → Prop} (hf : Fr F w w') {b : Nat} (hl : b < w.heap.size) (h : DevF w' g m b) : F b ∨ DevF w g m b := by
  by_cases hF : F b
  · exact Or.inl hF
  · exact Or.inr (devF_same hf hl hF h)
theorem PF_congr {hs hs' : List Hl} (h : hs'.map (·.2.1) = hs.map (·.2.1)) {b : Nat} (hb : PF gp hv uv hs' b) : PF gp hv uv hs b := by
  unfold PF at *
  rwa [h] at hb
end
/-- All that a pool's call may change. -/
def TF (w : World) (gp g m : Nat) (hv uv : Value) (hs : List Hl) (XF : World → Nat → Prop) : Nat → Prop := fun b => PF gp hv uv hs b ∨ DevF w g m b ∨ XF w b
def TG (n0 : Nat) (w : World) (gp g m : Nat) (hv uv : Value) (hs : List Hl) (XF : World → Nat → Prop) : Nat → Prop := fun b => n0 ≤ b ∧ TF w gp g m hv uv hs XF b
theorem Fr.tg {F : Nat → Prop} {n0 : Nat} {w w' : World} (h : Fr F w w') (hb : Below n0 w w') : Fr (fun b => n0 ≤ b ∧ F b) w w' :=
  ⟨h.os, h.tape, h.output, h.size, fun b hl hF => (Nat.lt_or_ge b n0).elim (fun e => hb.block b e) (fun e => h.block b hl (fun f => hF ⟨e, f⟩))⟩
/-- The state behind a call: some rows, the blocks that it may have changed. -/
def SyP (n0 : Nat) (w w' : World) (gp ga g m : Nat) (a : ArM) (most : Int) (ff : FuncId) (fi ca : Array Value) {σ : Type} (E : σ → World → Prop) (XF : World → Nat → Prop) (hv uv : Value) (hs hs' : List Hl) (us' : List Int) (d' : DevM) (s' : σ) : Prop :=
  ∃ hv' uv', Sy n0 w' gp ga g m a most ff fi ca E XF hv' uv' hs' us' d' s' ∧ Fr (TG n0 w gp g m hv uv hs XF) w w' ∧ (∀ b, PF gp hv' uv' hs' b → PF gp hv uv hs b ∨ w.heap.size ≤ b) ∧ ∀ b, XF w' b → XF w b ∨ w.heap.size ≤ b
section
variable {n0 gp ga g m : Nat} {a : ArM} {d d' d'' : DevM} {w w' w'' : World} {most : Int} {ff : FuncId} {fi ca : Array Value} {hv uv hv' uv' : Value} {hs hs' hs'' : List Hl} {us us' us'' : List Int}
variable {σ : Type} {E : σ → World → Prop} {XF : World → Nat → Prop} {step : σ → DevM → Int → Int × σ × DevM} {SM : σ → Prop} {s s' s'' : σ}
theorem TF_old (hF : Fr (TG n0 w gp g m hv uv hs XF) w w') (hn : ∀ b, PF gp hv' uv' hs' b → PF gp hv uv hs b ∨ w.heap.size ≤ b) (hx : ∀ b, XF w' b → XF w b ∨ w.heap.size ≤ b) (b : Nat) (hb : b < w.heap.size) (h : TF w' gp g m hv' uv' hs' XF b) : TF w gp g m hv uv hs XF b := by
  rcases h with h | h | h
  · rcases hn b h with h1 | h1
    · exact Or.inl h1
    · omega
  · exact (devF_or hF hb h).elim (fun e => e.2) (fun e => Or.inr (Or.inl e))
  · rcases hx b h with h1 | h1
    · exact Or.inr (Or.inr h1)
    · omega
theorem SyP.refl (h : Sy n0 w gp ga g m a most ff fi ca E XF hv uv hs us d s) : SyP n0 w w gp ga g m a most ff fi ca E XF hv uv hs hs us d s := ⟨hv, uv, h, Fr.refl _ _, fun _ hb => Or.inl hb, fun _ hb => Or.inl hb⟩
theorem SyP.up (h : Sy n0 w gp ga g m a most ff fi ca E XF hv uv hs us d s) (hK : FlOk n0 ga g m a ff fi ca E XF step SM) (hb : Below w.heap.size w w') : SyP n0 w w' gp ga g m a most ff fi ca E XF hv uv hs hs us d s :=
  ⟨hv, uv, h.up hK hb, Fr.up hb, fun _ hb => Or.inl hb, fun b hx => Or.inl ((hK.fr h.env (Fr.up (F := fun _ => False) hb) (fun _ _ e => e)).2 b hx)⟩
theorem SyP.dev (h : Sy n0 w gp ga g m a most ff fi ca E XF hv uv hs us d s) (hK : FlOk n0 ga g m a ff fi ca E XF step SM) (hT : Tw n0 w' ga g m a d') (hk : Kept n0 g m w w') : SyP n0 w w' gp ga g m a most ff fi ca E XF hv uv hs hs us d' s :=
  ⟨hv, uv, h.dev hK hT hk, (((Fr.kept hk).mono (fun b _ e => Or.inr (Or.inl e))).tg hk.below : Fr (TG n0 w gp g m hv uv hs XF) w w'), fun _ hb => Or.inl hb, fun b hx => Or.inl ((hK.fr h.env (Fr.kept hk) (fun b hb => (h.x2 b hb).1)).2 b hx)⟩
theorem SyP.below (h : SyP n0 w w' gp ga g m a most ff fi ca E XF hv uv hs hs' us' d' s') (hn : n0 ≤ w.heap.size) : Below n0 w w' := by
  obtain ⟨_, _, _, hF, _⟩ := h
  exact hF.below hn (fun b e => e.1)
theorem SyP.next {hv1 uv1 : Value} (hF : Fr (TG n0 w gp g m hv uv hs XF) w w') (hn : ∀ b, PF gp hv1 uv1 hs' b → PF gp hv uv hs b ∨ w.heap.size ≤ b) (hx : ∀ b, XF w' b → XF w b ∨ w.heap.size ≤ b) (k : SyP n0 w' w'' gp ga g m a most ff fi ca E XF hv1 uv1 hs' hs'' us'' d'' s'') :
    SyP n0 w w'' gp ga g m a most ff fi ca E XF hv uv hs hs'' us'' d'' s'' := by
  obtain ⟨hv2, uv2, hS2, hF2, hn2, hx2⟩ := k
  refine ⟨hv2, uv2, hS2, hF.trans hF2 (fun b hb e => ⟨e.1, TF_old hF hn hx b hb e.2⟩), fun b hb => ?_, fun b hb => ?_⟩
  · rcases hn2 b hb with h1 | h1
    · exact hn b h1
    · exact Or.inr (Nat.le_trans hF.size h1)
  · rcases hx2 b hb with h1 | h1
    · exact hx b h1
    · exact Or.inr (Nat.le_trans hF.size h1)
end
end
end Go.Proofs.YtjlcbabnkhdgpaaGreatDoor
namespace Go.Proofs.YtjlcbabnkhdgpaaGreatDoor
section
set_option linter.unusedSimpArgs false
set_option linter.unusedVariables false
open Go.RowKit Go.Maps

def frOf (hs : List Hl) (k : Int) : FrM := match fd hs k with | some y => y.2 | none => ⟨[], 0, false⟩
def imgsOf (hs : List Hl) (ns : List Int) : List Img := ns.map fun k => (k, (frOf hs k).bytes)
def topOf (hs : List Hl) (ns : List Int) : Nat := ns.foldl (fun t k => max t (lsnB (frOf hs k).bytes)) 0
def cleanF (hs : List Hl) (ns : List Int) : List Hl := ns.foldl (fun hs k => setF hs k { frOf hs k with dirty := false }) hs
def writeR {σ : Type} (hs : List Hl) (ns : List Int) (s : σ) (q : Int × DevM) : Int × List Hl × σ × DevM := if q.1 ≠ 0 then (q.1, hs, s, q.2) else (0, cleanF hs ns, s, q.2)
def writeQ {σ : Type} (a : ArM) (hs : List Hl) (ns : List Int) (r : Int × σ × DevM) : Int × List Hl × σ × DevM := if r.1 ≠ 0 then (r.1, hs, r.2.1, r.2.2) else writeR hs ns r.2.1 (twriteM a r.2.2 (imgsOf hs ns))
def writeP {σ : Type} (step : σ → DevM → Int → Int × σ × DevM) (a : ArM) (hs : List Hl) (s : σ) (d : DevM) (ns : List Int) : Int × List Hl × σ × DevM := if ns = [] then (0, hs, s, d) else writeQ a hs ns (step s d (topOf hs ns : Nat))
theorem fd_setF (hs : List Hl) (k : Int) (f : FrM) (k' : Int) : fd (setF hs k f) k' = if k' = k then (fd hs k').map (fun y => (y.1, f)) else fd hs k' := by
  unfold fd setF
  induction hs with
  | nil => split <;> rfl
  | cons x hs ih =>
    rw [List.map_cons, List.find?_cons, List.find?_cons]
    by_cases hx : x.1 = k
    · rw [if_pos hx]
      by_cases hk : x.1 = k'
      · have h1 : ((x.1, x.2.1, f) : Hl).1 == k' := by simpa using hk
        rw [h1, if_pos (by rw [← hk, hx])]; rfl
      · have h1 : (((x.1, x.2.1, f) : Hl).1 == k') = false := by simpa using hk
        rw [h1]; exact ih
    · rw [if_neg hx]
      by_cases hk : x.1 = k'
      · have h2 : (x.1 == k') = true := by simpa using hk
        rw [h2, if_neg (by rw [← hk]; exact hx)]
      · have h2 : (x.1 == k') = false := by simpa using hk
        rw [h2]; exact ih
theorem cleanF_snoc (hs : List Hl) (ns : List Int) (k : Int) : cleanF hs (ns ++ [k]) = setF (cleanF hs ns) k { frOf (cleanF hs ns) k with dirty := false } := by
  unfold cleanF
  rw [List.foldl_append]; rfl
theorem cleanF_some (hs : List Hl) (ns : List Int) (k : Int) : (fd (cleanF hs ns) k).isSome = (fd hs k).isSome := by
  induction ns using snoc_ind with
  | h0 => rfl
  | h1 ns x ih =>
    rw [cleanF_snoc, fd_setF]
    split
    · rw [Option.isSome_map]; exact ih
    · exact ih
theorem topOf_snoc (hs : List Hl) (ns : List Int) (k : Int) : topOf hs (ns ++ [k]) = max (topOf hs ns) (lsnB (frOf hs k).bytes) := by
  unfold topOf
  rw [List.foldl_append]; rfl
theorem lsnB_lt (l : List UInt8) : lsnB l ≤ 281474976710655 := by
  unfold lsnB
  have h1 := getB_lt (l.take 6)
  have h2 : 256 ^ (l.take 6).length ≤ 256 ^ 6 := Nat.pow_le_pow_right (by decide) (by rw [List.length_take]; omega)
  have h3 : (256 : Nat) ^ 6 = 281474976710656 := by decide
  omega
theorem topOf_le (hs : List Hl) (ns : List Int) : topOf hs ns ≤ 281474976710655 := by
  induction ns using snoc_ind with
  | h0 => exact Nat.zero_le _
  | h1 ns x ih =>
    rw [topOf_snoc]
    have := lsnB_lt (frOf hs x).bytes
    omega
theorem setF_blocks (hs : List Hl) (k : Int) (f : FrM) : (setF hs k f).map (·.2.1) = hs.map (·.2.1) := by
  unfold setF
  rw [List.map_map]
  apply List.map_congr_left
  intro x _
  simp only [Function.comp]
  split <;> rfl
theorem cleanF_blocks (hs : List Hl) (ns : List Int) : (cleanF hs ns).map (·.2.1) = hs.map (·.2.1) := by
  induction ns using snoc_ind with
  | h0 => rfl
  | h1 ns x ih => rw [cleanF_snoc, setF_blocks]; exact ih
def Small512 (hs : List Hl) : Prop := ∀ x ∈ hs, x.2.2.bytes.length = 512
theorem Small512.fr {hs : List Hl} (h : Small512 hs) {k : Int} (hk : (fd hs k).isSome = true) : (frOf hs k).bytes.length = 512 := by
  obtain ⟨y, hy⟩ := Option.isSome_iff_exists.1 hk
  unfold frOf
  rw [hy]
  exact h _ (fd_mem hy)
section
variable {n0 gp ga g m : Nat} {a : ArM} {d : DevM} {most : Int} {ff : FuncId} {fi ca : Array Value} {hv uv : Value} {hs : List Hl} {us : List Int}
variable {σ : Type} {E : σ → World → Prop} {XF : World → Nat → Prop} {step : σ → DevM → Int → Int × σ × DevM} {SM : σ → Prop} {s : σ}
set_option maxHeartbeats 6400000 in
set_option maxRecDepth 100000 in
theorem pwrite_any (w : World) (base : Nat) (vn : Value) (ns : List Int) (h : Sy n0 w gp ga g m a most ff fi ca E XF hv uv hs us d s) (hK : FlOk n0 ga g m a ff fi ca E XF step SM) (hsm : SM s) (hvn : Ints base w vn ns) (hin : ∀ k ∈ ns, (fd hs k).isSome = true) (hl : ns.length ≤ 1000)
    (h512 : Small512 hs) (hc : d.cmds < 600000000) (hst : ∀ s d n, (step s d n).2.2.cmds ≤ d.cmds + 100000000) (hvb : ∀ b, vn.ownBlock = some b → ¬ XF w b ∧ ¬ PF gp hv uv hs b) :
    Calls Tryz.prog 45 #[.pointer (some ⟨gp, 0, none⟩), vn] w fun e w' => e = .returned (.int .i64 (writeP step a hs s d ns).1) ∧
      SyP n0 w w' gp ga g m a most ff fi ca E XF hv uv hs (writeP step a hs s d ns).2.1 us (writeP step a hs s d ns).2.2.2 (writeP step a hs s d ns).2.2.1 := by
  obtain ⟨A, cap, hve, hnil, _⟩ := IntsAt.of_own hvn
  have HVN := Lib.hid hvn; have HIN := Lib.hid hin; have H := Lib.hid h; have HK := Lib.hid hK; have H5 := Lib.hid h512; have HST := Lib.hid hst; have HVB := Lib.hid hvb; have HNIL := Lib.hid hnil
  subst hve
  clear hvn hin h hK h512 hst hvb hnil
  go_enter Tryz.func45, Tryz.ntmps45
  go_wp2_with fail
  go_loopg [5, 6, 19] ns.length (fun gh lv tv iv wr => ∃ k : Nat, k ≤ ns.length ∧ gh = ns.length - k ∧ iv = .int .i64 (k : Int) ∧ tv = .int .i64 (topOf hs (ns.take k) : Nat) ∧
    wr.ownsRow w.heap.size 132 2 lv (imgsOf hs (ns.take k)).length (imgCells (imgsOf hs (ns.take k))) ∧ Below w.heap.size w wr)
  case atStart => exact ⟨0, Nat.zero_le _, rfl, rfl, rfl, World.ownsRow_nil _ _ _ _, Below.refl _ _⟩
  case round =>
    obtain ⟨k, hk, rfl, rfl, rfl, hL, hB⟩ := hrel
    by_cases hlt : k < ns.length
    · have hltI : (k : Int) < (ns.length : Int) := by omega
      obtain ⟨n, hn⟩ : ∃ n, n = ns[k] := ⟨_, rfl⟩
      have hin := HIN.out n (hn ▸ List.getElem_mem hlt)
      obtain ⟨y, hy⟩ := Option.isSome_iff_exists.1 hin
      have htk : ns.take (k + 1) = ns.take k ++ [n] := by rw [hn]; exact (List.take_append_getElem hlt).symm
      have hyf : frOf hs n = y.2 := by unfold frOf; rw [hy]
      have hy5 : y.2.bytes.length = 512 := H5.out _ (fd_mem hy)
      have y0 : ∃ ad : Addr, A = some ad ∧ wr.cell? (ad.add k) = some (.int .i64 n) := by
        obtain ⟨A', cap', e, q1, q2⟩ := (IntsAt.of_own HVN.out).below hB
        injection e with e1 e2 e3
        subst e1
        cases A with
        | none => rw [(q1 rfl).2] at hlt; simp at hlt
        | some ad => exact ⟨ad, rfl, q2 ad rfl k _ (by rw [hn]; simp [hlt])⟩
      obtain ⟨ad, rfl, y0⟩ := y0
      have hg := (H.out.po.up hB).get n
      rw [hy] at hg
      have hfr := (H.out.po.frame hy).up hB
      have HFW := Lib.hid (H.out.po.frame hy)
      have hils : imgsOf hs (ns.take (k + 1)) = imgsOf hs (ns.take k) ++ [(n, y.2.bytes)] := by rw [htk]; unfold imgsOf; rw [List.map_append]; simp [hyf]
      have htop : topOf hs (ns.take (k + 1)) = max (topOf hs (ns.take k)) (lsnB y.2.bytes) := by rw [htk, topOf_snoc, hyf]
      have hlsn := fun W => lsn_ok y.2.bytes hy5 W
      have HL := Lib.hid hL; have HB := Lib.hid hB; have HFR := Lib.hid hfr; have HILS := Lib.hid hils; have HTOP := Lib.hid htop
      have hil : (imgsOf hs (ns.take k)).length = k := by unfold imgsOf; rw [List.length_map, List.length_take]; omega
      have HIL := Lib.hid hil
      clear hin hn htk hyf hy5 hy hL hB hfr hils htop hil
      go_wp2_with fail
      refine hg.mono ?_
      clear hg
      rintro e w2 ⟨rfl, hb2⟩
      have hF2 := HFR.out.up hb2
      have c0 : w2.cell? ⟨y.1, 0, none⟩ = some (.string (bs y.2.bytes)) := hF2.cell 0
      have hb3 : Below w2.heap.size w2 (w2.alloc (.cells #[.int .i64 n, .string (bs y.2.bytes)] 132)) := (Below.refl _ _).alloc (Nat.le_refl _) _
      have hB3 := HB.out.trans ((hb2.mono HB.out.size).trans (hb3.mono (Nat.le_trans HB.out.size hb2.size)))
      have hL3 := ownsRow_grown HL.out (grown_of_below (hb2.trans (hb3.mono hb2.size)) none) (by simp)
      obtain ⟨lv', w4, hr, q1, q2⟩ := imgs_append w.heap.size _ _ n y.2.bytes w2.heap.size _ hL3 (Blk.made w2 _ _) (by have := HIL.out; omega) hB3.size
      have hB4 : Below w.heap.size w w4 := hB3.grown q2 hB3.size (fun c e => (hL3.lt c e).1)
      have c4 : w4.cell? ⟨y.1, 0, none⟩ = some (.string (bs y.2.bytes)) := (hB4.cell (p := ⟨y.1, 0, none⟩) HFW.out.lt).trans (HFW.out.cell 0)
      rw [← HILS.out] at q1
      have HQ1 := Lib.hid q1; have HB4 := Lib.hid hB4
      clear hF2 hb2 hb3 hB3 hL3 q1 q2 hB4
      go_wp2_with (at_builtin; refine Lib.wpList_append_run _ rfl _ _ _ _ rfl _ _ rfl rfl _ _ hr ?_)
      refine (hlsn w4).mono ?_
      clear hlsn
      rintro e w5 ⟨rfl, rfl⟩
      go_wp2_with fail
      go_roundg (ns.length - (k + 1))
      case measure => omega
      case rel => exact ⟨k + 1, by omega, rfl, by go_num, by rw [HTOP.out]; congr 1; unfold lsnB; omega, HQ1.out, HB4.out⟩
    · have hkl : k = ns.length := by omega
      have htk : ns.take k = ns := by rw [hkl, List.take_length]
      rw [htk] at hL ⊢
      have hltI : ¬ ((k : Int) < (ns.length : Int)) := by omega
      have hil : (imgsOf hs ns).length = ns.length := by unfold imgsOf; rw [List.length_map]
      have HL := Lib.hid hL; have HB := Lib.hid hB; have HIL := Lib.hid hil
      obtain ⟨A2, c2, hlve, _, _⟩ := CellsAt.of_own hL
      subst hlve
      clear hL hB htk hil
      by_cases hns : ns = []
      · have HW := Lib.hid (show writeP step a hs s d ns = (0, hs, s, d) by rw [writeP, if_pos hns])
        have hil0 : (imgsOf hs ns).length = 0 := by rw [HIL.out, hns]; rfl
        have Hs := Lib.hid (H.out.up HK.out HB.out)
        rw [hil0] at HL ⊢
        clear hns hkl hltI hil0
        go_wp2_with fail
        go_ret
        exact ⟨by rw [HW.out]; rfl, by rw [HW.out]; exact ⟨hv, uv, Hs.out, Fr.up HB.out, fun b hb => Or.inl hb, fun b hb => Or.inl ((HK.out.fr H.out.env (Fr.up (F := fun _ => False) HB.out) (fun _ _ e => e)).2 b hb)⟩⟩
      · have hne : ¬ (((imgsOf hs ns).length : Int) = 0) := by
          rw [HIL.out]
          have : ns.length ≠ 0 := fun e => hns (List.eq_nil_of_length_eq_zero e)
          omega
        have hSy := H.out.up HK.out HB.out
        have hcall := HK.out.call s wr d (topOf hs ns : Nat) hSy.env hsm hSy.tw (by omega) (by have := topOf_le hs ns; omega) (by omega) hSy.x2 (fun kv b hc hb => (hSy.x3 kv b hc hb).1)
        have Hs := Lib.hid hSy; have HNS := Lib.hid hns
        have hfl := hSy.po.cells.2.2.1
        have hent := HK.out.ent
        have hxlt : ∀ b, XF wr b → b < w.heap.size := fun b hb => (HK.out.lt H.out.env ((HK.out.fr H.out.env (Fr.up (F := fun _ => False) HB.out) (fun _ _ e => e)).2 b hb)).2
        have hvr := ownsRow_grown HVN.out (grown_of_below HB.out none) (by simp)
        have HXL := Lib.hid hxlt; have HVR := Lib.hid hvr
        have HXW := Lib.hid (HK.out.fr H.out.env (Fr.up (F := fun _ => False) HB.out) (fun _ _ e => e)).2
        clear hSy hns hkl hxlt hvr
        go_wp2_with fail
        refine hcall.mono ?_
        clear hcall
        rintro e w2 ⟨rfl, hE2, hT2, hF2, hC2, hX2, hxa, hxb, hbl2⟩
        have HBL2 := Lib.hid ((HB.out.mono H.out.po.size).trans hbl2)
        clear hbl2
        have hS2 := Hs.out.flush HK.out hE2 hT2 hF2 hC2 hX2 hxa hxb
        have HF2 := Lib.hid hF2
        have HX2 : Hid (∀ b, XF w2 b → XF w b ∨ w.heap.size ≤ b) := Lib.hid (fun b hb => (hX2 b hb).elim (fun h => Or.inl (HXW.out b h)) (fun h => Or.inr (Nat.le_trans HB.out.size h)))
        have hvn2 : Ints base w2 (.slice A ns.length cap) ns := hF2.own HVR.out (fun b e hf => by
          rcases hf with hf | hf
          · exact (HVB.out b e).1 (HXW.out b hf)
          · exact own_notDev HVR.out Hs.out.tw (by decide) (by decide) e hf)
        have hL2 := hF2.own HL.out (fun b e hf => by
          rcases hf with hf | hf
          · have h1 := (HL.out.lt b e).1
            have h2 := HXL.out b hf
            omega
          · exact own_notDev HL.out Hs.out.tw (by decide) (by decide) e hf)
        have hcm := HST.out s d (topOf hs ns : Nat)
        have hWP : writeP step a hs s d ns = writeQ a hs ns (step s d (topOf hs ns : Nat)) := by rw [writeP, if_neg HNS.out]
        generalize step s d (topOf hs ns : Nat) = rs at *
        obtain ⟨er, s2, d2⟩ := rs
        dsimp only at hS2 hcm hWP
        have HS2 := Lib.hid hS2; have HVN2 := Lib.hid hvn2; have HL2 := Lib.hid hL2
        have c0 := hS2.po.cells.1
        clear hE2 hT2 hF2 hC2 hX2 hxa hxb hS2 hvn2 hL2 hent hfl
        by_cases her : er = 0
        · rw [writeQ, if_neg (by simpa using her)] at hWP
          dsimp only at hWP
          subst her
          obtain ⟨A3, c3, hu, hIm, hcap⟩ := imgs_at HL2.out HS2.out.tw.dv.blk2 HS2.out.tw.dv.map2
          injection hu with e1 e2 e3
          subst e1 e3
          have htw := twrite_any n0 ga g m a d2 A2 c2 (imgsOf hs ns) w2 HS2.out.tw hIm hcap (by rw [HIL.out]; omega) (fun x hx => by
            unfold imgsOf at hx
            obtain ⟨n, hn, rfl⟩ := List.mem_map.1 hx
            have := H5.out.fr (HIN.out n hn)
            dsimp only
            omega) (by omega)
          have HWP := Lib.hid hWP
          clear hWP hIm hcap
          go_wp2_with fail
          refine htw.mono ?_
          clear htw
          rintro e w3 ⟨rfl, hT3, hk3⟩
          have hS3 := HS2.out.dev HK.out hT3 hk3
          have HF3 := Lib.hid (Fr.kept hk3)
          have HX3 : Hid (∀ b, XF w3 b → XF w b ∨ w.heap.size ≤ b) := Lib.hid (fun b hb => HX2.out b ((HK.out.fr HS2.out.env HF3.out (fun b hb => (HS2.out.x2 b hb).1)).2 b hb))
          have hvn3 : Ints base w3 (.slice A ns.length cap) ns := HF3.out.own HVN2.out (fun b e hf => own_notDev HVN2.out HS2.out.tw (by decide) (by decide) e hf)
          generalize twriteM a d2 (imgsOf hs ns) = rt at *
          obtain ⟨et, d3⟩ := rt
          dsimp only at hS3 HWP
          have HS3 := Lib.hid hS3; have HVN3 := Lib.hid hvn3
          have hfr2 : Fr (TF w gp g m hv uv hs XF) w w2 := (Fr.up (F := TF w gp g m hv uv hs XF) HB.out).trans HF2.out (fun b hb hf => by
            rcases hf with hf | hf
            · exact Or.inr (Or.inr (HXW.out b hf))
            · exact Or.inr (Or.inl ((devF_or (Fr.up (F := fun _ => False) HB.out) hb hf).resolve_left (fun e => e))))
          have hfr3 : Fr (TF w gp g m hv uv hs XF) w w3 := hfr2.trans HF3.out (fun b hb hf => (devF_or hfr2 hb hf).elim id (fun e => Or.inr (Or.inl e)))
          have HFR : Hid (Fr (TG n0 w gp g m hv uv hs XF) w w3) := Lib.hid (hfr3.tg (HBL2.out.trans hk3.below))
          clear hT3 hk3 hS3 hvn3 hfr2 hfr3
          by_cases het : et = 0
          · subst het
            rw [writeR, if_neg (by simp)] at HWP
            have hcl0 : cleanF hs (ns.take 0) = hs := rfl
            go_wp2_with fail
            go_loopg [71] ns.length (fun gh iv wr2 => ∃ k : Nat, k ≤ ns.length ∧ gh = ns.length - k ∧ iv = .int .i64 (k : Int) ∧ Sy n0 wr2 gp ga g m a most ff fi ca E XF hv uv (cleanF hs (ns.take k)) us d3 s2 ∧ Ints base wr2 (.slice A ns.length cap) ns ∧ Fr (PF gp hv uv hs) w3 wr2)
            case atStart => exact ⟨0, Nat.zero_le _, rfl, rfl, HS3.out, HVN3.out, Fr.refl _ _⟩
            case round =>
              obtain ⟨k, hk, rfl, rfl, hS, hVn, hF⟩ := hrel
              by_cases hlt : k < ns.length
              · have hltI : (k : Int) < (ns.length : Int) := by omega
                obtain ⟨n, hn⟩ : ∃ n, n = ns[k] := ⟨_, rfl⟩
                have hsome : (fd (cleanF hs (ns.take k)) n).isSome = true := by rw [cleanF_some]; exact HIN.out n (hn ▸ List.getElem_mem hlt)
                obtain ⟨y, hy⟩ := Option.isSome_iff_exists.1 hsome
                have htk : cleanF hs (ns.take (k + 1)) = setF (cleanF hs (ns.take k)) n { y.2 with dirty := false } := by
                  have h1 : ns.take (k + 1) = ns.take k ++ [n] := by rw [hn]; exact (List.take_append_getElem hlt).symm
                  have h2 : frOf (cleanF hs (ns.take k)) n = y.2 := by unfold frOf; rw [hy]
                  rw [h1, cleanF_snoc, h2]
                have y0 : ∃ ad : Addr, A = some ad ∧ wr.cell? (ad.add k) = some (.int .i64 n) := by
                  obtain ⟨A', cap', e, q1, q2⟩ := IntsAt.of_own hVn
                  injection e with e1 e2 e3
                  subst e1
                  cases A with
                  | none => rw [(q1 rfl).2] at hlt; simp at hlt
                  | some ad => exact ⟨ad, rfl, q2 ad rfl k _ (by rw [hn]; simp [hlt])⟩
                obtain ⟨ad, rfl, y0⟩ := y0
                have hg := hS.po.get n
                rw [hy] at hg
                have HS := Lib.hid hS; have HV := Lib.hid hVn; have HF := Lib.hid hF; have HTK := Lib.hid htk; have HY := Lib.hid hy; have HFB := Lib.hid (hS.po.frame hy)
                clear hS hVn hF htk hy hn hsome
                go_wp2_with fail
                refine hg.mono ?_
                clear hg
                rintro e w4 ⟨rfl, hb4⟩
                have hB4 := HFB.out.up hb4
                have c2 : w4.cell? ⟨y.1, 2, none⟩ = some (.bool y.2.dirty) := hB4.cell 2
                have f2 := hB4.frozen 2
                have hB5 : Blk (w4.setCell ⟨y.1, 2, none⟩ (.bool false)) y.1 90 (frC { y.2 with dirty := false }) := hB4.set 2 _
                have hS4 := HS.out.up HK.out hb4
                have hyP : PF gp hv uv (cleanF hs (ns.take k)) y.1 := Or.inr (Or.inr (Or.inr (List.mem_map_of_mem (f := fun x : Hl => x.2.1) (fd_mem HY.out))))
                have hP5 := hS4.po.setFrame HY.out (Fr.setCell w4 y.1 2 (.bool false)) hB5
                have hS5 := hS4.pool HK.out hP5 ((Fr.setCell w4 y.1 2 (.bool false)).mono (fun b _ e => by rw [e]; exact hyP)) (fun b hb => Or.inl (PF_congr (setF_blocks _ _ _) hb))
                rw [← HTK.out] at hS5
                have hyQ : PF gp hv uv hs y.1 := PF_congr (cleanF_blocks hs (ns.take k)) hyP
                have hV5 : Ints base (w4.setCell ⟨y.1, 2, none⟩ (.bool false)) (.slice (some ad) ns.length cap) ns := (Fr.setCell w4 y.1 2 (.bool false)).own (ownsRow_grown HV.out (grown_of_below hb4 none) (by simp)) (fun b e e2 => (HVB.out b e).2 (by rw [e2]; exact hyQ))
                have hF5 : Fr (PF gp hv uv hs) w3 (w4.setCell ⟨y.1, 2, none⟩ (.bool false)) := (HF.out.trans (Fr.up (F := fun _ => False) hb4) (fun _ _ e => e.elim)).trans (Fr.setCell w4 y.1 2 (.bool false)) (fun b _ e => by rw [e]; exact hyQ)
                have HS5 := Lib.hid hS5; have HV5 := Lib.hid hV5; have HF5 := Lib.hid hF5
                clear hB4 hB5 hS4 hyP hP5 hS5 hyQ hV5 hF5 hb4
                go_wp2_with fail
                go_roundg (ns.length - (k + 1))
                case measure => omega
                case rel => exact ⟨k + 1, by omega, rfl, by go_num, HS5.out, HV5.out, HF5.out⟩
              · have hkl : k = ns.length := by omega
                have hltI : ¬ ((k : Int) < (ns.length : Int)) := by omega
                rw [hkl, List.take_length] at hS
                have HS := Lib.hid hS; have HF := Lib.hid hF
                clear hS hVn hF hkl
                go_wp2_with fail
                go_ret
                exact ⟨by rw [HWP.out]; rfl, by rw [HWP.out]; exact ⟨hv, uv, HS.out, HFR.out.trans HF.out (fun b _ e => ⟨H.out.po.ge b e, Or.inl e⟩), fun b hb => Or.inl (PF_congr (cleanF_blocks hs ns) hb), fun b hb => HX3.out b ((HK.out.fr HS3.out.env HF.out (fun b hb hp => HS3.out.x1 b hb hp)).2 b hb)⟩⟩
          · rw [writeR, if_pos (by simpa using het)] at HWP
            go_wp2_with fail
            go_ret
            exact ⟨by rw [HWP.out]; rfl, by rw [HWP.out]; exact ⟨hv, uv, HS3.out, HFR.out, fun b hb => Or.inl hb, HX3.out⟩⟩
        · rw [writeQ, if_pos (by simpa using her)] at hWP
          dsimp only at hWP
          have HWP := Lib.hid hWP
          have hfr2 : Fr (TF w gp g m hv uv hs XF) w w2 := (Fr.up (F := TF w gp g m hv uv hs XF) HB.out).trans HF2.out (fun b hb hf => by
            rcases hf with hf | hf
            · exact Or.inr (Or.inr (HXW.out b hf))
            · exact Or.inr (Or.inl ((devF_or (Fr.up (F := fun _ => False) HB.out) hb hf).resolve_left (fun e => e))))
          have HFR : Hid (Fr (TG n0 w gp g m hv uv hs XF) w w2) := Lib.hid (hfr2.tg HBL2.out)
          clear hWP hfr2
          go_wp2_with fail
          go_ret
          exact ⟨by rw [HWP.out]; rfl, by rw [HWP.out]; exact ⟨hv, uv, HS2.out, HFR.out, fun b hb => Or.inl hb, HX2.out⟩⟩
end
end
end Go.Proofs.YtjlcbabnkhdgpaaGreatDoor
namespace Go.Proofs.YtjlcbabnkhdgpaaGreatDoor
section
set_option linter.unusedSimpArgs false
set_option linter.unusedVariables false
open Go.RowKit Go.Maps

theorem psOf_del (hs : List Hl) (k : Int) : psOf (delF hs k) = delL (psOf hs) k := by
  unfold delF delL
  split
  · unfold psOf; rw [List.map_append, List.map_take, List.map_drop]
  · rfl
theorem delF_sub (hs : List Hl) (k : Int) : (delF hs k).Sublist hs := by
  unfold delF
  split
  · have h := List.take_append_drop (posL (psOf hs) k) hs
    have h2 : (hs.drop (posL (psOf hs) k + 1)).Sublist (hs.drop (posL (psOf hs) k)) := by
      rw [← List.drop_drop]
      exact List.drop_sublist _ _
    calc (hs.take (posL (psOf hs) k) ++ hs.drop (posL (psOf hs) k + 1)).Sublist (hs.take (posL (psOf hs) k) ++ hs.drop (posL (psOf hs) k)) := (List.Sublist.refl _).append h2
      _ = hs := h
  · exact List.Sublist.refl _
theorem psOf_ins (hs : List Hl) (k : Int) (y : Nat × FrM) (hn : fd hs k = none) : psOf (insF hs k y) = setL (psOf hs) k y.1 := by
  have : hasL (psOf hs) k = false := by rw [hasL_fd, hn]; rfl
  unfold insF setL
  rw [if_neg (by simp [this])]
  unfold psOf
  rw [List.map_append, List.map_append, List.map_take, List.map_drop]
  rfl
section
variable {F : Nat → Prop} {n0 gp ga : Nat} {w w' : World} {most : Int} {fl hv uv : Value} {hs : List Hl} {us : List Int}
theorem PoAt.frameNe (h : PoAt n0 w gp ga most fl hv uv hs us) {x : Hl} (hx : x ∈ hs) : x.2.1 ≠ gp ∧ some x.2.1 ≠ hv.ownBlock ∧ some x.2.1 ≠ uv.ownBlock :=
  ⟨(h.frm x hx).ne h.blk (by decide), (h.frm x hx).notOwn h.row (by decide), (h.frm x hx).notOwn h.lst (by decide)⟩
theorem PoAt.rowsNe (h : PoAt n0 w gp ga most fl hv uv hs us) : some gp ≠ hv.ownBlock ∧ some gp ≠ uv.ownBlock ∧ (∀ b, hv.ownBlock = some b → some b ≠ uv.ownBlock) := by
  refine ⟨h.blk.notOwn h.row (by decide), h.blk.notOwn h.lst (by decide), fun b e e2 => ?_⟩
  rcases h.row.2 with ⟨e1, _⟩ | ⟨g', cap, cur, hv', _, hh, _⟩
  · rw [e1] at e; cases e
  · rw [hv'] at e
    injection e with e
    subst e
    exact (show Blk w g' _ cur from hh).notOwn h.lst (by decide) e2
/-- The map's row has changed. -/
theorem PoAt.newRow (h : PoAt n0 w gp ga most fl hv uv hs us) {hv' : Value} {hs' : List Hl} (hB : Blk w' gp 84 (#[.pointer (some ⟨ga, 0, none⟩), .int .i64 most, fl, hv, uv].setIfInBounds 3 hv')) (hR : w'.ownsRow n0 118 2 hv' (psOf hs').length (prC (psOf hs')))
    (hF : Fr (fun c => c = gp ∨ some c = hv.ownBlock) w w') (hfr : ∀ x ∈ hs', Blk w' x.2.1 90 (frC x.2.2)) (hnd : (hs'.map (·.2.1)).Nodup) (hri : Rise (psOf hs')) (hbn : ∀ x ∈ hs', n0 ≤ x.2.1) (hfw : hs'.length ≤ 1000) : PoAt n0 w' gp ga most fl hv' uv hs' us :=
  ⟨hB, hR, hF.own h.lst (fun b e e2 => by
      rcases e2 with e2 | e2
      · exact h.rowsNe.2.1 (by rw [e, e2])
      · exact h.rowsNe.2.2 b e2.symm e.symm), hfr, hnd, hri, h.gpn, hbn, Nat.le_trans h.size hF.size, hfw, h.fewu⟩
theorem PoAt.mdel (h : PoAt n0 w gp ga most fl hv uv hs us) (k : Int) :
    Calls Tryz.prog 64 #[.pointer (some ⟨gp, 3, none⟩), .int .i64 k] w fun e w' => (∃ v, e = .returned v) ∧ ∃ hv', PoAt n0 w' gp ga most fl hv' uv (delF hs k) us ∧ Fr (PF gp hv uv hs) w w' ∧ ∀ b, PF gp hv' uv (delF hs k) b → PF gp hv uv hs b ∨ w.heap.size ≤ b := by
  refine (mdelF_any n0 gp 3 84 _ hv (psOf hs) k w h.blk rfl (by decide) h.row h.rise (by rw [psOf_length]; have := h.few; omega) h.size).mono ?_
  rintro e w' ⟨rfl, hv', hB, hR, hF, hn⟩
  have hsub := delF_sub hs k
  refine ⟨⟨_, rfl⟩, hv', h.newRow hB (by rw [psOf_del]; exact hR) hF (fun x hx => ?_) (List.Sublist.nodup (hsub.map _) h.nod) (List.Pairwise.sublist (hsub.map _) h.rise) (fun x hx => h.frn x (hsub.subset hx)) (Nat.le_trans hsub.length_le h.few), ?_, fun b hb => ?_⟩
  · have hx' := hsub.subset hx
    obtain ⟨q1, q2, q3⟩ := h.frameNe hx'
    exact hF.blk (h.frm x hx') (fun e => e.elim q1 q2)
  · exact hF.mono (fun b _ e => e.elim Or.inl (fun e => Or.inr (Or.inl e)))
  · rcases hb with e | e | e | e
    · exact Or.inl (Or.inl e)
    · rcases hn b e.symm with h1 | h1
      · exact Or.inl (Or.inr (Or.inl h1.symm))
      · exact Or.inr h1
    · exact Or.inl (Or.inr (Or.inr (Or.inl e)))
    · exact Or.inl (Or.inr (Or.inr (Or.inr ((hsub.map _).subset e))))
/-- The list's row has changed. -/
theorem PoAt.newList (h : PoAt n0 w gp ga most fl hv uv hs us) {uv' : Value} {us' : List Int} (hB : Blk w' gp 84 (#[.pointer (some ⟨ga, 0, none⟩), .int .i64 most, fl, hv, uv].setIfInBounds 4 uv')) (hR : Ints n0 w' uv' us')
    (hF : Fr (fun c => c = gp ∨ some c = uv.ownBlock) w w') (hfw : us'.length ≤ 1000) : PoAt n0 w' gp ga most fl hv uv' hs us' :=
  ⟨hB, hF.own h.row (fun b e e2 => by
      rcases e2 with e2 | e2
      · exact h.rowsNe.1 (by rw [e, e2])
      · exact h.rowsNe.2.2 b e e2), hR, fun x hx => by
      obtain ⟨q1, q2, q3⟩ := h.frameNe hx
      exact hF.blk (h.frm x hx) (fun e => e.elim q1 q3), h.nod, h.rise, h.gpn, h.frn, Nat.le_trans h.size hF.size, h.few, hfw⟩
theorem PoAt.rdrop (h : PoAt n0 w gp ga most fl hv uv hs us) (k : Int) :
    Calls Tryz.prog 62 #[.pointer (some ⟨gp, 4, none⟩), .int .i64 k] w fun e w' => (∃ v, e = .returned v) ∧ ∃ uv', PoAt n0 w' gp ga most fl hv uv' hs (dropL us k) ∧ Fr (PF gp hv uv hs) w w' ∧ ∀ b, PF gp hv uv' hs b → PF gp hv uv hs b ∨ w.heap.size ≤ b := by
  refine (rdrop_any n0 gp 4 84 _ uv us k w h.blk rfl (by decide) h.lst (by have := h.fewu; omega)).mono ?_
  rintro e w' ⟨he, uv', hB, hR, hF, hn⟩
  refine ⟨he, uv', h.newList hB hR hF (Nat.le_trans (dropL_length us k) h.fewu), hF.mono (fun b _ e => e.elim Or.inl (fun e => Or.inr (Or.inr (Or.inl e)))), fun b hb => Or.inl ?_⟩
  rcases hb with e | e | e | e
  · exact Or.inl e
  · exact Or.inr (Or.inl e)
  · exact Or.inr (Or.inr (Or.inl (hn b e.symm).symm))
  · exact Or.inr (Or.inr (Or.inr e))
theorem PoAt.ruse (h : PoAt n0 w gp ga most fl hv uv hs us) (k : Int) (hu : us.length ≤ 900) :
    Calls Tryz.prog 39 #[.pointer (some ⟨gp, 4, none⟩), .int .i64 k] w fun e w' => e = .returned (.tuple #[]) ∧ ∃ uv', PoAt n0 w' gp ga most fl hv uv' hs (useL us k) ∧ Fr (PF gp hv uv hs) w w' ∧ ∀ b, PF gp hv uv' hs b → PF gp hv uv hs b ∨ w.heap.size ≤ b := by
  refine (ruse_any n0 gp 4 84 _ uv us k w h.blk rfl (by decide) h.lst (by have := h.fewu; omega) h.size).mono ?_
  rintro e w' ⟨he, uv', hB, hR, hF, hn⟩
  refine ⟨he, uv', h.newList hB hR hF (by unfold useL; rw [List.length_append]; have := dropL_length us k; simp; omega), hF.mono (fun b _ e => e.elim Or.inl (fun e => Or.inr (Or.inr (Or.inl e)))), fun b hb => ?_⟩
  rcases hb with e | e | e | e
  · exact Or.inl (Or.inl e)
  · exact Or.inl (Or.inr (Or.inl e))
  · rcases hn b e.symm with h1 | h1
    · exact Or.inl (Or.inr (Or.inr (Or.inl h1.symm)))
    · exact Or.inr h1
  · exact Or.inl (Or.inr (Or.inr (Or.inr e)))
end
theorem rise_ins {l : List (Int × Nat)} {k : Int} {x : Nat} (hs : Rise l) (hn : hasL l k = false) : Rise (l.take (posL l k) ++ [(k, x)] ++ l.drop (posL l k)) := by
  obtain ⟨s1, s2⟩ := posL_spec hs k
  have hp := posL_le l k
  have h1 : ∀ y ∈ l.take (posL l k), y.1 < k := by
    intro y hy
    obtain ⟨q, hq, rfl⟩ := List.getElem_of_mem hy
    rw [List.length_take] at hq
    rw [List.getElem_take]
    exact s1 q (by omega) (by omega)
  have h2 : ∀ y ∈ l.drop (posL l k), k < y.1 := by
    intro y hy
    obtain ⟨q, hq, rfl⟩ := List.getElem_of_mem hy
    rw [List.length_drop] at hq
    rw [List.getElem_drop]
    have h3 := s2 (posL l k + q) (by omega) (by omega)
    have h4 : l[posL l k + q].1 ≠ k := fun e => by
      have := hasL_in (by omega) e
      rw [hn] at this
      cases this
    omega
  unfold Rise
  rw [List.append_assoc, List.pairwise_append]
  refine ⟨List.Pairwise.sublist (List.take_sublist _ _) hs, ?_, fun y hy z hz => ?_⟩
  · rw [List.singleton_append, List.pairwise_cons]
    exact ⟨fun z hz => h2 z hz, List.Pairwise.sublist (List.drop_sublist _ _) hs⟩
  · rcases List.mem_append.1 hz with hz | hz
    · rw [List.mem_singleton.1 hz]
      exact h1 y hy
    · have q1 := h1 y hy
      have q2 := h2 z hz
      omega
theorem insF_mem {hs : List Hl} {k : Int} {y : Nat × FrM} {x : Hl} (h : x ∈ insF hs k y) : x ∈ hs ∨ x = (k, y) := by
  unfold insF at h
  rcases List.mem_append.1 h with h | h
  · rcases List.mem_append.1 h with h | h
    · exact Or.inl (List.mem_of_mem_take h)
    · exact Or.inr (List.mem_singleton.1 h)
  · exact Or.inl (List.mem_of_mem_drop h)
section
variable {n0 gp ga : Nat} {w w' : World} {most : Int} {fl hv uv : Value} {hs : List Hl} {us : List Int}
theorem PoAt.mset (h : PoAt n0 w gp ga most fl hv uv hs us) (k : Int) (x : Nat) (f : FrM) (hx : Blk w x 90 (frC f)) (hxn : x ∉ hs.map (·.2.1)) (hx0 : n0 ≤ x) (hk : fd hs k = none) (hl : hs.length ≤ 900) :
    Calls Tryz.prog 38 #[.pointer (some ⟨gp, 3, none⟩), .int .i64 k, .pointer (some ⟨x, 0, none⟩)] w fun e w' => e = .returned (.tuple #[]) ∧ ∃ hv', PoAt n0 w' gp ga most fl hv' uv (insF hs k (x, f)) us ∧ Fr (PF gp hv uv hs) w w' ∧
      ∀ b, PF gp hv' uv (insF hs k (x, f)) b → PF gp hv uv hs b ∨ w.heap.size ≤ b ∨ b = x := by
  have hh : hasL (psOf hs) k = false := by rw [hasL_fd, hk]; rfl
  refine (msetF_any n0 gp 3 x 84 _ hv (psOf hs) k w h.blk rfl (by decide) h.row h.rise (by rw [psOf_length]; omega) h.size).mono ?_
  rintro e w' ⟨rfl, hv', hB, hR, hF, hn⟩
  have hps := psOf_ins hs k (x, f) hk
  have hset : setL (psOf hs) k x = (psOf hs).take (posL (psOf hs) k) ++ [(k, x)] ++ (psOf hs).drop (posL (psOf hs) k) := by unfold setL; rw [if_neg (by simp [hh])]
  have hxp : x ≠ gp ∧ some x ≠ hv.ownBlock := ⟨hx.ne h.blk (by decide), hx.notOwn h.row (by decide)⟩
  have hbl : (insF hs k (x, f)).map (·.2.1) = (hs.map (·.2.1)).take (posL (psOf hs) k) ++ [x] ++ (hs.map (·.2.1)).drop (posL (psOf hs) k) := by
    unfold insF
    rw [List.map_append, List.map_append, List.map_take, List.map_drop]; rfl
  refine ⟨rfl, hv', h.newRow hB (by rw [hps]; exact hR) hF (fun z hz => ?_) ?_ (by rw [hps, hset]; exact rise_ins h.rise hh) (fun z hz => ?_) ?_, hF.mono (fun b _ e => e.elim Or.inl (fun e => Or.inr (Or.inl e))), fun b hb => ?_⟩
  · rcases insF_mem hz with hz | rfl
    · obtain ⟨q1, q2, q3⟩ := h.frameNe hz
      exact hF.blk (h.frm z hz) (fun e => e.elim q1 q2)
    · exact hF.blk hx (fun e => e.elim hxp.1 hxp.2)
  · rw [hbl]
    have hnd := h.nod
    have h3 := List.take_append_drop (posL (psOf hs) k) (hs.map (·.2.1))
    rw [← h3] at hnd hxn
    rw [List.nodup_append] at hnd
    obtain ⟨d1, d2, d3⟩ := hnd
    rw [List.mem_append] at hxn
    rw [List.append_assoc, List.nodup_append]
    refine ⟨d1, ?_, fun y hy z hz => ?_⟩
    · rw [List.singleton_append, List.nodup_cons]
      exact ⟨fun e => hxn (Or.inr e), d2⟩
    · rcases List.mem_append.1 hz with hz | hz
      · rw [List.mem_singleton.1 hz]
        exact fun e => hxn (Or.inl (by rw [← e]; exact hy))
      · exact d3 y hy z hz
  · rcases insF_mem hz with hz | rfl
    · exact h.frn z hz
    · exact hx0
  · unfold insF
    simp only [List.length_append, List.length_take, List.length_drop, List.length_cons, List.length_nil]
    omega
  · rcases hb with e | e | e | e
    · exact Or.inl (Or.inl e)
    · rcases hn b e.symm with h1 | h1
      · exact Or.inl (Or.inr (Or.inl h1.symm))
      · exact Or.inr (Or.inl h1)
    · exact Or.inl (Or.inr (Or.inr (Or.inl e)))
    · obtain ⟨z, hz, rfl⟩ := List.mem_map.1 e
      rcases insF_mem hz with hz | rfl
      · exact Or.inl (Or.inr (Or.inr (Or.inr (List.mem_map_of_mem (f := fun x : Hl => x.2.1) hz))))
      · exact Or.inr (Or.inr rfl)
end
def outR {σ : Type} (n : Int) (us : List Int) (r : Int × List Hl × σ × DevM) : Int × List Hl × List Int × σ × DevM := if r.1 ≠ 0 then (r.1, r.2.1, us, r.2.2.1, r.2.2.2) else (0, delF r.2.1 n, dropL us n, r.2.2.1, r.2.2.2)
def outP {σ : Type} (step : σ → DevM → Int → Int × σ × DevM) (a : ArM) (hs : List Hl) (us : List Int) (s : σ) (d : DevM) (n : Int) : Int × List Hl × List Int × σ × DevM :=
  outR n us (if (frOf hs n).dirty = true then writeP step a hs s d [n] else (0, hs, s, d))
section
variable {n0 gp ga g m : Nat} {a : ArM} {d : DevM} {most : Int} {ff : FuncId} {fi ca : Array Value} {hv uv : Value} {hs : List Hl} {us : List Int}
variable {σ : Type} {E : σ → World → Prop} {XF : World → Nat → Prop} {step : σ → DevM → Int → Int × σ × DevM} {SM : σ → Prop} {s : σ}
set_option maxHeartbeats 1600000 in
set_option maxRecDepth 100000 in
theorem pgo_any (w : World) (n : Int) (h : Sy n0 w gp ga g m a most ff fi ca E XF hv uv hs us d s) (hK : FlOk n0 ga g m a ff fi ca E XF step SM) :
    Calls Tryz.prog 64 #[.pointer (some ⟨gp, 3, none⟩), .int .i64 n] w fun e w' => (∃ v, e = .returned v) ∧ SyP n0 w w' gp ga g m a most ff fi ca E XF hv uv hs (delF hs n) us d s := by
  refine (h.po.mdel n).mono ?_
  rintro e w' ⟨he, hv', hP, hF, hn⟩
  exact ⟨he, hv', uv, h.pool hK hP hF hn, hF.mono (fun b _ e => ⟨h.po.ge b e, Or.inl e⟩), hn, fun b hb => Or.inl ((hK.fr h.env hF (fun b hb hp => h.x1 b hb hp)).2 b hb)⟩
theorem pgo2_any (w : World) (n : Int) (h : Sy n0 w gp ga g m a most ff fi ca E XF hv uv hs us d s) (hK : FlOk n0 ga g m a ff fi ca E XF step SM) :
    Calls Tryz.prog 62 #[.pointer (some ⟨gp, 4, none⟩), .int .i64 n] w fun e w' => (∃ v, e = .returned v) ∧ SyP n0 w w' gp ga g m a most ff fi ca E XF hv uv hs hs (dropL us n) d s := by
  refine (h.po.rdrop n).mono ?_
  rintro e w' ⟨he, uv', hP, hF, hn⟩
  exact ⟨he, hv, uv', h.pool hK hP hF hn, hF.mono (fun b _ e => ⟨h.po.ge b e, Or.inl e⟩), hn, fun b hb => Or.inl ((hK.fr h.env hF (fun b hb hp => h.x1 b hb hp)).2 b hb)⟩
theorem pgo3_any (w : World) (n : Int) (h : Sy n0 w gp ga g m a most ff fi ca E XF hv uv hs us d s) (hK : FlOk n0 ga g m a ff fi ca E XF step SM) (hu : us.length ≤ 900) :
    Calls Tryz.prog 39 #[.pointer (some ⟨gp, 4, none⟩), .int .i64 n] w fun e w' => e = .returned (.tuple #[]) ∧ SyP n0 w w' gp ga g m a most ff fi ca E XF hv uv hs hs (useL us n) d s := by
  refine (h.po.ruse n hu).mono ?_
  rintro e w' ⟨he, uv', hP, hF, hn⟩
  exact ⟨he, hv, uv', h.pool hK hP hF hn, hF.mono (fun b _ e => ⟨h.po.ge b e, Or.inl e⟩), hn, fun b hb => Or.inl ((hK.fr h.env hF (fun b hb hp => h.x1 b hb hp)).2 b hb)⟩
theorem one_row (w : World) (n : Int) : Ints w.heap.size (w.alloc (.cells #[.int .i64 n] 3)) (.slice (some ⟨w.heap.size, 0, none⟩) 1 1) [n] :=
  ⟨rfl, Or.inr ⟨w.heap.size, 1, #[.int .i64 n], rfl, Nat.le_refl _, Blk.made w _ _, Nat.le_refl _, by unfold maxLen; omega, rfl, rfl⟩⟩
/-- The page's map and list entries go. -/
theorem outR_zero {n : Int} {us : List Int} {r : Int × List Hl × σ × DevM} (h : r.1 = 0) : outR n us r = (0, delF r.2.1 n, dropL us n, r.2.2.1, r.2.2.2) := by unfold outR; rw [if_neg (by simp [h])]
theorem outR_err {n : Int} {us : List Int} {r : Int × List Hl × σ × DevM} (h : r.1 ≠ 0) : outR n us r = (r.1, r.2.1, us, r.2.2.1, r.2.2.2) := by unfold outR; rw [if_pos h]
set_option maxHeartbeats 3200000 in
set_option maxRecDepth 100000 in
theorem pout_any (w : World) (n : Int) (y : Nat × FrM) (h : Sy n0 w gp ga g m a most ff fi ca E XF hv uv hs us d s) (hK : FlOk n0 ga g m a ff fi ca E XF step SM) (hsm : SM s) (hy : fd hs n = some y)
    (h512 : Small512 hs) (hc : d.cmds < 600000000) (hst : ∀ s d n, (step s d n).2.2.cmds ≤ d.cmds + 100000000) :
    Calls Tryz.prog 42 #[.pointer (some ⟨gp, 0, none⟩), .int .i64 n, .pointer (some ⟨y.1, 0, none⟩)] w fun e w' => e = .returned (.int .i64 (outP step a hs us s d n).1) ∧
      SyP n0 w w' gp ga g m a most ff fi ca E XF hv uv hs (outP step a hs us s d n).2.1 (outP step a hs us s d n).2.2.1 (outP step a hs us s d n).2.2.2.2 (outP step a hs us s d n).2.2.2.1 := by
  have hF := h.po.frame hy
  have hfo : frOf hs n = y.2 := by unfold frOf; rw [hy]
  have c2 : w.cell? ⟨y.1, 2, none⟩ = some (.bool y.2.dirty) := hF.cell 2
  have H := Lib.hid h; have HK := Lib.hid hK
  cases hd : y.2.dirty with
  | true =>
    have hO : outP step a hs us s d n = outR n us (writeP step a hs s d [n]) := by unfold outP; rw [hfo, hd, if_pos rfl]
    rw [hd] at c2
    have hb1 : Below w.heap.size w (w.alloc (.cells #[.int .i64 n] 3)) := (Below.refl _ _).alloc (Nat.le_refl _) _
    have hU := SyP.up h hK hb1
    have hw := pwrite_any (w.alloc (.cells #[.int .i64 n] 3)) w.heap.size _ [n] (h.up hK hb1) hK hsm (one_row w n) (fun k hk => by rw [List.mem_singleton.1 hk, hy]; rfl) (by simp) h512 hc hst (fun b e => by
      injection e with e
      subst e
      refine ⟨fun hx => ?_, fun hp => ?_⟩
      · have := (hK.lt h.env ((hK.fr h.env (Fr.up (F := fun _ => False) hb1) (fun _ _ e => e)).2 _ hx)).2
        simp at this
      · have := h.po.lt _ hp
        simp at this)
    have HO := Lib.hid hO
    obtain ⟨hvU, uvU, hS1, hF1, hn1, hx1⟩ := SyP.up h hK hb1
    have HF1 : Hid (Fr (TG n0 w gp g m hv uv hs XF) w (w.alloc (.cells #[.int .i64 n] 3))) := Lib.hid (Fr.up hb1)
    have HX1 : Hid (∀ b, XF (w.alloc (.cells #[.int .i64 n] 3)) b → XF w b ∨ w.heap.size ≤ b) := Lib.hid hx1
    clear h hK hy hfo hd hO hb1 hU hF hS1 hF1 hn1 hx1
    go_enter Tryz.func42, Tryz.ntmps42
    go_wp2_with fail
    refine hw.mono ?_
    clear hw
    rintro e w2 ⟨rfl, hP2⟩
    generalize writeP step a hs s d [n] = r at *
    obtain ⟨er, hs2, s2, d2⟩ := r
    dsimp only at hP2
    have HT2 := Lib.hid (SyP.next HF1.out (fun b hb => Or.inl hb) HX1.out hP2)
    by_cases her : er = 0
    · subst her
      have HR := Lib.hid (outR_zero (n := n) (us := us) (r := (0, hs2, s2, d2)) rfl)
      obtain ⟨hv2, uv2, hS2, hF2, hn2, hx2⟩ := HT2.out
      have hg1 := pgo_any w2 n hS2 HK.out
      have HF2 := Lib.hid hF2; have HN2 := Lib.hid hn2; have HX2 := Lib.hid hx2
      have hcp := hS2.po.cells
      clear hP2 hS2 hF2 hn2 hx2
      go_wp2_with fail
      refine hg1.mono ?_
      clear hg1
      rintro e w3 ⟨⟨u, rfl⟩, hP3⟩
      have HT3 := Lib.hid (SyP.next HF2.out HN2.out HX2.out hP3)
      obtain ⟨hv3, uv3, hS3, hF3, hn3, hx3⟩ := HT3.out
      have hg2 := pgo2_any w3 n hS3 HK.out
      have HF3 := Lib.hid hF3; have HN3 := Lib.hid hn3; have HX3 := Lib.hid hx3
      clear hP3 hS3 hF3 hn3 hx3
      go_wp2_with fail
      refine hg2.mono ?_
      clear hg2
      rintro e w4 ⟨⟨u2, rfl⟩, hP4⟩
      have HT4 := Lib.hid (SyP.next HF3.out HN3.out HX3.out hP4)
      clear hP4
      go_wp2_with fail
      go_ret
      exact ⟨by rw [HO.out, HR.out]; rfl, by rw [HO.out, HR.out]; exact HT4.out⟩
    · have HR := Lib.hid (outR_err (n := n) (us := us) (r := (er, hs2, s2, d2)) her)
      clear hP2
      go_wp2_with fail
      go_ret
      exact ⟨by rw [HO.out, HR.out]; rfl, by rw [HO.out, HR.out]; exact HT2.out⟩
  | false =>
    have HO := Lib.hid (show outP step a hs us s d n = outR n us (0, hs, s, d) by unfold outP; rw [hfo, hd, if_neg (by simp)])
    have HR := Lib.hid (outR_zero (n := n) (us := us) (r := (0, hs, s, d)) rfl)
    rw [hd] at c2
    have hg1 := pgo_any w n h hK
    clear h hK hy hfo hd hF
    go_enter Tryz.func42, Tryz.ntmps42
    go_wp2_with fail
    refine hg1.mono ?_
    clear hg1
    rintro e w3 ⟨⟨u, rfl⟩, hP3⟩
    have HT3 := Lib.hid hP3
    obtain ⟨hv3, uv3, hS3, hF3, hn3, hx3⟩ := HT3.out
    have hg2 := pgo2_any w3 n hS3 HK.out
    have HF3 := Lib.hid hF3; have HN3 := Lib.hid hn3; have HX3 := Lib.hid hx3
    clear hP3 hS3 hF3 hn3 hx3
    go_wp2_with fail
    refine hg2.mono ?_
    clear hg2
    rintro e w4 ⟨⟨u2, rfl⟩, hP4⟩
    have HT4 := Lib.hid (SyP.next HF3.out HN3.out HX3.out hP4)
    clear hP4
    go_wp2_with fail
    go_ret
    exact ⟨by rw [HO.out, HR.out]; rfl, by rw [HO.out, HR.out]; exact HT4.out⟩
end
end
end Go.Proofs.YtjlcbabnkhdgpaaGreatDoor
namespace Go.Proofs.YtjlcbabnkhdgpaaGreatDoor
section
set_option linter.unusedSimpArgs false
set_option linter.unusedVariables false
open Go.RowKit Go.Maps Go.Shelf
attribute [local go_sem] Oper.semAt_some

def keysOf (hs : List Hl) : List Int := hs.map (·.1)
def dirtyOf (hs : List Hl) : List Int := (hs.filter (fun x => x.2.2.dirty)).map (·.1)
theorem attach_val (hs : List Hl) : hs.attach.map (fun x => (x.1.1, x.1.2.1)) = psOf hs := by
  unfold psOf
  conv => rhs; rw [← List.attach_map_val (l := hs)]
  all_goals rfl
theorem cell_one_new' {W : World} {n : Nat} (h : W.heap.size = n) (v : Value) (T : TypeId) : ∀ (j : Nat) (u : Value), [v][j]? = some u → (W.alloc (.cells #[v] T)).cell? ((⟨n, 0, none⟩ : Addr).add j) = some u := h ▸ cell_one_new W v T
theorem kpB_t {S : Nat → Prop} {A B C : World} (h : KpB S A B) (k : KpB S B C) : KpB S A C := h.trans k
theorem kpB_b {S : Nat → Prop} {w : World} (hS : ∀ k, S k → k < w.heap.size) (W : World) (l : Nat) (o o' : Obj) (hl : w.heap.size ≤ l) (_ : W.heap[l]? = some o) (_ : o.isCells = false) (_ : o.isWalk = false) : KpB S W (W.putObj l o') :=
  ⟨by simp, fun k hk => World.putObj_heap_other (fun e => by have := hS k hk; omega)⟩
theorem Fr.keepsFrom {F : Nat → Prop} {B : Nat} {W W' : World} (hf : Fr F W W') (hc : ∀ b, F b → B ≤ b → ∃ cs T fz, W.heap[b]? = some (.cells cs T fz)) : KeepsFrom B W W' :=
  ⟨hf.size, fun k o hB hk ho => by
    refine hf.at_ hk (fun e => ?_)
    obtain ⟨cs, T, fz, h⟩ := hc k e hB
    rw [h] at hk
    injection hk with hk
    subst hk
    cases ho⟩
theorem ints_cells {n1 b : Nat} {W : World} {v : Value} {xs : List Int} (h : Ints n1 W v xs) (hb : some b = v.ownBlock) : ∃ cs T fz, W.heap[b]? = some (.cells cs T fz) := by
  rcases h.2 with ⟨e1, _⟩ | ⟨g', cap, cur, hv', _, hh, _⟩
  · rw [e1] at hb; cases hb
  · rw [hv'] at hb
    injection hb with hb
    subst hb
    exact ⟨_, _, _, hh⟩
/-- A number has been put behind a row that stands in a box. -/
theorem push_after {n1 B : Nat} {W w1 : World} {v v' : Value} {xs : List Int} {x : Int} (hb : Boxed W B 22 v) (ho : Ints n1 W v xs) (hown' : w1.ownsRow n1 3 1 v' (xs.length + 1) (xs.map (Value.int .i64) ++ [.int .i64 x])) (hg : (W.alloc (.cells #[.int .i64 x] 3)).grownBy w1 v.ownBlock) :
    Boxed w1 B 22 v ∧ Boxed (w1.setCell ⟨B, 0, none⟩ v') B 22 v' ∧ Ints n1 (w1.setCell ⟨B, 0, none⟩ v') v' (xs ++ [x]) ∧ Fr (fun b => b = B ∨ some b = v.ownBlock) W (w1.setCell ⟨B, 0, none⟩ v') := by
  have hbk : Blk W B 22 #[v] := hb
  have hne : some B ≠ v.ownBlock := hbk.notOwn ho (by decide)
  have hb1 : Below W.heap.size W (W.alloc (.cells #[.int .i64 x] 3)) := (Below.refl _ _).alloc (Nat.le_refl _) _
  have hB1 : Blk w1 B 22 #[v] := (hbk.up hb1).grown hg hne
  refine ⟨hB1, hB1.set 0 v', ?_, ?_⟩
  · unfold Ints
    rw [List.length_append, List.map_append]
    exact own_grown hown' hB1 (by decide) (grown_setCell w1 B 0 v')
  · exact ((Fr.up hb1).trans (Fr.grown hg) (fun b _ e => Or.inr e)).trans (Fr.setCell w1 B 0 v') (fun b _ e => Or.inl e)
theorem Ints.low {n m : Nat} {W : World} {v : Value} {xs : List Int} (h : Ints n W v xs) (hm : m ≤ n) : Ints m W v xs := by
  obtain ⟨h1, h2⟩ := h
  refine ⟨h1, h2.imp id ?_⟩
  rintro ⟨g, cap, cur, q1, q2, q3⟩
  exact ⟨g, cap, cur, q1, Nat.le_trans hm q2, q3⟩
structure TwoI (n1 : Nat) (W : World) (va vd : Value) (xs ys : List Int) : Prop where
  one : Ints n1 W va xs
  two : Ints n1 W vd ys
  apart : ∀ b, va.ownBlock = some b → vd.ownBlock ≠ some b
/-- Two boxes with rows of numbers, laid behind nw; the rows behind n1. -/
structure HI (nw n1 B1 B2 : Nat) (w W : World) (va vd : Value) (xs ys : List Int) : Prop where
  a : Boxed W B1 22 va
  b : Boxed W B2 22 vd
  one : Ints n1 W va xs
  two : Ints n1 W vd ys
  apart : ∀ b, va.ownBlock = some b → vd.ownBlock ≠ some b
  bel : Below nw w W
  sz : n1 ≤ W.heap.size
section
variable {nw n1 B1 B2 : Nat} {w W w1 : World} {va vd v' : Value} {xs ys : List Int} {x : Int} {S : Nat → Prop}
theorem HI.swap (h : HI nw n1 B1 B2 w W va vd xs ys) : HI nw n1 B2 B1 w W vd va ys xs := ⟨h.b, h.a, h.two, h.one, fun b e e2 => h.apart b e2 e, h.bel, h.sz⟩
theorem HI.push (h : HI nw n1 B1 B2 w W va vd xs ys) (hB : B1 ≠ B2) (h1 : nw ≤ B1) (h2 : B1 < n1) (h3 : nw ≤ n1) (hS : ∀ k, S k → k < n1 ∧ k ≠ B1)
    (hown' : w1.ownsRow n1 3 1 v' (xs.length + 1) (xs.map (Value.int .i64) ++ [.int .i64 x])) (hg : (W.alloc (.cells #[.int .i64 x] 3)).grownBy w1 va.ownBlock) (hs : v'.ownBlock = va.ownBlock ∨ v'.ownBlock = some (W.alloc (.cells #[.int .i64 x] 3)).heap.size) :
    HI nw n1 B1 B2 w (w1.setCell ⟨B1, 0, none⟩ v') v' vd (xs ++ [x]) ys ∧ KeepsFrom n1 W (w1.setCell ⟨B1, 0, none⟩ v') ∧ KpB S W (w1.setCell ⟨B1, 0, none⟩ v') ∧ (Boxed w1 B1 22 va) ∧ ∀ p u, p.block < nw → W.cell? p = some u → (w1.setCell ⟨B1, 0, none⟩ v').cell? p = some u := by
  obtain ⟨p1, p2, p3, p4⟩ := push_after h.a h.one hown' hg
  have hbk : Blk W B2 22 #[vd] := h.b
  have hvl : ∀ b, va.ownBlock = some b → n1 ≤ b := fun b e => (h.one.lt b e).1
  refine ⟨⟨p2, p4.blk hbk (fun e => e.elim (fun e => hB e.symm) (fun e => hbk.notOwn h.one (by decide) e)), p3, p4.own h.two (fun b e hf => ?_), fun b e e2 => ?_, h.bel.trans (p4.below (Nat.le_trans h3 h.sz) (fun b hf => ?_)), Nat.le_trans h.sz p4.size⟩, p4.keepsFrom (fun b hf hb => ?_), ⟨p4.size, fun k hk => p4.block k (Nat.lt_of_lt_of_le (hS k hk).1 h.sz) (fun e => ?_)⟩, p1, fun p u hp hc => p4.cell hc (fun e => ?_)⟩
  · rcases hf with hf | hf
    · have := (h.two.lt b e).1; omega
    · exact h.apart b hf.symm e
  · rcases hs with hs | hs
    · exact h.apart b (hs.symm.trans e) e2
    · have h5 := (h.two.lt b e2).2
      have h6 := hs.symm.trans e
      injection h6 with h6
      simp at h6
      omega
  · rcases hf with hf | hf
    · omega
    · have := hvl b hf.symm; omega
  · rcases hf with hf | hf
    · omega
    · exact ints_cells h.one hf
  · rcases e with e | e
    · exact (hS k hk).2 e
    · have := hvl k e.symm
      have := (hS k hk).1
      omega
  · rcases e with e | e
    · omega
    · have := hvl _ e.symm; omega
end
section
variable {n0 gp ga : Nat} {most : Int} {fl hv uv : Value} {hs : List Hl} {us : List Int}
set_option maxHeartbeats 4000000 in
set_option maxRecDepth 100000 in
theorem held_in (w : World) (h : PoAt n0 w gp ga most fl hv uv hs us) :
    CallsIn Fence.wide 9 Tryz.prog 14 #[.pointer (some ⟨gp, 0, none⟩)] w fun e w' => ∃ va vd, e = .returned (.tuple #[va, vd]) ∧ Ints w.heap.size w' va (keysOf hs) ∧ Ints w.heap.size w' vd (dirtyOf hs) ∧ Below w.heap.size w w' := by
  have hB0 : Below w.heap.size w ((w.alloc (.cells #[.slice none 0 0] 22)).alloc (.cells #[.slice none 0 0] 22)) := ((Below.refl _ w).alloc (Nat.le_refl _) _).alloc (by simp) _
  have h2 := h.up hB0
  have hbA : Boxed (w.alloc (.cells #[.slice none 0 0] 22)) w.heap.size 22 (.slice none 0 0) := Boxed.new _ _ _
  have hbB : Boxed ((w.alloc (.cells #[.slice none 0 0] 22)).alloc (.cells #[.slice none 0 0] 22)) (w.heap.size + 1) 22 (.slice none 0 0) := by
    have := Boxed.new (w.alloc (.cells #[.slice none 0 0] 22)) 22 (.slice none 0 0)
    rwa [World.size_alloc] at this
  have hbA2 := hbA.alloc (.cells #[.slice none 0 0] 22)
  have hall := mallF_any gp 3 hv (psOf hs) _ h2.cells.2.2.2.1 (CellsAt.of_own h2.row) (by rw [psOf_length]; have := h2.few; omega)
  refine callsIn_of_wp_marks Tryz.func14 rfl trivial ?_ rfl
  simp only [Tryz.ntmps14, List.size_toArray, List.length_cons, List.length_nil, Nat.reduceAdd, Nat.reduceSub, Array.replicate_succ, Array.replicate_zero, List.push_toArray, List.append_toArray, List.nil_append, List.cons_append]
  gi_wp2
  refine ⟨trivial, (callsIn_wide.2 hall).mono ?_⟩
  rintro e w3 ⟨Bs, v', rfl, hBs, hBsz, hO3, hb3⟩
  gi_wp2
  have hB3 : Below w.heap.size w w3 := hB0.trans (hb3.mono hB0.size)
  have bA : Boxed w3 w.heap.size 22 (.slice none 0 0) := Blk.up (show Blk _ _ _ _ from hbA2) hb3
  have bB : Boxed w3 (w.heap.size + 1) 22 (.slice none 0 0) := Blk.up (show Blk _ _ _ _ from hbB) hb3
  have hsz : w.heap.size + 2 ≤ w3.heap.size := by have := hb3.size; simp at this; omega
  have hvlt : ∀ b, v'.ownBlock = some b → w.heap.size + 2 ≤ b ∧ b < w3.heap.size := fun b e => by
    have := hO3.lt b e
    simp at this
    omega
  have hBsge : w.heap.size + 2 ≤ Bs := by
    have := hBsz
    simp at this
    omega
  have hPrw := Prw.of_own hO3
  rw [← attach_val hs] at hPrw
  have hcB : w3.cell? ⟨Bs, 0, none⟩ = some v' := hBs.cell 0
  have HB3 := Lib.hid hB3
  obtain ⟨i0, z0, hi0, hz0, hsz0, hby0, hzs0⟩ := info_int
  have hS : ∀ k, (k = Bs ∨ some k = v'.ownBlock) → k < w3.heap.size := fun k hk => hk.elim (fun e => by rw [e]; exact hBs.lt) (fun e => (hvlt k e.symm).2)
  clear hall h2 hbA hbB hbA2 hO3 hb3 hB0 hB3
  refine wpIn_rangeFunc_ownG rfl (by decide) (gf := 90) (lb := #[.pointer (some ⟨Bs, 0, none⟩)]) rfl trivial (enters_of Tryz.func90 (by kernel_rfl) rfl)
    (each1F_stops (fun x : { x : Hl // x ∈ hs } => (x.1.1, x.1.2.1)) Fence.wide 8 trivial rfl (by decide) Bs v' hs.attach (by rw [List.length_attach]; have := h.few; omega) w3 hBs.lt hcB hPrw) kpB_t (kpB_b hS) (Below.refl _ _) (fun _ => rfl)
    (fun pre W => ∃ va vd, HI w.heap.size w3.heap.size w.heap.size (w.heap.size + 1) w W va vd (keysOf (pre.map (·.1))) (dirtyOf (pre.map (·.1))))
    (fun _ _ _ => False)
    (fun s A B row hs hg hr => ?hI)
    (fun _ _ _ _ _ hs _ _ => hs)
    ⟨_, _, bA, bB, World.ownsRow_nil _ _ _ _, World.ownsRow_nil _ _ _ _, (fun b e => by cases e), HB3.out, Nat.le_refl _⟩
    (fun x => { tmps := #[.pointer (some ⟨gp, 0, none⟩), undef, .slice none 0 0, .slice none 0 0, .pointer (some ⟨w.heap.size, 0, none⟩), .pointer (some ⟨w.heap.size + 1, 0, none⟩), .int .i64 x.1.1, .pointer (some ⟨x.1.2.1, 0, none⟩), .pointer (some ⟨gp, 0, none⟩), .bool false,
      .pointer (some ⟨gp, 0, none⟩), .pointer (some ⟨gp, 0, none⟩), .pointer (some ⟨gp, 3, none⟩), .func (.func 90) #[] #[.pointer (some ⟨Bs, 0, none⟩)], .int .i64 x.1.1, .pointer (some ⟨x.1.2.1, 0, none⟩), undef, undef, undef, undef, undef, undef, undef, undef, undef, undef, undef, undef, undef, undef], defers := [] })
    ?assign ?body ?done ?stop
  case hI =>
    obtain ⟨va, vd, hT⟩ := hs
    have hsW := hT.sz
    refine ⟨va, vd, hT.a.kept hg (fun e => by have := (hr _ e.symm).1; omega), hT.b.kept hg (fun e => by have := (hr _ e.symm).1; omega), ?_, ?_, hT.apart, hT.bel.grown hg (Nat.le_trans (by omega) hsW) (fun k e => by have := (hr k e).1; omega), Nat.le_trans hsW hg.size⟩
    · refine (Fr.grown hg).own hT.one (fun b e hf => ?_)
      obtain ⟨cs, T, fz, hc⟩ := ints_cells hT.one e.symm
      obtain ⟨_, o, ho, hoc⟩ := hr b hf.symm
      rw [hc] at ho
      injection ho with ho
      subst ho
      cases hoc
    · refine (Fr.grown hg).own hT.two (fun b e hf => ?_)
      obtain ⟨cs, T, fz, hc⟩ := ints_cells hT.two e.symm
      obtain ⟨_, o, ho, hoc⟩ := hr b hf.symm
      rw [hc] at ho
      injection ho with ho
      subst ho
      cases hoc
  case assign =>
    intro l x W K hK
    unfold prEnc
    gi_wp2
    exact hK
  case body =>
    rintro l pre x W ⟨va, vd, hT⟩ hlt
    have hsW := hT.sz
    have cA := hT.a.cell
    have hSS : ∀ k, (k = Bs ∨ some k = v'.ownBlock) → k < w3.heap.size ∧ k ≠ w.heap.size := fun k hk => ⟨hS k hk, hk.elim (fun e => by omega) (fun e => by have := (hvlt k e.symm).1; omega)⟩
    have hSS2 : ∀ k, (k = Bs ∨ some k = v'.ownBlock) → k < w3.heap.size ∧ k ≠ w.heap.size + 1 := fun k hk => ⟨hS k hk, hk.elim (fun e => by omega) (fun e => by have := (hvlt k e.symm).1; omega)⟩
    have hfl := (h.frm x.1 x.2).lt
    have c2 : W.cell? ⟨x.1.2.1, 2, none⟩ = some (.bool x.1.2.2.dirty) := (hT.bel.cell (p := ⟨x.1.2.1, 2, none⟩) hfl).trans ((h.frm x.1 x.2).cell 2)
    have hlen : pre.length ≤ 1000 := by have := h.few; rw [List.length_attach] at hlt; omega
    have hk1 : keysOf ((pre ++ [x]).map (·.1)) = keysOf (pre.map (·.1)) ++ [x.1.1] := by unfold keysOf; simp
    have hkl : (keysOf (pre.map (·.1))).length ≤ 1000 := by unfold keysOf; simp; omega
    have hdl : (dirtyOf (pre.map (·.1))).length ≤ 1000 := by
      unfold dirtyOf
      rw [List.length_map]
      exact Nat.le_trans (List.length_filter_le _ _) (by simp; omega)
    have HX := Lib.hid (h.frm x.1 x.2)
    cases hd : x.1.2.2.dirty with
    | false =>
      have hd1 : dirtyOf ((pre ++ [x]).map (·.1)) = dirtyOf (pre.map (·.1)) := by unfold dirtyOf; simp [hd]
      rw [hd] at c2
      gi_wp2_with (gi_at_builtin; refine wpListIn_append_own_at _ rfl _ _ 22 rfl w3.heap.size 3 i0 z0 1 8 Tryz.underlying22 hi0 hz0 hsz0 hby0 hzs0 (by decide) _ _ _ rfl (ownsRow_grown hT.one (grown_of_below ((Below.refl _ W).alloc (Nat.le_refl _) (.cells #[.int .i64 x.1.1] 3)) none) (by simp)) ⟨W.heap.size, 0, none⟩ 1 1 [.int .i64 x.1.1] rfl rfl (cell_one_new _ _ _) (by simp [Value.oneCell']) (by unfold maxLen; omega) (by omega) (by simp; omega) ?_; intro v2 w1 hown' hgrow _ hsame; obtain ⟨g', cap', rfl⟩ := ownsRow_succ hown'; obtain ⟨hT2, hK2, hP2, hb2, hcc⟩ := hT.push (S := fun k => k = Bs ∨ some k = v'.ownBlock) (by omega) (Nat.le_refl _) (by omega) (by omega) hSS hown' hgrow hsame; have hc1 := hb2.cell; have hf1 := hb2.frozen; have c3 := hcc _ _ hfl c2)
      exact ⟨hK2, hP2, _, _, by rw [hk1, hd1]; exact hT2⟩
    | true =>
      have hd1 : dirtyOf ((pre ++ [x]).map (·.1)) = dirtyOf (pre.map (·.1)) ++ [x.1.1] := by unfold dirtyOf; simp [hd]
      rw [hd] at c2
      gi_wp2_with (first
        | (gi_at_builtin; refine wpListIn_append_own_at _ rfl _ _ 22 rfl w3.heap.size 3 i0 z0 1 8 Tryz.underlying22 hi0 hz0 hsz0 hby0 hzs0 (by decide) _ _ _ rfl (ownsRow_grown hT.one (grown_of_below ((Below.refl _ W).alloc (Nat.le_refl _) (.cells #[.int .i64 x.1.1] 3)) none) (by simp)) ⟨W.heap.size, 0, none⟩ 1 1 [.int .i64 x.1.1] rfl rfl (cell_one_new _ _ _) (by simp [Value.oneCell']) (by unfold maxLen; omega) (by omega) (by simp; omega) ?_; intro v2 w1 hown' hgrow _ hsame; obtain ⟨g', cap', rfl⟩ := ownsRow_succ hown'; obtain ⟨hT2, hK2, hP2, hb2, hcc⟩ := hT.push (S := fun k => k = Bs ∨ some k = v'.ownBlock) (by omega) (Nat.le_refl _) (by omega) (by omega) hSS hown' hgrow hsame; have hc1 := hb2.cell; have hf1 := hb2.frozen; have c3 := hcc _ _ hfl c2; have cB := hT2.b.cell)
        | (gi_at_builtin; refine wpListIn_append_own_at _ rfl _ _ 22 rfl w3.heap.size 3 i0 z0 1 8 Tryz.underlying22 hi0 hz0 hsz0 hby0 hzs0 (by decide) _ _ _ rfl (ownsRow_grown hT2.two (grown_of_below ((Below.refl _ _).alloc (Nat.le_refl _) (.cells #[.int .i64 x.1.1] 3)) none) (by simp)) ⟨w1.heap.size, 0, none⟩ 1 1 [.int .i64 x.1.1] rfl rfl (cell_one_new' (World.size_setCell _ _ _) _ _) (by simp [Value.oneCell']) (by unfold maxLen; omega) (by omega) (by have := hT2.sz; simp at this ⊢; omega) ?_; intro v3 w2 hown2 hgrow2 _ hsame2; obtain ⟨g2, cap2, rfl⟩ := ownsRow_succ hown2; obtain ⟨hT3, hK3, hP3, hb3, hcc3⟩ := hT2.swap.push (S := fun k => k = Bs ∨ some k = v'.ownBlock) (by omega) (by omega) (by omega) (by omega) hSS2 hown2 hgrow2 hsame2; have hc4 := hb3.cell; have hf4 := hb3.frozen))
      exact ⟨hK2.trans hK3, hP2.trans hP3, _, _, by rw [hk1, hd1]; exact hT3.swap⟩
  case done =>
    rintro D ys W hD rfl ⟨va, vd, hT⟩ hK
    have hat : hs.attach.map (fun x => x.1) = hs := by simpa using List.attach_map_val (l := hs) (f := id)
    rw [hat] at hT
    have cA := hT.a.cell
    have cB := hT.b.cell
    gi_wp2
    gi_region
    have hT' : HI w.heap.size w3.heap.size w.heap.size (w.heap.size + 1) w W.drew va vd (keysOf hs) (dirtyOf hs) := ⟨hT.a, hT.b, hT.one, hT.two, hT.apart, hT.bel.drew, hT.sz⟩
    have hK' : W.drew.heap[D]? = some (.deferred (some [])) := hK
    gi_wp2
    generalize W.drew = W at hT' hK' ⊢
    refine ⟨by simp, .inl ⟨_, _, rfl, run_takeDeferred hK', ?_⟩⟩
    refine ⟨.tuple #[va, vd], ?_, va, vd, rfl, (Ints.low (ownsRow_putObj hT'.one _ hK' rfl) (by omega)), (Ints.low (ownsRow_putObj hT'.two _ hK' rfl) (by omega)), hT'.bel.trans (belowK_b (w := w) (Nat.le_refl _) W D _ _ (by omega) hK' rfl rfl)⟩
    simp [results, Tryz.f14, go_sem]
  case stop =>
    rintro D c pre W _ _ hx _
    exact hx.elim
theorem held_any (w : World) (h : PoAt n0 w gp ga most fl hv uv hs us) :
    Calls Tryz.prog 14 #[.pointer (some ⟨gp, 0, none⟩)] w fun e w' => ∃ va vd, e = .returned (.tuple #[va, vd]) ∧ Ints w.heap.size w' va (keysOf hs) ∧ Ints w.heap.size w' vd (dirtyOf hs) ∧ Below w.heap.size w w' :=
  (callsIn_wide (n := 9)).1 (held_in w h)
end
end
end Go.Proofs.YtjlcbabnkhdgpaaGreatDoor
namespace Go.Proofs.YtjlcbabnkhdgpaaGreatDoor
section
set_option linter.unusedSimpArgs false
set_option linter.unusedVariables false
open Go.RowKit Go.Maps Go.Shelf
attribute [local go_sem] Oper.semAt_some

def spaceP {σ : Type} (step : σ → DevM → Int → Int × σ × DevM) (a : ArM) (most : Int) (hs : List Hl) (us : List Int) (s : σ) (d : DevM) : Int × List Hl × List Int × σ × DevM :=
  if (hs.length : Int) < most then (0, hs, us, s, d) else match us.find? (fun k => (frOf hs k).pins == 0) with | none => (10, hs, us, s, d) | some k => outP step a hs us s d k
section
variable {n0 gp ga g m : Nat} {a : ArM} {d d' : DevM} {w w' : World} {most : Int} {ff : FuncId} {fi ca : Array Value} {hv uv hv' uv' : Value} {hs hs' : List Hl} {us us' : List Int}
variable {σ : Type} {E : σ → World → Prop} {XF : World → Nat → Prop} {step : σ → DevM → Int → Int × σ × DevM} {SM : σ → Prop} {s s' : σ}
theorem DevF.lt (hT : Tw n0 w ga g m a d) {b : Nat} (hb : DevF w g m b) : b < w.heap.size := by
  rcases hb with rfl | rfl | ⟨cs, fz, h⟩
  · exact hT.glt
  · exact hT.mlt
  · exact heap_lt h
theorem TF_lt (h : Sy n0 w gp ga g m a most ff fi ca E XF hv uv hs us d s) (hK : FlOk n0 ga g m a ff fi ca E XF step SM) {b : Nat} (hb : TF w gp g m hv uv hs XF b) : b < w.heap.size := by
  rcases hb with h1 | h1 | h1
  · exact h.po.lt b h1
  · exact DevF.lt h.tw h1
  · exact (hK.lt h.env h1).2
/-- What is no part of the state turns. -/
theorem Sy.aside {F : Nat → Prop} (h : Sy n0 w gp ga g m a most ff fi ca E XF hv uv hs us d s) (hK : FlOk n0 ga g m a ff fi ca E XF step SM) (hF : Fr F w w') (hP : ∀ b, PF gp hv uv hs b → ¬ F b) (hD : ∀ b, DevF w g m b → ¬ F b) (hX : ∀ b, XF w b → ¬ F b) (ha : ¬ F ga)
    (hr : ∀ b cs, Blk w b 3 cs → (∃ kv, w.cell? ⟨g, 5, none⟩ = some kv ∧ kv.ownBlock = some b) → ¬ F b) (hn : ∀ b, F b → n0 ≤ b) : Sy n0 w' gp ga g m a most ff fi ca E XF hv uv hs us d s ∧ (∀ b, XF w' b → XF w b) := by
  have hT : Tw n0 w' ga g m a d := h.tw.fr hF ha (hD g (Or.inl rfl)) (hD m (Or.inr (Or.inl rfl))) (fun b cs fz hc => hD b (Or.inr (Or.inr ⟨cs, fz, hc⟩))) (fun kv b hc hb => by
    obtain ⟨cs, hB⟩ := h.tw.keepRow hc hb
    exact hr b cs hB ⟨kv, hc, hb⟩) hn
  obtain ⟨hE, hX'⟩ := hK.fr h.env hF (fun b hb => hX b hb)
  refine ⟨⟨h.po.fr hF hP, hT, hE, fun b hb => h.x1 b (hX' b hb), fun b hb => ?_, fun kv b hc hb => ?_⟩, hX'⟩
  · have hxl := (hK.lt h.env (hX' b hb)).2
    exact ⟨fun hd => (h.x2 b (hX' b hb)).1 (devF_same hF hxl (hX b (hX' b hb)) hd), (h.x2 b (hX' b hb)).2⟩
  · rw [h.tw.keepSame hF (hD g (Or.inl rfl))] at hc
    obtain ⟨h1, h2⟩ := h.x3 kv b hc hb
    exact ⟨fun hx => h1 (hX' b hx), h2⟩
/-- Some block beyond the device's map turns, one that is no cells. -/
theorem Sy.turn (h : Sy n0 w gp ga g m a most ff fi ca E XF hv uv hs us d s) (hK : FlOk n0 ga g m a ff fi ca E XF step SM) {r : Option Nat} (hg : w.grownBy w' r) (hr : ∀ b, r = some b → m < b ∧ n0 ≤ b ∧ ∃ o : Obj, w.heap[b]? = some o ∧ o.isCells = false) :
    Sy n0 w' gp ga g m a most ff fi ca E XF hv uv hs us d s ∧ Fr (fun b => some b = r) w w' ∧ (∀ b, XF w' b → XF w b) := by
  have hcel : ∀ b, (∃ cs T fz, w.heap[b]? = some (.cells cs T fz)) → ¬ some b = r := by
    rintro b ⟨cs, T, fz, hc⟩ e
    obtain ⟨_, _, o, ho, hoc⟩ := hr b e.symm
    rw [hc] at ho
    injection ho with ho
    subst ho
    cases hoc
  obtain ⟨q1, q2⟩ := h.aside hK (Fr.grown hg) (fun b hb => by
    obtain ⟨T, cs, hB, _⟩ := h.po.kind hb
    exact hcel b ⟨_, _, _, hB⟩) (fun b hb => by
    rcases hb with rfl | rfl | ⟨cs, fz, hc⟩
    · obtain ⟨cs, hc⟩ := h.tw.dv.blk2
      exact hcel _ ⟨_, _, _, hc⟩
    · intro e
      have := (hr _ e.symm).1
      omega
    · exact hcel b ⟨_, _, _, hc⟩) (fun b hb => hcel b (hK.cel h.env hb)) (hcel _ ⟨_, _, _, h.tw.ar⟩) (fun b cs hB _ => hcel b ⟨_, _, _, hB⟩) (fun b hb => (hr b hb.symm).2.1)
  exact ⟨q1, Fr.grown hg, q2⟩
theorem _root_.Go.KeepsFrom.up {B B' : Nat} {w w' : World} (h : KeepsFrom B w w') (hb : B ≤ B') : KeepsFrom B' w w' := ⟨h.1, fun k o hB => h.2 k o (Nat.le_trans hb hB)⟩
/-- A call's number is put into a box that the caller has laid. -/
theorem SyP.box {w0 : World} (hb : Below w0.heap.size w0 w) (h0 : Sy n0 w0 gp ga g m a most ff fi ca E XF hv uv hs us d s) (h : SyP n0 w w' gp ga g m a most ff fi ca E XF hv uv hs hs' us' d' s') (hK : FlOk n0 ga g m a ff fi ca E XF step SM) (B : Nat) (h1 : w0.heap.size ≤ B) {v : Value} (hB : Boxed w B 25 v) (v' : Value) :
    Boxed w' B 25 v ∧ SyP n0 w0 (w'.setCell ⟨B, 0, none⟩ v') gp ga g m a most ff fi ca E XF hv uv hs hs' us' d' s' ∧ KeepsFrom w0.heap.size w (w'.setCell ⟨B, 0, none⟩ v') := by
  obtain ⟨hv1, uv1, hS, hF, hn1, hx1⟩ := h
  have hBl : Blk w B 25 #[v] := hB
  have hXw : ∀ b, XF w b → XF w0 b := fun b hx => (hK.fr h0.env (Fr.up (F := fun _ => False) hb) (fun _ _ e => e)).2 b hx
  have hkf : ∀ b, TF w gp g m hv uv hs XF b → b < w0.heap.size ∨ ∃ cs fz, w.heap[b]? = some (.cells cs 100 fz) := by
    intro b hb
    rcases hb with h2 | h2 | h2
    · exact Or.inl (h0.po.lt b h2)
    · rcases h2 with rfl | rfl | ⟨cs, fz, h⟩
      · exact Or.inl h0.tw.glt
      · exact Or.inl h0.tw.mlt
      · exact Or.inr ⟨cs, fz, h⟩
    · exact Or.inl (hK.lt h0.env (hXw b h2)).2
  have hnT : ¬ TG n0 w gp g m hv uv hs XF B := fun hT => by
    rcases hkf B hT.2 with h2 | ⟨cs, fz, h2⟩
    · omega
    · unfold Blk at hBl
      rw [hBl] at h2
      injection h2 with h2
      injection h2 with _ h2 _
      exact absurd h2 (by decide)
  have hB' : Blk w' B 25 #[v] := hF.blk hBl hnT
  have hnX : ¬ XF w' B := fun hx => by
    rcases hx1 B hx with h2 | h2
    · have := (hK.lt h0.env (hXw B h2)).2; omega
    · have := hBl.lt; omega
  obtain ⟨hS', hX'⟩ := hS.aside hK (Fr.setCell w' B 0 v') (fun b hb e => by
    subst e
    rcases hn1 b hb with h2 | h2
    · have := h0.po.lt b h2; omega
    · have := hBl.lt; omega) (fun b hb e => by
    subst e
    rcases hb with rfl | rfl | ⟨cs, fz, h2⟩
    · have := h0.tw.glt; omega
    · have := h0.tw.mlt; omega
    · unfold Blk at hB'
      rw [hB'] at h2
      injection h2 with h2
      injection h2 with _ h2 _
      exact absurd h2 (by decide)) (fun b hx e => by subst e; exact hnX hx) (fun e => by
    have h2 : ga < w0.heap.size := heap_lt h0.tw.ar
    omega) (fun b cs hb2 _ e => by
    subst e
    exact absurd (blk_type hB' hb2) (by decide)) (fun b e => by have := h0.po.size; omega)
  refine ⟨hB', ⟨hv1, uv1, hS', ?_, fun b hp => ?_, fun b hx => ?_⟩, ?_⟩
  · refine ((Fr.up hb).trans hF (fun b hlt hT => ?_)).trans (Fr.setCell w' B 0 v') (fun b hlt e => ?_)
    · exact ⟨hT.1, TF_old (n0 := n0) (Fr.up hb) (fun b hb => Or.inl hb) (fun b hb => Or.inl (hXw b hb)) b hlt hT.2⟩
    · omega
  · rcases hn1 b hp with h2 | h2
    · exact Or.inl h2
    · exact Or.inr (Nat.le_trans hb.size h2)
  · rcases hx1 b (hX' b hx) with h2 | h2
    · exact Or.inl (hXw b h2)
    · exact Or.inr (Nat.le_trans hb.size h2)
  · refine KeepsFrom.trans (hF.keepsFrom (fun b hT hle => ?_)) ((KeepsOthers.setCell w' ⟨B, 0, none⟩ v').from _)
    rcases hkf b hT.2 with h2 | ⟨cs, fz, h2⟩
    · omega
    · exact ⟨_, _, _, h2⟩
theorem SyP.turn {w'' : World} (h : SyP n0 w w' gp ga g m a most ff fi ca E XF hv uv hs hs' us' d' s') (hK : FlOk n0 ga g m a ff fi ca E XF step SM) (hm : m < w.heap.size) (hn : n0 ≤ w.heap.size) {r : Option Nat} (hg : w'.grownBy w'' r) (hr : ∀ b, r = some b → w.heap.size ≤ b ∧ ∃ o : Obj, w'.heap[b]? = some o ∧ o.isCells = false) :
    SyP n0 w w'' gp ga g m a most ff fi ca E XF hv uv hs hs' us' d' s' := by
  obtain ⟨hv1, uv1, hS, hF, hn1, hx1⟩ := h
  obtain ⟨hS', hF', hx'⟩ := hS.turn hK hg (fun b e => ⟨by have := (hr b e).1; omega, by have := (hr b e).1; omega, (hr b e).2⟩)
  exact ⟨hv1, uv1, hS', hF.trans hF' (fun b hb e => by have := (hr b e.symm).1; omega), hn1, fun b hb => hx1 b (hx' b hb)⟩
theorem find_first {us : List Int} {p : Int → Bool} {k : Nat} {pre' : List { n : Int // n ∈ us }} {x : { n : Int // n ∈ us }} (h : us.attach.take k = pre' ++ [x]) (h1 : ∀ y ∈ pre', p y.1 = false) (h2 : p x.1 = true) : us.find? p = some x.1 := by
  have hat : us = (us.attach.take k).map (fun y => y.1) ++ (us.attach.drop k).map (fun y => y.1) := by
    rw [← List.map_append, List.take_append_drop]
    exact (by simp)
  rw [h, List.map_append] at hat
  generalize (us.attach.drop k).map (fun y => y.1) = rest at hat
  have hpre : (pre'.map (fun y => y.1)).find? p = none := by
    rw [List.find?_eq_none]
    rintro z hz
    obtain ⟨y, hy, rfl⟩ := List.mem_map.1 hz
    rw [h1 y hy]
    simp
  conv => lhs; rw [hat]
  rw [List.find?_append, List.find?_append, hpre]
  simp [h2]
set_option maxHeartbeats 4000000 in
set_option maxRecDepth 100000 in
theorem space_in (w : World) (h : Sy n0 w gp ga g m a most ff fi ca E XF hv uv hs us d s) (hK : FlOk n0 ga g m a ff fi ca E XF step SM) (hsm : SM s) (hu : ∀ k ∈ us, (fd hs k).isSome = true)
    (h512 : Small512 hs) (hc : d.cmds < 600000000) (hst : ∀ s d n, (step s d n).2.2.cmds ≤ d.cmds + 100000000) :
    CallsIn Fence.wide 9 Tryz.prog 36 #[.pointer (some ⟨gp, 0, none⟩)] w fun e w' => e = .returned (.int .i64 (spaceP step a most hs us s d).1) ∧
      SyP n0 w w' gp ga g m a most ff fi ca E XF hv uv hs (spaceP step a most hs us s d).2.1 (spaceP step a most hs us s d).2.2.1 (spaceP step a most hs us s d).2.2.2.2 (spaceP step a most hs us s d).2.2.2.1 := by
  have hB0 : Below w.heap.size w ((w.alloc (.cells #[.pointer (some ⟨gp, 0, none⟩)] 31)).alloc (.cells #[.int .i64 0] 25)) := ((Below.refl _ w).alloc (Nat.le_refl _) _).alloc (by simp) _
  have hbA : Boxed ((w.alloc (.cells #[.pointer (some ⟨gp, 0, none⟩)] 31)).alloc (.cells #[.int .i64 0] 25)) w.heap.size 31 (.pointer (some ⟨gp, 0, none⟩)) := (Boxed.new _ _ _).alloc _
  have hbB : Boxed ((w.alloc (.cells #[.pointer (some ⟨gp, 0, none⟩)] 31)).alloc (.cells #[.int .i64 0] 25)) (w.heap.size + 1) 25 (.int .i64 0) := by
    have := Boxed.new (w.alloc (.cells #[.pointer (some ⟨gp, 0, none⟩)] 31)) 25 (.int .i64 0)
    rwa [World.size_alloc] at this
  have hm := h.tw.mlt
  have hn0 := h.po.size
  obtain ⟨W1, hW1⟩ : ∃ W1, W1 = (w.alloc (.cells #[.pointer (some ⟨gp, 0, none⟩)] 31)).alloc (.cells #[.int .i64 0] 25) := ⟨_, rfl⟩
  have hsz : W1.heap.size = w.heap.size + 2 := by rw [hW1]; simp
  rw [← hW1] at hB0 hbA hbB
  have h1 := h.up hK hB0
  have hcp := h1.po.cells
  have hlen := mlenF_any gp 3 hv (psOf hs) W1 hcp.2.2.2.1 (PrsAt.of_own h1.po.row)
  rw [psOf_length] at hlen
  have hfew := h.po.few
  refine callsIn_of_wp_marks Tryz.func36 rfl trivial ?_ rfl
  simp only [Tryz.ntmps36, List.size_toArray, List.length_cons, List.length_nil, Nat.reduceAdd, Nat.reduceSub, Array.replicate_succ, Array.replicate_zero, List.push_toArray, List.append_toArray, List.nil_append, List.cons_append]
  gi_wp2
  rw [← hW1]
  have cA := hbA.cell
  have c1 := hcp.2.1
  have HL := Lib.hid (fun n => (show Calls Tryz.prog 57 #[.pointer (some ⟨gp, 3, none⟩)] (W1.drewN n) fun e w' => e = .returned (.int .i64 (hs.length : Nat)) ∧ w' = W1.drewN n by
    have := mlenF_any gp 3 hv (psOf hs) (W1.drewN n) hcp.2.2.2.1 (PrsAt.of_own h1.po.row)
    rw [psOf_length] at this
    exact this.mono (fun _ _ ⟨he, hw⟩ => ⟨he, hw.symm⟩)))
  clear hlen hW1
  refine wpIn_wide.2 ?_
  go_quiet ((go_at_call 57; exact Calls.quiet_of_same (HL.out _)))
  clear HL
  have hB2 : Below w.heap.size w (W1.drewN nq) := ⟨hB0.os, hB0.tape, hB0.output, hB0.size, hB0.block⟩
  have bA : Boxed (W1.drewN nq) w.heap.size 31 (.pointer (some ⟨gp, 0, none⟩)) := hbA
  have bB : Boxed (W1.drewN nq) (w.heap.size + 1) 25 (.int .i64 0) := hbB
  replace hsz : (W1.drewN nq).heap.size = w.heap.size + 2 := hsz
  generalize W1.drewN nq = W2 at hB2 bA bB hsz ⊢
  clear h1 hcp cA c1 hbA hbB hB0 W1
  have cA := bA.cell
  have cB := bB.cell
  have fB := bB.frozen
  have h2 := h.up hK hB2
  have hcp := h2.po.cells
  have H := Lib.hid h; have HK := Lib.hid hK; have H2 := Lib.hid h2
  clear h hK h2
  by_cases hlt : (hs.length : Int) < most
  · have HR := Lib.hid (show spaceP step a most hs us s d = (0, hs, us, s, d) by unfold spaceP; rw [if_pos hlt])
    gi_wp2
    have hB4 : Below w.heap.size w (W2.setCell ⟨w.heap.size + 1, 0, none⟩ (.int .i64 0)) := hB2.setCell (p := ⟨w.heap.size + 1, 0, none⟩) (by simp) _
    have c4 := (bB.set (.int .i64 0)).cell
    refine ⟨.int .i64 0, ?_, by rw [HR.out], by rw [HR.out]; exact SyP.up H.out HK.out hB4⟩
    simp [results, Tryz.f36, go_sem, c4]
  · have HR := Lib.hid (show spaceP step a most hs us s d = (match us.find? (fun k => (frOf hs k).pins == 0) with | none => (10, hs, us, s, d) | some k => outP step a hs us s d k) by unfold spaceP; rw [if_neg hlt])
    have ho := oldest_any gp 4 uv us W2 hcp.2.2.2.2 (IntsAt.of_own H2.out.po.lst) (by have := H2.out.po.fewu; omega)
    gi_wp2
    refine ⟨trivial, (callsIn_wide.2 ho).mono ?_⟩
    rintro e w3 ⟨Bs, v', rfl, hBs, hBsz, hO3, hb3⟩
    gi_wp2
    have hB3 : Below w.heap.size w w3 := hB2.trans (hb3.mono hB2.size)
    have bA3 : Boxed w3 w.heap.size 31 (.pointer (some ⟨gp, 0, none⟩)) := Blk.up (show Blk _ _ _ _ from bA) hb3
    have bB3 : Boxed w3 (w.heap.size + 1) 25 (.int .i64 0) := Blk.up (show Blk _ _ _ _ from bB) hb3
    have hsz3 : w.heap.size + 2 ≤ w3.heap.size := by have := hb3.size; omega
    have H3 := Lib.hid (H.out.up HK.out hB3)
    have hcB : w3.cell? ⟨Bs, 0, none⟩ = some v' := hBs.cell 0
    have hI : Inw w3.heap.size w3 v' (us.attach.map (fun x => x.1)) := by
      rw [show us.attach.map (fun x => x.1) = us by simp]
      exact Inw.of_own hO3
    have hS : ∀ k, (k = Bs ∨ some k = v'.ownBlock) → k < w3.heap.size := fun k hk => hk.elim (fun e => by rw [e]; exact hBs.lt) (fun e => (hO3.lt k e.symm).2)
    have hlenu := H.out.po.fewu
    have HB3 := Lib.hid hB3
    clear hO3 hb3 hBs hBsz cA cB fB bA bB hcp hsz H2 hB2 W2 hB3 ho
    refine wpIn_rangeFunc_ownG rfl (by decide) (gf := 82) (lb := #[.pointer (some ⟨Bs, 0, none⟩)]) rfl trivial (enters_of Tryz.func82 (by kernel_rfl) rfl)
      (old1_stops (fun x : { n : Int // n ∈ us } => x.1) Fence.wide 8 trivial rfl (by decide) Bs v' us.attach (by rw [List.length_attach]; omega) w3 (hS Bs (Or.inl rfl)) hcB hI) kpB_t (kpB_b hS) (Below.refl _ _) (fun _ => rfl)
      (fun pre W => Below w3.heap.size w3 W ∧ ∀ y ∈ pre, ((frOf hs y.1).pins == 0) = false)
      (fun c pre W => c = .ret ∧ ∃ pre' x, pre = pre' ++ [x] ∧ (∀ y ∈ pre', ((frOf hs y.1).pins == 0) = false) ∧ ((frOf hs x.1).pins == 0) = true ∧ Boxed W (w.heap.size + 1) 25 (.int .i64 (outP step a hs us s d x.1).1) ∧
        SyP n0 w W gp ga g m a most ff fi ca E XF hv uv hs (outP step a hs us s d x.1).2.1 (outP step a hs us s d x.1).2.2.1 (outP step a hs us s d x.1).2.2.2.2 (outP step a hs us s d x.1).2.2.2.1)
      (fun s A B row hs hg hr => ⟨hs.1.grown hg hs.1.size (fun k e => (hr k e).1), hs.2⟩)
      ?hIx
      ⟨Below.refl _ _, fun y hy => by cases hy⟩
      (fun x => { tmps := #[.pointer (some ⟨gp, 0, none⟩), .pointer (some ⟨w.heap.size, 0, none⟩), .pointer (some ⟨w.heap.size + 1, 0, none⟩), .int .i64 x.1, undef, undef,
        .pointer (some ⟨gp, 0, none⟩), .pointer (some ⟨gp, 0, none⟩), .pointer (some ⟨gp, 3, none⟩), .int .i64 (hs.length : Nat), .pointer (some ⟨gp, 0, none⟩), .pointer (some ⟨gp, 0, none⟩), .pointer (some ⟨gp, 1, none⟩), .int .i64 most, .bool (decide ((hs.length : Int) < most)),
        .pointer (some ⟨gp, 0, none⟩), .pointer (some ⟨gp, 0, none⟩), .pointer (some ⟨gp, 4, none⟩), .func (.func 82) #[] #[.pointer (some ⟨Bs, 0, none⟩)], .int .i64 x.1, undef, undef, undef, undef, undef, undef, undef, undef, undef, undef, undef, undef, undef, undef, undef, undef, undef], defers := [] })
      ?assign ?body ?done ?stop
    case hIx =>
      rintro c pre A B row ⟨rfl, pre', x, q1, q2, q3, q4, q5⟩ hg hr
      refine ⟨rfl, pre', x, q1, q2, q3, q4.kept hg (fun e => by have := (hr _ e.symm).1; omega), q5.turn HK.out hm hn0 hg (fun b e => ⟨by have := (hr b e).1; omega, (hr b e).2⟩)⟩
    case assign =>
      intro l x W K hK'
      unfold intEnc
      gi_wp2
      exact hK'
    case body =>
      rintro l pre x W ⟨hBW, hall⟩ hl
      have hSW := H3.out.up HK.out hBW
      obtain ⟨y, hy⟩ := Option.isSome_iff_exists.1 (hu x.1 x.2)
      have hfo : frOf hs x.1 = y.2 := by unfold frOf; rw [hy]
      have hg := hSW.po.get x.1
      rw [hy] at hg
      simp only [Option.map_some, Option.isSome_some] at hg
      have bAW : Boxed W w.heap.size 31 (.pointer (some ⟨gp, 0, none⟩)) := Blk.up (show Blk _ _ _ _ from bA3) hBW
      have bBW : Boxed W (w.heap.size + 1) 25 (.int .i64 0) := Blk.up (show Blk _ _ _ _ from bB3) hBW
      have cA := bAW.cell
      have hfr := hSW.po.frame hy
      have HSW := Lib.hid hSW
      have hszW := hBW.size
      have HBW := Lib.hid hBW
      clear hSW hBW
      gi_wp2
      refine ⟨trivial, (CallsIn.inRound l (callsIn_wide.2 hg)).mono ?_⟩
      clear hg
      rintro e w4 ⟨rfl, hb4⟩
      have c1 : w4.cell? ⟨y.1, 1, none⟩ = some (.int .i64 (y.2.pins : Nat)) := (hfr.up hb4).cell 1
      have bA4 : Boxed w4 w.heap.size 31 (.pointer (some ⟨gp, 0, none⟩)) := Blk.up (show Blk _ _ _ _ from bAW) hb4
      have bB4 : Boxed w4 (w.heap.size + 1) 25 (.int .i64 0) := Blk.up (show Blk _ _ _ _ from bBW) hb4
      have cA4 := bA4.cell
      have HS4 := Lib.hid (HSW.out.up HK.out hb4)
      have HB4 := Lib.hid hb4
      clear cA hb4
      by_cases hp : y.2.pins = 0
      · rw [hp] at c1
        have hpo := pout_any w4 x.1 y HS4.out HK.out hsm hy h512 hc hst
        gi_wp2
        refine ⟨trivial, (CallsIn.inRound l (callsIn_wide.2 hpo)).mono ?_⟩
        clear hpo
        rintro e w5 ⟨rfl, hP5⟩
        have hb04 : Below w.heap.size w w4 := HB3.out.trans ((HBW.out.mono (by omega)).trans (HB4.out.mono (by omega)))
        obtain ⟨hB5, hP6, hk6⟩ := SyP.box hb04 H.out hP5 HK.out (w.heap.size + 1) (by omega) bB4 (.int .i64 (outP step a hs us s d x.1).1)
        have cB5 := hB5.cell
        have fB5 := hB5.frozen
        have HP6 := Lib.hid hP6; have HK6 := Lib.hid hk6
        clear hP5 hP6 hk6
        gi_wp2
        exact ⟨KeepsFrom.trans ((Fr.up (F := fun _ => False) HB4.out).keepsFrom (fun _ e => e.elim)) (HK6.out.up (by omega)), rfl, pre, x, rfl, hall, by rw [hfo, hp]; rfl, hB5.set _, HP6.out⟩
      · have hp' : ((frOf hs x.1).pins == 0) = false := by rw [hfo]; simpa using hp
        have hp2 : ¬ ((y.2.pins : Nat) : Int) = 0 := by omega
        gi_wp2
        refine ⟨(Fr.up (F := fun _ => False) HB4.out).keepsFrom (fun _ e => e.elim), ⟨HB4.out.size, fun k hk => HB4.out.block k (by have := hS k hk; omega)⟩, HBW.out.trans (HB4.out.mono hszW), fun z hz => ?_⟩
        rcases List.mem_append.1 hz with h1 | h1
        · exact hall z h1
        · rw [List.mem_singleton.1 h1]; exact hp'
    case done =>
      rintro D ys W hD rfl ⟨hBW, hall⟩ hK'
      have hno : us.find? (fun k => (frOf hs k).pins == 0) = none := by
        rw [List.find?_eq_none]
        intro k hk
        have := hall ⟨k, hk⟩ (List.mem_attach _ _)
        simp only at this
        rw [this]
        simp
      have HR2 : spaceP step a most hs us s d = (10, hs, us, s, d) := by rw [HR.out, hno]
      have bBW : Boxed W (w.heap.size + 1) 25 (.int .i64 0) := Blk.up (show Blk _ _ _ _ from bB3) hBW
      have cB := bBW.cell
      have fB := bBW.frozen
      have b6 := bBW.set (.int .i64 10)
      have hB6 : Below w.heap.size w (W.setCell ⟨w.heap.size + 1, 0, none⟩ (.int .i64 10)) := HB3.out.trans ((hBW.mono (by omega)).setCell (p := ⟨w.heap.size + 1, 0, none⟩) (by simp) _)
      have hK6 : (W.setCell ⟨w.heap.size + 1, 0, none⟩ (.int .i64 10)).heap[D]? = some (.deferred (some [])) := (KeepsOthers.setCell W ⟨w.heap.size + 1, 0, none⟩ (.int .i64 10)).same D _ hK' rfl
      have HR3 := Lib.hid HR2
      clear HR2 HR
      gi_wp2
      generalize W.setCell ⟨w.heap.size + 1, 0, none⟩ (.int .i64 10) = W6 at b6 hB6 hK6 ⊢
      refine ⟨by simp, .inl ⟨_, _, rfl, run_takeDeferred hK6, ?_⟩⟩
      have c6 := (b6.kept (grownBy_putObj' _ D (.deferred none)) (by intro e; simp at e; omega)).cell
      refine ⟨.int .i64 10, ?_, by rw [HR3.out], by rw [HR3.out]; exact SyP.up H.out HK.out (hB6.trans (belowK_b (w := w) (Nat.le_refl _) W6 D _ _ (by omega) hK6 rfl rfl))⟩
      simp [results, Tryz.f36, go_sem, c6]
    case stop =>
      rintro D c pre W hD ⟨k, hk, hpre⟩ ⟨rfl, pre', x, q1, q2, q3, q4, q5⟩ hK'
      have hyes : us.find? (fun k => (frOf hs k).pins == 0) = some x.1 := find_first (p := fun k => (frOf hs k).pins == 0) (hpre.symm.trans q1) q2 q3
      have HR3 := Lib.hid (show spaceP step a most hs us s d = outP step a hs us s d x.1 by rw [HR.out, hyes])
      clear HR
      gi_wp2
      refine ⟨by simp, .inl ⟨_, _, rfl, run_takeDeferred hK', ?_⟩⟩
      have c6 := (q4.kept (grownBy_putObj' _ D (.deferred none)) (by intro e; simp at e; omega)).cell
      refine ⟨.int .i64 (outP step a hs us s d x.1).1, ?_, by rw [HR3.out], by rw [HR3.out]; exact q5.turn HK.out hm hn0 (grownBy_putObj' _ D (.deferred none)) (fun b e => by cases e; exact ⟨by omega, _, hK', rfl⟩)⟩
      simp [results, Tryz.f36, go_sem, c6]
theorem space_any (w : World) (h : Sy n0 w gp ga g m a most ff fi ca E XF hv uv hs us d s) (hK : FlOk n0 ga g m a ff fi ca E XF step SM) (hsm : SM s) (hu : ∀ k ∈ us, (fd hs k).isSome = true)
    (h512 : Small512 hs) (hc : d.cmds < 600000000) (hst : ∀ s d n, (step s d n).2.2.cmds ≤ d.cmds + 100000000) :
    Calls Tryz.prog 36 #[.pointer (some ⟨gp, 0, none⟩)] w fun e w' => e = .returned (.int .i64 (spaceP step a most hs us s d).1) ∧
      SyP n0 w w' gp ga g m a most ff fi ca E XF hv uv hs (spaceP step a most hs us s d).2.1 (spaceP step a most hs us s d).2.2.1 (spaceP step a most hs us s d).2.2.2.2 (spaceP step a most hs us s d).2.2.2.1 :=
  (callsIn_wide (n := 9)).1 (space_in w h hK hsm hu h512 hc hst)
end
end
end Go.Proofs.YtjlcbabnkhdgpaaGreatDoor
namespace Go.Proofs.YtjlcbabnkhdgpaaGreatDoor
section
set_option linter.unusedSimpArgs false
set_option linter.unusedVariables false
open Go.RowKit Go.Maps

theorem cleanF_length (ns : List Int) (hs : List Hl) : (cleanF hs ns).length = hs.length := by
  unfold cleanF
  induction ns generalizing hs with
  | nil => rfl
  | cons n ns ih => rw [List.foldl_cons, ih]; unfold setF; rw [List.length_map]
theorem fd_setF_none {hs : List Hl} {k n : Int} {f : FrM} (h : fd hs n = none) : fd (setF hs k f) n = none := by
  rw [fd_setF]
  split
  · rw [h]; rfl
  · exact h
theorem fd_cleanF_none (ns : List Int) (hs : List Hl) (n : Int) (h : fd hs n = none) : fd (cleanF hs ns) n = none := by
  unfold cleanF
  induction ns generalizing hs with
  | nil => exact h
  | cons k ns ih => rw [List.foldl_cons]; exact ih _ (fd_setF_none h)
theorem fd_none {hs : List Hl} {n : Int} : fd hs n = none ↔ ∀ x ∈ hs, x.1 ≠ n := by
  unfold fd
  rw [Option.map_eq_none_iff, List.find?_eq_none]
  exact ⟨fun h x hx e => h x hx (by simpa using e), fun h x hx e => h x hx (by simpa using e)⟩
theorem fd_sub_none {hs hs' : List Hl} {n : Int} (h : hs'.Sublist hs) (hn : fd hs n = none) : fd hs' n = none := fd_none.2 (fun x hx => fd_none.1 hn x (h.subset hx))
section
variable {σ : Type} {step : σ → DevM → Int → Int × σ × DevM} {SM : σ → Prop} {a : ArM} {hs : List Hl} {us : List Int} {s : σ} {d : DevM} {n : Int}
theorem twriteM_cmds (h1 : 1 ≤ a.sl) (d : DevM) (l : List Img) : (twriteM a d l).2.cmds ≤ d.cmds + 7 * l.length := by
  unfold twriteM
  split
  · exact (roundsM_all a h1 l.length d l).2
  · exact Nat.le_add_right _ _
theorem writeP_all (h1 : 1 ≤ a.sl) (hst : ∀ s d n, (step s d n).2.2.cmds ≤ d.cmds + 100000000) (hs : List Hl) (s : σ) (d : DevM) (ns : List Int) :
    (writeP step a hs s d ns).2.1.length = hs.length ∧ (∀ n, fd hs n = none → fd (writeP step a hs s d ns).2.1 n = none) ∧ (writeP step a hs s d ns).2.2.2.cmds ≤ d.cmds + 100000000 + 7 * ns.length := by
  unfold writeP
  split
  · exact ⟨rfl, fun _ h => h, by simp only; omega⟩
  · have q1 := hst s d (topOf hs ns : Nat)
    generalize step s d (topOf hs ns : Nat) = r at *
    unfold writeQ
    split
    · exact ⟨rfl, fun _ h => h, by simp only; omega⟩
    · have q2 := twriteM_cmds h1 r.2.2 (imgsOf hs ns)
      rw [show (imgsOf hs ns).length = ns.length by unfold imgsOf; rw [List.length_map]] at q2
      unfold writeR
      split
      · exact ⟨rfl, fun _ h => h, by simp only; omega⟩
      · exact ⟨cleanF_length _ _, fun n h => fd_cleanF_none _ _ _ h, by simp only; omega⟩
theorem outP_all (h1 : 1 ≤ a.sl) (hst : ∀ s d n, (step s d n).2.2.cmds ≤ d.cmds + 100000000) (k : Int) :
    (outP step a hs us s d k).2.1.length ≤ hs.length ∧ (outP step a hs us s d k).2.2.1.length ≤ us.length ∧ (∀ n, fd hs n = none → fd (outP step a hs us s d k).2.1 n = none) ∧ (outP step a hs us s d k).2.2.2.2.cmds ≤ d.cmds + 100000007 := by
  have hgen : ∀ r : Int × List Hl × σ × DevM, r.2.1.length = hs.length → (∀ n, fd hs n = none → fd r.2.1 n = none) → r.2.2.2.cmds ≤ d.cmds + 100000007 →
      (outR k us r).2.1.length ≤ hs.length ∧ (outR k us r).2.2.1.length ≤ us.length ∧ (∀ n, fd hs n = none → fd (outR k us r).2.1 n = none) ∧ (outR k us r).2.2.2.2.cmds ≤ d.cmds + 100000007 := by
    intro r q1 q2 q3
    unfold outR
    split
    · exact ⟨Nat.le_of_eq q1, Nat.le_refl _, q2, q3⟩
    · exact ⟨Nat.le_trans (delF_sub r.2.1 k).length_le (Nat.le_of_eq q1), dropL_length us k, fun n h => fd_sub_none (delF_sub r.2.1 k) (q2 n h), q3⟩
  unfold outP
  apply hgen
  · split
    · exact (writeP_all h1 hst hs s d [k]).1
    · rfl
  · split
    · exact (writeP_all h1 hst hs s d [k]).2.1
    · exact fun _ h => h
  · split
    · have := (writeP_all h1 hst hs s d [k]).2.2; simp at this; omega
    · simp only; omega
theorem spaceP_all (h1 : 1 ≤ a.sl) (hst : ∀ s d n, (step s d n).2.2.cmds ≤ d.cmds + 100000000) (most : Int) :
    (spaceP step a most hs us s d).2.1.length ≤ hs.length ∧ (spaceP step a most hs us s d).2.2.1.length ≤ us.length ∧ (∀ n, fd hs n = none → fd (spaceP step a most hs us s d).2.1 n = none) ∧ (spaceP step a most hs us s d).2.2.2.2.cmds ≤ d.cmds + 100000007 := by
  unfold spaceP
  split
  · exact ⟨Nat.le_refl _, Nat.le_refl _, fun _ h => h, by simp only; omega⟩
  · split
    · exact ⟨Nat.le_refl _, Nat.le_refl _, fun _ h => h, by simp only; omega⟩
    · exact outP_all h1 hst _
end
section
variable {n0 gp ga g m : Nat} {a : ArM} {d d' : DevM} {w w' : World} {most : Int} {ff : FuncId} {fi ca : Array Value} {hv uv hv' uv' : Value} {hs hs' : List Hl} {us us' : List Int}
variable {σ : Type} {E : σ → World → Prop} {XF : World → Nat → Prop} {step : σ → DevM → Int → Int × σ × DevM} {SM : σ → Prop} {s s' : σ}
def upF (f : FrM) : FrM := { f with pins := f.pins + 1 }
theorem SyP.pins (h : Sy n0 w gp ga g m a most ff fi ca E XF hv uv hs us d s) (hK : FlOk n0 ga g m a ff fi ca E XF step SM) {n : Int} {y : Nat × FrM} (hy : fd hs n = some y) :
    SyP n0 w (w.setCell ⟨y.1, 1, none⟩ (.int .i64 ((y.2.pins + 1 : Nat) : Int))) gp ga g m a most ff fi ca E XF hv uv hs (setF hs n (upF y.2)) us d s := by
  have hB := (h.po.frame hy).set 1 (.int .i64 ((y.2.pins + 1 : Nat) : Int))
  have hF : Fr (PF gp hv uv hs) w (w.setCell ⟨y.1, 1, none⟩ (.int .i64 ((y.2.pins + 1 : Nat) : Int))) := (Fr.setCell w y.1 1 _).mono (fun b _ e => Or.inr (Or.inr (Or.inr (by rw [e]; exact List.mem_map_of_mem (f := fun x : Hl => x.2.1) (fd_mem hy)))))
  have hm : (setF hs n (upF y.2)).map (·.2.1) = hs.map (·.2.1) := by
    unfold setF
    rw [List.map_map]
    apply List.map_congr_left
    intro x _
    simp only [Function.comp]
    split <;> rfl
  refine ⟨hv, uv, h.pool hK (h.po.setFrame hy (Fr.setCell w y.1 1 _) (f := upF y.2) hB) hF (fun b hb => Or.inl (PF_congr hm hb)), hF.mono (fun b _ e => ⟨h.po.ge b e, Or.inl e⟩), fun b hb => Or.inl (PF_congr hm hb), fun b hb => Or.inl ((hK.fr h.env hF (fun b hb hp => h.x1 b hb hp)).2 b hb)⟩
theorem pset_any (w : World) (n : Int) (f : FrM) (h : Sy n0 w gp ga g m a most ff fi ca E XF hv uv hs us d s) (hK : FlOk n0 ga g m a ff fi ca E XF step SM) (hk : fd hs n = none) (hl : hs.length ≤ 900) :
    Calls Tryz.prog 38 #[.pointer (some ⟨gp, 3, none⟩), .int .i64 n, .pointer (some ⟨w.heap.size, 0, none⟩)] (w.alloc (.cells (frC f) 90)) fun e w' => e = .returned (.tuple #[]) ∧ SyP n0 w w' gp ga g m a most ff fi ca E XF hv uv hs (insF hs n (w.heap.size, f)) us d s := by
  have hb : Below w.heap.size w (w.alloc (.cells (frC f) 90)) := (Below.refl _ _).alloc (Nat.le_refl _) _
  refine ((h.po.up hb).mset n w.heap.size f (Blk.made w _ _) (fun hm => by
    have := h.po.lt w.heap.size (Or.inr (Or.inr (Or.inr hm)))
    omega) h.po.size hk hl).mono ?_
  rintro e w' ⟨rfl, hv', hP, hF, hn⟩
  have hF' : Fr (PF gp hv uv hs) w w' := (Fr.up hb).trans hF (fun b _ e => e)
  have hn' : ∀ b, PF gp hv' uv (insF hs n (w.heap.size, f)) b → PF gp hv uv hs b ∨ w.heap.size ≤ b := fun b e => by
    rcases hn b e with h1 | h1 | h1
    · exact Or.inl h1
    · simp at h1; right; omega
    · right; omega
  exact ⟨rfl, hv', uv, h.pool hK hP hF' hn', hF'.mono (fun b _ e => ⟨h.po.ge b e, Or.inl e⟩), hn', fun b hb => Or.inl ((hK.fr h.env hF' (fun b hb hp => h.x1 b hb hp)).2 b hb)⟩
theorem SyP.above {w1 : World} (h : Sy n0 w gp ga g m a most ff fi ca E XF hv uv hs us d s) (hK : FlOk n0 ga g m a ff fi ca E XF step SM) (hb : Below w.heap.size w w1) (k : SyP n0 w1 w' gp ga g m a most ff fi ca E XF hv uv hs hs' us' d' s') :
    SyP n0 w w' gp ga g m a most ff fi ca E XF hv uv hs hs' us' d' s' :=
  SyP.next (Fr.up hb) (fun _ hb => Or.inl hb) (fun b hx => Or.inl ((hK.fr h.env (Fr.up (F := fun _ => False) hb) (fun _ _ e => e)).2 b hx)) k
def NoPage (a : ArM) (n : Int) : Prop := n < 0 ∨ a.pg ≤ n
set_option maxHeartbeats 1600000 in
set_option maxRecDepth 100000 in
theorem pin_bad (w : World) (n : Int) (h : Sy n0 w gp ga g m a most ff fi ca E XF hv uv hs us d s) (hn : NoPage a n) :
    Calls Tryz.prog 12 #[.pointer (some ⟨gp, 0, none⟩), .int .i64 n] w fun e w' => e = .returned (.tuple #[.string (bs []), .int .i64 1]) ∧ w = w' := by
  have hcp := h.po.cells
  have hp := pages_any n0 ga g m a d w h.tw
  clear h
  go_enter Tryz.func12, Tryz.ntmps12
  by_cases h0 : n < 0
  · clear hp hn
    go_wp2_with fail
    go_ret2
    exact ⟨rfl, rfl⟩
  · have h1 : a.pg ≤ n := hn.elim (fun e => absurd e h0) id
    clear hn
    go_wp2_with fail
    refine hp.mono ?_
    clear hp
    rintro e w2 ⟨rfl, rfl⟩
    go_wp2_with fail
    go_ret2
    exact ⟨rfl, rfl⟩
set_option maxHeartbeats 3200000 in
set_option maxRecDepth 100000 in
theorem pin_have (w : World) (n : Int) (y : Nat × FrM) (h : Sy n0 w gp ga g m a most ff fi ca E XF hv uv hs us d s) (hK : FlOk n0 ga g m a ff fi ca E XF step SM) (hn : ¬ NoPage a n) (hy : fd hs n = some y) (hp1 : y.2.pins ≤ 1000000) (hu : us.length ≤ 900) :
    Calls Tryz.prog 12 #[.pointer (some ⟨gp, 0, none⟩), .int .i64 n] w fun e w' => e = .returned (.tuple #[.string (bs y.2.bytes), .int .i64 0]) ∧
      SyP n0 w w' gp ga g m a most ff fi ca E XF hv uv hs (setF hs n (upF y.2)) (useL us n) d s := by
  have hcp := h.po.cells
  have hp := pages_any n0 ga g m a d w h.tw
  have hg := h.po.get n
  rw [hy] at hg
  simp only [Option.map_some, Option.isSome_some] at hg
  have H := Lib.hid h; have HK := Lib.hid hK; have HY := Lib.hid hy
  have h0 : 0 ≤ n := by unfold NoPage at hn; omega
  have h1 : n < a.pg := by unfold NoPage at hn; omega
  have hw1 : IntKind.i64.wrap ((y.2.pins : Int) + 1) = ((y.2.pins + 1 : Nat) : Int) := by rw [wrap_i64_in _ (by omega)]; omega
  clear h hK hy hn
  go_enter Tryz.func12, Tryz.ntmps12
  go_wp2_with fail
  refine hp.mono ?_
  clear hp
  rintro e w2 ⟨rfl, rfl⟩
  go_wp2_with fail
  refine hg.mono ?_
  clear hg
  rintro e w2 ⟨rfl, hb⟩
  have hS2 := H.out.up HK.out hb
  have hB2 := hS2.po.frame HY.out
  have c1 : w2.cell? ⟨y.1, 1, none⟩ = some (.int .i64 (y.2.pins : Nat)) := hB2.cell 1
  have f1 := hB2.frozen 1
  have hP3 := SyP.pins hS2 HK.out HY.out
  obtain ⟨hv3, uv3, hS3, hF3, hn3, hx3⟩ := hP3
  have hus := pgo3_any _ n hS3 HK.out hu
  have hB3 : Blk (w2.setCell ⟨y.1, 1, none⟩ (.int .i64 ((y.2.pins + 1 : Nat) : Int))) y.1 90 (frC (upF y.2)) := hB2.set 1 (.int .i64 ((y.2.pins + 1 : Nat) : Int))
  have HB3 := Lib.hid hB3; have Hb := Lib.hid hb; have HF3 := Lib.hid hF3; have HN3 := Lib.hid hn3; have HX3 := Lib.hid hx3; have HS3 := Lib.hid hS3
  clear hS2 hB2 hS3 hF3 hn3 hx3 hB3 hb
  go_wp2_with fail
  refine hus.mono ?_
  clear hus
  rintro e w4 ⟨rfl, hP4⟩
  obtain ⟨hv4, uv4, hS4, hF4, hn4, hx4⟩ := id hP4
  have hy4 : fd (setF hs n (upF y.2)) n = some (y.1, upF y.2) := by rw [fd_setF, if_pos rfl, HY.out]; rfl
  have c0 : w4.cell? ⟨y.1, 0, none⟩ = some (.string (bs y.2.bytes)) := (hS4.po.frame hy4).cell 0
  have HT := Lib.hid (SyP.above H.out HK.out Hb.out (SyP.next HF3.out HN3.out HX3.out hP4))
  clear hP4 hS4 hF4 hn4 hx4 hy4
  go_wp2_with fail
  go_ret2
  exact ⟨rfl, HT.out⟩
theorem treadM_len (h : Tw n0 w ga g m a d) (n : Int) : (treadM a d n).1.length ≤ 512 ∧ ((treadM a d n).2 = 0 → (treadM a d n).1.length = 512) := by
  unfold treadM twoM
  split
  · split
    · exact ⟨by simp, fun e => by cases e⟩
    · have : (readM d (a.fr + 2 * n) ++ readM d (a.fr + 2 * n + 1)).length = 512 := by rw [List.length_append, readM_length h.dv.fits, readM_length h.dv.fits]
      exact ⟨Nat.le_of_eq this, fun _ => this⟩
  · exact ⟨by simp, fun e => by cases e⟩
theorem setF_none {hs : List Hl} {n : Int} {f : FrM} (h : ∀ x ∈ hs, x.1 ≠ n) : setF hs n f = hs := by
  unfold setF
  conv => rhs; rw [← List.map_id hs]
  apply List.map_congr_left
  intro x hx
  rw [if_neg (h x hx)]; rfl
theorem setF_insF {hs : List Hl} {n : Int} {x : Nat} {f f' : FrM} (h : fd hs n = none) : setF (insF hs n (x, f)) n f' = insF hs n (x, f') := by
  have h1 := fd_none.1 h
  have e1 := setF_none (f := f') (hs := hs.take (posL (psOf hs) n)) (fun z hz => h1 z (List.mem_of_mem_take hz))
  have e2 := setF_none (f := f') (hs := hs.drop (posL (psOf hs) n)) (fun z hz => h1 z (List.mem_of_mem_drop hz))
  unfold insF
  unfold setF at *
  rw [List.map_append, List.map_append, e1, e2]
  simp
theorem fd_insF {hs : List Hl} {n : Int} {x : Nat} {f : FrM} (h : fd hs n = none) (k : Int) : fd (insF hs n (x, f)) k = if k = n then some (x, f) else fd hs k := by
  have h1 := fd_none.1 h
  by_cases hk : k = n
  · subst hk
    rw [if_pos rfl]
    have h2 : (hs.take (posL (psOf hs) k)).find? (fun z => z.1 == k) = none := by
      rw [List.find?_eq_none]
      exact fun z hz e => h1 z (List.mem_of_mem_take hz) (by simpa using e)
    unfold fd insF
    rw [List.find?_append, List.find?_append, h2]
    simp
  · rw [if_neg hk]
    have h3 : hs = hs.take (posL (psOf hs) n) ++ hs.drop (posL (psOf hs) n) := (List.take_append_drop _ _).symm
    unfold fd insF
    conv => rhs; rw [h3]
    rw [List.find?_append, List.find?_append, List.find?_append]
    have h4 : ([(n, x, f)] : List Hl).find? (fun z => z.1 == k) = none := by simp [Ne.symm hk]
    rw [h4, Option.or_none]
def pinQ {σ : Type} (a : ArM) (r : Int × List Hl × List Int × σ × DevM) (n : Int) (x : Nat) : (List UInt8 × Int) × List Hl × List Int × σ × DevM :=
  if r.1 ≠ 0 then (([], r.1), r.2) else if (treadM a r.2.2.2.2 n).2 ≠ 0 then (([], (treadM a r.2.2.2.2 n).2), r.2)
  else if wholeB (treadM a r.2.2.2.2 n).1 = false then (([], 19), r.2) else (((treadM a r.2.2.2.2 n).1, 0), insF r.2.1 n (x, ⟨(treadM a r.2.2.2.2 n).1, 1, false⟩), useL r.2.2.1 n, r.2.2.2)
set_option maxHeartbeats 6400000 in
set_option maxRecDepth 100000 in
theorem pin_new (w : World) (n : Int) (h : Sy n0 w gp ga g m a most ff fi ca E XF hv uv hs us d s) (hK : FlOk n0 ga g m a ff fi ca E XF step SM) (hsm : SM s) (hn : ¬ NoPage a n) (hy : fd hs n = none) (hu : us.length ≤ 900) (hl : hs.length ≤ 900) (hus : ∀ k ∈ us, (fd hs k).isSome = true)
    (h512 : Small512 hs) (hc : d.cmds < 600000000) (hst : ∀ s d n, (step s d n).2.2.cmds ≤ d.cmds + 100000000) :
    Calls Tryz.prog 12 #[.pointer (some ⟨gp, 0, none⟩), .int .i64 n] w fun e w' => ∃ x, e = .returned (.tuple #[.string (bs (pinQ a (spaceP step a most hs us s d) n x).1.1), .int .i64 (pinQ a (spaceP step a most hs us s d) n x).1.2]) ∧
      SyP n0 w w' gp ga g m a most ff fi ca E XF hv uv hs (pinQ a (spaceP step a most hs us s d) n x).2.1 (pinQ a (spaceP step a most hs us s d) n x).2.2.1 (pinQ a (spaceP step a most hs us s d) n x).2.2.2.2 (pinQ a (spaceP step a most hs us s d) n x).2.2.2.1 := by
  have hcp := h.po.cells
  have hp := pages_any n0 ga g m a d w h.tw
  have hg := h.po.get n
  rw [hy] at hg
  simp only [Option.map_none, Option.isSome_none] at hg
  have hall := spaceP_all (a := a) (hs := hs) (us := us) (s := s) (d := d) (by have := h.tw.fits; unfold ArM.fits at this; omega) hst most
  have H := Lib.hid h; have HK := Lib.hid hK
  have h0 : 0 ≤ n := by unfold NoPage at hn; omega
  have h1 : n < a.pg := by unfold NoPage at hn; omega
  clear h hK hn
  go_enter Tryz.func12, Tryz.ntmps12
  go_wp2_with fail
  refine hp.mono ?_
  clear hp
  rintro e w2 ⟨rfl, rfl⟩
  go_wp2_with fail
  refine hg.mono ?_
  clear hg
  rintro e w2 ⟨rfl, hb⟩
  have hs2 := space_any w2 (H.out.up HK.out hb) HK.out hsm hus h512 hc hst
  have Hb := Lib.hid hb
  clear hb
  go_wp2_with fail
  refine hs2.mono ?_
  clear hs2
  rintro e w3 ⟨rfl, hP3⟩
  obtain ⟨r, hr⟩ : ∃ r, r = spaceP step a most hs us s d := ⟨_, rfl⟩
  rw [← hr] at hP3 hall
  rw [← hr]
  have HR0 := Lib.hid hr
  clear hr
  obtain ⟨er, hs3, us3, s3, d3⟩ := r
  dsimp only at hP3 hall
  obtain ⟨hl3, hu3, hf3, hc3⟩ := hall
  replace hf3 := hf3 n hy
  have HT3 := Lib.hid (SyP.above H.out HK.out Hb.out hP3)
  by_cases her : er = 0
  · subst her
    obtain ⟨hv3, uv3, hS3, hF3, hn3, hx3⟩ := HT3.out
    have hcp3 := hS3.po.cells
    have hrd := tread_any n0 ga g m a d3 n w3 hS3.tw (by omega)
    obtain ⟨hlen, hlen2⟩ := treadM_len hS3.tw n
    have HS3 := Lib.hid hS3; have HF3 := Lib.hid hF3; have HN3 := Lib.hid hn3; have HX3 := Lib.hid hx3
    clear hS3 hF3 hn3 hx3 hP3
    go_wp2_with fail
    refine hrd.mono ?_
    clear hrd
    rintro e w4 ⟨rfl, hb4⟩
    have hwh := pagewhole_any (treadM a d3 n).1 (by omega) w4 (HS3.out.up HK.out hb4).tw.turns
    obtain ⟨q, hq⟩ : ∃ q, q = treadM a d3 n := ⟨_, rfl⟩
    rw [← hq] at hwh hlen hlen2
    have HQ := Lib.hid hq
    have HB4 := Lib.hid hb4
    have HT4 := Lib.hid (SyP.next HF3.out HN3.out HX3.out (SyP.up HS3.out HK.out hb4))
    rw [← hq]
    clear hq hb4
    obtain ⟨qb, qe⟩ := q
    dsimp only at hwh hlen hlen2 ⊢
    by_cases hqe : qe = 0
    · subst hqe
      replace hlen2 := hlen2 rfl
      rw [show decide (qb.length = 512) = true by simp [hlen2], Bool.true_and] at hwh
      have HS4 := Lib.hid (HS3.out.up HK.out HB4.out)
      have hcp4 := HS4.out.po.cells
      go_wp2_with fail
      refine hwh.mono ?_
      clear hwh
      rintro e w5 ⟨rfl, hb5⟩
      have HT5 := Lib.hid (SyP.next HF3.out HN3.out HX3.out (SyP.up HS3.out HK.out (HB4.out.trans (hb5.mono HB4.out.size))))
      have HS5 := Lib.hid (HS4.out.up HK.out hb5)
      have HB5 := Lib.hid hb5
      clear hb5
      cases hw : wholeB qb with
      | false =>
        have HR := Lib.hid (show ∀ x, pinQ a (spaceP step a most hs us s d) n x = (([], 19), hs3, us3, s3, d3) by intro x; rw [← HR0.out]; unfold pinQ; rw [if_neg (by simp), ← HQ.out, if_neg (by simp), if_pos hw])
        clear hcp4
        go_wp2_with fail
        go_ret2
        exact ⟨0, by rw [HR.out]; rfl, by rw [HR.out]; exact HT5.out⟩
      | true =>
        have HR := Lib.hid (show ∀ x, pinQ a (spaceP step a most hs us s d) n x = ((qb, 0), insF hs3 n (x, ⟨qb, 1, false⟩), useL us3 n, s3, d3) by intro x; rw [← HR0.out]; unfold pinQ; rw [if_neg (by simp), ← HQ.out, if_neg (by simp), if_neg (by simp [hw])])
        have hset := pset_any w5 n ⟨qb, 0, false⟩ HS5.out HK.out hf3 (by omega)
        clear hcp4
        go_wp2_with fail
        refine hset.mono ?_
        clear hset
        rintro e w6 ⟨rfl, hP6⟩
        have HT6 := Lib.hid (SyP.next HF3.out HN3.out HX3.out (SyP.above HS3.out HK.out (HB4.out.trans (HB5.out.mono HB4.out.size)) hP6))
        obtain ⟨hv6, uv6, hS6, hF6, hn6, hx6⟩ := HT6.out
        have hy6 : fd (insF hs3 n (w5.heap.size, ⟨qb, 0, false⟩)) n = some (w5.heap.size, ⟨qb, 0, false⟩) := by rw [fd_insF hf3, if_pos rfl]
        have hB6 := hS6.po.frame hy6
        have c1 : w6.cell? ⟨w5.heap.size, 1, none⟩ = some (.int .i64 0) := hB6.cell 1
        have f1 := hB6.frozen 1
        have hP7 := SyP.pins hS6 HK.out hy6
        rw [setF_insF hf3] at hP7
        have HT7 := Lib.hid (SyP.next hF6 hn6 hx6 hP7)
        obtain ⟨hv7, uv7, hS7, hF7, hn7, hx7⟩ := HT7.out
        have hus7 := pgo3_any _ n hS7 HK.out (by omega)
        have HF7 := Lib.hid hF7; have HN7 := Lib.hid hn7; have HX7 := Lib.hid hx7
        clear hP6 hS6 hF6 hn6 hx6 hB6 hP7 hS7 hF7 hn7 hx7 hy6
        go_wp2_with fail
        refine hus7.mono ?_
        clear hus7
        rintro e w8 ⟨rfl, hP8⟩
        obtain ⟨hv8, uv8, hS8, hF8, hn8, hx8⟩ := id hP8
        have hy8 : fd (insF hs3 n (w5.heap.size, upF ⟨qb, 0, false⟩)) n = some (w5.heap.size, upF ⟨qb, 0, false⟩) := by rw [fd_insF hf3, if_pos rfl]
        have c0 : w8.cell? ⟨w5.heap.size, 0, none⟩ = some (.string (bs qb)) := (hS8.po.frame hy8).cell 0
        have HT8 := Lib.hid (SyP.next HF7.out HN7.out HX7.out hP8)
        clear hP8 hS8 hF8 hn8 hx8 hy8
        go_wp2_with fail
        go_ret2
        exact ⟨w5.heap.size, by rw [HR.out]; rfl, by rw [HR.out]; exact HT8.out⟩
    · have HR := Lib.hid (show ∀ x, pinQ a (spaceP step a most hs us s d) n x = (([], qe), hs3, us3, s3, d3) by intro x; rw [← HR0.out]; unfold pinQ; rw [if_neg (by simp), ← HQ.out, if_pos (by simpa using hqe)])
      clear hwh
      go_wp2_with fail
      go_ret2
      exact ⟨0, by rw [HR.out]; rfl, by rw [HR.out]; exact HT4.out⟩
  · have HR := Lib.hid (show ∀ x, pinQ a (spaceP step a most hs us s d) n x = (([], er), hs3, us3, s3, d3) by intro x; rw [← HR0.out]; unfold pinQ; rw [if_pos (by simpa using her)])
    clear hP3
    go_wp2_with fail
    go_ret2
    exact ⟨0, by rw [HR.out]; rfl, by rw [HR.out]; exact HT3.out⟩
def evictP {σ : Type} (step : σ → DevM → Int → Int × σ × DevM) (a : ArM) (hs : List Hl) (us : List Int) (s : σ) (d : DevM) (n : Int) : Int × List Hl × List Int × σ × DevM :=
  match fd hs n with | none => (11, hs, us, s, d) | some y => if 0 < y.2.pins then (10, hs, us, s, d) else outP step a hs us s d n
set_option maxHeartbeats 1600000 in
set_option maxRecDepth 100000 in
theorem evict_any (w : World) (n : Int) (h : Sy n0 w gp ga g m a most ff fi ca E XF hv uv hs us d s) (hK : FlOk n0 ga g m a ff fi ca E XF step SM) (hsm : SM s)
    (h512 : Small512 hs) (hc : d.cmds < 600000000) (hst : ∀ s d n, (step s d n).2.2.cmds ≤ d.cmds + 100000000) :
    Calls Tryz.prog 16 #[.pointer (some ⟨gp, 0, none⟩), .int .i64 n] w fun e w' => e = .returned (.int .i64 (evictP step a hs us s d n).1) ∧
      SyP n0 w w' gp ga g m a most ff fi ca E XF hv uv hs (evictP step a hs us s d n).2.1 (evictP step a hs us s d n).2.2.1 (evictP step a hs us s d n).2.2.2.2 (evictP step a hs us s d n).2.2.2.1 := by
  have hg := h.po.get n
  have H := Lib.hid h; have HK := Lib.hid hK
  clear h hK
  cases hy : fd hs n with
  | none =>
    have HR := Lib.hid (show evictP step a hs us s d n = (11, hs, us, s, d) by unfold evictP; rw [hy])
    rw [hy] at hg
    simp only [Option.map_none, Option.isSome_none] at hg
    clear hy
    go_enter Tryz.func16, Tryz.ntmps16
    go_wp2_with fail
    refine hg.mono ?_
    clear hg
    rintro e w2 ⟨rfl, hb⟩
    have HT := Lib.hid (SyP.up H.out HK.out hb)
    clear hb
    go_wp2_with fail
    go_ret
    exact ⟨by rw [HR.out]; rfl, by rw [HR.out]; exact HT.out⟩
  | some y =>
    rw [hy] at hg
    simp only [Option.map_some, Option.isSome_some] at hg
    have HY := Lib.hid hy
    by_cases hp : 0 < y.2.pins
    · have HR := Lib.hid (show evictP step a hs us s d n = (10, hs, us, s, d) by unfold evictP; rw [hy]; exact if_pos hp)
      have hp2 : (0 : Int) < (y.2.pins : Nat) := by omega
      clear hy
      go_enter Tryz.func16, Tryz.ntmps16
      go_wp2_with fail
      refine hg.mono ?_
      clear hg
      rintro e w2 ⟨rfl, hb⟩
      have c1 : w2.cell? ⟨y.1, 1, none⟩ = some (.int .i64 (y.2.pins : Nat)) := ((H.out.up HK.out hb).po.frame HY.out).cell 1
      have HT := Lib.hid (SyP.up H.out HK.out hb)
      clear hb
      go_wp2_with fail
      go_ret
      exact ⟨by rw [HR.out]; rfl, by rw [HR.out]; exact HT.out⟩
    · have HR := Lib.hid (show evictP step a hs us s d n = outP step a hs us s d n by unfold evictP; rw [hy]; exact if_neg hp)
      have hp2 : ¬ (0 : Int) < (y.2.pins : Nat) := by omega
      clear hy
      go_enter Tryz.func16, Tryz.ntmps16
      go_wp2_with fail
      refine hg.mono ?_
      clear hg
      rintro e w2 ⟨rfl, hb⟩
      have c1 : w2.cell? ⟨y.1, 1, none⟩ = some (.int .i64 (y.2.pins : Nat)) := ((H.out.up HK.out hb).po.frame HY.out).cell 1
      have hpo := pout_any w2 n y (H.out.up HK.out hb) HK.out hsm HY.out h512 hc hst
      have HB := Lib.hid hb
      clear hb
      go_wp2_with fail
      refine hpo.mono ?_
      clear hpo
      rintro e w3 ⟨rfl, hP⟩
      have HT := Lib.hid (SyP.above H.out HK.out HB.out hP)
      clear hP
      go_wp2_with fail
      go_ret
      exact ⟨by rw [HR.out]; rfl, by rw [HR.out]; exact HT.out⟩
def flushP {σ : Type} (step : σ → DevM → Int → Int × σ × DevM) (a : ArM) (hs : List Hl) (us : List Int) (s : σ) (d : DevM) : Int × List Hl × List Int × σ × DevM :=
  ((writeP step a hs s d (dirtyOf hs)).1, (writeP step a hs s d (dirtyOf hs)).2.1, us, (writeP step a hs s d (dirtyOf hs)).2.2.1, (writeP step a hs s d (dirtyOf hs)).2.2.2)
theorem fd_some_of {hs : List Hl} {x : Hl} (h : x ∈ hs) : (fd hs x.1).isSome = true := by
  unfold fd
  rw [Option.isSome_map, List.find?_isSome]
  exact ⟨x, h, by simp⟩
theorem dirty_held {hs : List Hl} : ∀ k ∈ dirtyOf hs, (fd hs k).isSome = true := by
  intro k hk
  obtain ⟨x, hx, rfl⟩ := List.mem_map.1 hk
  exact fd_some_of (List.mem_filter.1 hx).1
set_option maxHeartbeats 1600000 in
set_option maxRecDepth 100000 in
theorem flush_any (w : World) (h : Sy n0 w gp ga g m a most ff fi ca E XF hv uv hs us d s) (hK : FlOk n0 ga g m a ff fi ca E XF step SM) (hsm : SM s)
    (h512 : Small512 hs) (hc : d.cmds < 600000000) (hst : ∀ s d n, (step s d n).2.2.cmds ≤ d.cmds + 100000000) :
    Calls Tryz.prog 20 #[.pointer (some ⟨gp, 0, none⟩)] w fun e w' => e = .returned (.int .i64 (flushP step a hs us s d).1) ∧
      SyP n0 w w' gp ga g m a most ff fi ca E XF hv uv hs (flushP step a hs us s d).2.1 (flushP step a hs us s d).2.2.1 (flushP step a hs us s d).2.2.2.2 (flushP step a hs us s d).2.2.2.1 := by
  have hg := held_any w h.po
  have hfew : (dirtyOf hs).length ≤ 1000 := by
    have := h.po.few
    unfold dirtyOf
    rw [List.length_map]
    exact Nat.le_trans (List.length_filter_le _ _) this
  have H := Lib.hid h; have HK := Lib.hid hK
  clear h hK
  go_enter Tryz.func20, Tryz.ntmps20
  go_wp2_with fail
  refine hg.mono ?_
  clear hg
  rintro e w2 ⟨va, vd, rfl, h1, h2, hb⟩
  have hpo := pwrite_any w2 w.heap.size vd (dirtyOf hs) (H.out.up HK.out hb) HK.out hsm h2 dirty_held hfew h512 hc hst (fun b e => by
    have hlt := (h2.lt b e).1
    refine ⟨fun hx => ?_, fun hp => ?_⟩
    · have := (HK.out.lt H.out.env ((HK.out.fr H.out.env (Fr.up (F := fun _ => False) hb) (fun _ _ e => e)).2 b hx)).2
      omega
    · have := H.out.po.lt b hp
      omega)
  have HB := Lib.hid hb
  clear hb h1 h2
  go_wp2_with fail
  refine hpo.mono ?_
  clear hpo
  rintro e w3 ⟨rfl, hP⟩
  have HT := Lib.hid (SyP.above H.out HK.out HB.out hP)
  clear hP
  go_wp2_with fail
  go_ret
  exact ⟨rfl, HT.out⟩
end
end
end Go.Proofs.YtjlcbabnkhdgpaaGreatDoor
namespace Go.Proofs.YtjlcbabnkhdgpaaGreatDoor
section
set_option linter.unusedSimpArgs false
set_option linter.unusedVariables false

theorem dropL_filter {us : List Int} (h : us.Nodup) (n : Int) : dropL us n = us.filter (fun k => decide (k ≠ n)) := by
  unfold dropL
  split
  · rename_i hm
    rw [← List.eraseIdx_eq_take_drop_succ, ← List.erase_eq_eraseIdx_of_idxOf rfl, h.erase_eq_filter]
    apply List.filter_congr
    intro x _
    simp [bne]
    rw [Bool.eq_iff_iff]; simp
  · rename_i hm
    rw [List.filter_eq_self.2]
    intro x hx
    simp only [decide_eq_true_eq]
    exact fun e => hm (e ▸ hx)
theorem mem_dropL {us : List Int} (h : us.Nodup) (n k : Int) : k ∈ dropL us n ↔ k ∈ us ∧ k ≠ n := by
  rw [dropL_filter h, List.mem_filter]; simp
theorem nodup_dropL {us : List Int} (h : us.Nodup) (n : Int) : (dropL us n).Nodup := by
  rw [dropL_filter h]; exact h.filter _
theorem mem_useL {us : List Int} (h : us.Nodup) (n k : Int) : k ∈ useL us n ↔ k ∈ us ∨ k = n := by
  unfold useL
  rw [List.mem_append, mem_dropL h, List.mem_singleton]
  by_cases e : k = n <;> simp [e]
theorem nodup_useL {us : List Int} (h : us.Nodup) (n : Int) : (useL us n).Nodup := by
  unfold useL
  rw [List.nodup_append]
  refine ⟨nodup_dropL h n, by simp, fun x hx y hy e => ?_⟩
  rw [List.mem_singleton.1 hy] at e
  exact ((mem_dropL h n x).1 hx).2 e
theorem dropL_length_mem {us : List Int} {n : Int} (h : n ∈ us) : (dropL us n).length + 1 = us.length := by
  have := List.idxOf_lt_length_iff.2 h
  unfold dropL
  rw [if_pos h, List.length_append, List.length_take, List.length_drop]
  omega
theorem dropL_not {us : List Int} {n : Int} (h : n ∉ us) : dropL us n = us := by unfold dropL; rw [if_neg h]
theorem useL_length {us : List Int} {n : Int} : (useL us n).length = if n ∈ us then us.length else us.length + 1 := by
  unfold useL
  split
  · rename_i h
    have := dropL_length_mem h
    simp only [List.length_append, List.length_cons, List.length_nil]; omega
  · rename_i h
    rw [dropL_not h]; simp
theorem psOf_at {hs : List Hl} {i : Nat} (hi : i < hs.length) : (psOf hs)[i]'(by rw [psOf_length]; exact hi) = (hs[i].1, hs[i].2.1) := by simp [psOf]
theorem delF_filter {hs : List Hl} (h : Rise (psOf hs)) (n : Int) : delF hs n = hs.filter (fun x => decide (x.1 ≠ n)) := by
  unfold delF
  split
  · rename_i hh
    obtain ⟨hi, hk⟩ := hasL_pos h hh
    have hi' : posL (psOf hs) n < hs.length := by rw [psOf_length] at hi; exact hi
    rw [psOf_at hi'] at hk
    have hsplit : hs = hs.take (posL (psOf hs) n) ++ hs[posL (psOf hs) n] :: hs.drop (posL (psOf hs) n + 1) := by
      rw [List.getElem_cons_drop]
      exact (List.take_append_drop _ _).symm
    obtain ⟨s1, s2⟩ := posL_spec h n
    conv => rhs; rw [hsplit]
    rw [List.filter_append, List.filter_cons, if_neg (by simpa using hk)]
    congr 1
    · symm
      rw [List.filter_eq_self]
      intro x hx
      obtain ⟨j, hj, rfl⟩ := List.mem_iff_getElem.1 hx
      have hj' : j < posL (psOf hs) n ∧ j < hs.length := by rw [List.length_take] at hj; omega
      have := s1 j (by rw [psOf_length]; exact hj'.2) hj'.1
      rw [psOf_at hj'.2] at this
      rw [List.getElem_take]
      simp only [decide_eq_true_eq]
      simp only at this
      omega
    · symm
      rw [List.filter_eq_self]
      intro x hx
      obtain ⟨j, hj, rfl⟩ := List.mem_iff_getElem.1 hx
      have hj' : posL (psOf hs) n + 1 + j < hs.length := by rw [List.length_drop] at hj; omega
      have := Rise.lt h (i := posL (psOf hs) n) (j := posL (psOf hs) n + 1 + j) (by omega) (by rw [psOf_length]; exact hj')
      rw [psOf_at hj', psOf_at hi'] at this
      rw [List.getElem_drop]
      simp only [decide_eq_true_eq]
      simp only at this hk
      omega
  · rename_i hh
    symm
    rw [List.filter_eq_self]
    intro x hx
    simp only [decide_eq_true_eq]
    intro e
    apply hh
    unfold hasL
    rw [List.any_eq_true]
    exact ⟨(x.1, x.2.1), List.mem_map_of_mem (f := fun x : Hl => (x.1, x.2.1)) hx, by simpa using e⟩
theorem fd_delF {hs : List Hl} (h : Rise (psOf hs)) (n k : Int) : fd (delF hs n) k = if k = n then none else fd hs k := by
  rw [delF_filter h]
  unfold fd
  rw [List.find?_filter]
  by_cases e : k = n
  · rw [if_pos e, Option.map_eq_none_iff, List.find?_eq_none]
    intro x _
    subst e
    simp
  · rw [if_neg e]
    congr 2
    funext x
    by_cases e2 : x.1 = k
    · rw [e2]; simp [e]
    · simp [e2]
theorem delF_length {hs : List Hl} (h : Rise (psOf hs)) {n : Int} (hn : (fd hs n).isSome = true) : (delF hs n).length + 1 = hs.length := by
  have hh : hasL (psOf hs) n = true := by rw [hasL_fd]; exact hn
  obtain ⟨hi, _⟩ := hasL_pos h hh
  rw [psOf_length] at hi
  unfold delF
  rw [if_pos hh, List.length_append, List.length_take, List.length_drop]
  omega
theorem rise_delF {hs : List Hl} (h : Rise (psOf hs)) (n : Int) : Rise (psOf (delF hs n)) := by
  unfold psOf at *
  exact h.sublist ((delF_sub hs n).map _)
theorem rise_setF {hs : List Hl} (h : Rise (psOf hs)) (n : Int) (f : FrM) : Rise (psOf (setF hs n f)) := by rw [psOf_set]; exact h
theorem rise_insF {hs : List Hl} (h : Rise (psOf hs)) {n : Int} (y : Nat × FrM) (hn : fd hs n = none) : Rise (psOf (insF hs n y)) := by
  rw [psOf_ins hs n y hn]
  have hh : hasL (psOf hs) n = false := by rw [hasL_fd, hn]; rfl
  unfold setL
  rw [if_neg (by simp [hh])]
  exact rise_ins h hh
theorem rise_cleanF {hs : List Hl} (h : Rise (psOf hs)) (ns : List Int) : Rise (psOf (cleanF hs ns)) := by
  unfold cleanF
  induction ns generalizing hs with
  | nil => exact h
  | cons n ns ih => rw [List.foldl_cons]; exact ih (rise_setF h n _)
/-- A sound pool. -/
structure Gd (most pg : Int) (hs : List Hl) (us : List Int) : Prop where
  rise : Rise (psOf hs)
  keys : ∀ k, k ∈ us ↔ (fd hs k).isSome = true
  nod : us.Nodup
  small : Small512 hs
  len : (hs.length : Int) ≤ most
  rng : ∀ k ∈ us, 0 ≤ k ∧ k < pg
  same : us.length = hs.length
section
variable {most pg : Int} {hs : List Hl} {us : List Int} {n : Int} {f : FrM} {x : Nat}
theorem Gd.nil (h : 0 ≤ most) : Gd most pg [] [] := ⟨List.Pairwise.nil, (fun k => by simp [fd]), List.nodup_nil, (fun x hx => by cases hx), by simpa using h, (fun k hk => by cases hk), rfl⟩
theorem Gd.set (h : Gd most pg hs us) (n : Int) (hf : f.bytes.length = 512) : Gd most pg (setF hs n f) us := by
  refine ⟨rise_setF h.rise n f, fun k => ?_, h.nod, fun x hx => ?_, by unfold setF; rw [List.length_map]; exact h.len, h.rng, by unfold setF; rw [List.length_map]; exact h.same⟩
  · rw [h.keys k, fd_setF]
    split
    · rw [Option.isSome_map]
    · exact Iff.rfl
  · obtain ⟨z, hz, rfl⟩ := List.mem_map.1 hx
    split
    · exact hf
    · exact h.small z hz
theorem Gd.use (h : Gd most pg hs us) (hn : n ∈ us) : Gd most pg hs (useL us n) :=
  ⟨h.rise, fun k => by rw [mem_useL h.nod, ← h.keys k]; exact ⟨fun e => e.elim id (fun e => by rw [e]; exact hn), Or.inl⟩, nodup_useL h.nod n, h.small, h.len, fun k hk => ((mem_useL h.nod n k).1 hk).elim (h.rng k) (fun e => by rw [e]; exact h.rng n hn), by rw [useL_length, if_pos hn]; exact h.same⟩
theorem Gd.del (h : Gd most pg hs us) (n : Int) : Gd most pg (delF hs n) (dropL us n) := by
  refine ⟨rise_delF h.rise n, fun k => ?_, nodup_dropL h.nod n, fun x hx => h.small x ((delF_sub hs n).subset hx), Int.le_trans (by exact_mod_cast (delF_sub hs n).length_le) h.len, fun k hk => h.rng k ((mem_dropL h.nod n k).1 hk).1, ?_⟩
  case refine_2 =>
    by_cases hm : n ∈ us
    · have h1 := dropL_length_mem hm
      have h2 := delF_length h.rise ((h.keys n).1 hm)
      have := h.same
      omega
    · rw [dropL_not hm, delF_filter h.rise, List.filter_eq_self.2 (fun x hx => by
        simp only [decide_eq_true_eq]
        intro e
        exact hm ((h.keys n).2 (by rw [← e]; exact fd_some_of hx)))]
      exact h.same
  rw [mem_dropL h.nod, h.keys k, fd_delF h.rise]
  by_cases e : k = n
  · simp [e]
  · simp [e]
theorem insF_length {y : Nat × FrM} : (insF hs n y).length = hs.length + 1 := by
  unfold insF
  have := posL_le (psOf hs) n
  rw [psOf_length] at this
  simp only [List.length_append, List.length_take, List.length_drop, List.length_cons, List.length_nil]
  omega
theorem Gd.ins (h : Gd most pg hs us) (hn : fd hs n = none) (hl : (hs.length : Int) < most) (h0 : 0 ≤ n) (h1 : n < pg) (hf : f.bytes.length = 512) : Gd most pg (insF hs n (x, f)) (useL us n) := by
  refine ⟨rise_insF h.rise _ hn, fun k => ?_, nodup_useL h.nod n, fun z hz => ?_, by rw [insF_length]; omega, fun k hk => ?_, by rw [insF_length, useL_length, if_neg (fun e => by have := (h.keys n).1 e; rw [hn] at this; cases this), h.same]⟩
  · rw [mem_useL h.nod, h.keys k, fd_insF hn]
    by_cases e : k = n
    · simp [e]
    · simp [e]
  · rcases insF_mem hz with hz | rfl
    · exact h.small z hz
    · exact hf
  · rcases (mem_useL h.nod n k).1 hk with hk | rfl
    · exact h.rng k hk
    · exact ⟨h0, h1⟩
theorem small_frOf (h : Small512 hs) {k : Int} (hk : (fd hs k).isSome = true) : (frOf hs k).bytes.length = 512 := by
  obtain ⟨y, hy⟩ := Option.isSome_iff_exists.1 hk
  unfold frOf
  rw [hy]
  exact h _ (fd_mem hy)
theorem Gd.clean (h : Gd most pg hs us) (ns : List Int) (hn : ∀ k ∈ ns, k ∈ us) : Gd most pg (cleanF hs ns) us := by
  unfold cleanF
  induction ns generalizing hs with
  | nil => exact h
  | cons n ns ih =>
    rw [List.foldl_cons]
    exact ih (h.set n (small_frOf h.small ((h.keys n).1 (hn n (List.mem_cons_self ..))))) (fun k hk => hn k (List.mem_cons_of_mem _ hk))
end
def Clean (hs : List Hl) : Prop := ∀ x ∈ hs, x.2.2.dirty = false
theorem Clean.fr {hs : List Hl} (h : Clean hs) (n : Int) : (frOf hs n).dirty = false := by
  unfold frOf
  cases hy : fd hs n with
  | none => rfl
  | some y => exact h _ (fd_mem hy)
theorem outP_clean {σ : Type} {step : σ → DevM → Int → Int × σ × DevM} {a : ArM} {hs : List Hl} (us : List Int) (s : σ) (d : DevM) (n : Int) (h : Clean hs) : outP step a hs us s d n = (0, delF hs n, dropL us n, s, d) := by
  unfold outP
  rw [h.fr n, if_neg (by simp)]
  exact outR_zero rfl
def pinC (most : Int) (z : List UInt8) (hs : List Hl) (us : List Int) (n : Int) (x : Nat) : (List UInt8 × Int) × List Hl × List Int :=
  match fd hs n with
  | some y => ((y.2.bytes, 0), setF hs n (upF y.2), useL us n)
  | none => if (hs.length : Int) < most then ((z, 0), insF hs n (x, ⟨z, 1, false⟩), useL us n)
    else match us.find? (fun k => (frOf hs k).pins == 0) with | none => (([], 10), hs, us) | some k => ((z, 0), insF (delF hs k) n (x, ⟨z, 1, false⟩), useL (dropL us k) n)
section
variable {n0 gp ga g m : Nat} {a : ArM} {d d' : DevM} {w w' : World} {most : Int} {ff : FuncId} {fi ca : Array Value} {hv uv hv' uv' : Value} {hs hs' : List Hl} {us us' : List Int}
variable {σ : Type} {E : σ → World → Prop} {XF : World → Nat → Prop} {step : σ → DevM → Int → Int × σ × DevM} {SM : σ → Prop} {s s' : σ}
theorem pinc_any (w : World) (n : Int) (z : List UInt8) (h : Sy n0 w gp ga g m a most ff fi ca E XF hv uv hs us d s) (hK : FlOk n0 ga g m a ff fi ca E XF step SM) (hsm : SM s) (hn : 0 ≤ n ∧ n < a.pg) (hG : Gd most a.pg hs us) (hm : most ≤ 64) (hcl : Clean hs) (hp : Pb hs 1000000)
    (hz : treadM a d n = (z, 0)) (hzw : wholeB z = true) (hc : d.cmds < 600000000) (hst : ∀ s d n, (step s d n).2.2.cmds ≤ d.cmds + 100000000) :
    Calls Tryz.prog 12 #[.pointer (some ⟨gp, 0, none⟩), .int .i64 n] w fun e w' => ∃ x, e = .returned (.tuple #[.string (bs (pinC most z hs us n x).1.1), .int .i64 (pinC most z hs us n x).1.2]) ∧
      SyP n0 w w' gp ga g m a most ff fi ca E XF hv uv hs (pinC most z hs us n x).2.1 (pinC most z hs us n x).2.2 d s := by
  have hl := hG.len
  have hlu := hG.same
  have hN : ¬ NoPage a n := by unfold NoPage; omega
  cases hy : fd hs n with
  | some y =>
    refine (pin_have w n y h hK hN hy (hp.fd hy) (by omega)).mono ?_
    rintro e w' ⟨rfl, hP⟩
    refine ⟨0, ?_, ?_⟩
    · unfold pinC; rw [hy]
    · unfold pinC; rw [hy]; exact hP
  | none =>
    refine (pin_new w n h hK hsm hN hy (by omega) (by omega) (fun k hk => (hG.keys k).1 hk) hG.small hc hst).mono ?_
    rintro e w' ⟨x, rfl, hP⟩
    have key : pinQ a (spaceP step a most hs us s d) n x = ((pinC most z hs us n x).1, (pinC most z hs us n x).2.1, (pinC most z hs us n x).2.2, s, d) := by
      have hok : ∀ hs1 us1, pinQ a (0, hs1, us1, s, d) n x = ((z, 0), insF hs1 n (x, ⟨z, 1, false⟩), useL us1 n, s, d) := by
        intro hs1 us1
        unfold pinQ
        dsimp only
        rw [if_neg (by simp), hz, if_neg (by simp), if_neg (by simp [hzw])]
      unfold pinC spaceP
      rw [hy]
      dsimp only
      split
      · rw [hok]
      · cases hf : us.find? (fun k => (frOf hs k).pins == 0) with
        | none => dsimp only; unfold pinQ; rw [if_pos (by simp)]
        | some k => dsimp only; rw [outP_clean us s d k hcl, hok]
    rw [key] at hP ⊢
    exact ⟨x, rfl, hP⟩
end
theorem setF_mem {hs : List Hl} {n : Int} {f : FrM} {x : Hl} (h : x ∈ setF hs n f) : x ∈ hs ∨ x.2.2 = f := by
  obtain ⟨z, hz, rfl⟩ := List.mem_map.1 h
  split
  · exact Or.inr rfl
  · exact Or.inl hz
theorem Clean.set {hs : List Hl} (h : Clean hs) (n : Int) {f : FrM} (hf : f.dirty = false) : Clean (setF hs n f) := fun x hx => (setF_mem hx).elim (h x) (fun e => by rw [e]; exact hf)
theorem Clean.del {hs : List Hl} (h : Clean hs) (n : Int) : Clean (delF hs n) := fun x hx => h x ((delF_sub hs n).subset hx)
theorem Clean.ins {hs : List Hl} (h : Clean hs) (n : Int) {x : Nat} {f : FrM} (hf : f.dirty = false) : Clean (insF hs n (x, f)) := fun z hz => (insF_mem hz).elim (h z) (fun e => by rw [e]; exact hf)
theorem Pb.set {hs : List Hl} {N : Nat} (h : Pb hs N) (n : Int) {f : FrM} (hf : f.pins ≤ N) : Pb (setF hs n f) N := fun x hx => (setF_mem hx).elim (h x) (fun e => by rw [e]; exact hf)
theorem Pb.del {hs : List Hl} {N : Nat} (h : Pb hs N) (n : Int) : Pb (delF hs n) N := fun x hx => h x ((delF_sub hs n).subset hx)
theorem Pb.ins {hs : List Hl} {N : Nat} (h : Pb hs N) (n : Int) {x : Nat} {f : FrM} (hf : f.pins ≤ N) : Pb (insF hs n (x, f)) N := fun z hz => (insF_mem hz).elim (h z) (fun e => by rw [e]; exact hf)
theorem Pb.mono {hs : List Hl} {N M : Nat} (h : Pb hs N) (hN : N ≤ M) : Pb hs M := fun x hx => Nat.le_trans (h x hx) hN
section
variable {most pg : Int} {hs : List Hl} {us : List Int} {n : Int} {z : List UInt8}
theorem Gd.pinC (h : Gd most pg hs us) (h0 : 0 ≤ n) (h1 : n < pg) (hz : z.length = 512) (x : Nat) : Gd most pg (pinC most z hs us n x).2.1 (pinC most z hs us n x).2.2 := by
  unfold Proofs.YtjlcbabnkhdgpaaGreatDoor.pinC
  cases hy : fd hs n with
  | some y =>
    exact (h.set n (f := upF y.2) (h.small _ (fd_mem hy))).use ((h.keys n).2 (by rw [hy]; rfl))
  | none =>
    dsimp only
    split
    · rename_i hlt
      exact h.ins hy hlt h0 h1 hz
    · cases hf : us.find? (fun k => (frOf hs k).pins == 0) with
      | none => exact h
      | some k =>
        have hk := List.mem_of_find?_eq_some hf
        have hlen := delF_length h.rise ((h.keys k).1 hk)
        have := h.len
        refine (h.del k).ins ?_ (by omega) h0 h1 hz
        rw [fd_delF h.rise, hy]
        split <;> rfl
theorem Clean.pinC (h : Clean hs) (x : Nat) : Clean (pinC most z hs us n x).2.1 := by
  unfold Proofs.YtjlcbabnkhdgpaaGreatDoor.pinC
  cases hy : fd hs n with
  | some y => exact h.set n (f := upF y.2) (h _ (fd_mem hy))
  | none =>
    dsimp only
    split
    · exact h.ins n rfl
    · cases hf : us.find? (fun k => (frOf hs k).pins == 0) with
      | none => exact h
      | some k => exact (h.del k).ins n rfl
theorem Pb.pinC {N : Nat} (h : Pb hs N) (x : Nat) : Pb (pinC most z hs us n x).2.1 (N + 1) := by
  unfold Proofs.YtjlcbabnkhdgpaaGreatDoor.pinC
  cases hy : Proofs.YtjlcbabnkhdgpaaGreatDoor.fd hs n with
  | some y => exact (h.mono (Nat.le_succ _)).set n (f := upF y.2) (Nat.succ_le_succ (h.fd hy))
  | none =>
    dsimp only
    split
    · exact (h.mono (Nat.le_succ _)).ins n (Nat.succ_le_succ (Nat.zero_le _))
    · cases hf : us.find? (fun k => (frOf hs k).pins == 0) with
      | none => exact h.mono (Nat.le_succ _)
      | some k => exact ((h.mono (Nat.le_succ _)).del k).ins n (Nat.succ_le_succ (Nat.zero_le _))
theorem unpinM_cases (hs : List Hl) (n : Int) : (∃ y, fd hs n = some y ∧ y.2.pins ≠ 0 ∧ unpinM hs n = (0, setF hs n (unpinF y.2))) ∨ ((∀ y, fd hs n = some y → y.2.pins = 0) ∧ unpinM hs n = (17, hs)) := by
  unfold unpinM
  cases hk : pinnedM hs n with
  | some y => exact Or.inl ⟨y, (pinnedM_fd hk).1, (pinnedM_fd hk).2, rfl⟩
  | none =>
    refine Or.inr ⟨fun y hy => ?_, rfl⟩
    unfold pinnedM at hk
    rw [hy, Option.filter_eq_none_iff] at hk
    have := hk y rfl
    simpa using this
theorem Gd.unpin (h : Gd most pg hs us) (n : Int) : Gd most pg (unpinM hs n).2 us := by
  rcases unpinM_cases hs n with ⟨y, hy, _, e⟩ | ⟨_, e⟩
  · rw [e]; exact h.set n (f := unpinF y.2) (h.small _ (fd_mem hy))
  · rw [e]; exact h
theorem Clean.unpin (h : Clean hs) (n : Int) : Clean (unpinM hs n).2 := by
  rcases unpinM_cases hs n with ⟨y, hy, _, e⟩ | ⟨_, e⟩
  · rw [e]; exact h.set n (f := unpinF y.2) (h _ (fd_mem hy))
  · rw [e]; exact h
theorem Pb.unpin {N : Nat} (h : Pb hs N) (n : Int) : Pb (unpinM hs n).2 N := by
  rcases unpinM_cases hs n with ⟨y, hy, _, e⟩ | ⟨_, e⟩
  · rw [e]; exact h.set n (f := unpinF y.2) (Nat.le_trans (Nat.sub_le _ _) (h.fd hy))
  · rw [e]; exact h
end
end
end Go.Proofs.YtjlcbabnkhdgpaaGreatDoor
namespace Go.Proofs.YtjlcbabnkhdgpaaGreatDoor
section
set_option linter.unusedSimpArgs false
set_option linter.unusedVariables false
open Go.RowKit Go.Maps

abbrev TU : Unit → Prop := fun _ => True
def okS : Unit → DevM → Int → Int × Unit × DevM := fun _ d _ => (0, (), d)
def EU : Unit → World → Prop := fun _ _ => True
def XU : World → Nat → Prop := fun _ _ => False
theorem okS_cmds : ∀ s d n, (okS s d n).2.2.cmds ≤ d.cmds + 100000000 := fun _ _ _ => Nat.le_add_right _ _
theorem FlOk.const {n0 ga g m : Nat} {a : ArM} {ff : FuncId} (he : ∀ (args : Array Value) (w : World), (callFunc ff args).run Tryz.prog w = .ok (.enter ff args) w)
    (hc : ∀ (n : Int) (w : World), Calls Tryz.prog ff #[.int .i64 n] w fun e w' => e = .returned (.int .i64 0) ∧ w = w') : FlOk n0 ga g m a ff #[] #[] EU XU okS TU where
  ent := he
  fr := fun _ _ _ => ⟨trivial, fun _ h => h⟩
  lt := fun _ h => h.elim
  cel := fun _ h => h.elim
  call := fun s w d n _ _ hT _ _ _ _ _ => (hc n w).mono (fun e w' ⟨h1, h2⟩ => by
    subst h2
    exact ⟨h1, trivial, hT, Fr.refl _ _, fun _ kv hk => Or.inl hk, fun _ h => Or.inl h, fun _ h => h.elim, fun _ _ _ _ h => h, Below.refl _ _⟩)
section
variable {n0 gp ga g m : Nat} {a : ArM} {d : DevM} {w : World} {most : Int} {ff : FuncId}
theorem Sy.start (hP : PoAt n0 w gp ga most (.func (.func ff) #[] #[]) (.slice none 0 0) (.slice none 0 0) [] []) (hT : Tw n0 w ga g m a d) :
    Sy n0 w gp ga g m a most ff #[] #[] EU XU (.slice none 0 0) (.slice none 0 0) [] [] d () :=
  ⟨hP, hT, trivial, fun _ h => h.elim, fun _ h => h.elim, fun _ _ _ _ => ⟨id, by simp [Value.ownBlock]⟩⟩
end
theorem unpinM_blocks (hs : List Hl) (n : Int) : (unpinM hs n).2.map (·.2.1) = hs.map (·.2.1) := by
  rcases unpinM_cases hs n with ⟨y, _, _, e⟩ | ⟨_, e⟩
  · rw [e]; exact setF_blocks _ _ _
  · rw [e]
section
variable {n0 gp ga g m : Nat} {a : ArM} {d : DevM} {w w' : World} {most : Int} {ff : FuncId} {fi ca : Array Value} {hv uv : Value} {hs hs' : List Hl} {us : List Int}
variable {σ : Type} {E : σ → World → Prop} {XF : World → Nat → Prop} {step : σ → DevM → Int → Int × σ × DevM} {SM : σ → Prop} {s : σ}
theorem SyP.same (h : Sy n0 w gp ga g m a most ff fi ca E XF hv uv hs us d s) (hK : FlOk n0 ga g m a ff fi ca E XF step SM) (hP : PoAt n0 w' gp ga most (.func (.func ff) fi ca) hv uv hs' us) (hF : Fr (PF gp hv uv hs) w w') (hm : hs'.map (·.2.1) = hs.map (·.2.1)) :
    SyP n0 w w' gp ga g m a most ff fi ca E XF hv uv hs hs' us d s :=
  ⟨hv, uv, h.pool hK hP hF (fun b hb => Or.inl (PF_congr hm hb)), hF.mono (fun b _ e => ⟨h.po.ge b e, Or.inl e⟩), fun b hb => Or.inl (PF_congr hm hb), fun b hb => Or.inl ((hK.fr h.env hF (fun b hb hp => h.x1 b hb hp)).2 b hb)⟩
theorem punpin_any (w : World) (k : Int) (N : Nat) (h : Sy n0 w gp ga g m a most ff fi ca E XF hv uv hs us d s) (hK : FlOk n0 ga g m a ff fi ca E XF step SM) (hp : Pb hs N) (hN : N ≤ 1000000) :
    Calls Tryz.prog 13 #[.pointer (some ⟨gp, 0, none⟩), .int .i64 k] w fun e w' => e = .returned (.int .i64 (unpinM hs k).1) ∧ SyP n0 w w' gp ga g m a most ff fi ca E XF hv uv hs (unpinM hs k).2 us d s := by
  refine (unpin_any w k N h.po hp hN).mono ?_
  rintro e w' ⟨rfl, hP, hF⟩
  exact ⟨rfl, SyP.same h hK hP hF (unpinM_blocks hs k)⟩
end
def arm8 : ArM := ⟨0, 2, 10, 8⟩
def zer : List UInt8 := List.replicate 512 0
theorem zer_len : zer.length = 512 := List.length_replicate ..
theorem zer_whole : wholeB zer = true := zeros_whole
theorem pinC_1 (z : List UInt8) (x : Nat) : pinC 2 z [] [] 1 x = ((z, 0), [(1, x, ⟨z, 1, false⟩)], [1]) := rfl
theorem pinC_2 (z : List UInt8) (x1 x : Nat) : pinC 2 z [(1, x1, ⟨z, 1, false⟩)] [1] 2 x = ((z, 0), [(1, x1, ⟨z, 1, false⟩), (2, x, ⟨z, 1, false⟩)], [1, 2]) := rfl
theorem unpin_1 (z : List UInt8) (x1 x2 : Nat) : unpinM [(1, x1, ⟨z, 1, false⟩), (2, x2, ⟨z, 1, false⟩)] 1 = (0, [(1, x1, ⟨z, 0, false⟩), (2, x2, ⟨z, 1, false⟩)]) := rfl
theorem pinC_3 (z : List UInt8) (x1 x2 x : Nat) : pinC 2 z [(1, x1, ⟨z, 0, false⟩), (2, x2, ⟨z, 1, false⟩)] [1, 2] 3 x = ((z, 0), [(2, x2, ⟨z, 1, false⟩), (3, x, ⟨z, 1, false⟩)], [2, 3]) := rfl
theorem zer_read {n : Int} (h0 : 0 ≤ n) (h1 : n < 8) : treadM arm8 (newM 40) n = (zer, 0) := by
  rw [tread_on rfl h0 h1, newM_page]; rfl
attribute [irreducible] zer
theorem arm8_fits : arm8.fits (newM 40).size := by simp [arm8, ArM.fits, newM]
theorem flS_ok {n0 ga g m : Nat} {a : ArM} : FlOk n0 ga g m a 32 #[] #[] EU XU okS TU := by
  refine FlOk.const (enters_of Tryz.func32 (by kernel_rfl) rfl) (fun n w => ?_)
  go_enter Tryz.func32, Tryz.ntmps32
  go_wp2_with fail
  go_ret
  exact ⟨rfl, rfl⟩
set_option maxHeartbeats 3200000 in
set_option maxRecDepth 100000 in
theorem speaks10_any (w : World) (ht : Turns w) : Calls Tryz.prog 7 #[] w fun e w' => e = .returned (.bool true) ∧ Below w.heap.size w w' := by
  have hlt := ht.lt
  have hd := devnew_dv w.heap.size 40 (by decide) (by decide) w (Nat.le_refl _)
  have hnew := fun g m W h1 h2 => twnew_ok w.heap.size g m arm8 (newM 40) W h1 h2 hlt arm8_fits
  have HNW := Lib.hid hnew; have HT := Lib.hid ht
  clear hlt hnew ht
  go_enter Tryz.func7, Tryz.ntmps7
  go_wp2_with fail
  refine hd.mono ?_
  rintro e w1 ⟨m, rfl, hD, hb1⟩
  have HD := Lib.hid hD; have HB1 := Lib.hid hb1
  clear hd hD hb1
  go_wp2_with fail
  refine (HNW.out _ m w1 HD.out (HT.out.below HB1.out)).mono ?_
  rintro e w2 ⟨rfl, hT2, hb2⟩
  have hpn := ponew_ok w.heap.size w1.heap.size 2 32 #[] #[] w2 (by decide) (by decide) (HB1.out.trans (hb2.mono HB1.out.size)).size
  have HT2 := Lib.hid hT2; have HB2 := Lib.hid (HB1.out.trans (hb2.mono HB1.out.size))
  clear hT2 hb2 HD HB1 HNW
  generalize w1.heap.size = ga at *
  generalize w.heap.size + 1 = g at *
  go_wp2_with fail
  refine hpn.mono ?_
  clear hpn
  rintro e w3 ⟨gp, rfl, hP3, -, hb3⟩
  have HS3 := Lib.hid (Sy.start hP3 (HT2.out.up hb3))
  have HB3 := Lib.hid (HB2.out.trans (hb3.mono HB2.out.size))
  clear hP3 hb3 HT2 HB2
  have HK : Hid (FlOk w.heap.size ga g m arm8 32 #[] #[] EU XU okS TU) := Lib.hid flS_ok
  obtain ⟨z, hz, hzr, hzw⟩ : ∃ z : List UInt8, z.length = 512 ∧ (∀ n : Int, 0 ≤ n → n < 8 → treadM arm8 (newM 40) n = (z, 0)) ∧ wholeB z = true := ⟨zer, zer_len, fun n h0 h1 => zer_read h0 h1, zer_whole⟩
  have HZ := Lib.hid hz; have HZR := Lib.hid hzr; have HZW := Lib.hid hzw
  have hp1 := pinc_any w3 1 z HS3.out HK.out trivial (by decide) (Gd.nil (by decide)) (by decide) (fun x hx => by cases hx) (fun x hx => by cases hx) (hzr 1 (by decide) (by decide)) hzw (by show (0 : Nat) < _; decide) okS_cmds
  have hn0 := HB3.out.size
  clear hz hzr hzw
  go_wp2_with fail
  refine hp1.mono ?_
  clear hp1
  rintro e w4 ⟨x1, rfl, hP4⟩
  simp only [pinC_1] at hP4 ⊢
  have G1 := (Gd.nil (most := 2) (pg := 8) (by decide)).pinC (n := 1) (by decide) (by decide) HZ.out x1
  rw [pinC_1] at G1
  have HB4 := Lib.hid (HB3.out.trans (hP4.below hn0))
  obtain ⟨hv1, uv1, hS4, -⟩ := hP4
  have C1 : Clean [(1, x1, ⟨z, 1, false⟩)] := fun x hx => by rw [List.mem_singleton.1 hx]
  have P1 : Pb [(1, x1, ⟨z, 1, false⟩)] 1 := fun x hx => by rw [List.mem_singleton.1 hx]; exact Nat.le_refl 1
  have hp2 := pinc_any w4 2 z hS4 HK.out trivial (by decide) G1 (by decide) C1 (P1.mono (by decide)) (HZR.out 2 (by decide) (by decide)) HZW.out (by show (0 : Nat) < _; decide) okS_cmds
  have HG1 := Lib.hid G1; have HC1 := Lib.hid C1; have HP1 := Lib.hid P1
  have hn4 := HB4.out.size
  clear hS4 G1 HS3 HB3 hn0 C1 P1
  go_wp2_with fail
  refine hp2.mono ?_
  clear hp2
  rintro e w5 ⟨x2, rfl, hP5⟩
  have G2 := HG1.out.pinC (n := 2) (by decide) (by decide) HZ.out x2
  have C2 := HC1.out.pinC (most := 2) (z := z) (us := [1]) (n := 2) x2
  have P2 := HP1.out.pinC (most := 2) (z := z) (us := [1]) (n := 2) x2
  rw [pinC_2] at hP5 G2 C2 P2 ⊢
  dsimp only at hP5 G2 C2 P2 ⊢
  have HB5 := Lib.hid (HB4.out.trans (hP5.below hn4))
  obtain ⟨hv2, uv2, hS5, -⟩ := hP5
  have hu := punpin_any w5 1 2 hS5 HK.out P2 (by decide)
  rw [unpin_1] at hu
  have G3 := G2.unpin 1
  have C3 := C2.unpin 1
  have P3 := P2.unpin 1
  rw [unpin_1] at G3 C3 P3
  dsimp only at G3 C3 P3
  have HG3 := Lib.hid G3; have HC3 := Lib.hid C3; have HP3 := Lib.hid P3
  have hn5 := HB5.out.size
  clear G2 C2 P2 G3 C3 P3 hS5 HG1 HC1 HP1 HB4 hn4
  go_wp2_with fail
  refine hu.mono ?_
  clear hu
  rintro e w6 ⟨rfl, hP6⟩
  dsimp only at hP6 ⊢
  have HB6 := Lib.hid (HB5.out.trans (hP6.below hn5))
  obtain ⟨hv3, uv3, hS6, -⟩ := hP6
  have hp3 := pinc_any w6 3 z hS6 HK.out trivial (by decide) HG3.out (by decide) HC3.out (HP3.out.mono (by decide)) (HZR.out 3 (by decide) (by decide)) HZW.out (by show (0 : Nat) < _; decide) okS_cmds
  have hn6 := HB6.out.size
  clear hS6 HB5 hn5
  go_wp2_with fail
  refine hp3.mono ?_
  clear hp3
  rintro e w7 ⟨x3, rfl, hP7⟩
  rw [pinC_3] at hP7 ⊢
  dsimp only at hP7 ⊢
  have HB7 := Lib.hid (HB6.out.trans (hP7.below hn6))
  obtain ⟨hv4, uv4, hS7, -⟩ := hP7
  have h1 := has_any w7 1 hS7.po
  have HS7 := Lib.hid hS7
  have hsz : (bs z).size = 512 := by rw [bs_size, HZ.out]
  have hsz2 : (bs z).data.size = 512 := hsz
  clear hS7 HB6 hn6
  rw [show (fd [(2, x2, ⟨z, 1, false⟩), (3, x3, ⟨z, 1, false⟩)] 1).isSome = false from rfl] at h1
  go_wp2_with fail
  refine h1.mono ?_
  clear h1
  rintro e w8 ⟨rfl, hb8⟩
  have HS8 := Lib.hid (HS7.out.up HK.out hb8)
  have HB8 := Lib.hid (HB7.out.trans (hb8.mono HB7.out.size))
  have h2 := has_any w8 2 HS8.out.po
  rw [show (fd [(2, x2, ⟨z, 1, false⟩), (3, x3, ⟨z, 1, false⟩)] 2).isSome = true from rfl] at h2
  clear hb8 HS7 HB7
  go_wp2_with fail
  refine h2.mono ?_
  clear h2
  rintro e w9 ⟨rfl, hb9⟩
  have HS9 := Lib.hid (HS8.out.up HK.out hb9)
  have HB9 := Lib.hid (HB8.out.trans (hb9.mono HB8.out.size))
  have h3 := has_any w9 3 HS9.out.po
  rw [show (fd [(2, x2, ⟨z, 1, false⟩), (3, x3, ⟨z, 1, false⟩)] 3).isSome = true from rfl] at h3
  clear hb9 HS8 HB8
  go_wp2_with fail
  refine h3.mono ?_
  clear h3
  rintro e w10 ⟨rfl, hb10⟩
  have HB10 := Lib.hid (HB9.out.trans (hb10.mono HB9.out.size))
  clear hb10 HS9 HB9
  go_wp2_with fail
  go_ret
  exact ⟨rfl, HB10.out⟩
end
end Go.Proofs.YtjlcbabnkhdgpaaGreatDoor
namespace Go.Proofs.YtjlcbabnkhdgpaaGreatDoor
section
set_option linter.unusedSimpArgs false
set_option linter.unusedVariables false

structure Pz (most : Int) (hs : List Hl) (us : List Int) : Prop where
  gd : Gd most 8 hs us
  cl : Clean hs
  one : ∃ y, fd hs 0 = some y ∧ y.2.pins = 1
  oth : ∀ k y, k ≠ 0 → fd hs k = some y → y.2.pins = 0
section
variable {most : Int} {hs : List Hl} {us : List Int} {n : Int} {z : List UInt8}
theorem Pz.pb (h : Pz most hs us) : Pb hs 1 := by
  intro x hx
  obtain ⟨y, hy, hp⟩ := h.one
  have hxs : ∃ w, fd hs x.1 = some w := Option.isSome_iff_exists.1 (fd_some_of hx)
  obtain ⟨w, hw⟩ := hxs
  have hmem := fd_mem hw
  have hxw : x = (x.1, w) := by
    have hr := h.gd.rise
    obtain ⟨i, hi, hxi⟩ := List.mem_iff_getElem.1 hx
    obtain ⟨j, hj, hxj⟩ := List.mem_iff_getElem.1 hmem
    have hij : i = j := by
      rcases Nat.lt_trichotomy i j with h1 | h1 | h1
      · have := Rise.lt hr h1 (by rw [psOf_length]; exact hj)
        rw [psOf_at hi, psOf_at hj, hxi, hxj] at this
        simp at this
      · exact h1
      · have := Rise.lt hr h1 (by rw [psOf_length]; exact hi)
        rw [psOf_at hi, psOf_at hj, hxi, hxj] at this
        simp at this
    subst hij
    exact hxi.symm.trans hxj
  rw [hxw]
  by_cases hk : x.1 = 0
  · rw [hk] at hw
    rw [hy] at hw
    injection hw with hw
    rw [← hw]
    exact Nat.le_of_eq hp
  · rw [h.oth x.1 w hk hw]; exact Nat.zero_le _
theorem Pz.fr0 (h : Pz most hs us) : ((frOf hs 0).pins == 0) = false := by
  obtain ⟨y, hy, hp⟩ := h.one
  unfold frOf
  rw [hy]
  simp [hp]
/-- Some page is pinned once more, and let go. -/
theorem Pz.back (hG : Gd most 8 hs us) (hC : Clean hs) (h0 : ∃ y, fd hs 0 = some y ∧ y.2.pins = 1) (hn : ∃ y, fd hs n = some y ∧ y.2.pins = 1) (hn0 : n ≠ 0) (ho : ∀ k y, k ≠ 0 → k ≠ n → fd hs k = some y → y.2.pins = 0) :
    (unpinM hs n).1 = 0 ∧ Pz most (unpinM hs n).2 us := by
  obtain ⟨y, hy, hp⟩ := hn
  rcases unpinM_cases hs n with ⟨y', hy', hp', e⟩ | ⟨hno, e⟩
  · rw [hy] at hy'
    injection hy' with hy'
    subst hy'
    refine ⟨by rw [e], hG.unpin n, hC.unpin n, ?_, ?_⟩
    · obtain ⟨y0, q1, q2⟩ := h0
      exact ⟨y0, by rw [e]; show fd (setF hs n (unpinF y.2)) 0 = some y0; rw [fd_setF, if_neg (Ne.symm hn0)]; exact q1, q2⟩
    · intro k v hk hv
      rw [e] at hv
      replace hv : fd (setF hs n (unpinF y.2)) k = some v := hv
      rw [fd_setF] at hv
      by_cases hkn : k = n
      · rw [if_pos hkn, hkn, hy] at hv
        injection hv with hv
        rw [← hv]
        show y.2.pins - 1 = 0
        omega
      · rw [if_neg hkn] at hv
        exact ho k v hk hkn hv
  · exact absurd (hno y hy) (by omega)
theorem Pz.pin_one (h : Pz 1 hs us) (hn0 : n ≠ 0) (x : Nat) : Proofs.YtjlcbabnkhdgpaaGreatDoor.pinC 1 z hs us n x = (([], 10), hs, us) := by
  obtain ⟨y, hy, hp⟩ := h.one
  have hlen : hs.length = 1 := by
    have h1 := h.gd.len
    have h2 : 0 < hs.length := List.length_pos_of_mem (fd_mem hy)
    omega
  obtain ⟨v, rfl⟩ := List.length_eq_one_iff.1 hlen
  have hv : v.1 = 0 := by
    have := fd_mem hy
    rw [List.mem_singleton] at this
    rw [← this]
  have hnf : fd [v] n = none := fd_none.2 (fun x hx => by rw [List.mem_singleton.1 hx, hv]; exact Ne.symm hn0)
  have hus : us.find? (fun k => (frOf [v] k).pins == 0) = none := by
    rw [List.find?_eq_none]
    intro k hk
    have hk0 : k = 0 := by
      obtain ⟨y2, hy2⟩ := Option.isSome_iff_exists.1 ((h.gd.keys k).1 hk)
      have := fd_mem hy2
      rw [List.mem_singleton] at this
      rw [← hv, ← this]
    rw [hk0, h.fr0]
    simp
  unfold Proofs.YtjlcbabnkhdgpaaGreatDoor.pinC
  rw [hnf]
  dsimp only
  rw [if_neg (by simp), hus]
theorem Pz.pin (h : Pz most hs us) (hm : 1 < most) (hn0 : n ≠ 0) (h0 : 0 ≤ n) (h8 : n < 8) (hz : z.length = 512) (x : Nat) :
    (Proofs.YtjlcbabnkhdgpaaGreatDoor.pinC most z hs us n x).1.2 = 0 ∧ (unpinM (Proofs.YtjlcbabnkhdgpaaGreatDoor.pinC most z hs us n x).2.1 n).1 = 0 ∧ Pz most (unpinM (Proofs.YtjlcbabnkhdgpaaGreatDoor.pinC most z hs us n x).2.1 n).2 (Proofs.YtjlcbabnkhdgpaaGreatDoor.pinC most z hs us n x).2.2 := by
  have hG := h.gd.pinC h0 h8 hz x
  have hC := h.cl.pinC (most := most) (z := z) (us := us) (n := n) x
  obtain ⟨y0, q1, q2⟩ := h.one
  have hins : ∀ hs' : List Hl, fd hs' n = none → fd hs' 0 = some y0 → (∀ k y, k ≠ 0 → fd hs' k = some y → y.2.pins = 0) →
      (∃ y, fd (insF hs' n (x, ⟨z, 1, false⟩)) 0 = some y ∧ y.2.pins = 1) ∧ (∃ y, fd (insF hs' n (x, ⟨z, 1, false⟩)) n = some y ∧ y.2.pins = 1) ∧ ∀ k y, k ≠ 0 → k ≠ n → fd (insF hs' n (x, ⟨z, 1, false⟩)) k = some y → y.2.pins = 0 := by
    intro hs' e1 e2 e3
    refine ⟨⟨y0, by rw [fd_insF e1, if_neg (Ne.symm hn0)]; exact e2, q2⟩, ⟨(x, ⟨z, 1, false⟩), by rw [fd_insF e1, if_pos rfl], rfl⟩, fun k y hk hkn hy => ?_⟩
    rw [fd_insF e1, if_neg hkn] at hy
    exact e3 k y hk hy
  unfold Proofs.YtjlcbabnkhdgpaaGreatDoor.pinC at hG hC ⊢
  cases hy : fd hs n with
  | some y =>
    rw [hy] at hG hC
    dsimp only at hG hC ⊢
    have hp := h.oth n y hn0 hy
    refine ⟨rfl, Pz.back hG hC ⟨y0, by rw [fd_setF, if_neg (Ne.symm hn0)]; exact q1, q2⟩ ⟨(y.1, upF y.2), by rw [fd_setF, if_pos rfl, hy]; rfl, by show y.2.pins + 1 = 1; omega⟩ hn0 (fun k v hk hkn hv => ?_)⟩
    rw [fd_setF, if_neg hkn] at hv
    exact h.oth k v hk hv
  | none =>
    rw [hy] at hG hC
    dsimp only at hG hC ⊢
    by_cases hlt : (hs.length : Int) < most
    · rw [if_pos hlt] at hG hC ⊢
      obtain ⟨a1, a2, a3⟩ := hins hs hy q1 h.oth
      exact ⟨rfl, Pz.back hG hC a1 a2 hn0 a3⟩
    · rw [if_neg hlt] at hG hC ⊢
      cases hf : us.find? (fun k => (frOf hs k).pins == 0) with
      | none =>
        exfalso
        have h2 : 2 ≤ us.length := by have := h.gd.same; omega
        rw [List.find?_eq_none] at hf
        have hall : ∀ k ∈ us, k = 0 := by
          intro k hk
          by_cases hk0 : k = 0
          · exact hk0
          · exfalso
            obtain ⟨v, hv⟩ := Option.isSome_iff_exists.1 ((h.gd.keys k).1 hk)
            have hp := h.oth k v hk0 hv
            apply hf k hk
            unfold frOf
            rw [hv]
            simp [hp]
        have hnd := h.gd.nod
        match us, h2, hall, hnd with
        | u :: v :: _, _, hall, hnd =>
          have e1 := hall u (by simp)
          have e2 := hall v (by simp)
          rw [e1, e2] at hnd
          simp at hnd
      | some k =>
        rw [hf] at hG hC
        dsimp only at hG hC ⊢
        have hk0 : k ≠ 0 := fun e => by
          have := List.find?_some hf
          rw [e, h.fr0] at this
          cases this
        obtain ⟨a1, a2, a3⟩ := hins (delF hs k) (by rw [fd_delF h.gd.rise, hy]; split <;> rfl) (by rw [fd_delF h.gd.rise, if_neg (Ne.symm hk0)]; exact q1) (fun j v hj hv => by
          rw [fd_delF h.gd.rise] at hv
          by_cases e : j = k
          · rw [if_pos e] at hv; cases hv
          · rw [if_neg e] at hv; exact h.oth j v hj hv)
        exact ⟨rfl, Pz.back hG hC a1 a2 hn0 a3⟩
end
end
end Go.Proofs.YtjlcbabnkhdgpaaGreatDoor
namespace Go.Proofs.YtjlcbabnkhdgpaaGreatDoor
section
set_option linter.unusedSimpArgs false
set_option linter.unusedVariables false
open Go.RowKit Go.Maps

theorem i64_mask10 (n : Int) (i : Nat) (hi : i ≤ 62) : bits .and .i64 n ((2 ^ i - 1 : Nat) : Int) = n % ((2 ^ i : Nat) : Int) := by
  have hp : 0 < 2 ^ i := Nat.two_pow_pos i
  have hle : 2 ^ i ≤ 2 ^ 62 := Nat.pow_le_pow_right (by decide) hi
  have hm : (BitVec.ofInt 64 ((2 ^ i - 1 : Nat) : Int)).toNat = 2 ^ i - 1 := by
    rw [BitVec.toNat_ofInt]
    have : ((2 ^ i - 1 : Nat) : Int) % ((2 ^ 64 : Nat) : Int) = ((2 ^ i - 1 : Nat) : Int) := Int.emod_eq_of_lt (by omega) (by omega)
    rw [this]
    simp
  have key : (BitVec.ofInt 64 n &&& BitVec.ofInt 64 ((2 ^ i - 1 : Nat) : Int)).toNat = (n % ((2 ^ 64 : Nat) : Int)).toNat % 2 ^ i := by
    rw [BitVec.toNat_and, BitVec.toNat_ofInt, hm, Nat.and_two_pow_sub_one_eq_mod]
  show IntKind.i64.wrap ((BitVec.ofInt 64 n &&& BitVec.ofInt 64 ((2 ^ i - 1 : Nat) : Int)).toNat : Nat) = _
  rw [key]
  have hd : ((2 ^ i : Nat) : Int) ∣ ((2 ^ 64 : Nat) : Int) := Int.natCast_dvd_natCast.2 (Nat.pow_dvd_pow 2 (by omega))
  have h0 : 0 ≤ n % ((2 ^ 64 : Nat) : Int) := Int.emod_nonneg _ (by decide)
  have e : (((n % ((2 ^ 64 : Nat) : Int)).toNat % 2 ^ i : Nat) : Int) = n % ((2 ^ i : Nat) : Int) := by
    rw [Int.natCast_emod, Int.toNat_of_nonneg h0, Int.emod_emod_of_dvd _ hd]
  rw [e]
  have h1 : 0 ≤ n % ((2 ^ i : Nat) : Int) := Int.emod_nonneg _ (by omega)
  have h2 : n % ((2 ^ i : Nat) : Int) < ((2 ^ i : Nat) : Int) := Int.emod_lt_of_pos _ (by omega)
  rw [IntKind.wrap_i64]
  omega

def mostI (f : Int) : Int := 1 + f % 4
theorem mostI_in (f : Int) : 1 ≤ mostI f ∧ mostI f ≤ 4 := by unfold mostI; omega
theorem mask3 (f : Int) : bits .and .i64 f 3 = f % 4 := i64_mask10 f 2 (by decide)
theorem start_pin0 (most : Int) (hm : 1 ≤ most) (z : List UInt8) (hz : z.length = 512) (x : Nat) : (pinC most z [] [] 0 x).1 = (z, 0) ∧ Pz most (pinC most z [] [] 0 x).2.1 (pinC most z [] [] 0 x).2.2 := by
  have hG := (Gd.nil (most := most) (pg := 8) (by omega)).pinC (n := 0) (by decide) (by decide) hz x
  have hC := Clean.pinC (hs := []) (most := most) (z := z) (us := []) (n := 0) (fun x hx => by cases hx) x
  have e : pinC most z [] [] 0 x = ((z, 0), [(0, x, ⟨z, 1, false⟩)], [0]) := by
    unfold pinC
    show (if ((0 : Nat) : Int) < most then _ else _) = _
    rw [if_pos (by omega)]
    rfl
  rw [e] at hG hC ⊢
  refine ⟨rfl, hG, hC, ⟨_, rfl, rfl⟩, fun k y hk hy => ?_⟩
  exfalso
  have := fd_mem hy
  rw [List.mem_singleton] at this
  injection this with h1 _
  exact hk h1
theorem Pz.end_ {most : Int} {hs : List Hl} {us : List Int} (h : Pz most hs us) (d : DevM) : ∃ hs1, unpinM hs 0 = (0, hs1) ∧ (unpinM hs1 0 = (17, hs1) ∧ unpinM hs1 0 = (17, hs1) ∧ evictP okS arm8 hs1 us () d 0 = (0, delF hs1 0, dropL us 0, (), d) ∧ fd (delF hs1 0) 0 = none ∧ Small512 hs1 ∧ Pb hs1 1) := by
  obtain ⟨y, hy, hp⟩ := h.one
  rcases unpinM_cases hs 0 with ⟨y', hy', hp', e⟩ | ⟨hno, e⟩
  · rw [hy] at hy'
    injection hy' with hy'
    subst hy'
    have hf : fd (setF hs 0 (unpinF y.2)) 0 = some (y.1, unpinF y.2) := by rw [fd_setF, if_pos rfl, hy]; rfl
    have hpz : (unpinF y.2).pins = 0 := by show y.2.pins - 1 = 0; omega
    have hG := h.gd.unpin 0
    have hC := h.cl.unpin 0
    have hPb := h.pb.unpin 0
    rw [e] at hG hC hPb
    have h17 : unpinM (setF hs 0 (unpinF y.2)) 0 = (17, setF hs 0 (unpinF y.2)) := by
      rcases unpinM_cases (setF hs 0 (unpinF y.2)) 0 with ⟨v, hv, hvp, _⟩ | ⟨_, e2⟩
      · rw [hf] at hv
        injection hv with hv
        subst hv
        exact absurd hpz hvp
      · exact e2
    refine ⟨_, e, h17, h17, ?_, ?_, hG.small, hPb⟩
    · unfold evictP
      rw [hf]
      show (if 0 < (unpinF y.2).pins then _ else _) = _
      rw [if_neg (by omega), outP_clean us () d 0 hC]
    · rw [fd_delF hG.rise, if_pos rfl]
  · exact absurd (hno y hy) (by omega)
theorem flP_ok {n0 ga g m : Nat} {a : ArM} : FlOk n0 ga g m a 11 #[] #[] EU XU okS TU := by
  refine FlOk.const (enters_of Tryz.func11 (by kernel_rfl) rfl) (fun n w => ?_)
  go_enter Tryz.func11, Tryz.ntmps11
  go_wp2_with fail
  go_ret
  exact ⟨rfl, rfl⟩
set_option maxHeartbeats 6400000 in
set_option maxRecDepth 100000 in
theorem pins_any (ks : List Int) (AK : Option Addr) (capK : Nat) (f : Int) (w : World) (ht : Turns w) (hKs : IntsIn w w.heap.size AK ks) (hkl : ks.length ≤ 140737488355328) (h64 : ∀ x ∈ ks, -9223372036854775808 ≤ x ∧ x ≤ 9223372036854775807) :
    Calls Tryz.prog 3 #[.slice AK ks.length capK, .int .i64 f] w fun e w' => e = .returned (.bool true) ∧ Below w.heap.size w w' := by
  have hlt := ht.lt
  have hsp := speaks10_any w ht
  have hd := fun W (hW : w.heap.size ≤ W.heap.size) => devnew_dv w.heap.size 40 (by decide) (by decide) W hW
  have hnew := fun g m W h1 h2 => twnew_ok w.heap.size g m arm8 (newM 40) W h1 h2 hlt arm8_fits
  have hmi := mostI_in f
  have hm1 := mask3 f
  have hm2 : IntKind.i64.wrap (1 + f % 4) = mostI f := by unfold mostI; rw [IntKind.wrap_i64]; omega
  have HNW := Lib.hid hnew; have HT := Lib.hid ht; have HD0 := Lib.hid hd; have HKS := Lib.hid hKs; have H64 := Lib.hid h64; have HMI := Lib.hid hmi
  clear hlt hnew ht hd hKs h64 hmi
  go_enter Tryz.func3, Tryz.ntmps3
  go_wp2_with fail
  refine hsp.mono ?_
  clear hsp
  rintro e w0 ⟨rfl, hb0⟩
  have hd := HD0.out w0 hb0.size
  have HB0 := Lib.hid hb0
  clear hb0 HD0
  go_wp2_with fail
  refine hd.mono ?_
  rintro e w1 ⟨m, rfl, hD, hb1⟩
  have HD := Lib.hid hD; have HB1 := Lib.hid (HB0.out.trans (hb1.mono HB0.out.size))
  clear hd hD hb1 HB0
  go_wp2_with fail
  refine (HNW.out _ m w1 HD.out (HT.out.below HB1.out)).mono ?_
  rintro e w2 ⟨rfl, hT2, hb2⟩
  have hpn := ponew_ok w.heap.size w1.heap.size (mostI f) 11 #[] #[] w2 HMI.out.1 (by have := HMI.out.2; omega) (HB1.out.trans (hb2.mono HB1.out.size)).size
  have HT2 := Lib.hid hT2; have HB2 := Lib.hid (HB1.out.trans (hb2.mono HB1.out.size))
  clear hT2 hb2 HD HB1 HNW hm1 hm2
  generalize w1.heap.size = ga at *
  generalize w0.heap.size + 1 = g at *
  obtain ⟨most, hmost⟩ : ∃ q, q = mostI f := ⟨_, rfl⟩
  rw [← hmost] at hpn HMI
  rw [← hmost]
  clear hmost
  go_wp2_with fail
  refine hpn.mono ?_
  clear hpn
  rintro e w3 ⟨gp, rfl, hP3, -, hb3⟩
  have HS3 := Lib.hid (Sy.start hP3 (HT2.out.up hb3))
  have HB3 := Lib.hid (HB2.out.trans (hb3.mono HB2.out.size))
  clear hP3 hb3 HT2 HB2
  have HK : Hid (FlOk w.heap.size ga g m arm8 11 #[] #[] EU XU okS TU) := Lib.hid flP_ok
  obtain ⟨z, hz, hzr, hzw⟩ : ∃ z : List UInt8, z.length = 512 ∧ (∀ n : Int, 0 ≤ n → n < 8 → treadM arm8 (newM 40) n = (z, 0)) ∧ wholeB z = true := ⟨zer, zer_len, fun n h0 h1 => zer_read h0 h1, zer_whole⟩
  have HZ := Lib.hid hz; have HZR := Lib.hid hzr; have HZW := Lib.hid hzw
  have hp1 := pinc_any w3 0 z HS3.out HK.out trivial (by decide) (Gd.nil (by have := HMI.out.1; omega)) (by have := HMI.out.2; omega) (fun x hx => by cases hx) (fun x hx => by cases hx) (hzr 0 (by decide) (by decide)) hzw (by show (0 : Nat) < _; decide) okS_cmds
  have hn0 := HB3.out.size
  clear hz hzr hzw
  go_wp2_with fail
  refine hp1.mono ?_
  clear hp1
  rintro e w4 ⟨x1, rfl, hP4⟩
  obtain ⟨e1, hPz⟩ := start_pin0 most HMI.out.1 z HZ.out x1
  generalize pinC most z [] [] 0 x1 = r at *
  obtain ⟨r1, hs4, us4⟩ := r
  dsimp only at e1 hPz hP4 ⊢
  subst e1
  have HB4 := Lib.hid (HB3.out.trans (hP4.below hn0))
  obtain ⟨hv4, uv4, hS4, -⟩ := hP4
  have HS4 := Lib.hid hS4; have HPz := Lib.hid hPz
  clear hS4 hPz HS3 HB3 hn0
  go_wp2_with fail
  obtain ⟨nn, hnn⟩ : ∃ nn, nn = min ks.length 40 := ⟨_, rfl⟩
  have HNN := Lib.hid hnn
  clear hnn
  go_loopg [13] nn (fun gh i wr => ∃ k : Nat, k ≤ nn ∧ gh = nn - k ∧ i = .int .i64 k ∧ ∃ hv uv hs us, Pz most hs us ∧ Sy w.heap.size wr gp ga g m arm8 most 11 #[] #[] EU XU hv uv hs us (newM 40) () ∧ Below w.heap.size w wr)
  case atStart => exact ⟨0, Nat.zero_le _, rfl, rfl, _, _, _, _, HPz.out, HS4.out, HB4.out⟩
  case round =>
    clear HPz HS4 HB4
    obtain ⟨k, hk, rfl, rfl, hvr, uvr, hsr, usr, hPz, hS, hB⟩ := hrel
    by_cases hlt : k < nn
    · have hkl : k < ks.length := by have := HNN.out; omega
      have hk40 : k < 40 := by have := HNN.out; omega
      obtain ⟨b, o, rfl, hbn, e0⟩ := HKS.out.below hB k hkl
      obtain ⟨x, hxx⟩ : ∃ x, x = ks[k] := ⟨_, rfl⟩
      rw [← hxx] at e0
      have hx64 := H64.out x (by rw [hxx]; exact List.getElem_mem hkl)
      have h2 := Int.tmod_lt_of_pos x (show (0 : Int) < 7 by decide)
      have h3 := Int.tmod_lt_of_pos (-x) (show (0 : Int) < 7 by decide)
      rw [Int.neg_tmod] at h3
      have r1 : IntKind.i64.wrap (x.tmod 7 + 7) = x.tmod 7 + 7 := by rw [IntKind.wrap_i64]; omega
      have r2 : (x.tmod 7 + 7).tmod 7 = x.tmod 7 % 7 := by rw [Int.tmod_eq_emod_of_nonneg (by omega)]; omega
      have r3 : IntKind.i64.wrap (1 + x.tmod 7 % 7) = 1 + x.tmod 7 % 7 := by rw [IntKind.wrap_i64]; omega
      obtain ⟨n, hn⟩ : ∃ n, n = 1 + x.tmod 7 % 7 := ⟨_, rfl⟩
      have hn1 : 1 ≤ n ∧ n < 8 := by omega
      replace r3 : IntKind.i64.wrap (1 + x.tmod 7 % 7) = n := by rw [r3, hn]
      have r4 : (k : Int) < (ks.length : Int) := by omega
      have hS' := Lib.hid hS; have HB := Lib.hid hB; have HPz := Lib.hid hPz; have HN1 := Lib.hid hn1
      have hpin := pinc_any wr n z hS HK.out trivial ⟨by omega, hn1.2⟩ hPz.gd (by have := HMI.out.2; omega) hPz.cl (hPz.pb.mono (by decide)) (HZR.out n (by omega) hn1.2) HZW.out (by show (0 : Nat) < _; decide) okS_cmds
      clear hS hB hPz hxx hn hn1 h2 h3
      go_wp2_with fail
      refine hpin.mono ?_
      clear hpin r1 r2 r3
      rintro e w5 ⟨x5, rfl, hP5⟩
      have HB5 := Lib.hid (HB.out.trans (hP5.below HB.out.size))
      by_cases hmm : most = 1
      · subst hmm
        rw [HPz.out.pin_one (by have := HN1.out.1; omega) x5] at hP5 ⊢
        dsimp only at hP5 ⊢
        obtain ⟨hv6, uv6, hS6, -⟩ := hP5
        have HS6 := Lib.hid hS6; have HPz6 := HPz; have HB6 := HB5
        clear hS6
        obtain ⟨hs6, ehs⟩ : ∃ q, q = hsr := ⟨_, rfl⟩
        obtain ⟨us6, eus⟩ : ∃ q, q = usr := ⟨_, rfl⟩
        subst ehs eus
        generalize w5 = w6 at *
        have hhd := held_any w6 HS6.out.po
        go_wp2_with fail
        refine hhd.mono ?_
        clear hhd
        rintro e w7 ⟨va, vd, rfl, hv1, hv2, hb7⟩
        obtain ⟨A7, c7, rfl, -⟩ := IntsAt.of_own hv1
        have HS7 := Lib.hid (HS6.out.up HK.out hb7)
        have HB7 := Lib.hid (HB6.out.trans (hb7.mono HB6.out.size))
        obtain ⟨y0, z1, z2⟩ := HPz6.out.one
        have hhas := has_any w7 0 HS7.out.po
        rw [z1] at hhas
        simp only [Option.isSome_some] at hhas
        have hkl6 : (keysOf hs6).length = hs6.length := by unfold keysOf; rw [List.length_map]
        have hle : ¬ 1 < ((keysOf hs6).length : Int) := by rw [hkl6]; have := HPz6.out.gd.len; omega
        clear hv1 hv2 hb7
        go_wp2_with fail
        refine hhas.mono ?_
        clear hhas
        rintro e w8 ⟨rfl, hb8⟩
        have HS8 := Lib.hid (HS7.out.up HK.out hb8)
        have HB8 := Lib.hid (HB7.out.trans (hb8.mono HB7.out.size))
        have hev := evict_any w8 0 HS8.out HK.out trivial HPz6.out.gd.small (by show (0 : Nat) < _; decide) okS_cmds
        rw [show evictP okS arm8 hs6 us6 () (newM 40) 0 = (10, hs6, us6, (), newM 40) by unfold evictP; rw [z1]; exact if_pos (by omega)] at hev
        clear hb8
        go_wp2_with fail
        refine hev.mono ?_
        clear hev
        rintro e w9 ⟨rfl, hP9⟩
        have HB9 := Lib.hid (HB8.out.trans (hP9.below HB8.out.size))
        obtain ⟨hv9, uv9, hS9, -⟩ := hP9
        have HS9 := Lib.hid hS9
        clear hS9
        go_wp2_with fail
        go_roundg (nn - (k + 1))
        case measure => omega
        case rel => exact ⟨k + 1, by omega, rfl, by go_num, _, _, _, _, HPz6.out, HS9.out, HB9.out⟩
      · have hm1 : 1 < most := by have := HMI.out.1; omega
        obtain ⟨q1, q2, q3⟩ := HPz.out.pin (z := z) hm1 (by have := HN1.out.1; omega) (by have := HN1.out.1; omega) HN1.out.2 HZ.out x5
        have hpb := HPz.out.pb.pinC (most := most) (z := z) (us := usr) (n := n) x5
        generalize pinC most z hsr usr n x5 = r at *
        obtain ⟨⟨rb, re⟩, hs5, us5⟩ := r
        dsimp only at q1 q2 q3 hpb hP5 ⊢
        subst q1
        obtain ⟨hv5, uv5, hS5, -⟩ := hP5
        have hun := punpin_any w5 n 2 hS5 HK.out hpb (by decide)
        rw [q2] at hun
        have HPz6 := Lib.hid q3
        clear hS5 q2 q3 hpb
        go_wp2_with fail
        refine hun.mono ?_
        clear hun
        rintro e w6 ⟨rfl, hP6⟩
        have HB6 := Lib.hid (HB5.out.trans (hP6.below HB5.out.size))
        generalize (unpinM hs5 n).2 = hs6 at *
        obtain ⟨us6, eus⟩ : ∃ q, q = us5 := ⟨_, rfl⟩
        subst eus
        obtain ⟨hv6, uv6, hS6, -⟩ := hP6
        have HS6 := Lib.hid hS6
        clear hS6
        have hhd := held_any w6 HS6.out.po
        go_wp2_with fail
        refine hhd.mono ?_
        clear hhd
        rintro e w7 ⟨va, vd, rfl, hv1, hv2, hb7⟩
        obtain ⟨A7, c7, rfl, -⟩ := IntsAt.of_own hv1
        have HS7 := Lib.hid (HS6.out.up HK.out hb7)
        have HB7 := Lib.hid (HB6.out.trans (hb7.mono HB6.out.size))
        obtain ⟨y0, z1, z2⟩ := HPz6.out.one
        have hhas := has_any w7 0 HS7.out.po
        rw [z1] at hhas
        simp only [Option.isSome_some] at hhas
        have hkl6 : (keysOf hs6).length = hs6.length := by unfold keysOf; rw [List.length_map]
        have hle : ¬ most < ((keysOf hs6).length : Int) := by rw [hkl6]; have := HPz6.out.gd.len; omega
        clear hv1 hv2 hb7
        go_wp2_with fail
        refine hhas.mono ?_
        clear hhas
        rintro e w8 ⟨rfl, hb8⟩
        have HS8 := Lib.hid (HS7.out.up HK.out hb8)
        have HB8 := Lib.hid (HB7.out.trans (hb8.mono HB7.out.size))
        have hev := evict_any w8 0 HS8.out HK.out trivial HPz6.out.gd.small (by show (0 : Nat) < _; decide) okS_cmds
        rw [show evictP okS arm8 hs6 us6 () (newM 40) 0 = (10, hs6, us6, (), newM 40) by unfold evictP; rw [z1]; exact if_pos (by omega)] at hev
        clear hb8
        go_wp2_with fail
        refine hev.mono ?_
        clear hev
        rintro e w9 ⟨rfl, hP9⟩
        have HB9 := Lib.hid (HB8.out.trans (hP9.below HB8.out.size))
        obtain ⟨hv9, uv9, hS9, -⟩ := hP9
        have HS9 := Lib.hid hS9
        clear hS9
        go_wp2_with fail
        go_roundg (nn - (k + 1))
        case measure => omega
        case rel => exact ⟨k + 1, by omega, rfl, by go_num, _, _, _, _, HPz6.out, HS9.out, HB9.out⟩
    · have hkn : k = nn := by omega
      obtain ⟨hs1, hE1, hE2⟩ := hPz.end_ (newM 40)
      have h1 := punpin_any wr 0 1 hS HK.out hPz.pb (by decide)
      rw [hE1] at h1
      dsimp only at h1
      have HE := Lib.hid hE2; have HB := Lib.hid hB
      have hno : (k : Int) < (ks.length : Int) → ¬ (k : Int) < 40 := by have := HNN.out; omega
      clear hS hPz hE1 hE2 hB hkn hlt hk
      by_cases hl : (k : Int) < (ks.length : Int)
      · replace hno := hno hl
        go_wp2_with fail
        refine h1.mono ?_
        clear h1
        rintro e w5 ⟨rfl, hP5⟩
        have HB5 := Lib.hid (HB.out.trans (hP5.below HB.out.size))
        obtain ⟨hv5, uv5, hS5, -⟩ := hP5
        have h2 := punpin_any w5 0 1 hS5 HK.out HE.out.2.2.2.2.2 (by decide)
        rw [HE.out.2.1] at h2
        clear hS5
        go_wp2_with fail
        refine h2.mono ?_
        clear h2
        rintro e w6 ⟨rfl, hP6⟩
        have HB6 := Lib.hid (HB5.out.trans (hP6.below HB5.out.size))
        obtain ⟨hv6, uv6, hS6, -⟩ := hP6
        have h3 := evict_any w6 0 hS6 HK.out trivial HE.out.2.2.2.2.1 (by show (0 : Nat) < _; decide) okS_cmds
        rw [HE.out.2.2.1] at h3
        clear hS6
        go_wp2_with fail
        refine h3.mono ?_
        clear h3
        rintro e w7 ⟨rfl, hP7⟩
        have HB7 := Lib.hid (HB6.out.trans (hP7.below HB6.out.size))
        obtain ⟨hv7, uv7, hS7, -⟩ := hP7
        have h4 := has_any w7 0 hS7.po
        try dsimp only at h4
        rw [HE.out.2.2.2.1] at h4
        simp only [Option.isSome_none] at h4
        clear hS7
        go_wp2_with fail
        refine h4.mono ?_
        clear h4
        rintro e w8 ⟨rfl, hb8⟩
        have HB8 := Lib.hid (HB7.out.trans (hb8.mono HB7.out.size))
        clear hb8
        go_wp2_with fail
        go_ret
        exact ⟨rfl, HB8.out⟩
      · clear hno
        go_wp2_with fail
        refine h1.mono ?_
        clear h1
        rintro e w5 ⟨rfl, hP5⟩
        have HB5 := Lib.hid (HB.out.trans (hP5.below HB.out.size))
        obtain ⟨hv5, uv5, hS5, -⟩ := hP5
        have h2 := punpin_any w5 0 1 hS5 HK.out HE.out.2.2.2.2.2 (by decide)
        rw [HE.out.2.1] at h2
        clear hS5
        go_wp2_with fail
        refine h2.mono ?_
        clear h2
        rintro e w6 ⟨rfl, hP6⟩
        have HB6 := Lib.hid (HB5.out.trans (hP6.below HB5.out.size))
        obtain ⟨hv6, uv6, hS6, -⟩ := hP6
        have h3 := evict_any w6 0 hS6 HK.out trivial HE.out.2.2.2.2.1 (by show (0 : Nat) < _; decide) okS_cmds
        rw [HE.out.2.2.1] at h3
        clear hS6
        go_wp2_with fail
        refine h3.mono ?_
        clear h3
        rintro e w7 ⟨rfl, hP7⟩
        have HB7 := Lib.hid (HB6.out.trans (hP7.below HB6.out.size))
        obtain ⟨hv7, uv7, hS7, -⟩ := hP7
        have h4 := has_any w7 0 hS7.po
        try dsimp only at h4
        rw [HE.out.2.2.2.1] at h4
        simp only [Option.isSome_none] at h4
        clear hS7
        go_wp2_with fail
        refine h4.mono ?_
        clear h4
        rintro e w8 ⟨rfl, hb8⟩
        have HB8 := Lib.hid (HB7.out.trans (hb8.mono HB7.out.size))
        clear hb8
        go_wp2_with fail
        go_ret
        exact ⟨rfl, HB8.out⟩
end
end Go.Proofs.YtjlcbabnkhdgpaaGreatDoor
