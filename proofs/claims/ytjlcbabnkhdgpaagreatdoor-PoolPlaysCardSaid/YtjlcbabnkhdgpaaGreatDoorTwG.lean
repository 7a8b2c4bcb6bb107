/-
  Walks: the device's Off, On, Open, Blow, Fuse; slices.Clone of numbers.
-/
import Derived.Test.YtjlcbabnkhdgpaaGreatDoorTwF
import Derived.Laws.AppendOwn
import Derived.Lib.SliceRun
import Derived.Laws.OwnMore
import Derived.Lib.AppendZeros
namespace Go.Proofs.YtjlcbabnkhdgpaaGreatDoor
set_option linter.unusedSimpArgs false
set_option linter.unusedVariables false
open Go.RowKit Go.Maps

theorem info_int : ∃ i z, Tryz.prog.info? 3 = some i ∧ i.zero = some z ∧ i.size = 1 ∧ i.bytes = 8 ∧ z.cells.size = 1 := by
  have h : (Tryz.prog.info? 3).bind (fun i => i.zero.map fun z => (i.size, i.bytes, z.cells.size)) = some (1, 8, 1) := by kernel_rfl
  cases hi : Tryz.prog.info? 3 with
  | none => rw [hi] at h; simp at h
  | some i =>
    rw [hi] at h
    cases hz : i.zero with
    | none => simp [hz] at h
    | some z =>
      simp [hz] at h
      exact ⟨i, z, rfl, hz, h.1, h.2.1, h.2.2⟩
/-- Numbers in a slice. -/
def IntsAt (w : World) (v : Value) (ks : List Int) : Prop := ∃ A cap, v = .slice A ks.length cap ∧ (A = none → cap = 0 ∧ ks = []) ∧ ∀ ad, A = some ad → ∀ (j : Nat) (u : Value), (ks.map (Value.int .i64))[j]? = some u → w.cell? (ad.add j) = some u
theorem ints_append (base : Nat) (v : Value) (xs ks : List Int) (s : Value) (w : World) (ho : w.ownsRow base 3 1 v xs.length (xs.map (Value.int .i64))) (hs : IntsAt w s ks) (hx : xs.length ≤ 1000000) (hk : ks.length ≤ 1000000) (hb : base ≤ w.heap.size) :
    ∃ v' w', (Builtin.append_ #[22, 22] 22 #[v, s]).run Tryz.prog w = .ok v' w' ∧ w'.ownsRow base 3 1 v' (xs ++ ks).length ((xs ++ ks).map (Value.int .i64)) ∧ w.grownBy w' v.ownBlock := by
  obtain ⟨A, cap, rfl, h1, h2⟩ := hs
  obtain ⟨i, z, hi, hz, hsz, hby, hzs⟩ := info_int
  cases A with
  | none =>
    obtain ⟨rfl, rfl⟩ := h1 rfl
    have hr := run_append_owned_none (P := Tryz.prog) (w := w) base 22 22 3 i 1 Tryz.underlying22 hi v _ _ ho
    exact ⟨v, w, hr, by simpa using ho, ⟨rfl, rfl, rfl, Nat.le_refl _, fun _ _ _ => rfl⟩⟩
  | some ad =>
    obtain ⟨v', w', hr, q1, q2, _⟩ := run_append_own (P := Tryz.prog) w base 22 22 3 i z 1 8 Tryz.underlying22 hi hz hsz hby hzs (by decide) v xs.length _ ho ad ks.length cap (ks.map (Value.int .i64)) (by simp) (h2 ad rfl)
      (fun u hu => by obtain ⟨x, _, rfl⟩ := List.mem_map.1 hu; rfl) (by unfold maxLen; omega) (by omega) hb
    exact ⟨v', w', hr, by simpa using q1, q2⟩
theorem IntsAt.of_own {base : Nat} {v : Value} {ks : List Int} {w : World} (ho : w.ownsRow base 3 1 v ks.length (ks.map (Value.int .i64))) : IntsAt w v ks := by
  have ho' := ho
  obtain ⟨hx, hh⟩ := ho
  rcases hh with ⟨hv, hn⟩ | ⟨gb, cap, cur, hv, _, _, _, _⟩
  · have : ks = [] := List.eq_nil_of_length_eq_zero hn
    subst this
    exact ⟨none, 0, hv, fun _ => ⟨rfl, rfl⟩, fun ad h => by cases h⟩
  · exact ⟨some ⟨gb, 0, none⟩, cap, hv, (fun h => by cases h), fun ad h j u hu => by cases h; exact ho'.cells (g := gb) (by rw [hv]; rfl) j u hu⟩
theorem IntsAt.below {w w' : World} {v : Value} {ks : List Int} (h : IntsAt w v ks) (hb : Below w.heap.size w w') : IntsAt w' v ks := by
  obtain ⟨A, cap, rfl, h1, h2⟩ := h
  exact ⟨A, cap, rfl, h1, fun ad e j u hu => up_cell hb (h2 ad e j u hu)⟩

set_option maxHeartbeats 800000 in
set_option maxRecDepth 100000 in
theorem clone_any (ks : List Int) (s : Value) (w : World) (hs : IntsAt w s ks) (hk : ks.length ≤ 1000000) :
    Calls Tryz.prog 81 #[s] w fun e w' => ∃ v, e = .returned v ∧ w'.ownsRow w.heap.size 3 1 v ks.length (ks.map (Value.int .i64)) ∧ Below w.heap.size w w' := by
  have hs' := hs
  obtain ⟨A, cap, rfl, h1, h2⟩ := hs
  have qe := fun (w : World) (a : Option Addr) (n c n' c' : Nat) => Lib.run_eql_slice_nil (P := Tryz.prog) w 22 3 a n c n' c' Tryz.underlying22
  cases A with
  | none =>
    obtain ⟨rfl, rfl⟩ := h1 rfl
    clear hs' h2
    go_enter Tryz.func81, Tryz.ntmps81
    go_wp2_with fail
    go_ret
    exact ⟨_, rfl, World.ownsRow_nil _ _ _ _, Below.refl _ _⟩
  | some ad =>
    obtain ⟨w1, hw1⟩ : ∃ x, x = w.alloc (.cells #[] 3) := ⟨_, rfl⟩
    have hb1 : Below w.heap.size w w1 := by rw [hw1]; exact (Below.refl _ _).alloc (Nat.le_refl _) _
    have ho : w1.ownsRow w.heap.size 3 1 (.slice (some ⟨w.heap.size, 0, none⟩) 0 0) ([] : List Int).length (([] : List Int).map (Value.int .i64)) := by
      rw [hw1]
      exact World.ownsRow_made w #[] 0 (Nat.le_refl _) (by unfold maxLen; omega) (by simp)
    obtain ⟨v', w', hr, q1, q2⟩ := ints_append w.heap.size _ [] ks _ w1 ho (hs'.below hb1) (by simp) hk hb1.size
    have hb2 : Below w.heap.size w w' := hb1.grown q2 hb1.size (fun k e => by simp [Value.ownBlock] at e; omega)
    have H1 := Lib.hid q1; have H2 := Lib.hid hb2
    simp only [List.nil_append] at H1
    rw [hw1] at hr
    clear hs' h2 h1 hb1 ho q1 q2 hb2 hw1
    go_enter Tryz.func81, Tryz.ntmps81
    go_wp2_with (at_builtin; refine Lib.wpList_append_run _ rfl _ _ _ _ rfl _ _ rfl rfl _ _ hr ?_)
    go_ret
    exact ⟨_, rfl, H1.out, H2.out⟩

def onM (d : DevM) : DevM := { d with off := false, fuse := 0, keep := [] }
def fuseM (d : DevM) (n : Int) (ks : List Int) : DevM := { d with fuse := max n 1, keep := ks }
section
variable {w w' : World} {n0 g m : Nat} {v kv : Value} {d : DevM}
theorem ownsRow_base {base base' : Nat} {e : TypeId} {sz n : Nat} {v : Value} {xs : List Value} (h : w.ownsRow base e sz v n xs) (hb : base' ≤ base) : w.ownsRow base' e sz v n xs := by
  refine ⟨h.1, ?_⟩
  rcases h.2 with h2 | ⟨g, cap, cur, hv, hg, q⟩
  · exact Or.inl h2
  · exact Or.inr ⟨g, cap, cur, hv, Nat.le_trans hb hg, q⟩
theorem DevAt.setKeep (h : DevAt n0 w g m v kv d) (ks : List Int) (kv' : Value) (ho : w.ownsRow n0 3 1 kv' ks.length (ks.map (Value.int .i64))) : DevAt n0 (w.setCell ⟨g, 5, none⟩ kv') g m v kv' { d with keep := ks } := by
  unfold DevAt at h
  obtain ⟨h1, h2, h3, h4, h5, h6, h7⟩ := h
  have hg := grown_setCell w g 5 kv'
  have hmg : some m ≠ some g := by
    intro e
    injection e with e
    subst e
    obtain ⟨_, _, _, ho, _⟩ := h3
    obtain ⟨es, c, hb, _⟩ := ho
    unfold Blk at h2
    rw [h2] at hb
    cases hb
  unfold DevAt
  exact ⟨h1, by simpa using h2.set 5 kv', h3.kept hg hmg, own_grown h4 h2 (by decide) hg, own_grown ho h2 (by decide) hg, h6, by simpa [World.setCell] using h7⟩
end

end Go.Proofs.YtjlcbabnkhdgpaaGreatDoor
