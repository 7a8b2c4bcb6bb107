/-
  Walks: the device's Read.
-/
import Derived.Test.YtjlcbabnkhdgpaaGreatDoorRdA
import Derived.BigRegionIn
namespace Go.Proofs.YtjlcbabnkhdgpaaGreatDoor
set_option linter.unusedSimpArgs false
set_option linter.unusedVariables false
open Go.RowKit Go.Shelf Go.Maps
attribute [local go_sem] Oper.semAt_some

/-- What was written last to sector i. -/
def lastAt (l : List Wr) (i : Int) : Option (List UInt8) := (l.reverse.find? (fun x => x.1 == i)).map (·.2)
def readM (d : DevM) (i : Int) : List UInt8 := match lastAt d.wait i with | some s => s | none => match d.last i with | some s => s | none => List.replicate 256 0
theorem upto_back (xs : List Wr) (k : Nat) (hk : k ≤ xs.length) : (upto (backAt xs) k).map (·.2) = xs.reverse.take k := by
  apply List.ext_getElem
  · simp [upto]; omega
  · intro j h1 h2
    have hj : j < k := by simpa [upto] using h1
    have hl : xs.length - 1 - j < xs.length := by omega
    simp [upto, backAt, List.getD, hl]
theorem lastAt_none (xs : List Wr) (i : Int) (h : ∀ p ∈ upto (backAt xs) xs.length, p.2.1 ≠ i) : lastAt xs i = none := by
  have e := upto_back xs xs.length (Nat.le_refl _)
  rw [List.take_of_length_le (by simp)] at e
  unfold lastAt
  rw [← e, List.find?_eq_none.2]
  · rfl
  · intro x hx
    obtain ⟨p, hp, rfl⟩ := List.mem_map.1 hx
    simpa using h p hp
theorem lastAt_some (xs : List Wr) (i : Int) (k : Nat) (hk : k + 1 ≤ xs.length) (h : ∀ p ∈ upto (backAt xs) k, p.2.1 ≠ i) (hi : (backAt xs k).2.1 = i) : lastAt xs i = some (backAt xs k).2.2 := by
  have e := upto_back xs (k + 1) hk
  rw [upto_succ, List.map_append] at e
  have e2 : xs.reverse = (upto (backAt xs) k).map (·.2) ++ ((backAt xs k).2 :: xs.reverse.drop (k + 1)) := by
    conv => lhs; rw [← List.take_append_drop (k + 1) xs.reverse, ← e]
    simp
  unfold lastAt
  rw [e2, List.find?_append, List.find?_eq_none.2]
  · simp [hi]
  · intro x hx
    obtain ⟨p, hp, rfl⟩ := List.mem_map.1 hx
    simpa using h p hp
theorem DevAt.waitsAt {n0 : Nat} {w : World} {g m : Nat} {v kv : Value} {d : DevM} (h : DevAt n0 w g m v kv d) : Waits w.heap.size w v d.wait := by
  have ho : w.ownsRow n0 100 2 v d.wait.length (waitCells d.wait) := by unfold DevAt at h; exact h.2.2.2.1
  have hlt := ho.lt
  have ho' := ho
  obtain ⟨hx, hh⟩ := ho
  rcases hh with ⟨hv, hn⟩ | ⟨gb, cap, cur, hv, _, hhp, _, _⟩
  · exact .inl ⟨hv, List.eq_nil_of_length_eq_zero hn⟩
  · refine .inr ⟨gb, cap, hv, heap_lt hhp, fun j hj => ?_⟩
    have e : d.wait.getD j (0, []) = d.wait[j] := by simp [List.getD, hj]
    have e1 : ∀ k, (⟨gb, 0, none⟩ : Addr).add k = ⟨gb, k, none⟩ := fun k => by unfold Addr.add; split <;> simp_all
    rw [e]
    have h1 := ho'.cells (g := gb) (by rw [hv]; rfl) _ _ (waitCells_at d.wait j hj).1
    have h2 := ho'.cells (g := gb) (by rw [hv]; rfl) _ _ (waitCells_at d.wait j hj).2
    rw [e1] at h1 h2
    exact ⟨h1, h2⟩

set_option maxRecDepth 100000 in
set_option maxHeartbeats 4000000 in
theorem devread_in (n0 g m : Nat) (v kv : Value) (d : DevM) (i : Int) (w : World) (h : DevAt n0 w g m v kv d) (ho : d.off = false) (hi : 0 ≤ i ∧ i < d.size) (hwl : d.wait.length ≤ 1000000000) :
    CallsIn Fence.wide 9 Tryz.prog 77 #[.pointer (some ⟨g, 0, none⟩), .int .i64 i] w fun e w' => e = .returned (.tuple #[.string (bs (readM d i)), .int .i64 0]) ∧ Below w.heap.size w w' := by
  obtain ⟨A, cap, rfl, _⟩ := h.waits
  have hB0 : Below w.heap.size w (((w.alloc (.cells #[.int .i64 i] 3)).alloc (.cells #[.string ⟨#[]⟩] 9)).alloc (.cells #[.int .i64 0] 25)) := (((Below.refl _ w).alloc (Nat.le_refl _) _).alloc (by simp) _).alloc (by simp; omega) _
  have h3 := h.up hB0
  obtain ⟨⟨c0, c1, c2, c3, _⟩, _⟩ := h3.cells
  rw [ho] at c3
  obtain ⟨i1, i2⟩ := hi
  have i3 : decide (i < 0) = false := by simp; omega
  have i4 : decide (d.size ≤ i) = false := by simp; omega
  refine callsIn_of_wp_marks Tryz.func77 rfl trivial ?_ rfl
  simp only [Tryz.ntmps77, List.size_toArray, List.length_cons, List.length_nil, Nat.reduceAdd, Nat.reduceSub, Array.replicate_succ, Array.replicate_zero, List.push_toArray, List.append_toArray, List.nil_append, List.cons_append]
  gi_wp2
  gi_region
  have hb0 := (Blk.made w #[.int .i64 i] 3).up ((((Below.refl _ _).alloc (Nat.le_refl _) (.cells #[.string ⟨#[]⟩] 9)).alloc (by simp) (.cells #[.int .i64 0] 25)).drew)
  have hb1 := (Blk.made (w.alloc (.cells #[.int .i64 i] 3)) #[.string ⟨#[]⟩] 9).up (((Below.refl _ _).alloc (Nat.le_refl _) (.cells #[.int .i64 0] 25)).drew)
  have hb2 : Blk (((w.alloc (.cells #[.int .i64 i] 3)).alloc (.cells #[.string ⟨#[]⟩] 9)).alloc (.cells #[.int .i64 0] 25)).drew _ _ _ := (Blk.made ((w.alloc (.cells #[.int .i64 i] 3)).alloc (.cells #[.string ⟨#[]⟩] 9)) #[.int .i64 0] 25)
  rw [World.size_alloc] at hb1
  rw [World.size_alloc, World.size_alloc] at hb2
  have hD4 := h3.up (Below.refl _ _).drew
  have hB4 := hB0.drew
  clear h3 hB0 c0 c1 c2 c3
  generalize (((w.alloc (.cells #[.int .i64 i] 3)).alloc (.cells #[.string ⟨#[]⟩] 9)).alloc (.cells #[.int .i64 0] 25)).drew = w4 at *
  have c2 := hD4.cells.1.2.2.1
  have HB := Lib.hid hB4
  clear hB4
  gi_wp2
  refine ⟨trivial, (backward_in Fence.wide 8 trivial rfl _ _ _ _).mono ?_⟩
  rintro e w' ⟨rfl, rfl⟩
  gi_wp2
  have bA : Boxed (w4.alloc (.cells #[.slice A d.wait.length cap] 72)) w4.heap.size 72 (.slice A d.wait.length cap) := Boxed.new _ _ _
  have hB4a : Below w4.heap.size w4 (w4.alloc (.cells #[.slice A d.wait.length cap] 72)) := (Below.refl _ _).alloc (Nat.le_refl _) _
  have hwt := (hD4.waitsAt.below hB4a).mono hB4a.size
  have e0 : Boxed (w4.alloc (.cells #[.slice A d.wait.length cap] 72)) w.heap.size 3 (.int .i64 i) := Blk.up hb0 hB4a
  have e1 : Boxed (w4.alloc (.cells #[.slice A d.wait.length cap] 72)) (w.heap.size + 1) 9 (.string ⟨#[]⟩) := Blk.up hb1 hB4a
  have e2 : Boxed (w4.alloc (.cells #[.slice A d.wait.length cap] 72)) (w.heap.size + 1 + 1) 25 (.int .i64 0) := Blk.up hb2 hB4a
  have hD5 := hD4.up hB4a
  have hwB : Below w.heap.size w (w4.alloc (.cells #[.slice A d.wait.length cap] 72)) := HB.out.trans (hB4a.mono HB.out.size)
  have hs3 : w.heap.size + 1 + 1 < (w4.alloc (.cells #[.slice A d.wait.length cap] 72)).heap.size := e2.lt
  obtain ⟨bA0, hbA0⟩ : ∃ bA0, bA0 = w4.heap.size := ⟨_, rfl⟩
  have hAlt : bA0 < (w4.alloc (.cells #[.slice A d.wait.length cap] 72)).heap.size := by rw [hbA0]; exact bA.lt
  rw [← hbA0] at bA ⊢
  have HLT := h.lt
  clear hb0 hb1 hb2 hD4 hB4a HB c2 hbA0 h
  generalize w4.alloc (.cells #[.slice A d.wait.length cap] 72) = W0 at *
  clear w4
  refine wpIn_rangeFunc_ownH rfl (by decide) (gf := 115) (lb := #[.pointer (some ⟨bA0, 0, none⟩)]) rfl trivial (enters_of Tryz.func115 (by kernel_rfl) rfl)
    (back_stops Fence.wide 8 trivial rfl (by decide) bA0 W0.heap.size _ d.wait hwl W0 hAlt (Nat.le_refl _) bA.cell hwt) belowK_t (belowK_b (Nat.le_refl _)) (Below.refl _ _) (fun _ => rfl)
    (fun pre W => ((∀ p ∈ pre, p.2.1 ≠ i) ∧ Boxed W w.heap.size 3 (.int .i64 i) ∧ Boxed W (w.heap.size + 1) 9 (.string ⟨#[]⟩) ∧ Boxed W (w.heap.size + 1 + 1) 25 (.int .i64 0)) ∧ Below W0.heap.size W0 W)
    (fun c pre W => (c = .ret ∧ ∃ ini last, pre = ini ++ [last] ∧ (∀ p ∈ ini, p.2.1 ≠ i) ∧ last.2.1 = i ∧ Boxed W (w.heap.size + 1) 9 (.string (bs last.2.2)) ∧ Boxed W (w.heap.size + 1 + 1) 25 (.int .i64 0)) ∧ Below w.heap.size W0 W)
    (OwnFrom.and (fun s A B row hs hg hr => ⟨hs.1, hs.2.1.kept hg (fun e => by have := (hr _ e.symm).1; omega), hs.2.2.1.kept hg (fun e => by have := (hr _ e.symm).1; omega), hs.2.2.2.kept hg (fun e => by have := (hr _ e.symm).1; omega)⟩) (ownFrom_below (Nat.le_refl _) (Nat.le_refl _)))
    (fun c => OwnFrom.and (fun s A B row hs hg hr => by obtain ⟨hc, ini, last, q1, q2, q3, q4, q5⟩ := hs; exact ⟨hc, ini, last, q1, q2, q3, q4.kept hg (fun e => by have := (hr _ e.symm).1; omega), q5.kept hg (fun e => by have := (hr _ e.symm).1; omega)⟩) (ownFrom_below (by omega) (by omega)))
    ⟨⟨by simp, e0, e1, e2⟩, Below.refl _ _⟩
    (fun x a' W => ∃ Bx, (W.cell? ⟨Bx, 0, none⟩ = some (.int .i64 x.2.1) ∧ W.cell? ⟨Bx, 1, none⟩ = some (.string (bs x.2.2))) ∧ a' = { tmps := #[.pointer (some ⟨g, 0, none⟩), .int .i64 i, undef, .pointer (some ⟨w.heap.size, 0, none⟩), .pointer (some ⟨w.heap.size + 1, 0, none⟩), .pointer (some ⟨w.heap.size + 1 + 1, 0, none⟩), undef, .pointer (some ⟨Bx, 0, none⟩), undef, undef, .bool false, .pointer (some ⟨g, 0, none⟩), .bool false, .bool false, .pointer (some ⟨g, 0, none⟩), .pointer (some ⟨g, 0, none⟩), .pointer (some ⟨g, 3, none⟩), .bool false, .bool false, .int .i64 i, .bool false, .bool false, .int .i64 i, .pointer (some ⟨g, 0, none⟩), .pointer (some ⟨g, 0, none⟩), .pointer (some ⟨g, 0, none⟩), .int .i64 d.size, .bool false, .bool false, .pointer (some ⟨g, 0, none⟩), .pointer (some ⟨g, 0, none⟩), .pointer (some ⟨g, 2, none⟩), .slice A d.wait.length cap, .func (.func 115) #[] #[.pointer (some ⟨bA0, 0, none⟩)], .int .i64 (x.1 : Int), .agg #[.int .i64 x.2.1, .string (bs x.2.2)], undef, undef, undef, undef, undef, undef, undef, undef, undef, undef, undef, undef, undef, undef, undef, undef, undef, undef], defers := [] })
    (fun x a' _ X Y row hs hg hr => by obtain ⟨Bx, ⟨h1, h2⟩, h3⟩ := hs; exact ⟨Bx, ⟨cell_kept h1 hg (fun r e => (hr r e).2), cell_kept h2 hg (fun r e => (hr r e).2)⟩, h3⟩)
    ?assign ?body ?done ?stop
  case assign =>
    rintro l pre x W K ⟨⟨hp, b0, b1, b2⟩, hB⟩ hK
    clear hwt hD5 e0 e1 e2 bA
    obtain ⟨kx, sec, dat⟩ := x
    unfold backEnc
    dsimp only
    gi_wp2
    exact hK _ _ ((KeepsOthers.alloc _ _).from _) ((Below.refl _ W).alloc hB.size _) ⟨⟨hp, b0.alloc _, b1.alloc _, b2.alloc _⟩, hB.alloc hB.size _⟩ ⟨W.heap.size, ⟨World.cell?_alloc_new _ _ _ _, World.cell?_alloc_new _ _ _ _⟩, rfl⟩
  case body =>
    rintro l pre x a' W hl ⟨r, hr⟩ ⟨⟨hp, b0, b1, b2⟩, hB⟩ ⟨Bx, ⟨x0, x1⟩, rfl⟩ hlt
    have cI := b0.cell
    have c1 := b1.cell
    have c2 := b2.cell
    have f1 := b1.frozen
    have f2 := b2.frozen
    clear hwt hD5 e0 e1 e2 bA
    obtain ⟨kx, sec, dat⟩ := x
    dsimp only at x0 x1 ⊢
    gi_wp2
    · have hx : sec = i := by simpa using ‹(sec == i) = true›
      subst hx
      exact ⟨((KeepsOthers.setCell _ _ _).trans (KeepsOthers.setCell _ _ _)).from _, ⟨rfl, pre, _, rfl, hp, rfl, (b1.set _).other (by omega) _, (b2.other (by omega) _).set _⟩, ((hB.mono (by omega)).setCell (p := ⟨w.heap.size + 1, 0, none⟩) (by simp) _).setCell (p := ⟨w.heap.size + 1 + 1, 0, none⟩) (by simp; omega) _⟩
    · have hx : sec ≠ i := by simpa using ‹(sec == i) = false›
      exact ⟨KeepsFrom.refl _ _, Below.refl _ _, ⟨fun p hp' => (List.mem_append.1 hp').elim (hp p) (fun e => by simp at e; subst e; exact hx), b0, b1, b2⟩, hB⟩
  case done =>
    rintro D ys W hD rfl ⟨⟨hne, b0, b1, b2⟩, hB⟩ hK
    have hDW := (hD5.up hB).up (Below.refl _ _).drew
    obtain ⟨dv, hdv, hlook⟩ := hDW.lasts.look i (by have := hDW.fits.1; unfold in64; omega)
    have cm := hDW.cells.1.2.1
    have cI := b0.cell
    have c1 := b1.cell
    have c2 := b2.cell
    have f1 := b1.frozen
    have f2 := b2.frozen
    replace cm : W.cell? ⟨g, 1, none⟩ = some (.map (some m)) := cm
    clear hwt hD5 e0 e1 e2 bA
    gi_wp2
    gi_region
    have bd : Below W.heap.size W W.drew := (Below.refl _ _).drew
    have b1' : Boxed W.drew (w.heap.size + 1) 9 (.string ⟨#[]⟩) := Blk.up b1 bd
    have b2' : Boxed W.drew (w.heap.size + 1 + 1) 25 (.int .i64 0) := Blk.up b2 bd
    have hK' : W.drew.heap[D]? = some (.deferred (some [])) := hK
    have hB' : Below W0.heap.size W0 W.drew := hB.drew
    have hrd : readM d i = match d.last i with | some s => s | none => List.replicate 256 0 := by unfold readM; rw [lastAt_none _ _ hne]
    have hs4 : W0.heap.size ≤ W.drew.heap.size := hB'.size
    clear hlook cI c1 c2 f1 f2 cm b0 b1 b2 hB bd hK
    generalize W.drew = W' at *
    cases hl : d.last i with
    | some s =>
      have hdv' := hdv s hl
      subst hdv'
      rw [hl] at hrd
      dsimp only at hrd
      have c1 := b1'.cell
      have c2 := b2'.cell
      have f1 := b1'.frozen
      have f2 := b2'.frozen
      have HR := Lib.hid hrd
      clear hrd hdv hl
      simp only [Option.isSome_some]
      gi_wp2
      have hBw := hwB.trans (hB'.mono (by omega))
      have q1 := (b1'.set (.string (bs dv))).other (B' := w.heap.size + 1 + 1) (by omega) (.int .i64 0)
      have q2 := (b2'.other (B' := w.heap.size + 1) (by omega) (.string (bs dv))).set (.int .i64 0)
      have hBB := (hBw.setCell (p := ⟨w.heap.size + 1, 0, none⟩) (by simp) (.string (bs dv))).setCell (p := ⟨w.heap.size + 1 + 1, 0, none⟩) (by simp; omega) (.int .i64 0)
      have hKK := ((KeepsOthers.setCell W' ⟨w.heap.size + 1, 0, none⟩ (.string (bs dv))).trans (KeepsOthers.setCell _ ⟨w.heap.size + 1 + 1, 0, none⟩ (.int .i64 0))).same D _ hK' rfl
      generalize (W'.setCell ⟨w.heap.size + 1, 0, none⟩ (.string (bs dv))).setCell ⟨w.heap.size + 1 + 1, 0, none⟩ (.int .i64 0) = Wz at *
      refine ⟨by simp, .inl ⟨_, _, rfl, run_takeDeferred hKK, ?_⟩⟩
      have k1 := (q1.kept (grownBy_putObj' _ D (.deferred none)) (by intro e; simp at e; omega)).cell
      have k2 := (q2.kept (grownBy_putObj' _ D (.deferred none)) (by intro e; simp at e; omega)).cell
      refine ⟨.tuple #[.string (bs (readM d i)), .int .i64 0], ?_, rfl, hBB.trans (belowK_b (w := w) (Nat.le_refl _) Wz D _ _ (by omega) hKK rfl rfl)⟩
      rw [HR.out]
      simp [results, Tryz.f77, go_sem, k1, k2]
    | none =>
      rw [hl] at hrd
      dsimp only at hrd
      have c1 := b1'.cell
      have c2 := b2'.cell
      have f1 := b1'.frozen
      have f2 := b2'.frozen
      have HR := Lib.hid hrd
      clear hrd hdv hl
      simp only [Option.isSome_none]
      gi_wp2
      refine ⟨trivial, (callsIn_wide.2 (Tryz.strings_Repeat ⟨#[0]⟩ 256 W' (by omega) (by decide))).mono ?_⟩
      rintro e w5 ⟨rfl, hby⟩
      rw [repeat_zero]
      have b15 : Boxed w5 (w.heap.size + 1) 9 (.string ⟨#[]⟩) := Blk.up b1' hby
      have b25 : Boxed w5 (w.heap.size + 1 + 1) 25 (.int .i64 0) := Blk.up b2' hby
      have hK5 : w5.heap[D]? = some (.deferred (some [])) := (hby.block D (Array.getElem?_eq_some_iff.1 hK').1).trans hK'
      have hBw := (hwB.trans (hB'.mono (by omega))).trans (hby.mono (by omega))
      have hs5 := Nat.le_trans hs4 hby.size
      clear c1 c2 f1 f2
      have c1 := b15.cell
      have c2 := b25.cell
      have f1 := b15.frozen
      have f2 := b25.frozen
      generalize List.replicate 256 (0 : UInt8) = zs at *
      gi_wp2
      have q1 := (b15.set (.string (bs zs))).other (B' := w.heap.size + 1 + 1) (by omega) (.int .i64 0)
      have q2 := (b25.other (B' := w.heap.size + 1) (by omega) (.string (bs zs))).set (.int .i64 0)
      have hBB := (hBw.setCell (p := ⟨w.heap.size + 1, 0, none⟩) (by simp) (.string (bs zs))).setCell (p := ⟨w.heap.size + 1 + 1, 0, none⟩) (by simp; omega) (.int .i64 0)
      have hKK := ((KeepsOthers.setCell w5 ⟨w.heap.size + 1, 0, none⟩ (.string (bs zs))).trans (KeepsOthers.setCell _ ⟨w.heap.size + 1 + 1, 0, none⟩ (.int .i64 0))).same D _ hK5 rfl
      generalize (w5.setCell ⟨w.heap.size + 1, 0, none⟩ (.string (bs zs))).setCell ⟨w.heap.size + 1 + 1, 0, none⟩ (.int .i64 0) = Wz at *
      refine ⟨by simp, .inl ⟨_, _, rfl, run_takeDeferred hKK, ?_⟩⟩
      have k1 := (q1.kept (grownBy_putObj' _ D (.deferred none)) (by intro e; simp at e; omega)).cell
      have k2 := (q2.kept (grownBy_putObj' _ D (.deferred none)) (by intro e; simp at e; omega)).cell
      refine ⟨.tuple #[.string (bs (readM d i)), .int .i64 0], ?_, rfl, hBB.trans (belowK_b (w := w) (Nat.le_refl _) Wz D _ _ (by omega) hKK rfl rfl)⟩
      rw [HR.out]
      simp [results, Tryz.f77, go_sem, k1, k2]
  case stop =>
    rintro D c pre W hD ⟨k, hk, rfl⟩ ⟨⟨rfl, ini, last, q1, q2, q3, b1, b2⟩, hB⟩ hK
    gi_wp2
    refine ⟨by simp, .inl ⟨_, _, rfl, run_takeDeferred hK, ?_⟩⟩
    have k1 := (b1.kept (grownBy_putObj' _ D (.deferred none)) (by intro e; simp at e; omega)).cell
    have k2 := (b2.kept (grownBy_putObj' _ D (.deferred none)) (by intro e; simp at e; omega)).cell
    obtain ⟨k', rfl⟩ : ∃ k', k = k' + 1 := by
      cases k with
      | zero => simp [upto] at q1
      | succ k' => exact ⟨k', rfl⟩
    rw [upto_succ] at q1
    obtain ⟨rfl, q5⟩ := List.append_inj' q1 rfl
    obtain rfl : backAt d.wait k' = last := by simpa using q5
    have hres : (backAt d.wait k').2.2 = readM d i := by unfold readM; rw [lastAt_some _ _ _ hk q2 q3]
    rw [hres] at k1
    refine ⟨.tuple #[.string (bs (readM d i)), .int .i64 0], ?_, rfl, (hwB.trans hB).trans (belowK_b (w := w) (Nat.le_refl _) W D _ _ (by omega) hK rfl rfl)⟩
    simp [results, Tryz.f77, go_sem, k1, k2]

def readE (d : DevM) (i : Int) : List UInt8 × Int := if d.off = true then ([], 7) else (readM d i, 0)
set_option maxRecDepth 100000 in
set_option maxHeartbeats 4000000 in
theorem devread_off (n0 g m : Nat) (v kv : Value) (d : DevM) (i : Int) (w : World) (h : DevAt n0 w g m v kv d) (ho : d.off = true) :
    CallsIn Fence.wide 9 Tryz.prog 77 #[.pointer (some ⟨g, 0, none⟩), .int .i64 i] w fun e w' => e = .returned (.tuple #[.string (bs []), .int .i64 7]) ∧ Below w.heap.size w w' := by
  have hB0 : Below w.heap.size w (((w.alloc (.cells #[.int .i64 i] 3)).alloc (.cells #[.string ⟨#[]⟩] 9)).alloc (.cells #[.int .i64 0] 25)) := (((Below.refl _ w).alloc (Nat.le_refl _) _).alloc (by simp) _).alloc (by simp; omega) _
  have hB1 : Below w.heap.size w (((w.alloc (.cells #[.int .i64 i] 3)).alloc (.cells #[.string ⟨#[]⟩] 9)).alloc (.cells #[.int .i64 7] 25)) := (((Below.refl _ w).alloc (Nat.le_refl _) _).alloc (by simp) _).alloc (by simp; omega) _
  have h3 := h.up hB0
  obtain ⟨⟨c0, c1, c2, c3, _⟩, _⟩ := h3.cells
  rw [ho] at c3
  have HB := Lib.hid hB1
  clear h3 h hB0 hB1 ho
  refine callsIn_of_wp Tryz.func77 rfl trivial ?_ rfl
  simp only [Tryz.ntmps77, List.size_toArray, List.length_cons, List.length_nil, Nat.reduceAdd, Nat.reduceSub, Array.replicate_succ, Array.replicate_zero, List.push_toArray, List.append_toArray, List.nil_append, List.cons_append]
  gi_wp2
  refine bodyPost_ret (v := .tuple #[.string (bs []), .int .i64 7]) ?_ rfl ⟨rfl, HB.out⟩
  simp [results, Tryz.f77, go_sem]
  rfl
theorem devread_any (n0 g m : Nat) (d : DevM) (i : Int) (w : World) (h : Dv n0 w g m d) (hi : 0 ≤ i ∧ i < d.size) (hc : d.cmds < 1000000000) :
    Calls Tryz.prog 77 #[.pointer (some ⟨g, 0, none⟩), .int .i64 i] w fun e w' => e = .returned (.tuple #[.string (bs (readE d i).1), .int .i64 (readE d i).2]) ∧ Below w.heap.size w w' := by
  obtain ⟨⟨v, kv, h⟩, hp⟩ := h
  refine (callsIn_wide (n := 9)).1 ?_
  unfold readE
  split
  · rename_i ho
    exact devread_off n0 g m v kv d i w h ho
  · rename_i ho
    have ho : d.off = false := by simpa using ho
    exact devread_in n0 g m v kv d i w h ho hi (by have := h.fits.2.2.2.1.2; omega)
end Go.Proofs.YtjlcbabnkhdgpaaGreatDoor
