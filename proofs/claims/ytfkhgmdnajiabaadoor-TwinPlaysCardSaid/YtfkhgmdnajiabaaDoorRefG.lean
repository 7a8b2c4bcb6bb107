/-
  Walks: the document's answer for layer 5: Nothing, Whole.
-/
import Derived.Test.YtfkhgmdnajiabaaDoorRefC
import Derived.Test.YtfkhgmdnajiabaaDoorLate
namespace Go.Proofs.YtfkhgmdnajiabaaDoor
set_option linter.unusedSimpArgs false
set_option linter.unusedVariables false
open Go.RowKit

set_option maxHeartbeats 800000 in
set_option maxRecDepth 100000 in
theorem refnothing_any (l : List UInt8) (hl : l.length ≤ 140737488355300) (w : World) :
    Calls Tryd.prog 16 #[.string (bs l)] w fun e w' => e = .returned (.bool (noughtsB l)) ∧ w = w' := by
  go_enter Tryd.func16, Tryd.ntmps16
  go_wp2
  go_loopg [3] l.length (fun g i wr => w = wr ∧ ∃ k : Nat, k ≤ l.length ∧ g = l.length - k ∧ i = .int .i64 k ∧ noughtsB (l.take k) = true)
  case atStart => exact ⟨rfl, 0, Nat.zero_le _, rfl, rfl, rfl⟩
  case round =>
    obtain ⟨rfl, k, hk, rfl, rfl, hz⟩ := hrel
    have HZ := Lib.hid hz
    clear hz
    by_cases hlt : k < l.length
    · obtain ⟨x, hx⟩ : ∃ x, x = l[k] := ⟨_, rfl⟩
      have hg : ((bs l)[k]'(by simpa using hlt)) = x := by rw [bs_get, hx]
      have HN : Hid (noughtsB (l.take (k + 1)) = (x == 0)) := by
        apply Lib.hid
        rw [List.take_succ_eq_append_getElem hlt, noughtsB, List.all_append, ← noughtsB, HZ.out, ← hx]
        simp
      have HF : Hid (x ≠ 0 → noughtsB l = false) := by
        apply Lib.hid
        intro h
        unfold noughtsB
        rw [List.all_eq_false]
        exact ⟨x, by rw [hx]; exact List.getElem_mem hlt, by simpa using h⟩
      clear hx
      have hxl := x.toNat_lt
      by_cases h0 : x = 0
      · have e0 : ((((bs l)[k]'(by simpa using hlt)).toNat : Int) != 0) = false := by rw [hg, h0]; rfl
        have HN2 : Hid (noughtsB (l.take (k + 1)) = true) := Lib.hid (by rw [HN.out, h0]; rfl)
        clear hg HF HN h0 hxl
        go_wp2
        go_roundg (l.length - (k + 1))
        case measure => omega
        case rel => exact ⟨rfl, k + 1, by omega, rfl, by go_num, HN2.out⟩
      · have e0 : ((((bs l)[k]'(by simpa using hlt)).toNat : Int) != 0) = true := by
          rw [hg, bne_iff_ne]
          intro h
          exact h0 (UInt8.toNat_inj.1 (by rw [show (0 : UInt8).toNat = 0 from rfl]; omega))
        have HF2 := Lib.hid (HF.out h0)
        clear hg HF HN h0 hxl
        go_wp2
        go_ret
        exact ⟨ret_bool HF2.out.symm, rfl⟩
    · go_wp2
      go_ret
      exact ⟨ret_bool (by rw [← HZ.out, List.take_of_length_le (by omega)]), rfl⟩

theorem sealed_eq (l : List UInt8) (h : l.length = 512) : (sealB (l.take 508) == l) = sealedB l := by
  rw [Bool.eq_iff_iff, beq_iff_eq, sealedB_iff l (by omega), h]

set_option maxHeartbeats 1600000 in
set_option maxRecDepth 100000 in
theorem refwhole_t (l : List UInt8) (h : l.length = 512) (hs : (sealB (l.take 508) == l) = true) (w : World) :
    Calls Tryd.prog 34 #[.string (bs l)] w fun e w' => e = .returned (.bool (sealedB l && twiceB l)) ∧ Below w.heap.size w w' := by
  have HR : Hid ((sealedB l && twiceB l) = (true && (l.take 6 == (l.take 508).drop 502))) := by
    apply Lib.hid
    rw [← hs, sealed_eq l h]
    unfold twiceB
    rw [List.take_take]
    rfl
  have hl5 : (l.take 508).length ≤ 140737488355300 := by simp; omega
  have HL := Lib.hid hl5
  clear hl5
  go_enter Tryd.func34, Tryd.ntmps34
  go_wp2_with fail
  refine wp_region_late 11 (fun _ => True) (by kernel_rfl) ?_
  have hbd : Below w.heap.size w w.drew := (Below.refl _ _).drew
  generalize hw1 : w.drew = w1 at *
  show wpAnyK _ _ _ _ _ 11 13 #[false,false,false,false,false,false,false,false,false,false,false,false,false] _ _
  refine wpAnyK_takeAny (i := 0) (oi := ⟨some 3, _, _, _, _, _⟩) (v := ?_) rfl (by kernel_rfl) (by kernel_rfl) (by kernel_rfl) (by kernel_rfl) (fun _ _ _ h => h) (Or.inl ⟨by kernel_rfl, ?_⟩) (fun _ => trivial) ?_
  rotate_left
  · intro w'; go_simp; rfl
  try simp only [Act.put, List.setIfInBounds_toArray, List.set_cons_zero, List.set_cons_succ]
  refine wpAnyK_takeAny (i := 1) (oi := ⟨some 4, _, _, _, _, _⟩) (v := ?_) rfl (by kernel_rfl) (by kernel_rfl) (by kernel_rfl) (by kernel_rfl) (fun _ _ _ h => h) (Or.inl ⟨by kernel_rfl, ?_⟩) (fun _ => trivial) ?_
  rotate_left
  · intro w'; go_simp; rfl
  try simp only [Act.put, List.setIfInBounds_toArray, List.set_cons_zero, List.set_cons_succ]
  refine wpAnyK_takeAny (i := 3) (oi := ⟨some 6, _, _, _, _, _⟩) (v := ?_) rfl (by kernel_rfl) (by kernel_rfl) (by kernel_rfl) (by kernel_rfl) (fun _ _ _ h => h) (Or.inl ⟨by kernel_rfl, ?_⟩) (fun _ => trivial) ?_
  rotate_left
  · intro w'; go_simp; rfl
  try simp only [Act.put, List.setIfInBounds_toArray, List.set_cons_zero, List.set_cons_succ]
  refine wpAnyK_ready (rs := [2]) (by kernel_rfl) (by simp) ?_
  refine AllReadyK.cons (o := ⟨some 5, _, _, _, _, _⟩) rfl (fun K hK => ?_) AllReadyK.nil
  go_simp
  refine (refseal_any _ HL.out w1).mono ?_
  rintro e w2 ⟨rfl, hbx⟩
  have hb2 : Below w.heap.size w w2 := hbd.trans (hbx.mono hbd.size)
  clear hbx
  refine hK _ _ (fun _ => trivial) ?_
  clear hK K
  refine wpAnyK_takeAny (i := 4) (oi := ⟨some 7, _, _, _, _, _⟩) (v := ?_) rfl (by kernel_rfl) (by kernel_rfl) (by kernel_rfl) (by kernel_rfl) (fun _ _ _ h => h) (Or.inl ⟨by kernel_rfl, ?_⟩) (fun _ => trivial) ?_
  rotate_left
  · intro w'; go_simp; rfl
  try simp only [Act.put, List.setIfInBounds_toArray, List.set_cons_zero, List.set_cons_succ]
  refine wpAnyK_takeAny (i := 5) (oi := ⟨some 8, _, _, _, _, _⟩) (v := ?_) rfl (by kernel_rfl) (by kernel_rfl) (by kernel_rfl) (by kernel_rfl) (fun _ _ _ h => h) (Or.inl ⟨by kernel_rfl, ?_⟩) (fun _ => trivial) ?_
  rotate_left
  · intro w'; go_simp; rfl
  try simp only [Act.put, List.setIfInBounds_toArray, List.set_cons_zero, List.set_cons_succ]
  refine wpAnyK_takeAny (i := 6) (oi := ⟨some 9, _, _, _, _, _⟩) (v := ?_) rfl (by kernel_rfl) (by kernel_rfl) (by kernel_rfl) (by kernel_rfl) (fun _ _ _ h => h) (Or.inl ⟨by kernel_rfl, ?_⟩) (fun _ => trivial) ?_
  rotate_left
  · intro w'; go_simp; rfl
  try simp only [Act.put, List.setIfInBounds_toArray, List.set_cons_zero, List.set_cons_succ]
  refine wpAnyK_takeAny (i := 7) (oi := ⟨some 10, _, _, _, _, _⟩) (v := ?_) rfl (by kernel_rfl) (by kernel_rfl) (by kernel_rfl) (by kernel_rfl) (fun _ _ _ h => h) (Or.inl ⟨by kernel_rfl, ?_⟩) (fun _ => trivial) ?_
  rotate_left
  · intro w'; go_simp; rfl
  try simp only [Act.put, List.setIfInBounds_toArray, List.set_cons_zero, List.set_cons_succ]
  refine wpAnyK_takeAny (i := 8) (oi := ⟨some 11, _, _, _, _, _⟩) (v := ?_) rfl (by kernel_rfl) (by kernel_rfl) (by kernel_rfl) (by kernel_rfl) (fun _ _ _ h => h) (Or.inl ⟨by kernel_rfl, ?_⟩) (fun _ => trivial) ?_
  rotate_left
  · intro w'; go_simp; rfl
  try simp only [Act.put, List.setIfInBounds_toArray, List.set_cons_zero, List.set_cons_succ]
  refine wpAnyK_takeAny (i := 9) (oi := ⟨some 12, _, _, _, _, _⟩) (v := ?_) rfl (by kernel_rfl) (by kernel_rfl) (by kernel_rfl) (by kernel_rfl) (fun _ _ _ h => h) (Or.inl ⟨by kernel_rfl, ?_⟩) (fun _ => trivial) ?_
  rotate_left
  · intro w'; go_simp; rfl
  try simp only [Act.put, List.setIfInBounds_toArray, List.set_cons_zero, List.set_cons_succ]
  refine wpAnyK_takeAny (i := 10) (oi := ⟨some 13, _, _, _, _, _⟩) (v := ?_) rfl (by kernel_rfl) (by kernel_rfl) (by kernel_rfl) (by kernel_rfl) (fun _ _ _ h => h) (Or.inl ⟨by kernel_rfl, ?_⟩) (fun _ => trivial) ?_
  rotate_left
  · intro w'; go_simp; rfl
  try simp only [Act.put, List.setIfInBounds_toArray, List.set_cons_zero, List.set_cons_succ]
  refine wpAnyK_ready (rs := [11]) (by kernel_rfl) (by simp) ?_
  refine AllReadyK.cons (o := ⟨some 14, _, _, _, _, _⟩) rfl (fun K hK => ?_) AllReadyK.nil
  go_simp
  refine hK _ _ (fun h => by cases h) ?_
  clear hK K
  refine wpAnyK_ready (rs := [12]) (by kernel_rfl) (by simp) ?_
  refine AllReadyK.cons (o := ⟨some 2, _, _, _, _, _⟩) rfl (fun K hK => ?_) AllReadyK.nil
  go_simp
  refine hK _ _ (fun h => by cases h) ?_
  clear hK K
  refine wpAnyK_done (by kernel_rfl) ?_ _
  go_wp2_with fail
  go_ret
  exact ⟨by rw [HR.out]; rfl, hb2⟩

set_option maxHeartbeats 1600000 in
set_option maxRecDepth 100000 in
theorem refwhole_f (l : List UInt8) (h : l.length = 512) (hs : (sealB (l.take 508) == l) = false) (w : World) :
    Calls Tryd.prog 34 #[.string (bs l)] w fun e w' => e = .returned (.bool (sealedB l && twiceB l)) ∧ Below w.heap.size w w' := by
  have HR : Hid ((sealedB l && twiceB l) = (false && (l.take 6 == (l.take 508).drop 502))) := by
    apply Lib.hid
    rw [← hs, sealed_eq l h]
    unfold twiceB
    rw [List.take_take]
    rfl
  have hl5 : (l.take 508).length ≤ 140737488355300 := by simp; omega
  have HL := Lib.hid hl5
  clear hl5
  go_enter Tryd.func34, Tryd.ntmps34
  go_wp2_with fail
  refine wp_region_late 11 (fun _ => True) (by kernel_rfl) ?_
  have hbd : Below w.heap.size w w.drew := (Below.refl _ _).drew
  generalize hw1 : w.drew = w1 at *
  show wpAnyK _ _ _ _ _ 11 13 #[false,false,false,false,false,false,false,false,false,false,false,false,false] _ _
  refine wpAnyK_takeAny (i := 0) (oi := ⟨some 3, _, _, _, _, _⟩) (v := ?_) rfl (by kernel_rfl) (by kernel_rfl) (by kernel_rfl) (by kernel_rfl) (fun _ _ _ h => h) (Or.inl ⟨by kernel_rfl, ?_⟩) (fun _ => trivial) ?_
  rotate_left
  · intro w'; go_simp; rfl
  try simp only [Act.put, List.setIfInBounds_toArray, List.set_cons_zero, List.set_cons_succ]
  refine wpAnyK_takeAny (i := 1) (oi := ⟨some 4, _, _, _, _, _⟩) (v := ?_) rfl (by kernel_rfl) (by kernel_rfl) (by kernel_rfl) (by kernel_rfl) (fun _ _ _ h => h) (Or.inl ⟨by kernel_rfl, ?_⟩) (fun _ => trivial) ?_
  rotate_left
  · intro w'; go_simp; rfl
  try simp only [Act.put, List.setIfInBounds_toArray, List.set_cons_zero, List.set_cons_succ]
  refine wpAnyK_takeAny (i := 3) (oi := ⟨some 6, _, _, _, _, _⟩) (v := ?_) rfl (by kernel_rfl) (by kernel_rfl) (by kernel_rfl) (by kernel_rfl) (fun _ _ _ h => h) (Or.inl ⟨by kernel_rfl, ?_⟩) (fun _ => trivial) ?_
  rotate_left
  · intro w'; go_simp; rfl
  try simp only [Act.put, List.setIfInBounds_toArray, List.set_cons_zero, List.set_cons_succ]
  refine wpAnyK_ready (rs := [2]) (by kernel_rfl) (by simp) ?_
  refine AllReadyK.cons (o := ⟨some 5, _, _, _, _, _⟩) rfl (fun K hK => ?_) AllReadyK.nil
  go_simp
  refine (refseal_any _ HL.out w1).mono ?_
  rintro e w2 ⟨rfl, hbx⟩
  have hb2 : Below w.heap.size w w2 := hbd.trans (hbx.mono hbd.size)
  clear hbx
  refine hK _ _ (fun _ => trivial) ?_
  clear hK K
  refine wpAnyK_takeAny (i := 4) (oi := ⟨some 7, _, _, _, _, _⟩) (v := ?_) rfl (by kernel_rfl) (by kernel_rfl) (by kernel_rfl) (by kernel_rfl) (fun _ _ _ h => h) (Or.inl ⟨by kernel_rfl, ?_⟩) (fun _ => trivial) ?_
  rotate_left
  · intro w'; go_simp; rfl
  try simp only [Act.put, List.setIfInBounds_toArray, List.set_cons_zero, List.set_cons_succ]
  refine wpAnyK_takeAny (i := 5) (oi := ⟨some 8, _, _, _, _, _⟩) (v := ?_) rfl (by kernel_rfl) (by kernel_rfl) (by kernel_rfl) (by kernel_rfl) (fun _ _ _ h => h) (Or.inl ⟨by kernel_rfl, ?_⟩) (fun _ => trivial) ?_
  rotate_left
  · intro w'; go_simp; rfl
  try simp only [Act.put, List.setIfInBounds_toArray, List.set_cons_zero, List.set_cons_succ]
  refine wpAnyK_takeAny (i := 6) (oi := ⟨some 9, _, _, _, _, _⟩) (v := undef) rfl (by kernel_rfl) (by kernel_rfl) (by kernel_rfl) (by kernel_rfl) (fun _ _ _ h => h) (Or.inr ⟨by kernel_rfl, rfl⟩) (fun _ => trivial) ?_
  try simp only [Act.put, List.setIfInBounds_toArray, List.set_cons_zero, List.set_cons_succ]
  refine wpAnyK_takeAny (i := 7) (oi := ⟨some 10, _, _, _, _, _⟩) (v := undef) rfl (by kernel_rfl) (by kernel_rfl) (by kernel_rfl) (by kernel_rfl) (fun _ _ _ h => h) (Or.inr ⟨by kernel_rfl, rfl⟩) (fun _ => trivial) ?_
  try simp only [Act.put, List.setIfInBounds_toArray, List.set_cons_zero, List.set_cons_succ]
  refine wpAnyK_takeAny (i := 8) (oi := ⟨some 11, _, _, _, _, _⟩) (v := undef) rfl (by kernel_rfl) (by kernel_rfl) (by kernel_rfl) (by kernel_rfl) (fun _ _ _ h => h) (Or.inr ⟨by kernel_rfl, rfl⟩) (fun _ => trivial) ?_
  try simp only [Act.put, List.setIfInBounds_toArray, List.set_cons_zero, List.set_cons_succ]
  refine wpAnyK_takeAny (i := 9) (oi := ⟨some 12, _, _, _, _, _⟩) (v := undef) rfl (by kernel_rfl) (by kernel_rfl) (by kernel_rfl) (by kernel_rfl) (fun _ _ _ h => h) (Or.inr ⟨by kernel_rfl, rfl⟩) (fun _ => trivial) ?_
  try simp only [Act.put, List.setIfInBounds_toArray, List.set_cons_zero, List.set_cons_succ]
  refine wpAnyK_takeAny (i := 10) (oi := ⟨some 13, _, _, _, _, _⟩) (v := undef) rfl (by kernel_rfl) (by kernel_rfl) (by kernel_rfl) (by kernel_rfl) (fun _ _ _ h => h) (Or.inr ⟨by kernel_rfl, rfl⟩) (fun _ => trivial) ?_
  try simp only [Act.put, List.setIfInBounds_toArray, List.set_cons_zero, List.set_cons_succ]
  refine wpAnyK_ready (rs := [11]) (by kernel_rfl) (by simp) ?_
  refine AllReadyK.cons (o := ⟨some 14, _, _, _, _, _⟩) rfl (fun K hK => ?_) AllReadyK.nil
  go_simp
  refine hK _ _ (fun h => by cases h) ?_
  clear hK K
  refine wpAnyK_ready (rs := [12]) (by kernel_rfl) (by simp) ?_
  refine AllReadyK.cons (o := ⟨some 2, _, _, _, _, _⟩) rfl (fun K hK => ?_) AllReadyK.nil
  go_simp
  refine hK _ _ (fun h => by cases h) ?_
  clear hK K
  refine wpAnyK_done (by kernel_rfl) ?_ _
  go_wp2_with fail
  go_ret
  exact ⟨by rw [HR.out]; rfl, hb2⟩

theorem refwhole_any (l : List UInt8) (h : l.length = 512) (w : World) :
    Calls Tryd.prog 34 #[.string (bs l)] w fun e w' => e = .returned (.bool (sealedB l && twiceB l)) ∧ Below w.heap.size w w' := by
  cases hs : (sealB (l.take 508) == l) with
  | true => exact refwhole_t l h hs w
  | false => exact refwhole_f l h hs w
end Go.Proofs.YtfkhgmdnajiabaaDoor
