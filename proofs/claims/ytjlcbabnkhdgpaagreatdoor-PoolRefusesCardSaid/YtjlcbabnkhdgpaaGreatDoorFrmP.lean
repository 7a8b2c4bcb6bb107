/-
  What the laws' arguments read as: numbers, texts, a slice of pairs; the sum's table out of the row's list.
-/
import Derived.Test.YtjlcbabnkhdgpaaGreatDoorCards
import Derived.Test.YtjlcbabnkhdgpaaGreatDoorTie
import Derived.Test.YtjlcbabnkhdgpaaGreatDoorTwK
import Derived.WalkKit
import Derived.ProofKit
import Derived.OpenShut
import Derived.SizedLaws
import Derived.Deep.Strs
import Derived.Deep.Slices
import Derived.Deep.Fields
import Derived.Deep.DeepHandedRow
import Derived.Lib.LaidTab
import Derived.ChangeSlices
import Derived.Deep.Slices
namespace Go.Proofs.YtjlcbabnkhdgpaaGreatDoor
set_option linter.unusedSimpArgs false
set_option linter.unusedVariables false
open Go.ChangeShapes Go.WideShapes Go.ChangeAt Go.RowKit Go.Deep

theorem own : ownKnob Tryz.prog.godebug = none := by kernel_rfl
theorem laidOut : laidOutB Tryz.prog = true := by kernel_rfl
theorem weightsAll_mem {H : Type} {P : Program} {e : TypeId} : ∀ {l : List (DataW H)} {d : DataW H}, d ∈ l → ∀ n ∈ d.weights P e, n ∈ DataW.weightsAll P e l
  | _ :: _, _, .head _, n, hn => by simp only [DataW.weightsAll, List.mem_append]; exact Or.inl hn
  | _ :: _, _, .tail _ h, n, hn => by simp only [DataW.weightsAll, List.mem_append]; exact Or.inr (weightsAll_mem h n hn)
theorem weights_str {H : Type} (l : List UInt8) (t : TypeId) : DataW.weights (H := H) Tryz.prog t (.lit (.string l)) = [l.length] := by
  rw [DataW.weights]
set_option maxRecDepth 100000 in
theorem reach_small : reachBytes ≤ 140737488355328 := by decide

/-- What the row's list gives: the sum's table. -/
theorem turns_of {W : World} (h : laidMetH Tryz.prog Rows.poolPinsRow.laid W) : Turns W := by
  have ht : Lib.TabIs Tryz.prog W "concordance/sum.turns" .u32 [0, 498536548, 997073096, 651767980, 1994146192, 1802195444, 1303535960, 1342533948, 3988292384, 4027552580, 3604390888, 3412177804, 2607071920, 2262029012, 2685067896, 3183342108] :=
    Lib.tabIs_of_head (t := 176) (e := 152) (n := 16) (g := 0) (by kernel_rfl) (by kernel_rfl) Tryz.underlying176 Tryz.underlying152 (by kernel_rfl) (by kernel_rfl) (by rw [MakeChecks.laidMetH_plain _ _ _ (by kernel_rfl)] at h; exact h)
  intro i hi
  have := ht.cell (g := 0) (by kernel_rfl) i hi
  rw [this]
  exact congrArg (fun z => some (Value.int .u32 z)) ((by decide +kernel : ∀ i, i < 16 → [(0 : Int), 498536548, 997073096, 651767980, 1994146192, 1802195444, 1303535960, 1342533948, 3988292384, 4027552580, 3604390888, 3412177804, 2607071920, 2262029012, 2685067896, 3183342108].getD i 0 = turnAt i) i hi)

/-- WHAT A WALK THAT ONLY LAYS NEW BLOCKS GIVES: the row's own 'post'. -/
theorem post_below {H : Type} {enc : TypeId × Value → H} {f : Func} {s : ChangeSpec} {apart fresh handsOn : Bool} {W W' : World} {args : Array Value} {v : Value} {ds gs : List (DataW H)} {before pa pv : List MemPlace}
    (hW : DataW.Whole enc Tryz.prog f.params.toList s.vars apart W args.toList ds gs before) (hb : Below W.heap.size W W')
    (hres : ∀ (b : Nat) (sp : Nat → Bool) (hd : Bool), DataW.TrodAll enc Tryz.prog W' b sp hd f.resultTypes.toList (v.resultList f.resultTypes.size) (s.fn H (ds ++ gs)).results [])
    (hargs : DataW.TrodAll enc Tryz.prog W' 0 (fun b => decide (b < W.heap.size)) true f.params.toList args.toList (s.fn H (ds ++ gs)).args pa)
    (hvars : DataW.TrodVars enc Tryz.prog W' (fun b => decide (b < W.heap.size)) s.vars (s.fn H (ds ++ gs)).vars pv) :
    s.post enc Tryz.prog f apart fresh handsOn false W args v W' :=
  ⟨ds, gs, before, [], pa, pv, hW, hres _ _ _, hargs, hvars, hb.frame _, fun h => by cases h⟩

section
variable {H : Type} {enc : TypeId × Value → H} {w : World}
theorem weights_ints {H : Type} (l s : List (DataW H)) : DataW.weights Tryz.prog 22 (.slice l s) = (l.length + s.length) * Tryz.prog.bytesOf 3 :: (DataW.weightsAll Tryz.prog 3 l ++ DataW.weightsAll Tryz.prog 3 s) := by
  rw [DataW.weights, Tryz.underlying22]
set_option maxRecDepth 100000 in
theorem trod_intsP {fuel : Nat} {x : DataW H × List MemPlace} {A : Option Addr} {n cap : Nat} (h : DataW.trod enc Tryz.prog w 0 (fun _ => true) true fuel 22 [.slice A n cap] = some x)
    (hz : ∀ n ∈ x.1.weights Tryz.prog 22, n ≤ reachBytes) (hlt : ∀ y ∈ x.2, y.block < w.heap.size) :
    ∃ ks : List Int, n = ks.length ∧ IntsIn w w.heap.size A ks ∧ (A = none → cap = 0 ∧ ks = []) ∧ ks.length ≤ cap ∧ ks.length ≤ 140737488355328 ∧ cap ≤ 9223372036854775807 ∧ (∀ x ∈ ks, -9223372036854775808 ≤ x ∧ x ≤ 9223372036854775807) := by
  have hc1 : Tryz.prog.cellsOf 3 = 1 := by kernel_rfl
  have hby : Tryz.prog.bytesOf 3 = 8 := by kernel_rfl
  rcases open_ints Tryz.underlying22 Tryz.underlying3 hc1 h with ⟨hcs, rfl⟩ | ⟨a, len, cap', zs, hcs, hb, hlc, hm, hmm, rfl, hel, hwf⟩
  · injection hcs with hcs _
    injection hcs with e1 e2 e3
    subst e1 e2 e3
    exact ⟨[], rfl, fun k hk => absurd hk (by simp), fun _ => ⟨rfl, rfl⟩, Nat.le_refl _, Nat.zero_le _, by omega, fun x hx => by cases hx⟩
  · injection hcs with hcs _
    injection hcs with e1 e2 e3
    subst e1 e2 e3
    simp only [if_true] at hmm
    have hzl : (zs.take n).length = n := by rw [List.length_take]; omega
    refine ⟨zs.take n, hzl.symm, fun k hk => ?_, (fun e => by cases e), by rw [hzl]; exact hlc, ?_, by unfold maxLen at hm; omega, fun x hx => ?_⟩
    · have hk' : k < n := by rw [hzl] at hk; exact hk
      have h0 := hel k (by omega)
      have hz0 : a.spot = none := by
        have h00 := World.cell?_spot (hel 0 (by omega))
        simpa [Addr.add] using h00
      obtain ⟨b, o, sp⟩ := a
      obtain rfl : sp = none := hz0
      have ha : (⟨b, o, none⟩ : Addr).add k = ⟨b, o + k, none⟩ := by unfold Addr.add; split <;> simp_all
      rw [ha] at h0
      have hbl : b < w.heap.size := hlt (.cell b (o + 0)) (MemPlace.mem_row.2 ⟨0, by omega, rfl⟩)
      refine ⟨b, o, rfl, hbl, ?_⟩
      rw [h0]
      have : k < zs.length := by omega
      simp [List.getD, this]
    · rw [hzl]
      have := hz _ (by rw [weights_ints]; exact .head _)
      rw [hby] at this
      simp only [lits, List.length_map, List.length_take, List.length_drop] at this
      have := reach_small
      omega
    · have hw := hwf x (List.mem_of_mem_take hx)
      simp [Lit.wf, IntKind.min, IntKind.max, IntKind.bits, IntKind.signed] at hw
      omega
set_option maxRecDepth 100000 in
theorem open_intsP {b0 : Nat} {d : DataW H} {p : List MemPlace} {v : Value} (hv : Value.okWide Tryz.prog w .any b0 22 v) (h : DataW.Trod enc Tryz.prog w 0 (fun _ => true) true 22 v d p)
    (hz : ∀ n ∈ d.weights Tryz.prog 22, n ≤ reachBytes) (hlt : ∀ x ∈ p, x.block < w.heap.size) :
    ∃ (A : Option Addr) (cap : Nat) (ks : List Int), v = .slice A ks.length cap ∧ IntsIn w w.heap.size A ks ∧ (A = none → cap = 0 ∧ ks = []) ∧ ks.length ≤ cap ∧ ks.length ≤ 140737488355328 ∧ cap ≤ 9223372036854775807 ∧ (∀ x ∈ ks, -9223372036854775808 ≤ x ∧ x ≤ 9223372036854775807) := by
  obtain ⟨A, n, cap, rfl⟩ := okWide_slice Tryz.underlying22 hv
  obtain ⟨fuel, hf⟩ := h
  simp only [Value.cells] at hf
  obtain ⟨ks, rfl, q⟩ := trod_intsP hf hz hlt
  exact ⟨A, cap, ks, rfl, q⟩
end
end Go.Proofs.YtjlcbabnkhdgpaaGreatDoor
