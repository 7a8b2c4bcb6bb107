/-
  What the laws' arguments read as: numbers, texts, a slice of pairs; the sum's table out of the row's list.
-/
import Derived.Test.YtfkhgmdnajiabaaDoorCards
import Derived.Test.YtfkhgmdnajiabaaDoorTie
import Derived.Test.YtfkhgmdnajiabaaDoorTwJ
import Derived.WalkKit
import Derived.ProofKit
import Derived.OpenShut
import Derived.SizedLaws
import Derived.Deep.Strs
import Derived.Deep.Slices
import Derived.Deep.Fields
import Derived.Deep.DeepHandedRow
import Derived.Lib.LaidTab
namespace Go.Proofs.YtfkhgmdnajiabaaDoor
set_option linter.unusedSimpArgs false
set_option linter.unusedVariables false
open Go.ChangeShapes Go.WideShapes Go.ChangeAt Go.RowKit Go.Deep

theorem own : ownKnob Tryd.prog.godebug = none := by kernel_rfl
theorem laidOut : laidOutB Tryd.prog = true := by kernel_rfl
theorem weightsAll_mem {H : Type} {P : Program} {e : TypeId} : ∀ {l : List (DataW H)} {d : DataW H}, d ∈ l → ∀ n ∈ d.weights P e, n ∈ DataW.weightsAll P e l
  | _ :: _, _, .head _, n, hn => by simp only [DataW.weightsAll, List.mem_append]; exact Or.inl hn
  | _ :: _, _, .tail _ h, n, hn => by simp only [DataW.weightsAll, List.mem_append]; exact Or.inr (weightsAll_mem h n hn)
theorem weights_str {H : Type} (l : List UInt8) (t : TypeId) : DataW.weights (H := H) Tryd.prog t (.lit (.string l)) = [l.length] := by
  rw [DataW.weights]
set_option maxRecDepth 100000 in
theorem weights_put {H : Type} (d0 d1 : DataW H) : DataW.weights Tryd.prog 24 (.agg [d0, d1]) = d0.weights Tryd.prog 3 ++ (d1.weights Tryd.prog 9 ++ []) := by
  rw [DataW.weights, Tryd.underlying24]
  rfl
theorem reach_small : reachBytes ≤ 140737488355328 := by decide

/-- What the row's list gives: the sum's table. -/
theorem turns_of {W : World} (h : laidMetH Tryd.prog Rows.twinRefusesRow.laid W) : Turns W := by
  have ht : Lib.TabIs Tryd.prog W "concordance/sum.turns" .u32 [0, 498536548, 997073096, 651767980, 1994146192, 1802195444, 1303535960, 1342533948, 3988292384, 4027552580, 3604390888, 3412177804, 2607071920, 2262029012, 2685067896, 3183342108] :=
    Lib.tabIs_of_head (t := 137) (e := 122) (n := 16) (g := 0) (by kernel_rfl) (by kernel_rfl) Tryd.underlying137 Tryd.underlying122 (by kernel_rfl) (by kernel_rfl) (by rw [MakeChecks.laidMetH_plain _ _ _ (by kernel_rfl)] at h; exact h)
  intro i hi
  have := ht.cell (g := 0) (by kernel_rfl) i hi
  rw [this]
  exact congrArg (fun z => some (Value.int .u32 z)) ((by decide +kernel : ∀ i, i < 16 → [(0 : Int), 498536548, 997073096, 651767980, 1994146192, 1802195444, 1303535960, 1342533948, 3988292384, 4027552580, 3604390888, 3412177804, 2607071920, 2262029012, 2685067896, 3183342108].getD i 0 = turnAt i) i hi)

/-- WHAT A WALK THAT ONLY LAYS NEW BLOCKS GIVES: the row's own 'post'. -/
theorem post_below {H : Type} {enc : TypeId × Value → H} {f : Func} {s : ChangeSpec} {apart fresh handsOn : Bool} {W W' : World} {args : Array Value} {v : Value} {ds gs : List (DataW H)} {before pa pv : List MemPlace}
    (hW : DataW.Whole enc Tryd.prog f.params.toList s.vars apart W args.toList ds gs before) (hb : Below W.heap.size W W')
    (hres : ∀ (b : Nat) (sp : Nat → Bool) (hd : Bool), DataW.TrodAll enc Tryd.prog W' b sp hd f.resultTypes.toList (v.resultList f.resultTypes.size) (s.fn H (ds ++ gs)).results [])
    (hargs : DataW.TrodAll enc Tryd.prog W' 0 (fun b => decide (b < W.heap.size)) true f.params.toList args.toList (s.fn H (ds ++ gs)).args pa)
    (hvars : DataW.TrodVars enc Tryd.prog W' (fun b => decide (b < W.heap.size)) s.vars (s.fn H (ds ++ gs)).vars pv) :
    s.post enc Tryd.prog f apart fresh handsOn false W args v W' :=
  ⟨ds, gs, before, [], pa, pv, hW, hres _ _ _, hargs, hvars, hb.frame _, fun h => by cases h⟩

section
variable {H : Type} {enc : TypeId × Value → H} {w : World}
set_option maxRecDepth 100000 in
/-- Four numbers. -/
theorem open_four {b0 : Nat} {d : DataW H} {p : List MemPlace} {v : Value} (hv : Value.okWide Tryd.prog w .any b0 22 v) (h : DataW.Trod enc Tryd.prog w 0 (fun _ => true) true 22 v d p) :
    ∃ z0 z1 z2 z3 : Int, v = .agg #[.int .i64 z0, .int .i64 z1, .int .i64 z2, .int .i64 z3] := by
  simp only [Value.okWide, Tryd.underlying22] at hv
  obtain ⟨cs, rfl, hsz, _⟩ := hv
  obtain ⟨fuel, hf⟩ := h
  obtain ⟨cs⟩ := cs
  have hcA : Tryd.prog.cellsOf 22 = 4 := by kernel_rfl
  have hcI : Tryd.prog.cellsOf 3 = 1 := by kernel_rfl
  rw [hcA] at hsz
  match cs, hsz with
  | [c0, c1, c2, c3], _ =>
    simp only [Value.cells] at hf
    obtain ⟨xs, m, _, hx, _, hxl, hi⟩ := DataW.trod_array Tryd.underlying22 hf
    have hint : ∀ i, i < 4 → ∃ z : Int, [c0, c1, c2, c3][i]? = some (.int .i64 z) := by
      intro i hi4
      have hh := hi i hi4
      rw [hcI] at hh
      obtain ⟨x, hx⟩ : ∃ x, xs[i]? = some x := ⟨_, List.getElem?_eq_getElem (by omega)⟩
      rw [hx] at hh
      obtain ⟨z, hz, _⟩ := DataW.trod_int Tryd.underlying3 hh
      refine ⟨z, ?_⟩
      have := congrArg (·[0]?) hz
      simpa [List.getElem?_take, List.getElem?_drop] using this
    obtain ⟨z0, q0⟩ := hint 0 (by omega)
    obtain ⟨z1, q1⟩ := hint 1 (by omega)
    obtain ⟨z2, q2⟩ := hint 2 (by omega)
    obtain ⟨z3, q3⟩ := hint 3 (by omega)
    obtain rfl : c0 = _ := by simpa using q0
    obtain rfl : c1 = _ := by simpa using q1
    obtain rfl : c2 = _ := by simpa using q2
    obtain rfl : c3 = _ := by simpa using q3
    exact ⟨z0, z1, z2, z3, rfl⟩
set_option maxRecDepth 100000 in
/-- A Put's two cells. -/
theorem trod_put {base : Nat} {spare : Nat → Bool} {held : Bool} {n : Nat} {cs : List Value} {x : DataW H × List MemPlace} (h : DataW.trod enc Tryd.prog w base spare held n 24 cs = some x) :
    ∃ (z : Int) (t : List UInt8), cs = [.int .i64 z, .string (bs t)] ∧ x.1 = .agg [.lit (.int .i64 z), .lit (.string t)] ∧ in64 z := by
  obtain ⟨y0, y1, n', rfl, hl, h0, h1⟩ := trod_struct2 Tryd.underlying24 h
  have hc : Tryd.prog.cellsOf 24 = 2 := by kernel_rfl
  have hs : Tryd.prog.cellsOf 9 = 1 := by kernel_rfl
  have hi : Tryd.prog.cellsOf 3 = 1 := by kernel_rfl
  rw [hc] at hl
  match cs, hl with
  | [c0, c1], _ =>
    simp only [hs, hi, List.drop_zero, List.take_succ_cons, List.take_zero, List.drop_succ_cons] at h0 h1
    obtain ⟨z, e0, rfl, hwf⟩ := DataW.trod_int Tryd.underlying3 h0
    obtain ⟨s1, e1, rfl, _⟩ := DataW.trod_string Tryd.underlying9 h1
    obtain rfl : c0 = _ := by simpa using e0
    obtain rfl : c1 = _ := by simpa using e1
    refine ⟨z, s1.data.toList, by simp [bs_of], rfl, ?_⟩
    have : (Lit.int .i64 z).wf = true := hwf
    simp [Lit.wf, IntKind.min, IntKind.max, IntKind.bits, IntKind.signed] at this
    unfold in64
    omega
set_option maxRecDepth 100000 in
theorem open_put {b0 : Nat} {d : DataW H} {p : List MemPlace} {v : Value} (hv : Value.okWide Tryd.prog w .any b0 24 v) (h : DataW.Trod enc Tryd.prog w 0 (fun _ => true) true 24 v d p)
    (hz : ∀ n ∈ d.weights Tryd.prog 24, n ≤ reachBytes) :
    ∃ (z : Int) (t : List UInt8), v = .agg #[.int .i64 z, .string (bs t)] ∧ t.length ≤ 140737488355328 := by
  obtain ⟨cs, rfl, hsz⟩ := okWide_struct Tryd.underlying24 hv
  obtain ⟨fuel, hf⟩ := h
  obtain ⟨z, t, e, e2, _⟩ := trod_put hf
  obtain ⟨cs⟩ := cs
  simp only [Value.cells] at e
  subst e
  dsimp only at e2
  subst e2
  refine ⟨z, t, rfl, ?_⟩
  have := hz t.length (by rw [weights_put, weights_str]; exact List.mem_append_right _ (List.mem_append_left _ (.head _)))
  exact Nat.le_trans this reach_small
end
end Go.Proofs.YtfkhgmdnajiabaaDoor
