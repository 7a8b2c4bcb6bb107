/-
  What the page laws' arguments read as: a page of drawn numbers, opened to its cells; the sum's table out of the row's list.
-/
import Derived.Test.YtlhcfmcbfdihoaaDoorCards
import Derived.Test.YtlhcfmcbfdihoaaDoorTie
import Derived.Test.YtlhcfmcbfdihoaaDoorSumC
import Derived.Test.YtlhcfmcbfdihoaaDoorLawB
import Derived.Test.YtlhcfmcbfdihoaaDoorEnt
import Derived.WalkKit
import Derived.ProofKit
import Derived.OpenShut
import Derived.SizedLaws
import Derived.Deep.Strs
import Derived.Deep.Slices
import Derived.Deep.Fields
import Derived.Deep.DeepHandedRow
import Derived.Lib.LaidTab
namespace Go.Proofs.YtlhcfmcbfdihoaaDoor
set_option linter.unusedSimpArgs false
set_option linter.unusedVariables false
open Go.ChangeShapes Go.WideShapes Go.ChangeAt Go.RowKit Go.Deep

theorem own : ownKnob Tryd.prog.godebug = none := by kernel_rfl
theorem laidOut : laidOutB Tryd.prog = true := by kernel_rfl

section
variable {H : Type} {enc : TypeId × Value → H} {w : World} {base : Nat} {spare : Nat → Bool} {held : Bool}
set_option maxRecDepth 100000 in
theorem trod_entry {n : Nat} {cs : List Value} {x : DataW H × List MemPlace} (h : DataW.trod enc Tryd.prog w base spare held n 58 cs = some x) :
    ∃ e : Ent, cs = entCells e ∧ x.1 = .agg [.lit (.string e.key), .lit (.string e.value), .lit (.bool e.marked)] := by
  obtain ⟨y0, y1, y2, n', rfl, hl, h0, h1, h2⟩ := trod_struct3 Tryd.underlying58 h
  have hc : Tryd.prog.cellsOf 58 = 3 := by kernel_rfl
  have hs : Tryd.prog.cellsOf 9 = 1 := by kernel_rfl
  have hb : Tryd.prog.cellsOf 4 = 1 := by kernel_rfl
  rw [hc] at hl
  match cs, hl with
  | [c0, c1, c2], _ =>
    simp only [hs, hb, List.drop_zero, List.take_succ_cons, List.take_zero, List.drop_succ_cons] at h0 h1 h2
    obtain ⟨s0, e0, rfl, _⟩ := DataW.trod_string Tryd.underlying9 h0
    obtain ⟨s1, e1, rfl, _⟩ := DataW.trod_string Tryd.underlying9 h1
    obtain ⟨b2, e2, rfl⟩ := DataW.trod_bool Tryd.underlying4 h2
    obtain rfl : c0 = _ := by simpa using e0
    obtain rfl : c1 = _ := by simpa using e1
    obtain rfl : c2 = _ := by simpa using e2
    exact ⟨⟨s0.data.toList, s1.data.toList, b2⟩, by simp [entCells, bs_of], rfl⟩
end

theorem weightsAll_mem {H : Type} {P : Program} {e : TypeId} : ∀ {l : List (DataW H)} {d : DataW H}, d ∈ l → ∀ n ∈ d.weights P e, n ∈ DataW.weightsAll P e l
  | _ :: _, _, .head _, n, hn => by simp only [DataW.weightsAll, List.mem_append]; exact Or.inl hn
  | _ :: _, _, .tail _ h, n, hn => by simp only [DataW.weightsAll, List.mem_append]; exact Or.inr (weightsAll_mem h n hn)

theorem weights_raw {H : Type} (d0 d1 d2 : DataW H) : DataW.weights Tryd.prog 25 (.agg [d0, d1, d2]) = d0.weights Tryd.prog 22 ++ (d1.weights Tryd.prog 9 ++ (d2.weights Tryd.prog 23 ++ [])) := by
  rw [DataW.weights, Tryd.underlying25]
  rfl
theorem weights_ent {H : Type} (d0 d1 d2 : DataW H) : DataW.weights Tryd.prog 58 (.agg [d0, d1, d2]) = d0.weights Tryd.prog 9 ++ (d1.weights Tryd.prog 9 ++ (d2.weights Tryd.prog 4 ++ [])) := by
  rw [DataW.weights, Tryd.underlying58]
  rfl
theorem weights_ents {H : Type} (l s : List (DataW H)) : DataW.weights Tryd.prog 23 (.slice l s) = (l.length + s.length) * Tryd.prog.bytesOf 58 :: (DataW.weightsAll Tryd.prog 58 l ++ DataW.weightsAll Tryd.prog 58 s) := by
  rw [DataW.weights, Tryd.underlying23]
theorem weights_str {H : Type} (l : List UInt8) (t : TypeId) : DataW.weights (H := H) Tryd.prog t (.lit (.string l)) = [l.length] := by
  rw [DataW.weights]
  
set_option maxRecDepth 100000 in
theorem open_raw {H : Type} {enc : TypeId × Value → H} {w : World} {b0 : Nat} {d : DataW H} {p : List MemPlace} {v : Value}
    (hv : Value.okWide Tryd.prog w .any b0 25 v) (h : DataW.Trod enc Tryd.prog w 0 (fun _ => true) true 25 v d p)
    (hz : ∀ n ∈ d.weights Tryd.prog 25, n ≤ reachBytes) (hlt : ∀ x ∈ p, x.block < w.heap.size) :
    ∃ (x : Pg) (A : Option Addr) (c : Nat), v = .agg #[.int .i64 x.lsn, .int .i64 x.kind, .int .i64 x.level, .int .i64 x.right, .string (bs x.high), .slice A x.ents.length c] ∧ Handed x ∧ ReadsE w w.heap.size A x.ents := by
  obtain ⟨cs, rfl, hsz⟩ := okWide_struct Tryd.underlying25 hv
  obtain ⟨fuel, hf⟩ := h
  obtain ⟨y0, y1, y2, n, hx, hl, h0, h1, h2⟩ := trod_struct3 Tryd.underlying25 hf
  obtain ⟨cs⟩ := cs
  have hcR : Tryd.prog.cellsOf 25 = 6 := by kernel_rfl
  have hcA : Tryd.prog.cellsOf 22 = 4 := by kernel_rfl
  have hcI : Tryd.prog.cellsOf 3 = 1 := by kernel_rfl
  have hcS : Tryd.prog.cellsOf 9 = 1 := by kernel_rfl
  have hcL : Tryd.prog.cellsOf 23 = 1 := by kernel_rfl
  have hcE : Tryd.prog.cellsOf 58 = 3 := by kernel_rfl
  rw [hcR] at hsz
  match cs, hsz with
  | [c0, c1, c2, c3, c4, c5], _ =>
    simp only [Value.cells, hcA, hcS, hcL, List.drop_zero, List.take_succ_cons, List.take_zero, List.drop_succ_cons] at h0 h1 h2
    obtain ⟨s4, e4, rfl, _⟩ := DataW.trod_string Tryd.underlying9 h1
    obtain rfl : c4 = _ := by simpa using e4
    obtain ⟨xs, m, _, rfl, _, hxl, hi⟩ := DataW.trod_array Tryd.underlying22 h0
    have hint : ∀ i, i < 4 → ∃ z : Int, [c0, c1, c2, c3][i]? = some (.int .i64 z) := by
      intro i hi4
      have hh := hi i hi4
      rw [hcI] at hh
      obtain ⟨x, hx⟩ : ∃ x, xs[i]? = some x := ⟨_, List.getElem?_eq_getElem (by omega)⟩
      rw [hx] at hh
      obtain ⟨z, hz, _⟩ := DataW.trod_int Tryd.underlying3 hh
      refine ⟨z, ?_⟩
      have := congrArg (·[0]?) hz
      simpa [List.getElem?_take, List.getElem?_drop] using this
    obtain ⟨z0, q0⟩ := hint 0 (by omega)
    obtain ⟨z1, q1⟩ := hint 1 (by omega)
    obtain ⟨z2, q2⟩ := hint 2 (by omega)
    obtain ⟨z3, q3⟩ := hint 3 (by omega)
    obtain rfl : c0 = _ := by simpa using q0
    obtain rfl : c1 = _ := by simpa using q1
    obtain rfl : c2 = _ := by simpa using q2
    obtain rfl : c3 = _ := by simpa using q3
    simp only [Prod.mk.injEq] at hx
    obtain ⟨rfl, rfl⟩ := hx
    have hst : s4.size ≤ reachBytes := hz _ (by rw [weights_raw, weights_str]; exact List.mem_append_right _ (List.mem_append_left _ (.head _)))
    have hreach : reachBytes ≤ 140737488355328 := by decide
    rcases open_slice Tryd.underlying23 h2 with ⟨hcs, rfl⟩ | ⟨a, len, cap, m', n', D, Pl, hcs, hb, hlc, hm, hmm, hy, hel⟩
    · obtain rfl : c5 = _ := by simpa using hcs
      refine ⟨⟨z0, z1, z2, z3, s4.data.toList, []⟩, none, 0, by rw [bs_of]; rfl, ⟨?_, Nat.zero_le _, fun e h => by cases h⟩, Reads.none_⟩
      exact Nat.le_trans hst hreach
    · obtain rfl : c5 = _ := by simpa using hcs
      have hall : ∀ i, i < len → ∃ e : Ent, w.cells? 0 (a.add (i * 3)) 3 = some (entCells e) ∧ D i = .agg [.lit (.string e.key), .lit (.string e.value), .lit (.bool e.marked)] := by
        intro i hi'
        obtain ⟨cs', hc', ht'⟩ := hel i (by rw [hmm]; exact Nat.lt_of_lt_of_le hi' hlc)
        rw [hcE] at hc'
        obtain ⟨e, he, hd⟩ := trod_entry ht'
        subst he
        exact ⟨e, hc', hd⟩
      obtain ⟨E, hE⟩ : ∃ E : Nat → Ent, ∀ i, i < len → w.cells? 0 (a.add (i * 3)) 3 = some (entCells (E i)) ∧ D i = .agg [.lit (.string (E i).key), .lit (.string (E i).value), .lit (.bool (E i).marked)] := by
        refine ⟨fun i => if h : i < len then (hall i h).choose else ⟨[], [], false⟩, fun i hi' => ?_⟩
        simp only [dif_pos hi']
        exact (hall i hi').choose_spec
      have hy' := hy
      subst hy
      have hen : ((List.range len).map E).length = len := by simp
      have hbytes : Tryd.prog.bytesOf 58 = 40 := by kernel_rfl
      refine ⟨⟨z0, z1, z2, z3, s4.data.toList, (List.range len).map E⟩, some a, cap, by rw [bs_of, hen], ⟨Nat.le_trans hst hreach, ?_, ?_⟩, ?_⟩
      · rw [hen]
        have := hz _ (by rw [weights_raw, weights_ents]; exact List.mem_append_right _ (List.mem_append_right _ (List.mem_append_left _ (.head _))))
        rw [hbytes] at this
        simp only [List.length_map, List.length_range] at this
        omega
      · intro e he
        obtain ⟨i, hi', rfl⟩ := List.mem_map.1 he
        rw [List.mem_range] at hi'
        have hin : ∀ n ∈ (D i).weights Tryd.prog 58, n ≤ reachBytes := fun n hn => hz n (by
          rw [weights_raw, weights_ents]
          exact List.mem_append_right _ (List.mem_append_right _ (List.mem_append_left _ (.tail _ (List.mem_append_left _ (weightsAll_mem (List.mem_map.2 ⟨i, List.mem_range.2 hi', rfl⟩) n hn))))))
        rw [(hE i hi').2, weights_ent, weights_str, weights_str] at hin
        exact ⟨Nat.le_trans (hin _ (List.mem_append_left _ (.head _))) hreach, Nat.le_trans (hin _ (List.mem_append_right _ (List.mem_append_left _ (.head _)))) hreach⟩
      · refine ⟨by rw [entsCells_length], fun hn => ⟨a, rfl, ?_, ?_⟩⟩
        · rw [hen] at hn
          have hm0 : 0 < m' := by rw [hmm]; exact Nat.lt_of_lt_of_le hn hlc
          refine hlt (.cell a.block (a.off + 0)) (List.mem_append_right _ (List.mem_append_right _ (List.mem_append_left _ (MemPlace.mem_row.2 ⟨0, ?_, rfl⟩))))
          rw [hcE]; omega
        · intro j u hu
          have hj : j < len * 3 := by
            have := (List.getElem?_eq_some_iff.1 hu).1
            rwa [entsCells_length, hen] at this
          have hk : j / 3 < len := by omega
          have hk' : j / 3 < ((List.range len).map E).length := by rw [hen]; exact hk
          have hu' := hu
          rw [show j = j / 3 * 3 + j % 3 by omega, entsCells_at _ _ hk' _ (by omega)] at hu
          obtain ⟨_, _, hat⟩ := World.cells?_some (hE (j / 3) hk).1
          have := hat (j % 3) (by omega)
          rw [add_of_add, show j / 3 * 3 + j % 3 = j by omega] at this
          rw [this, ← hu]
          congr 2
          simp

/-- What the row's list gives: the sum's table. -/
theorem turns_of {W : World} (h : laidMetH Tryd.prog Rows.pageHalvesRow.laid W) : Turns W := by
  have ht : Lib.TabIs Tryd.prog W "concordance/sum.turns" .u32 [0, 498536548, 997073096, 651767980, 1994146192, 1802195444, 1303535960, 1342533948, 3988292384, 4027552580, 3604390888, 3412177804, 2607071920, 2262029012, 2685067896, 3183342108] :=
    Lib.tabIs_of_head (t := 109) (e := 86) (n := 16) (g := 0) (by kernel_rfl) (by kernel_rfl) Tryd.underlying109 Tryd.underlying86 (by kernel_rfl) (by kernel_rfl) (by rw [MakeChecks.laidMetH_plain _ _ _ (by kernel_rfl)] at h; exact h)
  intro i hi
  have := ht.cell (g := 0) (by kernel_rfl) i hi
  rw [this]
  exact congrArg (fun z => some (Value.int .u32 z)) ((by decide +kernel : ∀ i, i < 16 → [(0 : Int), 498536548, 997073096, 651767980, 1994146192, 1802195444, 1303535960, 1342533948, 3988292384, 4027552580, 3604390888, 3412177804, 2607071920, 2262029012, 2685067896, 3183342108].getD i 0 = turnAt i) i hi)

/-- WHAT A WALK THAT ONLY LAYS NEW BLOCKS GIVES: the row's own 'post'. -/
theorem post_below {H : Type} {enc : TypeId × Value → H} {f : Func} {s : ChangeSpec} {apart fresh handsOn : Bool} {W W' : World} {args : Array Value} {v : Value} {ds gs : List (DataW H)} {before pa pv : List MemPlace}
    (hW : DataW.Whole enc Tryd.prog f.params.toList s.vars apart W args.toList ds gs before) (hb : Below W.heap.size W W')
    (hres : ∀ (b : Nat) (sp : Nat → Bool) (hd : Bool), DataW.TrodAll enc Tryd.prog W' b sp hd f.resultTypes.toList (v.resultList f.resultTypes.size) (s.fn H (ds ++ gs)).results [])
    (hargs : DataW.TrodAll enc Tryd.prog W' 0 (fun b => decide (b < W.heap.size)) true f.params.toList args.toList (s.fn H (ds ++ gs)).args pa)
    (hvars : DataW.TrodVars enc Tryd.prog W' (fun b => decide (b < W.heap.size)) s.vars (s.fn H (ds ++ gs)).vars pv) :
    s.post enc Tryd.prog f apart fresh handsOn false W args v W' :=
  ⟨ds, gs, before, [], pa, pv, hW, hres _ _ _, hargs, hvars, hb.frame _, fun h => by cases h⟩
end Go.Proofs.YtlhcfmcbfdihoaaDoor
