/-
  PROVED HERE: the card of 'TwinPlays': whatever is handed in, the law returns true, and leaves what it was handed as it was. No condition but the row's own (the listed variables' content, the reach).
-/
import Derived.Test.YtfkhgmdnajiabaaDoorCards
import Derived.Test.YtfkhgmdnajiabaaDoorTie
import Derived.Test.YtfkhgmdnajiabaaDoorTwK
import Derived.WalkKit
import Derived.ProofKit
import Derived.OpenShut
import Derived.SizedLaws
import Derived.Deep.Strs
import Derived.Deep.Slices
import Derived.Deep.Fields
import Derived.Deep.DeepHandedRow
import Derived.Lib.LaidTab
import Derived.ChangeSlices
import Derived.Test.YtfkhgmdnajiabaaDoorTwY
import Derived.LaidMore
import Derived.Lay
import Derived.SevenTiedAt
import Derived.Stop.Joined
import Derived.Test.YtfkhgmdnajiabaaDoorTwZ
namespace Go.Proofs.YtfkhgmdnajiabaaDoor
set_option linter.unusedSimpArgs false
set_option linter.unusedVariables false
open Go.ChangeShapes Go.WideShapes Go.ChangeAt Go.RowKit Go.Deep

theorem own : ownKnob Tryd.prog.godebug = none := by kernel_rfl
theorem laidOut : laidOutB Tryd.prog = true := by kernel_rfl
theorem weightsAll_mem {H : Type} {P : Program} {e : TypeId} : ∀ {l : List (DataW H)} {d : DataW H}, d ∈ l → ∀ n ∈ d.weights P e, n ∈ DataW.weightsAll P e l
  | _ :: _, _, .head _, n, hn => by simp only [DataW.weightsAll, List.mem_append]; exact Or.inl hn
  | _ :: _, _, .tail _ h, n, hn => by simp only [DataW.weightsAll, List.mem_append]; exact Or.inr (weightsAll_mem h n hn)
theorem weights_str {H : Type} (l : List UInt8) (t : TypeId) : DataW.weights (H := H) Tryd.prog t (.lit (.string l)) = [l.length] := by
  rw [DataW.weights]
set_option maxRecDepth 100000 in
theorem weights_put {H : Type} (d0 d1 : DataW H) : DataW.weights Tryd.prog 24 (.agg [d0, d1]) = d0.weights Tryd.prog 3 ++ (d1.weights Tryd.prog 9 ++ []) := by
  rw [DataW.weights, Tryd.underlying24]
  rfl
theorem reach_small : reachBytes ≤ 140737488355328 := by decide

/-- What the row's list gives: the sum's table. -/
theorem turns_of {W : World} (h : laidMetH Tryd.prog Rows.twinRefusesRow.laid W) : Turns W := by
  have ht : Lib.TabIs Tryd.prog W "concordance/sum.turns" .u32 [0, 498536548, 997073096, 651767980, 1994146192, 1802195444, 1303535960, 1342533948, 3988292384, 4027552580, 3604390888, 3412177804, 2607071920, 2262029012, 2685067896, 3183342108] :=
    Lib.tabIs_of_head (t := 137) (e := 122) (n := 16) (g := 0) (by kernel_rfl) (by kernel_rfl) Tryd.underlying137 Tryd.underlying122 (by kernel_rfl) (by kernel_rfl) (by rw [MakeChecks.laidMetH_plain _ _ _ (by kernel_rfl)] at h; exact h)
  intro i hi
  have := ht.cell (g := 0) (by kernel_rfl) i hi
  rw [this]
  exact congrArg (fun z => some (Value.int .u32 z)) ((by decide +kernel : ∀ i, i < 16 → [(0 : Int), 498536548, 997073096, 651767980, 1994146192, 1802195444, 1303535960, 1342533948, 3988292384, 4027552580, 3604390888, 3412177804, 2607071920, 2262029012, 2685067896, 3183342108].getD i 0 = turnAt i) i hi)

/-- WHAT A WALK THAT ONLY LAYS NEW BLOCKS GIVES: the row's own 'post'. -/
theorem post_below {H : Type} {enc : TypeId × Value → H} {f : Func} {s : ChangeSpec} {apart fresh handsOn : Bool} {W W' : World} {args : Array Value} {v : Value} {ds gs : List (DataW H)} {before pa pv : List MemPlace}
    (hW : DataW.Whole enc Tryd.prog f.params.toList s.vars apart W args.toList ds gs before) (hb : Below W.heap.size W W')
    (hres : ∀ (b : Nat) (sp : Nat → Bool) (hd : Bool), DataW.TrodAll enc Tryd.prog W' b sp hd f.resultTypes.toList (v.resultList f.resultTypes.size) (s.fn H (ds ++ gs)).results [])
    (hargs : DataW.TrodAll enc Tryd.prog W' 0 (fun b => decide (b < W.heap.size)) true f.params.toList args.toList (s.fn H (ds ++ gs)).args pa)
    (hvars : DataW.TrodVars enc Tryd.prog W' (fun b => decide (b < W.heap.size)) s.vars (s.fn H (ds ++ gs)).vars pv) :
    s.post enc Tryd.prog f apart fresh handsOn false W args v W' :=
  ⟨ds, gs, before, [], pa, pv, hW, hres _ _ _, hargs, hvars, hb.frame _, fun h => by cases h⟩

section
variable {H : Type} {enc : TypeId × Value → H} {w : World}
set_option maxRecDepth 100000 in
/-- Four numbers. -/
theorem open_four {b0 : Nat} {d : DataW H} {p : List MemPlace} {v : Value} (hv : Value.okWide Tryd.prog w .any b0 22 v) (h : DataW.Trod enc Tryd.prog w 0 (fun _ => true) true 22 v d p) :
    ∃ z0 z1 z2 z3 : Int, v = .agg #[.int .i64 z0, .int .i64 z1, .int .i64 z2, .int .i64 z3] := by
  simp only [Value.okWide, Tryd.underlying22] at hv
  obtain ⟨cs, rfl, hsz, _⟩ := hv
  obtain ⟨fuel, hf⟩ := h
  obtain ⟨cs⟩ := cs
  have hcA : Tryd.prog.cellsOf 22 = 4 := by kernel_rfl
  have hcI : Tryd.prog.cellsOf 3 = 1 := by kernel_rfl
  rw [hcA] at hsz
  match cs, hsz with
  | [c0, c1, c2, c3], _ =>
    simp only [Value.cells] at hf
    obtain ⟨xs, m, _, hx, _, hxl, hi⟩ := DataW.trod_array Tryd.underlying22 hf
    have hint : ∀ i, i < 4 → ∃ z : Int, [c0, c1, c2, c3][i]? = some (.int .i64 z) := by
      intro i hi4
      have hh := hi i hi4
      rw [hcI] at hh
      obtain ⟨x, hx⟩ : ∃ x, xs[i]? = some x := ⟨_, List.getElem?_eq_getElem (by omega)⟩
      rw [hx] at hh
      obtain ⟨z, hz, _⟩ := DataW.trod_int Tryd.underlying3 hh
      refine ⟨z, ?_⟩
      have := congrArg (·[0]?) hz
      simpa [List.getElem?_take, List.getElem?_drop] using this
    obtain ⟨z0, q0⟩ := hint 0 (by omega)
    obtain ⟨z1, q1⟩ := hint 1 (by omega)
    obtain ⟨z2, q2⟩ := hint 2 (by omega)
    obtain ⟨z3, q3⟩ := hint 3 (by omega)
    obtain rfl : c0 = _ := by simpa using q0
    obtain rfl : c1 = _ := by simpa using q1
    obtain rfl : c2 = _ := by simpa using q2
    obtain rfl : c3 = _ := by simpa using q3
    exact ⟨z0, z1, z2, z3, rfl⟩
set_option maxRecDepth 100000 in
/-- A Put's two cells. -/
theorem trod_put {base : Nat} {spare : Nat → Bool} {held : Bool} {n : Nat} {cs : List Value} {x : DataW H × List MemPlace} (h : DataW.trod enc Tryd.prog w base spare held n 24 cs = some x) :
    ∃ (z : Int) (t : List UInt8), cs = [.int .i64 z, .string (bs t)] ∧ x.1 = .agg [.lit (.int .i64 z), .lit (.string t)] ∧ in64 z := by
  obtain ⟨y0, y1, n', rfl, hl, h0, h1⟩ := trod_struct2 Tryd.underlying24 h
  have hc : Tryd.prog.cellsOf 24 = 2 := by kernel_rfl
  have hs : Tryd.prog.cellsOf 9 = 1 := by kernel_rfl
  have hi : Tryd.prog.cellsOf 3 = 1 := by kernel_rfl
  rw [hc] at hl
  match cs, hl with
  | [c0, c1], _ =>
    simp only [hs, hi, List.drop_zero, List.take_succ_cons, List.take_zero, List.drop_succ_cons] at h0 h1
    obtain ⟨z, e0, rfl, hwf⟩ := DataW.trod_int Tryd.underlying3 h0
    obtain ⟨s1, e1, rfl, _⟩ := DataW.trod_string Tryd.underlying9 h1
    obtain rfl : c0 = _ := by simpa using e0
    obtain rfl : c1 = _ := by simpa using e1
    refine ⟨z, s1.data.toList, by simp [bs_of], rfl, ?_⟩
    have : (Lit.int .i64 z).wf = true := hwf
    simp [Lit.wf, IntKind.min, IntKind.max, IntKind.bits, IntKind.signed] at this
    unfold in64
    omega
set_option maxRecDepth 100000 in
theorem open_put {b0 : Nat} {d : DataW H} {p : List MemPlace} {v : Value} (hv : Value.okWide Tryd.prog w .any b0 24 v) (h : DataW.Trod enc Tryd.prog w 0 (fun _ => true) true 24 v d p)
    (hz : ∀ n ∈ d.weights Tryd.prog 24, n ≤ reachBytes) :
    ∃ (z : Int) (t : List UInt8), v = .agg #[.int .i64 z, .string (bs t)] ∧ t.length ≤ 140737488355328 := by
  obtain ⟨cs, rfl, hsz⟩ := okWide_struct Tryd.underlying24 hv
  obtain ⟨fuel, hf⟩ := h
  obtain ⟨z, t, e, e2, _⟩ := trod_put hf
  obtain ⟨cs⟩ := cs
  simp only [Value.cells] at e
  subst e
  dsimp only at e2
  subst e2
  refine ⟨z, t, rfl, ?_⟩
  have := hz t.length (by rw [weights_put, weights_str]; exact List.mem_append_right _ (List.mem_append_left _ (.head _)))
  exact Nat.le_trans this reach_small
set_option maxRecDepth 100000 in
theorem weights_puts {H : Type} (l s : List (DataW H)) : DataW.weights Tryd.prog 45 (.slice l s) = (l.length + s.length) * Tryd.prog.bytesOf 24 :: (DataW.weightsAll Tryd.prog 24 l ++ DataW.weightsAll Tryd.prog 24 s) := by
  rw [DataW.weights, Tryd.underlying45]
set_option maxRecDepth 100000 in
theorem weights_ints {H : Type} (l s : List (DataW H)) : DataW.weights Tryd.prog 52 (.slice l s) = (l.length + s.length) * Tryd.prog.bytesOf 3 :: (DataW.weightsAll Tryd.prog 3 l ++ DataW.weightsAll Tryd.prog 3 s) := by
  rw [DataW.weights, Tryd.underlying52]
set_option maxRecDepth 100000 in
/-- A slice of Puts, in cells. -/
theorem trod_puts {fuel : Nat} {x : DataW H × List MemPlace} {A : Option Addr} {n cap : Nat} (h : DataW.trod enc Tryd.prog w 0 (fun _ => true) true fuel 45 [.slice A n cap] = some x)
    (hz : ∀ n ∈ x.1.weights Tryd.prog 45, n ≤ reachBytes) (hlt : ∀ y ∈ x.2, y.block < w.heap.size) :
    ∃ l : List (Int × List UInt8), n = l.length ∧ PutsAt w w.heap.size A l ∧ l.length ≤ 140737488355328 ∧ (∀ x ∈ l, x.2.length ≤ 140737488355328) ∧ ∀ x ∈ l, in64 x.1 := by
  have hcE : Tryd.prog.cellsOf 24 = 2 := by kernel_rfl
  have hby : Tryd.prog.bytesOf 24 = 24 := by kernel_rfl
  rcases open_slice Tryd.underlying45 h with ⟨hcs, rfl⟩ | ⟨a, len, cap', m', n', D, Pl, hcs, hb, hlc, hm, hmm, hy, hel⟩
  · injection hcs with hcs _
    injection hcs with e1 e2 e3
    exact ⟨[], e2, fun k hk => absurd hk (by simp), Nat.zero_le _, (fun x hx => by cases hx), fun x hx => by cases hx⟩
  · injection hcs with hcs _
    injection hcs with e1 e2 e3
    subst e1 e2 e3
    have hall : ∀ i, i < n → ∃ e : Int × List UInt8, w.cells? 0 (a.add (i * 2)) 2 = some [.int .i64 e.1, .string (bs e.2)] ∧ D i = .agg [.lit (.int .i64 e.1), .lit (.string e.2)] ∧ in64 e.1 := by
      intro i hi'
      obtain ⟨cs', hc', ht'⟩ := hel i (by rw [hmm]; exact Nat.lt_of_lt_of_le hi' hlc)
      rw [hcE] at hc'
      obtain ⟨z, t, he, hd, h64⟩ := trod_put ht'
      subst he
      exact ⟨(z, t), hc', hd, h64⟩
    obtain ⟨E, hE⟩ : ∃ E : Nat → Int × List UInt8, ∀ i, i < n → w.cells? 0 (a.add (i * 2)) 2 = some [.int .i64 (E i).1, .string (bs (E i).2)] ∧ D i = .agg [.lit (.int .i64 (E i).1), .lit (.string (E i).2)] ∧ in64 (E i).1 := by
      refine ⟨fun i => if h : i < n then (hall i h).choose else (0, []), fun i hi' => ?_⟩
      simp only [dif_pos hi']
      exact (hall i hi').choose_spec
    subst hy
    refine ⟨(List.range n).map E, by simp, fun k hk => ?_, ?_, fun x hx => ?_, fun x hx => ?_⟩
    · have hk' : k < n := by simpa using hk
      obtain ⟨_, _, hat⟩ := World.cells?_some (hE k hk').1
      have h0 := hat 0 (by omega)
      have h1 := hat 1 (by omega)
      rw [add_of_add] at h0 h1
      have hz0 : a.spot = none := by
        obtain ⟨_, _, hat0⟩ := World.cells?_some (hE 0 (by omega)).1
        have h00 := World.cell?_spot (hat0 0 (by omega))
        simpa [Addr.add] using h00
      obtain ⟨b, o, sp⟩ := a
      obtain rfl : sp = none := hz0
      have ha : ∀ n, (⟨b, o, none⟩ : Addr).add n = ⟨b, o + n, none⟩ := fun n => by unfold Addr.add; split <;> simp_all
      rw [ha] at h0 h1
      have hbl : b < w.heap.size := by
        refine hlt (.cell b (o + 0)) (List.mem_append_left _ (MemPlace.mem_row.2 ⟨0, ?_, rfl⟩))
        have hmc : m' = cap := by simpa using hmm
        rw [hcE, hmc]; omega
      refine ⟨b, o, rfl, hbl, ?_, ?_⟩
      · simpa using h0
      · simpa [Nat.add_assoc] using h1
    · rw [List.length_map, List.length_range]
      have := hz _ (by rw [weights_puts]; exact .head _)
      rw [hby] at this
      simp only [List.length_map, List.length_range] at this
      have := reach_small
      omega
    · obtain ⟨i, hi', rfl⟩ := List.mem_map.1 hx
      rw [List.mem_range] at hi'
      have := hz (E i).2.length (by
        rw [weights_puts]
        refine .tail _ (List.mem_append_left _ (weightsAll_mem (List.mem_map.2 ⟨i, List.mem_range.2 hi', rfl⟩) _ ?_))
        rw [(hE i hi').2.1, weights_put, weights_str]
        exact List.mem_append_right _ (List.mem_append_left _ (.head _)))
      exact Nat.le_trans this reach_small
    · obtain ⟨i, hi', rfl⟩ := List.mem_map.1 hx
      rw [List.mem_range] at hi'
      exact (hE i hi').2.2
set_option maxRecDepth 100000 in
theorem open_puts {b0 : Nat} {d : DataW H} {p : List MemPlace} {v : Value} (hv : Value.okWide Tryd.prog w .any b0 45 v) (h : DataW.Trod enc Tryd.prog w 0 (fun _ => true) true 45 v d p)
    (hz : ∀ n ∈ d.weights Tryd.prog 45, n ≤ reachBytes) (hlt : ∀ x ∈ p, x.block < w.heap.size) :
    ∃ (A : Option Addr) (cap : Nat) (l : List (Int × List UInt8)), v = .slice A l.length cap ∧ PutsAt w w.heap.size A l ∧ l.length ≤ 140737488355328 ∧ (∀ x ∈ l, x.2.length ≤ 140737488355328) ∧ ∀ x ∈ l, in64 x.1 := by
  obtain ⟨A, n, cap, rfl⟩ := okWide_slice Tryd.underlying45 hv
  obtain ⟨fuel, hf⟩ := h
  simp only [Value.cells] at hf
  obtain ⟨l, rfl, q⟩ := trod_puts hf hz hlt
  exact ⟨A, cap, l, rfl, q⟩
set_option maxRecDepth 100000 in
theorem trod_ints {fuel : Nat} {x : DataW H × List MemPlace} {A : Option Addr} {n cap : Nat} (h : DataW.trod enc Tryd.prog w 0 (fun _ => true) true fuel 52 [.slice A n cap] = some x)
    (hz : ∀ n ∈ x.1.weights Tryd.prog 52, n ≤ reachBytes) (hlt : ∀ y ∈ x.2, y.block < w.heap.size) :
    ∃ ks : List Int, n = ks.length ∧ IntsIn w w.heap.size A ks ∧ (A = none → cap = 0 ∧ ks = []) ∧ ks.length ≤ cap ∧ ks.length ≤ 140737488355328 ∧ cap ≤ 9223372036854775807 := by
  have hc1 : Tryd.prog.cellsOf 3 = 1 := by kernel_rfl
  have hby : Tryd.prog.bytesOf 3 = 8 := by kernel_rfl
  rcases open_ints Tryd.underlying52 Tryd.underlying3 hc1 h with ⟨hcs, rfl⟩ | ⟨a, len, cap', zs, hcs, hb, hlc, hm, hmm, rfl, hel, hwf⟩
  · injection hcs with hcs _
    injection hcs with e1 e2 e3
    subst e1 e2 e3
    exact ⟨[], rfl, fun k hk => absurd hk (by simp), fun _ => ⟨rfl, rfl⟩, Nat.le_refl _, Nat.zero_le _, by omega⟩
  · injection hcs with hcs _
    injection hcs with e1 e2 e3
    subst e1 e2 e3
    simp only [if_true] at hmm
    have hzl : (zs.take n).length = n := by rw [List.length_take]; omega
    refine ⟨zs.take n, hzl.symm, fun k hk => ?_, (fun e => by cases e), by rw [hzl]; exact hlc, ?_, by unfold maxLen at hm; omega⟩
    · have hk' : k < n := by rw [hzl] at hk; exact hk
      have h0 := hel k (by omega)
      have hz0 : a.spot = none := by
        have h00 := World.cell?_spot (hel 0 (by omega))
        simpa [Addr.add] using h00
      obtain ⟨b, o, sp⟩ := a
      obtain rfl : sp = none := hz0
      have ha : (⟨b, o, none⟩ : Addr).add k = ⟨b, o + k, none⟩ := by unfold Addr.add; split <;> simp_all
      rw [ha] at h0
      have hbl : b < w.heap.size := hlt (.cell b (o + 0)) (MemPlace.mem_row.2 ⟨0, by omega, rfl⟩)
      refine ⟨b, o, rfl, hbl, ?_⟩
      rw [h0]
      have : k < zs.length := by omega
      simp [List.getD, this]
    · rw [hzl]
      have := hz _ (by rw [weights_ints]; exact .head _)
      rw [hby] at this
      simp only [lits, List.length_map, List.length_take, List.length_drop] at this
      have := reach_small
      omega
set_option maxRecDepth 100000 in
theorem open_intsS {b0 : Nat} {d : DataW H} {p : List MemPlace} {v : Value} (hv : Value.okWide Tryd.prog w .any b0 52 v) (h : DataW.Trod enc Tryd.prog w 0 (fun _ => true) true 52 v d p)
    (hz : ∀ n ∈ d.weights Tryd.prog 52, n ≤ reachBytes) (hlt : ∀ x ∈ p, x.block < w.heap.size) :
    ∃ (A : Option Addr) (cap : Nat) (ks : List Int), v = .slice A ks.length cap ∧ IntsIn w w.heap.size A ks ∧ (A = none → cap = 0 ∧ ks = []) ∧ ks.length ≤ cap ∧ ks.length ≤ 140737488355328 ∧ cap ≤ 9223372036854775807 := by
  obtain ⟨A, n, cap, rfl⟩ := okWide_slice Tryd.underlying52 hv
  obtain ⟨fuel, hf⟩ := h
  simp only [Value.cells] at hf
  obtain ⟨ks, rfl, q⟩ := trod_ints hf hz hlt
  exact ⟨A, cap, ks, rfl, q⟩
end
end Go.Proofs.YtfkhgmdnajiabaaDoor
namespace Go.Proofs.YtfkhgmdnajiabaaDoor
set_option linter.unusedSimpArgs false
set_option linter.unusedVariables false
open Go.RowKit Go.ChangeShapes Go.WideShapes Go.ChangeAt Go.Deep
section
variable {H : Type} {enc : TypeId × Value → H} {w : World}
theorem slice_form {t e : TypeId} {spare : Nat → Bool} {held : Bool} {base fuel : Nat} {c : Value} {x : DataW H × List MemPlace} (ht : Tryd.prog.underlying t = some (.slice e)) (h : DataW.trod enc Tryd.prog w base spare held fuel t [c] = some x) : ∃ A n cap, c = .slice A n cap := by
  rcases open_slice ht h with ⟨hcs, _⟩ | ⟨a, len, cap', m', n', D, Pl, hcs, _⟩
  · injection hcs with hcs _
    exact ⟨_, _, _, hcs⟩
  · injection hcs with hcs _
    exact ⟨_, _, _, hcs⟩
set_option maxRecDepth 100000 in
theorem weights_round (d0 d1 d2 : DataW H) : DataW.weights Tryd.prog 61 (.agg [d0, d1, d2]) = d0.weights Tryd.prog 45 ++ (d1.weights Tryd.prog 3 ++ (d2.weights Tryd.prog 52 ++ [])) := by
  rw [DataW.weights, Tryd.underlying61]
  rfl
set_option maxRecDepth 100000 in
theorem weights_rounds (l s : List (DataW H)) : DataW.weights Tryd.prog 55 (.slice l s) = (l.length + s.length) * Tryd.prog.bytesOf 61 :: (DataW.weightsAll Tryd.prog 61 l ++ DataW.weightsAll Tryd.prog 61 s) := by
  rw [DataW.weights, Tryd.underlying55]
/-- A round's three cells. -/
def RndIs (w : World) (cs : List Value) (r : Rnd) : Prop :=
  ∃ AP cP AK cK, cs = [.slice AP r.puts.length cP, .int .i64 r.cut, .slice AK r.keep.length cK] ∧ PutsAt w w.heap.size AP r.puts ∧ IntsIn w w.heap.size AK r.keep ∧ (AK = none → cK = 0 ∧ r.keep = []) ∧ r.keep.length ≤ cK ∧ cK ≤ 9223372036854775807 ∧
    r.puts.length ≤ 140737488355328 ∧ r.keep.length ≤ 140737488355328 ∧ ∀ x ∈ r.puts, x.2.length ≤ 140737488355328
set_option maxRecDepth 100000 in
theorem trod_round {n : Nat} {cs : List Value} {x : DataW H × List MemPlace} (h : DataW.trod enc Tryd.prog w 0 (fun _ => true) true n 61 cs = some x)
    (hz : ∀ n ∈ x.1.weights Tryd.prog 61, n ≤ reachBytes) (hlt : ∀ y ∈ x.2, y.block < w.heap.size) : ∃ r, RndIs w cs r := by
  obtain ⟨y0, y1, y2, n', rfl, hl, h0, h1, h2⟩ := trod_struct3 Tryd.underlying61 h
  have hc : Tryd.prog.cellsOf 61 = 3 := by kernel_rfl
  have hs : Tryd.prog.cellsOf 45 = 1 := by kernel_rfl
  have hi : Tryd.prog.cellsOf 3 = 1 := by kernel_rfl
  have hk : Tryd.prog.cellsOf 52 = 1 := by kernel_rfl
  rw [hc] at hl
  dsimp only at hz hlt
  match cs, hl with
  | [c0, c1, c2], _ =>
    simp only [hs, hi, hk, List.drop_zero, List.take_succ_cons, List.take_zero, List.drop_succ_cons] at h0 h1 h2
    obtain ⟨AP, np, cP, rfl⟩ := slice_form Tryd.underlying45 h0
    obtain ⟨AK, nk, cK, rfl⟩ := slice_form Tryd.underlying52 h2
    obtain ⟨z, e0, rfl, hwf⟩ := DataW.trod_int Tryd.underlying3 h1
    obtain rfl : c1 = _ := by simpa using e0
    obtain ⟨l, rfl, q1, q2, q3, _⟩ := trod_puts h0 (fun n hn => hz n (by rw [weights_round]; exact List.mem_append_left _ hn)) (fun y hy => hlt y (List.mem_append_left _ hy))
    obtain ⟨ks, rfl, k1, k2, k3, k4, k5⟩ := trod_ints h2 (fun n hn => hz n (by rw [weights_round]; exact List.mem_append_right _ (List.mem_append_right _ (List.mem_append_left _ hn)))) (fun y hy => hlt y (List.mem_append_right _ (List.mem_append_right _ hy)))
    exact ⟨⟨l, z, ks⟩, AP, cP, AK, cK, rfl, q1, k1, k2, k3, k5, q2, k4, q3⟩
set_option maxRecDepth 100000 in
theorem open_rounds {b0 : Nat} {d : DataW H} {p : List MemPlace} {v : Value} (hv : Value.okWide Tryd.prog w .any b0 55 v) (h : DataW.Trod enc Tryd.prog w 0 (fun _ => true) true 55 v d p)
    (hz : ∀ n ∈ d.weights Tryd.prog 55, n ≤ reachBytes) (hlt : ∀ x ∈ p, x.block < w.heap.size) :
    ∃ (A : Option Addr) (cap : Nat) (l : List Rnd), v = .slice A l.length cap ∧ RndsAt w w.heap.size A l ∧ l.length ≤ 140737488355328 ∧
      ∀ r ∈ l, r.puts.length ≤ 140737488355328 ∧ r.keep.length ≤ 140737488355328 ∧ ∀ x ∈ r.puts, x.2.length ≤ 140737488355328 := by
  obtain ⟨A, n, cap, rfl⟩ := okWide_slice Tryd.underlying55 hv
  obtain ⟨fuel, hf⟩ := h
  simp only [Value.cells] at hf
  have hcE : Tryd.prog.cellsOf 61 = 3 := by kernel_rfl
  have hby : Tryd.prog.bytesOf 61 = 56 := by kernel_rfl
  rcases open_slice Tryd.underlying55 hf with ⟨hcs, hx⟩ | ⟨a, len, cap', m', n', D, Pl, hcs, hb, hlc, hm, hmm, hy, hel⟩
  · injection hcs with hcs _
    injection hcs with e1 e2 e3
    subst e1 e2 e3
    exact ⟨none, 0, [], rfl, fun k hk => absurd hk (by simp), Nat.zero_le _, fun x hx => by cases hx⟩
  · injection hcs with hcs _
    injection hcs with e1 e2 e3
    subst e1 e2 e3
    injection hy with hy1 hy2
    subst hy1 hy2
    simp only [if_true] at hmm
    have hall : ∀ i, i < n → ∃ r : Rnd, ∃ cs, w.cells? 0 (a.add (i * 3)) 3 = some cs ∧ RndIs w cs r := by
      intro i hi'
      obtain ⟨cs', hc', ht'⟩ := hel i (by omega)
      rw [hcE] at hc'
      obtain ⟨r, hr⟩ := trod_round ht' (fun k hk => hz k (by
          rw [weights_rounds]
          exact .tail _ (List.mem_append_left _ (weightsAll_mem (List.mem_map.2 ⟨i, List.mem_range.2 hi', rfl⟩) _ hk))))
        (fun y hy => hlt y (List.mem_append_right _ (List.mem_flatMap.2 ⟨i, List.mem_range.2 (by omega), hy⟩)))
      exact ⟨r, cs', hc', hr⟩
    obtain ⟨E, hE⟩ : ∃ E : Nat → Rnd, ∀ i, i < n → ∃ cs, w.cells? 0 (a.add (i * 3)) 3 = some cs ∧ RndIs w cs (E i) := by
      refine ⟨fun i => if h : i < n then (hall i h).choose else ⟨[], 0, []⟩, fun i hi' => ?_⟩
      simp only [dif_pos hi']
      exact (hall i hi').choose_spec
    refine ⟨some a, cap, (List.range n).map E, by simp, fun k hk => ?_, ?_, fun r hr => ?_⟩
    · have hk' : k < n := by simpa using hk
      obtain ⟨cs, hcs, AP, cP, AK, cK, rfl, q⟩ := hE k hk'
      obtain ⟨_, _, hat⟩ := World.cells?_some hcs
      have h0 := hat 0 (by omega)
      have h1 := hat 1 (by omega)
      have h2 := hat 2 (by omega)
      rw [add_of_add] at h0 h1 h2
      have hz0 : a.spot = none := by
        obtain ⟨cs0, hcs0, _, _, _, _, rfl, _⟩ := hE 0 (by omega)
        obtain ⟨_, _, hat0⟩ := World.cells?_some hcs0
        have h00 := World.cell?_spot (hat0 0 (by omega))
        simpa [Addr.add] using h00
      obtain ⟨b, o, sp⟩ := a
      obtain rfl : sp = none := hz0
      have ha : ∀ n, (⟨b, o, none⟩ : Addr).add n = ⟨b, o + n, none⟩ := fun n => by unfold Addr.add; split <;> simp_all
      rw [ha] at h0 h1 h2
      have hbl : b < w.heap.size := by
        refine hlt (.cell b (o + 0)) (List.mem_append_left _ (MemPlace.mem_row.2 ⟨0, ?_, rfl⟩))
        rw [hcE]; omega
      have hg : ((List.range n).map E)[k] = E k := by simp
      rw [hg]
      obtain ⟨q1, q2, q3, q4, q5, _⟩ := q
      refine ⟨b, o, AP, cP, AK, cK, rfl, hbl, ?_, ?_, ?_, q1, q2, q3, q4, q5⟩
      · simpa using h0
      · simpa [Nat.add_assoc] using h1
      · simpa [Nat.add_assoc] using h2
    · rw [List.length_map, List.length_range]
      have := hz _ (by rw [weights_rounds]; exact .head _)
      rw [hby] at this
      simp only [List.length_map, List.length_range] at this
      have := reach_small
      omega
    · obtain ⟨i, hi', rfl⟩ := List.mem_map.1 hr
      rw [List.mem_range] at hi'
      obtain ⟨cs, hcs, AP, cP, AK, cK, _, _, _, _, _, _, q6, q7, q8⟩ := hE i hi'
      exact ⟨q6, q7, q8⟩
end
end Go.Proofs.YtfkhgmdnajiabaaDoor
namespace Go.Proofs.YtfkhgmdnajiabaaDoor.twinPlays
set_option linter.unusedSimpArgs false
set_option linter.unusedVariables false
open Go.ChangeShapes Go.WideShapes Go.ChangeAt Go.RowKit

set_option maxRecDepth 100000 in
theorem contract (H : Type) (enc : TypeId × Value → H) (W : World) (base : Nat) (args : Array Value) (ds gs : List (DataW H)) (before : List MemPlace)
    (hval : ∀ (j : Nat) t v, Tryd.f6.params[j]? = some t → args[j]? = some v → Value.okWide Tryd.prog W .any base t v)
    (hW : DataW.Whole enc Tryd.prog Tryd.f6.params.toList Rows.twinPlaysSpec.vars false W args.toList ds gs before)
    (hz : (DataW.weightsEach Tryd.prog (Tryd.f6.params.toList ++ (OpenSpec.ofChange Rows.twinPlaysSpec).bare.plain.varTypes Tryd.prog) (ds ++ gs)).all (· ≤ reachBytes) = true)
    (hL : laidMetH Tryd.prog Rows.twinPlaysRow.laid W) :
    Calls Tryd.prog 6 args W fun e W' => ∃ v, e = .returned v ∧ Rows.twinPlaysSpec.post enc Tryd.prog Tryd.f6 false true false false W args v W' := by
  have hW' := hW
  have hlt := hW.lt
  obtain ⟨p, q, hA0, hV, rfl, _, _⟩ := hW
  have hA : DataW.TrodAll enc Tryd.prog W 0 (fun _ => true) true Tryd.f6.params.toList args.toList ds p := hA0
  obtain ⟨rfl, rfl⟩ := trodVars_none hV
  rw [Tryd.params6] at hA hval hz
  obtain ⟨v0, v1, d0, d1, p0, p1, rfl, rfl, rfl, h0, h1⟩ := trodAll_two hA
  have k0 := h0
  have k1 := h1
  simp only [List.append_nil] at hlt hW'
  have l0 : ∀ x ∈ p0, x.block < W.heap.size := fun x hx => by
    refine hlt x ?_
    simp [hx]
  have z0 : ∀ n ∈ d0.weights Tryd.prog 55, n ≤ reachBytes := fun n hn => by simpa using List.all_eq_true.1 hz _ (DataW.weights_mem_each (j := 0) (t := 55) rfl rfl n hn)
  have o0 := hval 0 55 v0 rfl rfl
  have l1 : ∀ x ∈ p1, x.block < W.heap.size := fun x hx => by
    refine hlt x ?_
    simp [hx]
  have z1 : ∀ n ∈ d1.weights Tryd.prog 3, n ≤ reachBytes := fun n hn => by simpa using List.all_eq_true.1 hz _ (DataW.weights_mem_each (j := 1) (t := 3) rfl rfl n hn)
  have o1 := hval 1 3 v1 rfl rfl
  have hT := turns_of hL
  obtain ⟨A, cap, l, rfl, hPA, hl, hx⟩ := open_rounds o0 h0 z0 l0
  obtain ⟨ns, rfl, rfl, rfl, hn⟩ := open_int Tryd.underlying3 o1 h1
  have hc := plays_any l A cap ns W hT hPA hl hx
  refine hc.mono fun e W' ⟨he, hb⟩ => ?_
  subst he
  exact ⟨_, rfl, post_below (pv := []) hW' hb (fun _ _ _ => trodAll_cons_mk (shut_bool Tryd.underlying4 _) trodAll_mk0)
    (trodAll_mk2 (Below.trod laidOut (by kernel_rfl) (of_decide_eq_true (by kernel_rfl)) k0 hb l0) (Below.trod laidOut (by kernel_rfl) (of_decide_eq_true (by kernel_rfl)) k1 hb l1)) rfl⟩

theorem laid_met (os : Os) : laidMetH Tryd.prog Rows.twinPlaysRow.laid (((World.laidAll Tryd.prog os Rows.twinPlaysRow.laid).forCall (fun _ _ => 0) ⟨#[], #[.slice none 0 0, .int .i64 0], []⟩).memory) := by
  rw [MakeChecks.laidMetH_plain _ _ _ (by kernel_rfl)]; exact laidMet_laidAll _ (by kernel_rfl) (by kernel_rfl)
theorem reads (os : Os) {H : Type} (enc : TypeId × Value → H) : ∃ places, DataW.whole enc Tryd.prog ((World.laidAll Tryd.prog os Rows.twinPlaysRow.laid).forCall (fun _ _ => 0) ⟨#[], #[.slice none 0 0, .int .i64 0], []⟩).memory Tryd.f6.params.toList Rows.twinPlaysSpec.vars false #[.slice none 0 0, .int .i64 0].toList 8 = some ([.nil, .lit (.int .i64 0)], [], places) :=
  ⟨[], by kernel_rfl⟩

set_option maxRecDepth 100000 in
theorem lifted (os : Os) (started : os.Started) (H : Type) (enc : TypeId × Value → H) (F : Stop.Interp) :
    ReturnsInHanded {} Tryd.checked os 6 .any ((OpenSpec.ofChange Rows.twinPlaysSpec).preRow enc Tryd.prog Tryd.f6 Rows.twinPlaysRow.domain false Rows.twinPlaysRow.laid) (((OpenSpec.ofChange Rows.twinPlaysSpec).at F).post enc Tryd.prog Tryd.f6 false true false false) := by
  obtain ⟨places, hx⟩ := reads os enc
  refine returnsInHanded_of_row (C := Tryd.checked) (s := OpenSpec.ofChange Rows.twinPlaysSpec) own started (by kernel_rfl) Tryd.func6
    (witness_row_at (enc := enc) (C := Tryd.checked) false (World.laidAll Tryd.prog os Rows.twinPlaysRow.laid) #[.slice none 0 0, .int .i64 0] (World.laidAll_os _ _ _) (by kernel_rfl) (by kernel_rfl) (by kernel_rfl)
      (OpenSpec.preRow_of_cond 8 hx (by kernel_rfl) (fun k hk => by cases hk) (by kernel_rfl) (laid_met os))) ?_
  intro W base args ds gs before hval hW _ _ hz hL _ _
  exact contract H enc W base args ds gs before hval hW hz hL

theorem said : Rows.TwinPlaysSaid :=
  OpenClaim.holds_of_cond 6 Tryd.f6 rfl rfl rfl rfl rfl rfl rfl ⟨rfl, rfl, rfl, rfl, rfl⟩ rfl rfl rfl rfl rfl (by kernel_rfl) Tryd.func6 (by kernel_rfl)
    (of_decide_eq_true (by kernel_rfl)) (by unfold Func.isWrapper; first | (rw [if_pos (by decide +kernel)]; kernel_rfl) | (rw [if_neg (by decide +kernel)]; exact ⟨rfl, rfl⟩))
    (fun os started H enc _ F => by rw [OpenClaim.pre_eq_preRow]; exact lifted os started H enc F)

theorem plain (f : FuncId) (fn : Func) (hf : Tryd.pinned.checked.prog.funcNamed "concordance/concordancelaw09.TwinPlays" = some f) (hfn : Tryd.pinned.checked.prog.funcs[f]? = some fn) :
    false = Tryd.pinned.checked.prog.looks [] ∧ ∀ (j : Nat) t, fn.params[j]? = some t → Tryd.pinned.checked.prog.wantsStandIn t = false := by
  obtain rfl : f = 6 := Option.some.inj ((show Tryd.prog.funcNamed "concordance/concordancelaw09.TwinPlays" = some 6 by kernel_rfl).symm.trans hf) |>.symm
  obtain rfl : fn = Tryd.f6 := (Option.some.inj (Tryd.func6.symm.trans hfn)).symm
  refine ⟨by kernel_rfl, fun j t ht => ?_⟩
  rw [Tryd.params6] at ht
  have hm : t = 55 ∨ t = 3 := by simpa using Array.mem_of_getElem? ht
  rcases hm with rfl | rfl
  · exact (show Tryd.prog.wantsStandIn 55 = false by kernel_rfl)
  · exact (show Tryd.prog.wantsStandIn 3 = false by kernel_rfl)

/-- THE CARD. -/
theorem card : Rows.TwinPlaysCardSaid :=
  Claim7.holds_tied_plain_at .later [] _ _ _ _ said (fun _ h => by cases h) (by kernel_rfl) (fun _ h => by cases h) twinPlays_row_tie rfl ⟨rfl, rfl⟩ (by kernel_rfl) rfl plain (by kernel_rfl)
end Go.Proofs.YtfkhgmdnajiabaaDoor.twinPlays
