/-
  Walks: a region that draws its order, in the order of the text: operations that are quiet in a class of worlds first, the rest as ever.
  (Upon the kit's Derived/Deep/Quiet.lean.)
-/
import Derived.Deep.Quiet
import Derived.Test.YtjlcbabnkhdgpaaGreatDoorBlk
namespace Go.Proofs.YtjlcbabnkhdgpaaGreatDoor
open Go Go.RowKit

section
variable {P : Program} {ops : Array Oper} {Q : Exit → Act → World → Prop} {md : Region.Mode} {C : World → Prop}

theorem q_skip {o : Oper} {rest : List Oper} {a : Act} {R : Act → Prop} (hw : Region.wanted o (yielded ops a.tmps) = false) (h : wpQuiet P ops C R rest (a.put o.dst undef)) : wpQuiet P ops C R (o :: rest) a := by
  unfold wpQuiet; rw [hw]; exact h
theorem q_val {o : Oper} {rest : List Oper} {a : Act} {R : Act → Prop} {v : Value} (hw : Region.wanted o (yielded ops a.tmps) = true) (hv : ∀ w, C w → (execOp a.eval o).run P w = .ok (.value v) w) (h : wpQuiet P ops C R rest (a.put o.dst v)) :
    wpQuiet P ops C R (o :: rest) a := by
  unfold wpQuiet; rw [if_pos hw]
  exact ⟨v, fun w hC => by unfold Oper.quietAt; rw [hv w hC]; exact ⟨rfl, rfl⟩, h⟩
theorem q_call {o : Oper} {rest : List Oper} {a : Act} {R : Act → Prop} {v : Value} {f : FuncId} {args : Array Value} (hw : Region.wanted o (yielded ops a.tmps) = true) (he : ∀ w, C w → (execOp a.eval o).run P w = .ok (.enter f args) w)
    (hc : ∀ w, C w → Calls P f args w fun e w' => e = .returned v ∧ C w') (h : wpQuiet P ops C R rest (a.put o.dst v)) :
    wpQuiet P ops C R (o :: rest) a := by
  unfold wpQuiet; rw [if_pos hw]
  exact ⟨v, fun w hC => by unfold Oper.quietAt; rw [he w hC]; exact ⟨rfl, hc w hC⟩, h⟩
theorem q_end {a : Act} {R : Act → Prop} (h : R a) : wpQuiet P ops C R [] a := h

/-- All is quiet. -/
theorem wp_region_q (C : World → Prop) {id : Nat} {a : Act} {w : World} {l : List Oper} (hm : P.follows .mixedOrders = true) (hB : Region.lexB .any l.toArray = true) (hC : C w.drew)
    (h : wpQuiet P l.toArray C (fun a' => ∀ w', C w' → Q .normal a' w') l a) : (Code.region id l.toArray true).wp P Q a w :=
  wp_region_quiet (C := C) hm hB hC (by simpa using h)

theorem wpAny_more : ∀ (f : Nat) (listed : Array Bool) (a : Act) (w : World), wpAny P md ops Q f listed a w → wpAny P md ops Q (f + 1) listed a w
  | 0, _, _, _, h => ⟨fun _ => h.2, fun i hi => by rw [h.1] at hi; cases hi⟩
  | f + 1, _, _, _, h => ⟨h.1, fun i hi => wpOp_mono (fun a w => wpAny_more f _ a w) (h.2 i hi)⟩
theorem wpAny_le {f g : Nat} {listed : Array Bool} {a : Act} {w : World} (h : wpAny P md ops Q f listed a w) (hfg : f ≤ g) : wpAny P md ops Q g listed a w := by
  obtain ⟨d, rfl⟩ : ∃ d, g = f + d := ⟨g - f, by omega⟩
  induction d with
  | zero => exact h
  | succ d ih => exact wpAny_more _ _ _ _ (ih (by omega))

/-- From a state in which L have come up: the first k operations wait only for elder ones, the k-th (through others) for all of them that are left, each later one that is left for the k-th or a later one that is left. -/
def prefixB (md : Region.Mode) (ops : Array Oper) (k : Nat) (L : Array Bool) : Bool :=
  ((List.range k).all fun p => ((ops[p]?).map fun o => (o.after.all fun e => !Region.binds md e || decide (e.on < p)) && (match o.guard with | some (g, _) => decide (g < k) | none => true)).getD false &&
    (L.getD p false || (List.range (k + 1)).any fun s => decide (p < s) && ((ops[s]?).map fun o => o.after.any fun e => Region.binds md e && e.on == p).getD false)) &&
  ((List.range ops.size).all fun j => decide (j ≤ k) || L.getD j false || ((ops[j]?).map fun o => o.after.any fun e => Region.binds md e && decide (k ≤ e.on) && !L.getD e.on false).getD false) &&
  (List.range ops.size).all fun j => !L.getD j false || (decide (j ≠ k) && ((ops[j]?).map fun o => o.after.all fun e => !Region.binds md e || L.getD e.on false).getD false)

theorem getD_true_false {l : Array Bool} {j : Nat} (h0 : l.getD j true = false) (h1 : l.getD j false = true) : False := by
  rcases Nat.lt_or_ge j l.size with h' | h'
  · simp [h'] at h0 h1; rw [h0] at h1; cases h1
  · simp [Array.getElem?_eq_none h'] at h1
theorem getD_or {l : Array Bool} {j : Nat} (hj : j < l.size) : l.getD j true = false ∨ l.getD j false = true := by
  simp [hj]

theorem prefix_spec {k : Nat} {L : Array Bool} (h : prefixB md ops k L = true) :
    (∀ p, p < k → (∃ o, ops[p]? = some o ∧ (∀ e ∈ o.after, Region.binds md e = true → e.on < p) ∧ ∀ g b, o.guard = some (g, b) → g < k) ∧ (L.getD p false = true ∨ ∃ s o, p < s ∧ s ≤ k ∧ ops[s]? = some o ∧ ∃ e ∈ o.after, Region.binds md e = true ∧ e.on = p)) ∧
    (∀ j o, k < j → ops[j]? = some o → L.getD j false = true ∨ ∃ e ∈ o.after, Region.binds md e = true ∧ k ≤ e.on ∧ L.getD e.on false = false) ∧
    ∀ j o, ops[j]? = some o → L.getD j false = true → j ≠ k ∧ ∀ e ∈ o.after, Region.binds md e = true → L.getD e.on false = true := by
  unfold prefixB at h
  rw [Bool.and_eq_true, Bool.and_eq_true, List.all_eq_true, List.all_eq_true, List.all_eq_true] at h
  obtain ⟨⟨h1, h2⟩, h3⟩ := h
  refine ⟨fun p hp => ?_, fun j o hj ho => ?_, fun j o ho hl => ?_⟩
  · have h := h1 p (List.mem_range.2 hp)
    rw [Bool.and_eq_true] at h
    obtain ⟨ha, hb⟩ := h
    constructor
    · cases ho : ops[p]? with
      | none => rw [ho] at ha; simp at ha
      | some o =>
        rw [ho] at ha
        simp only [Option.map_some, Option.getD_some, Bool.and_eq_true, Array.all_eq_true_iff_forall_mem, Bool.or_eq_true, Bool.not_eq_true', decide_eq_true_eq] at ha
        refine ⟨o, rfl, fun e he hb => ?_, fun g b hg => ?_⟩
        · rcases ha.1 e he with h | h
          · rw [h] at hb; cases hb
          · exact h
        · have := ha.2
          rw [hg] at this
          simpa using this
    · rw [Bool.or_eq_true] at hb
      rcases hb with hb | hb
      · exact Or.inl hb
      · rw [List.any_eq_true] at hb
        obtain ⟨s, hs, hb⟩ := hb
        rw [List.mem_range] at hs
        rw [Bool.and_eq_true, decide_eq_true_eq] at hb
        cases ho : ops[s]? with
        | none => rw [ho] at hb; simp at hb
        | some o =>
          rw [ho] at hb
          simp only [Option.map_some, Option.getD_some] at hb
          obtain ⟨hb1, hb2⟩ := hb
          rw [Array.any_eq_true] at hb2
          obtain ⟨n, hn, he⟩ := hb2
          rw [Bool.and_eq_true, beq_iff_eq] at he
          exact Or.inr ⟨s, o, hb1, by omega, ho, _, Array.getElem_mem hn, he.1, he.2⟩
  · have hlt : j < ops.size := (Array.getElem?_eq_some_iff.1 ho).1
    have h := h2 j (List.mem_range.2 hlt)
    rw [Bool.or_eq_true, Bool.or_eq_true, decide_eq_true_eq] at h
    rcases h with (h | h) | h
    · omega
    · exact Or.inl h
    · rw [ho] at h
      simp only [Option.map_some, Option.getD_some] at h
      rw [Array.any_eq_true] at h
      obtain ⟨n, hn, he⟩ := h
      rw [Bool.and_eq_true, Bool.and_eq_true, decide_eq_true_eq, Bool.not_eq_true'] at he
      exact Or.inr ⟨_, Array.getElem_mem hn, he.1.1, he.1.2, he.2⟩
  · have hlt : j < ops.size := (Array.getElem?_eq_some_iff.1 ho).1
    have h := h3 j (List.mem_range.2 hlt)
    rw [hl, Bool.not_true, Bool.false_or, Bool.and_eq_true, decide_eq_true_eq, ho] at h
    simp only [Option.map_some, Option.getD_some, Array.all_eq_true_iff_forall_mem, Bool.or_eq_true, Bool.not_eq_true'] at h
    refine ⟨h.1, fun e he hb => ?_⟩
    rcases h.2 e he with h | h
    · rw [h] at hb; cases hb
    · exact h

theorem wanted_pre {k : Nat} {o : Oper} {t : Array Value} (hg : ∀ g b, o.guard = some (g, b) → g < k) : Region.wanted o (yielded (ops.take k) t) = Region.wanted o (yielded ops t) := by
  unfold Region.wanted
  cases h : o.guard with
  | none => rfl
  | some gb =>
    obtain ⟨g, b⟩ := gb
    have hgk := hg g b h
    have e : (ops.take k)[g]? = ops[g]? := by
      rw [Array.take_eq_extract, Array.getElem?_extract]
      simp only [Nat.zero_add, Nat.sub_zero]
      split
      · rfl
      · rw [Array.getElem?_eq_none]; omega
    simp only [yielded, e]

theorem pre_get {k p : Nat} (hp : p < k) : (ops.take k)[p]? = ops[p]? := by
  rw [Array.take_eq_extract, Array.getElem?_extract]
  simp only [Nat.zero_add, Nat.sub_zero]
  split
  · rfl
  · rw [Array.getElem?_eq_none]; omega

theorem wpAny_of_prefix {k : Nat} {L : Array Bool} (hP : prefixB md ops k L = true) (hk : k ≤ ops.size) {R : Act → Prop} {g : Nat}
    (H : ∀ listed : Array Bool, listed.size = ops.size → (∀ j, j < ops.size → listed.getD j true = (decide (j < k) || L.getD j false)) → ∀ a' w', C w' → R a' → wpAny P md ops Q g listed a' w') :
    ∀ (f : Nat) (pl listed : Array Bool) (a : Act) (w : World), pl.size = k → listed.size = ops.size → (∀ p, p < k → listed.getD p true = pl.getD p true) → (∀ j, k ≤ j → j < ops.size → listed.getD j true = L.getD j false) →
      (∀ j o, ops[j]? = some o → listed.getD j false = true → ∀ e ∈ o.after, Region.binds md e = true → listed.getD e.on false = true) → (∀ p, L.getD p false = true → listed.getD p false = true) → C w →
      wpAnyQ P md (ops.take k) C R f pl a → wpAny P md ops Q (f + g) listed a w := by
  obtain ⟨hpre, hlate, hLc⟩ := prefix_spec hP
  intro f
  induction f with
  | zero =>
    intro pl listed a w hps hls hsame hno hcl hL hC hq
    have hall : ∀ p, p < k → listed.getD p true = true := by
      intro p
      induction p using Nat.strongRecOn with
      | _ p ih =>
        intro hp
        cases hl : listed.getD p true with
        | true => rfl
        | false =>
          exfalso
          obtain ⟨⟨o, ho, hb, _⟩, _⟩ := hpre p hp
          have hr : p ∈ Region.ready md (ops.take k) pl := by
            rw [mem_ready]
            refine ⟨by rw [← hsame p hp]; exact hl, o, by rw [pre_get hp]; exact ho, fun e he hbi => ?_⟩
            have h1 := hb e he hbi
            have h2 := ih e.on h1 (by omega)
            rw [hsame _ (by omega)] at h2
            rcases getD_or (l := pl) (j := e.on) (by omega) with h3 | h3
            · rw [h3] at h2; cases h2
            · exact h3
          rw [hq.1] at hr
          cases hr
    rw [Nat.zero_add]
    exact H listed hls (fun j hj => by
      by_cases h : j < k
      · rw [hall j h, decide_eq_true h]; rfl
      · rw [hno j (by omega) hj, decide_eq_false h]; rfl) a w hC hq.2
  | succ f ih =>
    intro pl listed a w hps hls hsame hno hcl hL hC hq
    by_cases hall : ∀ p, p < k → listed.getD p true = true
    · -- nothing of the prefix is left
      have hr0 : Region.ready md (ops.take k) pl = [] := by
        cases hr : Region.ready md (ops.take k) pl with
        | nil => rfl
        | cons i rest =>
          exfalso
          have hi : i ∈ Region.ready md (ops.take k) pl := by rw [hr]; simp
          obtain ⟨h0, o, ho, _⟩ := mem_ready.1 hi
          have hik : i < k := by
            rcases Nat.lt_or_ge i k with h | h
            · exact h
            · rw [Array.getElem?_eq_none (by simp [Array.size_extract]; omega)] at ho; cases ho
          rw [← hsame i hik, hall i hik] at h0
          cases h0
      refine wpAny_le (H listed hls (fun j hj => by
        by_cases h : j < k
        · rw [hall j h, decide_eq_true h]; rfl
        · rw [hno j (by omega) hj, decide_eq_false h]; rfl) a w hC (hq.1 hr0)) (by omega)
    · -- the least one that is left is ready; whatever is ready is of the prefix
      have hready : ∀ i ∈ Region.ready md ops listed, i < k ∧ i ∈ Region.ready md (ops.take k) pl := by
        intro i hi
        obtain ⟨h0, o, ho, hb⟩ := mem_ready.1 hi
        have hik : i < k := by
          rcases Nat.lt_or_ge i k with h | h
          · exact h
          · exfalso
            rcases Nat.lt_or_ge k i with h' | h'
            · have hiL : L.getD i false = false := by
                have hisz : i < ops.size := (Array.getElem?_eq_some_iff.1 ho).1
                rw [hno i (by omega) hisz] at h0
                exact h0
              obtain ⟨e, he, hbi, hon, hnl⟩ := (hlate i o h' ho).resolve_left (by rw [hiL]; simp)
              have h1 := hb e he hbi
              rcases Nat.lt_or_ge e.on ops.size with h2 | h2
              · exact getD_true_false ((hno e.on hon h2).trans hnl) h1
              · simp [Array.getElem?_eq_none (show listed.size ≤ e.on by omega)] at h1
            · have hik : i = k := by omega
              subst hik
              apply hall
              have : ∀ d p, p < i → i - p ≤ d → listed.getD p true = true := by
                intro d
                induction d with
                | zero => intro p h1 h2; omega
                | succ d ihd =>
                  intro p hp hd
                  have hl : listed.getD p false = true := by
                    rcases (hpre p hp).2 with hlp | ⟨s, os, hps', hsk, hos, e, he, hbi, hon⟩
                    · exact hL p hlp
                    · rcases Nat.lt_or_ge s i with h' | h'
                      · have h1 := ihd s h' (by omega)
                        have h2 : listed.getD s false = true := by
                          rcases getD_or (l := listed) (j := s) (by omega) with h3 | h3
                          · rw [h3] at h1; cases h1
                          · exact h3
                        have := hcl s os hos h2 e he hbi
                        rw [hon] at this
                        exact this
                      · have hsi : s = i := by omega
                        subst hsi
                        rw [ho] at hos
                        cases hos
                        have := hb e he hbi
                        rw [hon] at this
                        exact this
                  cases h4 : listed.getD p true with
                  | true => rfl
                  | false => exact absurd hl (fun h5 => getD_true_false h4 h5)
              exact fun p hp => this (i - p) p hp (Nat.le_refl _)
        refine ⟨hik, mem_ready.2 ⟨by rw [← hsame i hik]; exact h0, o, by rw [pre_get hik]; exact ho, fun e he hbi => ?_⟩⟩
        have h1 := hb e he hbi
        obtain ⟨⟨o', ho', hlt, _⟩, _⟩ := hpre i hik
        rw [ho] at ho'
        cases ho'
        have h2 := hlt e he hbi
        rcases getD_or (l := pl) (j := e.on) (by omega) with h3 | h3
        · rw [← hsame _ (by omega)] at h3; exact absurd h1 (fun h5 => getD_true_false h3 h5)
        · exact h3
      have hsome : Region.ready md ops listed ≠ [] := by
        intro hnil
        apply hall
        intro p
        induction p using Nat.strongRecOn with
        | _ p ihp =>
          intro hp
          cases hl : listed.getD p true with
          | true => rfl
          | false =>
            exfalso
            obtain ⟨⟨o, ho, hb, _⟩, _⟩ := hpre p hp
            have hr : p ∈ Region.ready md ops listed := by
              rw [mem_ready]
              refine ⟨hl, o, ho, fun e he hbi => ?_⟩
              have h1 := hb e he hbi
              have h2 := ihp e.on h1 (by omega)
              rcases getD_or (l := listed) (j := e.on) (by omega) with h3 | h3
              · rw [h3] at h2; cases h2
              · exact h3
            rw [hnil] at hr
            cases hr
      rw [Nat.succ_add]
      refine ⟨fun h => absurd h hsome, fun i hi => ?_⟩
      obtain ⟨hik, hip⟩ := hready i hi
      have h1 := hq.2 i hip
      obtain ⟨⟨o, ho, hlt, hgu⟩, _⟩ := hpre i hik
      have next : ∀ a' w', C w' → wpAnyQ P md (ops.take k) C R f (pl.setIfInBounds i true) a' → wpAny P md ops Q (f + g) (listed.setIfInBounds i true) a' w' := by
        intro a' w' hC' hq'
        refine ih _ _ a' w' (by simpa using hps) (by simpa using hls) (fun p hp => ?_) (fun j hj hj2 => ?_) (fun j oj hoj hl e he hbi => ?_) (fun p hp => getD_set_true (hL p hp)) hC' hq'
        · by_cases e : i = p
          · subst e
            simp [show i < listed.size by omega, show i < pl.size by omega]
          · rw [getD_set_ne true e, getD_set_ne true e]; exact hsame p hp
        · rw [getD_set_ne true (by omega)]; exact hno j hj hj2
        · by_cases e' : i = j
          · subst e'
            rw [ho] at hoj
            cases hoj
            obtain ⟨_, o2, ho2, hb2⟩ := mem_ready.1 hi
            rw [ho] at ho2
            cases ho2
            exact getD_set_true (hb2 e he hbi)
          · rw [getD_set_ne false e'] at hl
            exact getD_set_true (hcl j oj hoj hl e he hbi)
      unfold qOp at h1
      rw [pre_get hik] at h1
      unfold wpOp
      simp only [ho] at h1 ⊢
      rw [wanted_pre hgu] at h1
      split
      · rename_i hw
        simp only [hw, if_true] at h1
        exact .inl (Oper.wp_of_quiet hC next h1)
      · rename_i hw
        simp only [hw] at h1
        exact next _ _ hC h1

theorem wpQuiet_pre {k : Nat} {R : Act → Prop} : ∀ (l : List Oper) (a : Act), (∀ o ∈ l, ∀ g b, o.guard = some (g, b) → g < k) → wpQuiet P ops C R l a → wpQuiet P (ops.take k) C R l a
  | [], _, _, h => h
  | o :: l, a, hg, h => by
    unfold wpQuiet at h ⊢
    rw [wanted_pre (hg o (by simp))]
    split
    · rename_i hw
      rw [if_pos hw] at h
      exact Oper.quiet_mono (fun a => wpQuiet_pre l a (fun o ho => hg o (by simp [ho]))) h
    · rename_i hw
      rw [if_neg hw] at h
      exact wpQuiet_pre l _ (fun o ho => hg o (by simp [ho])) h

/-- One operation behind the other, each ready and free where it comes up; none is left. -/
def orderB (md : Region.Mode) (ops : Array Oper) : List Nat → Array Bool → Bool
  | [], listed => (Region.ready md ops listed).isEmpty
  | i :: S, listed => (Region.ready md ops listed).contains i && Region.free md ops listed i && orderB md ops S (listed.setIfInBounds i true)
theorem wpAnyQ_order {R : Act → Prop} (hs : Region.noSelect ops = true) : ∀ (S : List Nat) (listed : Array Bool) (a : Act), orderB md ops S listed = true → wpQuiet P ops C R (S.filterMap fun i => ops[i]?) a → wpAnyQ P md ops C R S.length listed a
  | [], _, _, hB, h => ⟨by simpa [orderB] using hB, h⟩
  | i :: S, listed, a, hB, h => by
    simp only [orderB, Bool.and_eq_true] at hB
    obtain ⟨⟨hr, hf⟩, hB'⟩ := hB
    have hr' : i ∈ Region.ready md ops listed := by simpa using hr
    obtain ⟨_, o, ho, _⟩ := mem_ready.1 hr'
    rw [List.filterMap_cons_some ho] at h
    have hst : qOp P ops C i (wpQuiet P ops C R (S.filterMap fun i => ops[i]?)) a := by unfold qOp; simp only [ho]; exact h
    obtain ⟨v, hy, hK⟩ := yieldsIn_of_qOp ho hst
    exact wpAnyQ_first ho (Region.noSelect_spec hs) S.length listed a (Region.free_spec ho hf) hr' hy (wpAnyQ_order hs S _ _ hB' hK)

/-- From a state in which some have come up already (L): the operations S, all that are left of the first k, are quiet; what follows is walked from there. -/
theorem wpAny_upto (k : Nat) (S : List Nat) (C : World → Prop) {a : Act} {w : World} {l : List Oper} {L : Array Bool} {g : Nat} (hP : prefixB .any l.toArray k L = true)
    (hk : (decide (k ≤ l.length) && decide (L.size = l.length) && S.all (fun i => decide (i < k))) = true)
    (hs : Region.noSelect (l.toArray.take k) = true) (hB : orderB .any (l.toArray.take k) S (L.take k) = true) (hC : C w)
    (h : wpQuiet P l.toArray C (fun a' => ∀ w', C w' → wpAny P .any l.toArray Q g ((List.range l.length).map (fun j => decide (j < k) || L.getD j false)).toArray a' w') (S.filterMap fun i => l[i]?) a) :
    wpAny P .any l.toArray Q (S.length + g) L a w := by
  rw [Bool.and_eq_true, Bool.and_eq_true, decide_eq_true_eq, decide_eq_true_eq, List.all_eq_true] at hk
  obtain ⟨⟨hk, hLs⟩, hSk⟩ := hk
  have hsel : (S.filterMap fun i => (l.toArray.take k)[i]?) = S.filterMap fun i => l[i]? := by
    have : ∀ T : List Nat, (∀ i ∈ T, i < k) → (T.filterMap fun i => (l.toArray.take k)[i]?) = T.filterMap fun i => l[i]? := by
      intro T
      induction T with
      | nil => intro _; rfl
      | cons i T ih =>
        intro h
        rw [List.filterMap_cons, List.filterMap_cons, ih (fun x hx => h x (by simp [hx])), pre_get (h i (by simp))]
        simp
    exact this S (fun i hi => by have := hSk i hi; rwa [decide_eq_true_eq] at this)
  have hq := wpAnyQ_order (P := P) (C := C) (md := .any) (R := fun a' => ∀ w', C w' → wpAny P .any l.toArray Q g ((List.range l.length).map (fun j => decide (j < k) || L.getD j false)).toArray a' w') hs S (L.take k) a hB (by
    rw [hsel]
    refine wpQuiet_pre _ _ (fun o ho gg b hgg => ?_) h
    obtain ⟨i, hi, hio⟩ := List.mem_filterMap.1 ho
    have hik := hSk i hi
    rw [decide_eq_true_eq] at hik
    obtain ⟨⟨o', ho', _, hg⟩, _⟩ := (prefix_spec hP).1 i hik
    simp at ho'
    rw [hio] at ho'
    cases ho'
    exact hg gg b hgg)
  refine wpAny_of_prefix (P := P) (Q := Q) (C := C) (g := g) hP (by simpa using hk) (fun listed hls hl a' w' hC' hR => ?_) S.length (L.take k) L a w (by simp [Array.size_extract]; omega) (by simpa using hLs) (fun p hp => ?_) (fun j hj hj2 => ?_) (fun j o ho hl => ((prefix_spec hP).2.2 j o ho hl).2) (fun p hp => hp) hC hq
  · have : listed = ((List.range l.length).map (fun j => decide (j < k) || L.getD j false)).toArray := by
      apply Array.ext
      · simpa using hls
      · intro i h1 h2
        have := hl i (by rw [← hls]; exact h1)
        simp [h1] at this
        simp
        exact this
    rw [this]
    exact hR w' hC'
  · have e : (L.take k)[p]? = L[p]? := by
      rw [Array.take_eq_extract, Array.getElem?_extract]
      simp only [Nat.zero_add, Nat.sub_zero]
      split
      · rfl
      · rw [Array.getElem?_eq_none]; omega
    simp only [Array.getD_eq_getD_getElem?, e]
  · have hj3 : j < L.size := by rw [hLs]; simpa using hj2
    simp [hj3]

/-! A region in the order of the text, its values by hand. -/
theorem l_val {o : Oper} {rest : List Oper} {a : Act} {w : World} {v : Value} (hw : Region.wanted o (yielded ops a.tmps) = true) (hv : (execOp a.eval o).run P w = .ok (.value v) w) (h : wpList P ops Q rest (a.put o.dst v) w) : wpList P ops Q (o :: rest) a w :=
  wpList_step fun K hK => by rw [if_pos hw]; unfold Oper.wp; rw [hv]; exact hK _ _ h
theorem l_skip {o : Oper} {rest : List Oper} {a : Act} {w : World} (hw : Region.wanted o (yielded ops a.tmps) = false) (h : wpList P ops Q rest (a.put o.dst undef) w) : wpList P ops Q (o :: rest) a w :=
  wpList_step fun K hK => by rw [if_neg (by rw [hw]; exact Bool.false_ne_true)]; exact hK _ _ h
theorem l_call {o : Oper} {rest : List Oper} {a : Act} {w : World} {v : Value} {f : FuncId} {args : Array Value} {R : World → Prop} (hw : Region.wanted o (yielded ops a.tmps) = true) (he : (execOp a.eval o).run P w = .ok (.enter f args) w)
    (hc : Calls P f args w fun e w' => e = .returned v ∧ R w') (h : ∀ w', R w' → wpList P ops Q rest (a.put o.dst v) w') : wpList P ops Q (o :: rest) a w :=
  wpList_step fun K hK => by
    rw [if_pos hw]; unfold Oper.wp; rw [he]
    exact hc.mono fun e w' ⟨he, hR⟩ => by subst he; exact hK _ _ (h w' hR)

section

variable {w W w' : World} {f : FuncId} {args : Array Value} {v : Value}
theorem up_cell (hW : Below w.heap.size w W) {p : Addr} {u : Value} (h : w.cell? p = some u) : W.cell? p = some u := by
  rw [hW.cell (p := p) ?_]; · exact h
  rcases Nat.lt_or_ge p.block w.heap.size with h' | h'
  · exact h'
  · unfold World.cell? at h; simp [Array.getElem?_eq_none h'] at h
theorem q_of (hW : Below w.heap.size w W) (h : Calls P f args W fun e w' => e = .returned v ∧ Below W.heap.size W w') : Calls P f args W fun e w' => e = .returned v ∧ Below w.heap.size w w' :=
  h.mono fun _ _ h => ⟨h.1, hW.trans (h.2.mono hW.size)⟩
theorem q_same (hW : Below w.heap.size w W) (h : Calls P f args W fun e w' => e = .returned v ∧ W = w') : Calls P f args W fun e w' => e = .returned v ∧ Below w.heap.size w w' :=
  h.mono fun _ _ h => ⟨h.1, h.2 ▸ hW⟩
theorem q_drew (hW : Below w.heap.size w W) (h : Calls P f args W fun e w' => e = .returned v ∧ (w' = W ∨ w' = W.drew)) : Calls P f args W fun e w' => e = .returned v ∧ Below w.heap.size w w' :=
  h.mono fun _ _ h => ⟨h.1, by rcases h.2 with h | h <;> rw [h] <;> first | exact hW | exact hW.drew⟩
end
end
end Go.Proofs.YtjlcbabnkhdgpaaGreatDoor
