/-
  Walks: a region that draws its order and ends in stores into cells that it loads: a load may be taken first as long as the stores wait for it.
  (After the kit's Derived/OrdersHeld.lean, whose condition is asked of the whole region.)
-/
import Derived.OrdersHeld
import Derived.RegionTactic
namespace Go.Proofs.YtjlcbabnkhdgpaaGreatDoor
open Go

section
variable {P : Program} {ops : Array Oper} {Q : Exit → Act → World → Prop} {md : Region.Mode} {T : World → Prop} {k : Nat}

/-- Whatever order is picked from here on; as long as number k has not come up, T holds behind every operation that is carried out. -/
def wpAnyK (P : Program) (md : Region.Mode) (ops : Array Oper) (Q : Exit → Act → World → Prop) (T : World → Prop) (k : Nat) : Nat → Array Bool → Act → World → Prop
  | 0, listed, a, w => Region.ready md ops listed = [] ∧ Q .normal a w
  | fuel + 1, listed, a, w =>
    (Region.ready md ops listed = [] → Q .normal a w) ∧
    ∀ i ∈ Region.ready md ops listed, wpOp P ops Q i (fun a' w' => ((listed.setIfInBounds i true).getD k true = false → T w') ∧ wpAnyK P md ops Q T k fuel (listed.setIfInBounds i true) a' w') a w

theorem wpAny_of_K : ∀ (fuel : Nat) (listed : Array Bool) (a : Act) (w : World), wpAnyK P md ops Q T k fuel listed a w → wpAny P md ops Q fuel listed a w
  | 0, _, _, _, h => h
  | fuel + 1, _, _, _, h => ⟨h.1, fun i hi => wpOp_mono (fun a' w' h' => wpAny_of_K fuel _ a' w' h'.2) (h.2 i hi)⟩

/-- Each of L waits for i, or for another one of L. -/
def waits (md : Region.Mode) (ops : Array Oper) (i : Nat) (L : List Nat) : Bool :=
  L.all fun l => l != i && ((ops[l]?).map (fun o => o.after.any fun e => Region.binds md e && (e.on == i || L.contains e.on))).getD false

theorem waits_not {i : Nat} {L : List Nat} (hL : waits md ops i L = true) {listed : Array Bool} (hi : listed.getD i true = false) (hl : ∀ l ∈ L, listed.getD l true = false) : ∀ l ∈ L, l ∉ Region.ready md ops listed := by
  intro l hlL hr
  unfold waits at hL
  rw [List.all_eq_true] at hL
  have h := hL l hlL
  rw [Bool.and_eq_true] at h
  obtain ⟨_, o, ho, hall⟩ := mem_ready.1 hr
  rw [ho] at h
  simp only [Option.map_some, Option.getD_some] at h
  obtain ⟨_, h⟩ := h
  rw [Array.any_eq_true] at h
  obtain ⟨n, hn, he⟩ := h
  rw [Bool.and_eq_true] at he
  have h1 := hall _ (Array.getElem_mem hn) he.1
  have conv : ∀ j, listed.getD j true = false → listed.getD j false = true → False := fun j h0 h1 => by
    rcases Nat.lt_or_ge j listed.size with h' | h'
    · simp [h'] at h0 h1; rw [h0] at h1; cases h1
    · simp [Array.getElem?_eq_none h'] at h1
  have h2 := he.2
  rw [Bool.or_eq_true, beq_iff_eq, List.contains_iff_mem] at h2
  rcases h2 with h2 | h2
  · rw [h2] at h1; exact conv _ hi h1
  · exact conv _ (hl _ h2) h1

theorem wpAnyK_first {i : Nat} {oi : Oper} {v : Value} {L : List Nat} (hi : ops[i]? = some oi) (hsel : ∀ (j : Nat) (o : Oper) cs b, ops[j]? = some o → o.op ≠ .select cs b)
    (hQ : ∀ c a w, Q (.panic c) (a.put oi.dst v) w → Q (.panic c) a w) (hL : waits md ops i L = true) (hk : k ∈ L) :
    ∀ (fuel : Nat) (listed : Array Bool) (a : Act) (w : World),
      (∀ l ∈ L, listed.getD l true = false) →
      (∀ j oj, ops[j]? = some oj → j ≠ i → listed.getD j true = false → (∀ e ∈ oj.after, Region.binds md e = true → e.on ≠ i) → oi.apart ops oj = true) →
      i ∈ Region.ready md ops listed → YieldsIf P ops T oi v a → T w →
      wpAnyK P md ops Q T k fuel (listed.setIfInBounds i true) (a.put oi.dst v) w → wpAnyK P md ops Q T k (fuel + 1) listed a w := by
  intro fuel
  induction fuel with
  | zero =>
    intro listed a w _ _ hr hy hS H
    refine ⟨fun h => (by rw [h] at hr; cases hr), fun j hj => ?_⟩
    by_cases hji : j = i
    · subst hji; exact hy.wpOp hi hS ⟨fun _ => hS, H⟩
    · have := ready_mono hj hji
      rw [H.1] at this
      cases this
  | succ fuel ih =>
    intro listed a w hl hfree hr hy hS H
    refine ⟨fun h => (by rw [h] at hr; cases hr), fun j hj => ?_⟩
    by_cases hji : j = i
    · subst hji; exact hy.wpOp hi hS ⟨fun _ => hS, H⟩
    · have h1 := H.2 j (ready_mono hj hji)
      have hjL : j ∉ L := fun h => waits_not hL (mem_ready.1 hr).1 hl j h hj
      obtain ⟨hjun, oj, hoj, hall⟩ := mem_ready.1 hj
      have hnot : ∀ e ∈ oj.after, Region.binds md e = true → e.on ≠ i := fun e he hb heq => by
        have h1 := hall e he hb
        have h0 := (mem_ready.1 hr).1
        rw [heq] at h1
        rcases Nat.lt_or_ge i listed.size with h' | h'
        · simp [h'] at h0 h1; rw [h0] at h1; cases h1
        · simp [Array.getElem?_eq_none h'] at h1
      have h2 := wpOp_putIf hoj (hfree j oj hoj hji hjun hnot) (fun cs b => hsel i oi cs b hi) (fun cs b => hsel j oj cs b hoj) hQ hy h1
      have hfree' : ∀ k ok, ops[k]? = some ok → k ≠ i → (listed.setIfInBounds j true).getD k true = false →
          (∀ e ∈ ok.after, Region.binds md e = true → e.on ≠ i) → oi.apart ops ok = true := fun k ok hk hki hun hno => by
        refine hfree k ok hk hki ?_ hno
        by_cases hjk : j = k
        · subst hjk; exact hjun
        · rw [getD_set_ne true hjk] at hun; exact hun
      have hl' : ∀ l ∈ L, (listed.setIfInBounds j true).getD l true = false := fun l hlL => by
        have hjl : j ≠ l := fun e => hjL (by rw [e]; exact hlL)
        rw [getD_set_ne true hjl]; exact hl l hlL
      have hki : k ≠ i := fun e => by
        unfold waits at hL
        rw [List.all_eq_true] at hL
        have := hL k hk
        rw [Bool.and_eq_true, bne_iff_ne] at this
        exact this.1 e
      refine wpOp_mono (fun a' w' h3 => ?_) h2
      have hT : T w' := h3.2.1 (by
        rw [Array.setIfInBounds_comm _ _ (Ne.symm hji), getD_set_ne true (Ne.symm hki)]
        exact hl' k hk)
      refine ⟨fun _ => hT, ih (listed.setIfInBounds j true) a' w' hl' hfree' (ready_mono hr (Ne.symm hji)) h3.1 hT ?_⟩
      rw [Array.setIfInBounds_comm _ _ hji]
      exact h3.2.2

/-- What yields in whatever world may be taken first, whether the late ones wait for it or not. -/
theorem wpAnyK_firstAny {i : Nat} {oi : Oper} {v : Value} (hi : ops[i]? = some oi) (hsel : ∀ (j : Nat) (o : Oper) cs b, ops[j]? = some o → o.op ≠ .select cs b)
    (hQ : ∀ c a w, Q (.panic c) (a.put oi.dst v) w → Q (.panic c) a w) (hki : k ≠ i) :
    ∀ (fuel : Nat) (listed : Array Bool) (a : Act) (w : World),
      (∀ j oj, ops[j]? = some oj → j ≠ i → listed.getD j true = false → (∀ e ∈ oj.after, Region.binds md e = true → e.on ≠ i) → oi.apart ops oj = true) →
      i ∈ Region.ready md ops listed → Yields P ops oi v a → (listed.getD k true = false → T w) →
      wpAnyK P md ops Q T k fuel (listed.setIfInBounds i true) (a.put oi.dst v) w → wpAnyK P md ops Q T k (fuel + 1) listed a w := by
  intro fuel
  induction fuel with
  | zero =>
    intro listed a w _ hr hy hS H
    refine ⟨fun h => (by rw [h] at hr; cases hr), fun j hj => ?_⟩
    by_cases hji : j = i
    · subst hji; exact (hy.yieldsIf (S := fun _ => True)).wpOp hi trivial ⟨fun h => hS (by rw [getD_set_ne true (Ne.symm hki)] at h; exact h), H⟩
    · have := ready_mono hj hji
      rw [H.1] at this
      cases this
  | succ fuel ih =>
    intro listed a w hfree hr hy hS H
    refine ⟨fun h => (by rw [h] at hr; cases hr), fun j hj => ?_⟩
    by_cases hji : j = i
    · subst hji; exact (hy.yieldsIf (S := fun _ => True)).wpOp hi trivial ⟨fun h => hS (by rw [getD_set_ne true (Ne.symm hki)] at h; exact h), H⟩
    · have h1 := H.2 j (ready_mono hj hji)
      obtain ⟨hjun, oj, hoj, hall⟩ := mem_ready.1 hj
      have hnot : ∀ e ∈ oj.after, Region.binds md e = true → e.on ≠ i := fun e he hb heq => by
        have h1 := hall e he hb
        have h0 := (mem_ready.1 hr).1
        rw [heq] at h1
        rcases Nat.lt_or_ge i listed.size with h' | h'
        · simp [h'] at h0 h1; rw [h0] at h1; cases h1
        · simp [Array.getElem?_eq_none h'] at h1
      have h2 := wpOp_put hoj (hfree j oj hoj hji hjun hnot) (fun cs b => hsel i oi cs b hi) (fun cs b => hsel j oj cs b hoj) hQ hy h1
      have hfree' : ∀ k ok, ops[k]? = some ok → k ≠ i → (listed.setIfInBounds j true).getD k true = false →
          (∀ e ∈ ok.after, Region.binds md e = true → e.on ≠ i) → oi.apart ops ok = true := fun k ok hk hki hun hno => by
        refine hfree k ok hk hki ?_ hno
        by_cases hjk : j = k
        · subst hjk; exact hjun
        · rw [getD_set_ne true hjk] at hun; exact hun
      refine wpOp_mono (fun a' w' h3 => ?_) h2
      have hT : (listed.setIfInBounds j true).getD k true = false → T w' := fun h => h3.2.1 (by
        rw [Array.setIfInBounds_comm _ _ (Ne.symm hji), getD_set_ne true (Ne.symm hki)]
        exact h)
      refine ⟨hT, ih (listed.setIfInBounds j true) a' w' hfree' (ready_mono hr (Ne.symm hji)) h3.1 hT ?_⟩
      rw [Array.setIfInBounds_comm _ _ hji]
      exact h3.2.2

theorem wpAnyK_takeAny {i : Nat} {oi : Oper} {v : Value} {fuel : Nat} {listed : Array Bool} {a : Act} {w : World} (hi : ops[i]? = some oi)
    (hs : Region.noSelect ops = true) (hf : Region.free md ops listed i = true) (hr : (Region.ready md ops listed).contains i = true) (hk : (k != i) = true)
    (hQ : ∀ c a w, Q (.panic c) (a.put oi.dst v) w → Q (.panic c) a w) (hy : Yields P ops oi v a) (hT : listed.getD k true = false → T w)
    (h : wpAnyK P md ops Q T k fuel (listed.setIfInBounds i true) (a.put oi.dst v) w) : wpAnyK P md ops Q T k (fuel + 1) listed a w :=
  wpAnyK_firstAny hi (Region.noSelect_spec hs) hQ (by simpa using hk) fuel listed a w (Region.free_spec hi hf) (by simpa using hr) hy hT h

theorem wpAnyK_take {i : Nat} {L : List Nat} {oi : Oper} {v : Value} {fuel : Nat} {listed : Array Bool} {a : Act} {w : World} (hi : ops[i]? = some oi)
    (hs : Region.noSelect ops = true) (hf : Region.free md ops listed i = true) (hr : (Region.ready md ops listed).contains i = true)
    (hL : (waits md ops i L && L.contains k && L.all (fun l => !listed.getD l true)) = true)
    (hQ : ∀ c a w, Q (.panic c) (a.put oi.dst v) w → Q (.panic c) a w) (hy : YieldsIf P ops T oi v a) (hT : T w)
    (h : wpAnyK P md ops Q T k fuel (listed.setIfInBounds i true) (a.put oi.dst v) w) : wpAnyK P md ops Q T k (fuel + 1) listed a w := by
  rw [Bool.and_eq_true, Bool.and_eq_true, List.contains_iff_mem, List.all_eq_true] at hL
  exact wpAnyK_first hi (Region.noSelect_spec hs) hQ hL.1.1 hL.1.2 fuel listed a w (fun l hl => by simpa using hL.2 l hl) (Region.free_spec hi hf) (by simpa using hr) hy hT h

def AllReadyK (P : Program) (md : Region.Mode) (ops : Array Oper) (Q : Exit → Act → World → Prop) (T : World → Prop) (k : Nat) (fuel : Nat) (listed : Array Bool) (a : Act) (w : World) (rs : List Nat) : Prop :=
  ∀ i ∈ rs, wpOp P ops Q i (fun a' w' => ((listed.setIfInBounds i true).getD k true = false → T w') ∧ wpAnyK P md ops Q T k fuel (listed.setIfInBounds i true) a' w') a w
theorem AllReadyK.nil {fuel : Nat} {listed : Array Bool} {a : Act} {w : World} : AllReadyK P md ops Q T k fuel listed a w [] := fun _ h => by cases h
theorem AllReadyK.cons {fuel : Nat} {listed : Array Bool} {a : Act} {w : World} {i : Nat} {o : Oper} {rs : List Nat} (ho : ops[i]? = some o)
    (h : ∀ K' : Act → World → Prop, (∀ a w, ((listed.setIfInBounds i true).getD k true = false → T w) → wpAnyK P md ops Q T k fuel (listed.setIfInBounds i true) a w → K' a w) → if Region.wanted o (yielded ops a.tmps) = true then Oper.wp P o a w K' Q else K' (a.put o.dst undef) w)
    (hs : AllReadyK P md ops Q T k fuel listed a w rs) : AllReadyK P md ops Q T k fuel listed a w (i :: rs) := fun j hj => by
  rcases List.mem_cons.1 hj with rfl | hj
  · exact wpOp_step ho (fun K' hK => h K' (fun a w hS hW => hK a w ⟨hS, hW⟩))
  · exact hs j hj
theorem wpAnyK_ready {rs : List Nat} {fuel : Nat} {listed : Array Bool} {a : Act} {w : World} (hr : Region.ready md ops listed = rs) (hne : rs ≠ [])
    (h : AllReadyK P md ops Q T k fuel listed a w rs) : wpAnyK P md ops Q T k (fuel + 1) listed a w :=
  ⟨fun h0 => absurd (hr ▸ h0) hne, hr ▸ h⟩
theorem wpAnyK_done {listed : Array Bool} {a : Act} {w : World} (hr : Region.ready md ops listed = []) (h : Q .normal a w) : ∀ fuel, wpAnyK P md ops Q T k fuel listed a w
  | 0 => ⟨hr, h⟩
  | _ + 1 => ⟨fun _ => h, by rw [hr]; simp⟩
theorem wp_region_late {id : Nat} {a : Act} {w : World} (k : Nat) (T : World → Prop) (hm : P.follows .mixedOrders = true)
    (h : wpAnyK P .any ops Q T k ops.size (Array.replicate ops.size false) a w.drew) : (Code.region id ops true).wp P Q a w :=
  wp_region_any hm (wpAny_of_K _ _ _ _ h)
end
end Go.Proofs.YtjlcbabnkhdgpaaGreatDoor
