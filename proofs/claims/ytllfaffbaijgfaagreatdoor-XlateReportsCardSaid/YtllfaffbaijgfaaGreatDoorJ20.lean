/- A region that draws its order, walked by assertions, where some operations make blocks: these lie apart. After XRegionP. No program text. slices.Equal over numbers. -/
import Derived.Test.YtllfaffbaijgfaaGreatDoorJ03
import Derived.Test.YtllfaffbaijgfaaGreatDoorJ11
import Derived.Test.YtllfaffbaijgfaaGreatDoorJ08
set_option linter.unusedVariables false
set_option linter.unusedSimpArgs false
namespace Go.Proofs.YtllfaffbaijgfaaGreatDoor
open Go Go.RowKit

def Fresh (w : World) (v : Value) : Prop := ∀ c, v = .pointer (some ⟨c, 0, none⟩) → w.heap.size ≤ c
def Apart (u v : Value) : Prop := ∀ b c, u = .pointer (some ⟨b, 0, none⟩) → v = .pointer (some ⟨c, 0, none⟩) → b ≠ c

section
variable {P : Program} {ops : Array Oper} {md : Region.Mode}

structure PInvD (A : Nat → Bool) (C : World → Prop) (V : Nat → Value → (Nat → Value) → World → Prop) (ops : Array Oper) (n : Nat) (a0 : Act) (listed : Array Bool) (a : Act) (w : World) : Prop where
  cls : C w
  size : a.tmps.size = a0.tmps.size
  defers : a.defers = a0.defers
  old : ∀ t, (∀ j oj, j < n → ops[j]? = some oj → listed.getD j false = true → oj.dst ≠ some t) → a.tmps.getD t undef = a0.tmps.getD t undef
  deps : ∀ j oj, j < n → ops[j]? = some oj → listed.getD j false = true → ∀ e ∈ oj.after, Region.binds .any e = true → listed.getD e.on false = true
  pair : ∀ i oi j oj, i < n → j < n → i ≠ j → A i = true → A j = true → ops[i]? = some oi → ops[j]? = some oj → listed.getD i false = true → listed.getD j false = true → Apart (own oi fun t => a.tmps.getD t undef) (own oj fun t => a.tmps.getD t undef)
  val : ∀ j oj, j < n → ops[j]? = some oj → listed.getD j false = true → V j (own oj fun t => a.tmps.getD t undef) (seen ops oj fun t => a.tmps.getD t undef) w

def OwesD (A : Nat → Bool) (P : Program) (Q : Exit → Act → World → Prop) (C : World → Prop) (T : World → World → Prop) (V : Nat → Value → (Nat → Value) → World → Prop) (ops : Array Oper) (n : Nat) (a0 : Act) (i : Nat) : Prop :=
  ∀ o, ops[i]? = some o → ∀ (a : Act) (w : World), C w → a.tmps.size = a0.tmps.size → a.defers = a0.defers →
    (∀ t, (∀ j oj, j < n → ops[j]? = some oj → oj.dst ≠ some t) → a.tmps.getD t undef = a0.tmps.getD t undef) →
    (∀ j oj, j < n → ops[j]? = some oj → (∃ e ∈ o.after, Region.binds .any e = true ∧ e.on = j) → V j (own oj fun t => a.tmps.getD t undef) (seen ops oj fun t => a.tmps.getD t undef) w) →
    if Region.wanted o (yielded ops a.tmps) then o.wp P a w (fun a' w' => ∃ v, a' = a.put o.dst v ∧ T w w' ∧ V i (if o.dst.isSome then v else undef) (seen ops o fun t => a.tmps.getD t undef) w' ∧ (A i = true → Fresh w (if o.dst.isSome then v else undef))) Q
    else V i undef (seen ops o fun t => a.tmps.getD t undef) w ∧ (A i = true → Fresh w undef)

theorem owesD_plain {Q : Exit → Act → World → Prop} {A : Nat → Bool} {C : World → Prop} {T : World → World → Prop} {V : Nat → Value → (Nat → Value) → World → Prop} {n : Nat} {a0 : Act} {i : Nat} {o : Oper} (ho : ops[i]? = some o) (hg : o.guard = none)
    (h : ∀ (a : Act) (w : World), C w → (∀ t, notDst ops n t = true → (a.tmps[t]?).getD undef = a0.tmps.getD t undef) →
      (∀ j t, depB ops n o j t = true → ∃ g, V j ((a.tmps[t]?).getD undef) g w) →
      o.upon P a (fun a' w' => ∃ v, a' = a.put o.dst v ∧ T w w' ∧ V i (if o.dst.isSome then v else undef) (seen ops o fun t => a.tmps.getD t undef) w' ∧ (A i = true → Fresh w (if o.dst.isSome then v else undef))) Q ((execOp a.eval o).run P w)) : OwesD A P Q C T V ops n a0 i := by
  intro o' ho' a w hC _ _ hold hdep
  rw [ho] at ho'
  cases ho'
  have hw : Region.wanted o (yielded ops a.tmps) = true := by simp [Region.wanted, hg]
  rw [if_pos hw]
  refine h a w hC (fun t ht => ?_) (fun j t ht => ?_)
  · rw [← Array.getD_eq_getD_getElem?]; exact hold t (notDst_spec ht)
  · obtain ⟨hj, ⟨oj, hoj, hd⟩, he⟩ := depB_spec ht
    have := hdep j oj hj hoj he
    simp only [own, hd, Array.getD_eq_getD_getElem?] at this
    exact ⟨_, this⟩

theorem owesD_yes {Q : Exit → Act → World → Prop} {A : Nat → Bool} {C : World → Prop} {T : World → World → Prop} {V : Nat → Value → (Nat → Value) → World → Prop} {n : Nat} {a0 : Act} {i g s : Nat} {b : Bool} {o : Oper} (ho : ops[i]? = some o) (hg : o.guard = some (g, b))
    (hs : depB ops n o g s = true) (hv : ∀ v gg w, V g v gg w → v = .bool b)
    (h : ∀ (a : Act) (w : World), C w → (∀ t, notDst ops n t = true → (a.tmps[t]?).getD undef = a0.tmps.getD t undef) →
      (∀ j t, depB ops n o j t = true → ∃ g, V j ((a.tmps[t]?).getD undef) g w) →
      o.upon P a (fun a' w' => ∃ v, a' = a.put o.dst v ∧ T w w' ∧ V i (if o.dst.isSome then v else undef) (seen ops o fun t => a.tmps.getD t undef) w' ∧ (A i = true → Fresh w (if o.dst.isSome then v else undef))) Q ((execOp a.eval o).run P w)) : OwesD A P Q C T V ops n a0 i := by
  intro o' ho' a w hC _ _ hold hdep
  rw [ho] at ho'
  cases ho'
  obtain ⟨hj, ⟨oj, hoj, hd⟩, he⟩ := depB_spec hs
  have h1 := hv _ _ _ (hdep g oj hj hoj he)
  simp only [own, hd] at h1
  have h2 : a.tmps[s]? = some (.bool b) := getD_bool h1
  have hw : Region.wanted o (yielded ops a.tmps) = true := by simp [Region.wanted, hg, yielded, hoj, hd, h2]
  rw [if_pos hw]
  refine h a w hC (fun t ht => ?_) (fun j t ht => ?_)
  · rw [← Array.getD_eq_getD_getElem?]; exact hold t (notDst_spec ht)
  · obtain ⟨hj, ⟨oj, hoj, hd⟩, he⟩ := depB_spec ht
    have := hdep j oj hj hoj he
    simp only [own, hd, Array.getD_eq_getD_getElem?] at this
    exact ⟨_, this⟩
theorem owesD_no {Q : Exit → Act → World → Prop} {A : Nat → Bool} {C : World → Prop} {T : World → World → Prop} {V : Nat → Value → (Nat → Value) → World → Prop} {n : Nat} {a0 : Act} {i g s : Nat} {b : Bool} {o : Oper} (ho : ops[i]? = some o) (hg : o.guard = some (g, b))
    (hs : depB ops n o g s = true) (hv : ∀ v gg w, V g v gg w → v = .bool (!b))
    (h : ∀ gg w, V i undef gg w) : OwesD A P Q C T V ops n a0 i := by
  intro o' ho' a w hC _ _ hold hdep
  rw [ho] at ho'
  cases ho'
  obtain ⟨hj, ⟨oj, hoj, hd⟩, he⟩ := depB_spec hs
  have h1 := hv _ _ _ (hdep g oj hj hoj he)
  simp only [own, hd] at h1
  have h2 : a.tmps[s]? = some (.bool !b) := getD_bool h1
  have hw : ¬ Region.wanted o (yielded ops a.tmps) = true := by cases b <;> simp [Region.wanted, hg, yielded, hoj, hd, h2]
  rw [if_neg hw]
  exact ⟨h _ _, fun _ c hc => by cases hc⟩

theorem PInvD.step {Q : Exit → Act → World → Prop} {A : Nat → Bool} {C : World → Prop} {T : World → World → Prop} {V : Nat → Value → (Nat → Value) → World → Prop} {n : Nat} {a0 : Act} {listed : Array Bool} {a : Act} {w : World} {i : Nat}
    (hA : ∀ j u g w c, A j = true → V j u g w → u = .pointer (some ⟨c, 0, none⟩) → c < w.heap.size) (hC : ∀ w w', C w → T w w' → C w') (hV : ∀ i v g w w', T w w' → V i v g w → V i v g w') (hTr : ∀ w, T w w) (hd : dstsApart ops n a0.tmps.size = true) (hls : listed.size = ops.size)
    (inv : PInvD A C V ops n a0 listed a w) (hi : i ∈ Region.ready .any ops listed) (hin : i < n) (how : OwesD A P Q C T V ops n a0 i) (heb : edgesBack ops = true) :
    wpOp P ops Q i (fun a' w' => PInvD A C V ops n a0 (listed.setIfInBounds i true) a' w') a w := by
  obtain ⟨hun, o, ho, hall⟩ := mem_ready.1 hi
  have hilt : i < ops.size := (Array.getElem?_eq_some_iff.1 ho).1
  have hset : ∀ j, (listed.setIfInBounds i true).getD j false = true → j = i ∨ listed.getD j false = true := fun j hj => by
    by_cases e : i = j
    · exact .inl e.symm
    · exact .inr (by rw [getD_set_ne false e] at hj; exact hj)
  have hunl : listed.getD i false = false := getD_both hun
  have apart : ∀ k ok t, k < n → listed.getD k false = true → ops[k]? = some ok → ok.dst = some t → o.dst ≠ some t := fun k ok t hk hl hok hdt => by
    have hki : k ≠ i := fun e => by subst e; rw [hunl] at hl; cases hl
    exact (dstsApart_spec hd hk hin hok ho hdt).2 hki
  have fin : ∀ v w', T w w' → V i (if o.dst.isSome then v else undef) (seen ops o fun t => a.tmps.getD t undef) w' → (A i = true → Fresh w (if o.dst.isSome then v else undef)) → PInvD A C V ops n a0 (listed.setIfInBounds i true) (a.put o.dst v) w' := fun v w' hT hv hfr => by
    refine ⟨hC _ _ inv.cls hT, by rw [size_put]; exact inv.size, by rw [defers_put]; exact inv.defers, fun t ht => ?_, fun j oj hjn hj hl e he hb => ?_, fun j oj k ok hjn hkn hjk hAj hAk hj hk hlj hlk => ?_, fun j oj hjn hj hl => ?_⟩
    · have hne : o.dst ≠ some t := ht i o hin ho (by simp [hls, hilt])
      rw [getD_put_ne hne]
      exact inv.old t fun j oj hjn hj hl => ht j oj hjn hj (getD_set_true hl)
    · rcases hset j hl with rfl | hl'
      · rw [ho] at hj; cases hj
        exact getD_set_true (hall e he hb)
      · exact getD_set_true (inv.deps j oj hjn hj hl' e he hb)
    · have ownI : (own o fun t => (a.put o.dst v).tmps.getD t undef) = if o.dst.isSome then v else undef := by
        unfold own
        cases hdt : o.dst with
        | none => rfl
        | some t =>
          have hlt := (dstsApart_spec hd hin hin ho ho hdt).1
          simp only [Option.isSome_some, if_true]
          exact getD_put_same (by rw [inv.size]; exact hlt)
      have ownJ : ∀ j oj, j < n → listed.getD j false = true → ops[j]? = some oj → (own oj fun t => (a.put o.dst v).tmps.getD t undef) = own oj fun t => a.tmps.getD t undef := fun j oj hjn hl' hj => by
        unfold own
        cases hdt : oj.dst with
        | none => rfl
        | some t => exact getD_put_ne (apart j oj t hjn hl' hj hdt)
      rcases hset j hlj with e1 | hlj'
      · rcases hset k hlk with e2 | hlk'
        · exact absurd (e1.trans e2.symm) hjk
        · rw [e1, ho] at hj; cases hj
          rw [ownI, ownJ k ok hkn hlk' hk]
          rw [e1] at hAj
          exact fun b c hb hc => by
            have h1 := hfr hAj b hb
            have h2 := hA k _ _ w c hAk (inv.val k ok hkn hk hlk') hc
            omega
      · rcases hset k hlk with e2 | hlk'
        · rw [e2, ho] at hk; cases hk
          rw [ownI, ownJ j oj hjn hlj' hj]
          rw [e2] at hAk
          exact fun b c hb hc => by
            have h1 := hfr hAk c hc
            have h2 := hA j _ _ w b hAj (inv.val j oj hjn hj hlj') hb
            omega
        · rw [ownJ j oj hjn hlj' hj, ownJ k ok hkn hlk' hk]
          exact inv.pair j oj k ok hjn hkn hjk hAj hAk hj hk hlj' hlk'
    · rcases hset j hl with rfl | hl'
      · rw [ho] at hj; cases hj
        rw [seen_put (ops := ops) (o := o) fun e he hb ok t hok hdt => apart e.on ok t (Nat.lt_trans (edgesBack_spec heb ho he hb) hin) (hall e he hb) hok hdt]
        have : (own o fun t => (a.put o.dst v).tmps.getD t undef) = if o.dst.isSome then v else undef := by
          unfold own
          cases hdt : o.dst with
          | none => rfl
          | some t =>
            have hlt := (dstsApart_spec hd hin hin ho ho hdt).1
            simp only [Option.isSome_some, if_true]
            exact getD_put_same (by rw [inv.size]; exact hlt)
        rw [this]; exact hv
      · rw [seen_put (ops := ops) (o := oj) fun e he hb ok t hok hdt => apart e.on ok t (Nat.lt_trans (edgesBack_spec heb hj he hb) hjn) (inv.deps j oj hjn hj hl' e he hb) hok hdt]
        have : (own oj fun t => (a.put o.dst v).tmps.getD t undef) = own oj fun t => a.tmps.getD t undef := by
          unfold own
          cases hdt : oj.dst with
          | none => rfl
          | some t => exact getD_put_ne (apart j oj t hjn hl' hj hdt)
        rw [this]
        exact hV _ _ _ _ _ hT (inv.val j oj hjn hj hl')
  have h1 := how o ho a w inv.cls inv.size inv.defers (fun t ht => inv.old t fun j oj hjn hj _ => ht j oj hjn hj)
    (fun j oj hjn hj ⟨e, he, hb, hon⟩ => inv.val j oj hjn hj (by rw [← hon]; exact hall e he hb))
  unfold wpOp
  simp only [ho]
  by_cases hw : Region.wanted o (yielded ops a.tmps) = true
  · simp only [hw, if_true] at h1 ⊢
    have : wpOp P ops Q i (fun a' w' => ∃ v, a' = a.put o.dst v ∧ T w w' ∧ V i (if o.dst.isSome then v else undef) (seen ops o fun t => a.tmps.getD t undef) w' ∧ (A i = true → Fresh w (if o.dst.isSome then v else undef))) a w := by
      unfold wpOp; simp only [ho, hw, if_true]; exact .inl h1
    have := wpOp_mono (K' := fun a' w' => PInvD A C V ops n a0 (listed.setIfInBounds i true) a' w') (fun a' w' ⟨v, e, hT, hv, hfr⟩ => e ▸ fin v w' hT hv hfr) this
    unfold wpOp at this
    simpa only [ho, hw, if_true] using this
  · simp only [hw, Bool.false_eq_true, if_false] at h1 ⊢
    exact fin undef w (hTr w) (by simpa using h1.1) (by simpa using h1.2)

theorem wpAny_predD {Q : Exit → Act → World → Prop} {A : Nat → Bool} {C : World → Prop} {T : World → World → Prop} {V : Nat → Value → (Nat → Value) → World → Prop} {n g : Nat} {a0 : Act}
    (hA : ∀ j u g w c, A j = true → V j u g w → u = .pointer (some ⟨c, 0, none⟩) → c < w.heap.size) (hC : ∀ w w', C w → T w w' → C w') (hV : ∀ i v g w w', T w w' → V i v g w → V i v g w') (hTr : ∀ w, T w w)
    (hn : n < ops.size) (hsk : Region.sinkB .any ops n = true) (hch : Region.chainB .any ops n = true) (heb : edgesBack ops = true) (hd : dstsApart ops n a0.tmps.size = true)
    (how : ∀ i, i < n → OwesD A P Q C T V ops n a0 i)
    (hfin : ∀ a w, PInvD A C V ops n a0 (headFull ops n) a w → wpAny P .any ops Q g (headFull ops n) a w) :
    ∀ (f : Nat) (listed : Array Bool) (a : Act) (w : World), (List.range n).countP (fun i => !listed.getD i true) = f → HeadInv .any ops n listed → PInvD A C V ops n a0 listed a w → wpAny P .any ops Q (f + g) listed a w := by
  intro f
  induction f with
  | zero =>
    intro listed a w hcount hinv inv
    have hall : ∀ i, i < n → listed.getD i true = true := fun i hi => by
      have h0 := List.countP_eq_zero.1 hcount i (List.mem_range.2 hi)
      simpa using h0
    have e := headFull_of hinv.size hall hinv.tail
    rw [Nat.zero_add]
    subst e
    exact hfin a w inv
  | succ f ih =>
    intro listed a w hcount hinv inv
    rw [show f + 1 + g = (f + g) + 1 by omega]
    -- an operation of the head is still to come
    have hex : ∃ i, i < n ∧ listed.getD i true = false := by
      have hpos : 0 < (List.range n).countP (fun i => !listed.getD i true) := by omega
      obtain ⟨i, hi, hp⟩ := List.countP_pos_iff.1 hpos
      exact ⟨i, List.mem_range.1 hi, by simpa using hp⟩
    have hleast : ∃ i, i < n ∧ listed.getD i true = false ∧ ∀ j, j < i → listed.getD j true = true := by
      obtain ⟨i, hi, hu⟩ := hex
      induction i using Nat.strongRecOn with
      | _ i ihh =>
        by_cases h : ∃ j, j < i ∧ listed.getD j true = false
        · obtain ⟨j, hj, hju⟩ := h
          exact ihh j hj (by omega) hju
        · refine ⟨i, hi, hu, fun j hj => ?_⟩
          cases hx : listed.getD j true with
          | true => rfl
          | false => exact absurd ⟨j, hj, hx⟩ h
    obtain ⟨k, hk, hku, hkl⟩ := hleast
    have hkr : k ∈ Region.ready .any ops listed := by
      have hks : k < ops.size := by omega
      refine mem_ready.2 ⟨hku, ops[k], Array.getElem?_eq_getElem hks, fun e he hb => ?_⟩
      have h1 := List.all_eq_true.1 heb k (List.mem_range.2 hks)
      rw [Array.getElem?_eq_getElem hks] at h1
      have h2 : e.on < k := by simpa [hb] using Array.all_eq_true'.1 h1 e he
      have h3 := hkl e.on h2
      have hsz : e.on < listed.size := by rw [hinv.size]; omega
      rw [Array.getD_eq_getD_getElem?, Array.getElem?_eq_getElem hsz] at h3 ⊢
      simpa using h3
    refine ⟨fun h0 => (by rw [h0] at hkr; cases hkr), fun i hi => ?_⟩
    have hin : i < n := by
      rcases Nat.lt_or_ge i n with h | h
      · exact h
      · exact absurd hi (tail_waits hsk hch hn hinv _ k rfl hk hku i h)
    have hun := (mem_ready.1 hi).1
    have hilt : i < listed.size := by rw [hinv.size]; omega
    refine wpOp_mono (fun a' w' inv' => ih (listed.setIfInBounds i true) a' w' ?_ (hinv.set hi hin) inv') (inv.step hA hC hV hTr hd hinv.size hi hin (how i hin) heb)
    have := countP_set (fun j => !listed.getD j true) (fun j => !(listed.setIfInBounds i true).getD j true) i (fun j hj => by simp only [getD_set_ne true (Ne.symm hj)]) (by simp only [hun, Bool.not_false]) (by simp [hilt]) n hin
    omega

theorem wp_region_predD {id : Nat} {Q : Exit → Act → World → Prop} {a : Act} {w : World} {l : List Oper} (n : Nat) (A : Nat → Bool) (C : World → Prop) (T : World → World → Prop) (V : Nat → Value → (Nat → Value) → World → Prop)
    (hm : P.follows .mixedOrders = true) (hB : predB l.toArray n a.tmps.size = true) (hC0 : C w.drew) (hA : ∀ j u g w c, A j = true → V j u g w → u = .pointer (some ⟨c, 0, none⟩) → c < w.heap.size) (hC : ∀ w w', C w → T w w' → C w') (hV : ∀ i v g w w', T w w' → V i v g w → V i v g w') (hTr : ∀ w, T w w)
    (how : ∀ i, i < n → OwesD A P Q C T V l.toArray n a i)
    (hfin : ∀ f w', C w' → (∀ t, notDst l.toArray n t = true → f t = a.tmps.getD t undef) →
      (∀ j oj, j < n → l[j]? = some oj → V j (own oj f) (seen l.toArray oj f) w') →
      (∀ i oi j oj, i < n → j < n → i ≠ j → A i = true → A j = true → l[i]? = some oi → l[j]? = some oj → Apart (own oi f) (own oj f)) → wpList P l.toArray Q (l.drop n) ⟨((List.range a.tmps.size).map f).toArray, a.defers⟩ w') :
    (Code.region id l.toArray true).wp P Q a w := by
  simp only [predB, Bool.and_eq_true, decide_eq_true_eq] at hB
  obtain ⟨⟨⟨⟨⟨hn, hsk⟩, hch⟩, heb⟩, hd⟩, hseq⟩ := hB
  refine wp_region_any hm ?_
  have inv0 : HeadInv .any l.toArray n (Array.replicate l.toArray.size false) :=
    ⟨by simp, fun j oj _ hl => (by rw [getD_replicate_false] at hl; cases hl), fun t _ ht => getD_in (by simpa using ht) (getD_replicate_false _ _)⟩
  have pinv0 : PInvD A C V l.toArray n a (Array.replicate l.toArray.size false) a w.drew :=
    ⟨hC0, rfl, rfl, fun _ _ => rfl, fun j oj _ _ hl => (by rw [getD_replicate_false] at hl; cases hl), fun i oi j oj _ _ _ _ _ _ _ hl => (by rw [getD_replicate_false] at hl; cases hl), fun j oj _ _ hl => (by rw [getD_replicate_false] at hl; cases hl)⟩
  have hcount : (List.range n).countP (fun i => !(Array.replicate l.toArray.size false).getD i true) = n := by
    have : (List.range n).countP (fun i => !(Array.replicate l.toArray.size false).getD i true) = (List.range n).length := by
      rw [List.countP_eq_length]
      intro i hi
      have hi' := List.mem_range.1 hi
      have hlt : i < l.length := by have : l.toArray.size = l.length := by simp
                                    omega
      simp [hlt]
    rw [this, List.length_range]
  have hdl : (l.drop n).length = l.toArray.size - n := by simp
  have full : ∀ j, j < n → (headFull l.toArray n).getD j false = true := fun j hjn => by
    have hlt : j < l.toArray.size := by omega
    have hg : (headFull l.toArray n).getD j false = decide (j < n) := by
      rw [Array.getD_eq_getD_getElem?, Array.getElem?_eq_getElem (by simpa [headFull] using hlt)]
      simp [headFull]
    rw [hg]; simpa using hjn
  have H := wpAny_predD (P := P) (Q := Q) (g := l.toArray.size - n) hA hC hV hTr hn hsk hch heb hd how (fun a' w' inv => by
    have hw := hfin (fun t => a'.tmps.getD t undef) w' inv.cls (fun t ht => inv.old t fun j oj hjn hj _ => notDst_spec ht j oj hjn hj)
      (fun j oj hjn hj => inv.val j oj hjn (by simpa using hj) (full j hjn))
      (fun i oi j oj hin hjn hij hAi hAj hi hj => inv.pair i oi j oj hin hjn hij hAi hAj (by simpa using hi) (by simpa using hj) (full i hin) (full j hjn))
    rw [act_of a' inv.size inv.defers] at hw
    have := wpAny_of_seq (md := .any) (Q' := Q) (l.drop n) n (headFull l.toArray n) a' w' (fun j => by simp [List.getElem?_drop]) (by rw [hdl]; exact hseq) hw
    rwa [hdl] at this) n _ a w.drew hcount inv0 pinv0
  rw [show n + (l.toArray.size - n) = l.toArray.size by omega] at H
  exact H
end

/-- a block that was made behind the first B ones, as it was made -/
def NewAt (B : Nat) (c : Array Value) (t : TypeId) (v : Value) (W : World) : Prop := ∃ b, v = .pointer (some ⟨b, 0, none⟩) ∧ B ≤ b ∧ W.heap[b]? = some (.cells c t (0, 0))
theorem NewAt.lt {B : Nat} {c : Array Value} {t : TypeId} {v : Value} {W : World} {b : Nat} (h : NewAt B c t v W) (hv : v = .pointer (some ⟨b, 0, none⟩)) : b < W.heap.size := by
  obtain ⟨k, h1, _, h2⟩ := h
  rw [h1] at hv; cases hv
  exact (Array.getElem?_eq_some_iff.1 h2).1
theorem NewAt.mono {B : Nat} {c : Array Value} {t : TypeId} {v : Value} {W W' : World} (h : NewAt B c t v W) (hb : Below W.heap.size W W') : NewAt B c t v W' := by
  obtain ⟨k, h1, h3, h2⟩ := h
  exact ⟨k, h1, h3, (hb.block k (Array.getElem?_eq_some_iff.1 h2).1).trans h2⟩
theorem newAt_alloc {B : Nat} (c : Array Value) (t : TypeId) (W : World) (hB : B ≤ W.heap.size) : NewAt B c t (.pointer (some ⟨W.heap.size, 0, none⟩)) (W.alloc (.cells c t)) := ⟨_, rfl, hB, World.alloc_heap_new W _⟩

end Go.Proofs.YtllfaffbaijgfaaGreatDoor

namespace Go.Proofs.YtllfaffbaijgfaaGreatDoor
open Go Go.RowKit Go.Shelf

def VEqI (n cap cap' b o b' o' i : Nat) (x y : Int) : Nat → Value → (Nat → Value) → World → Prop
  | 0, v, _, W => v = .slice (some ⟨b, o, none⟩) n cap
  | 1, v, _, W => v = .int .i64 (i : Int)
  | 2, v, _, W => v = .pointer (some ⟨b, o + i, none⟩)
  | 3, v, _, W => v = .int .i64 x
  | 4, v, _, W => v = .slice (some ⟨b', o', none⟩) n cap'
  | 5, v, _, W => v = .int .i64 (i : Int)
  | 6, v, _, W => v = .pointer (some ⟨b', o' + i, none⟩)
  | 7, v, _, W => v = .int .i64 y
  | _, _, _, _ => True


set_option maxRecDepth 100000 in
set_option maxHeartbeats 4000000 in
theorem equalInts_calls (l m : List Int) (v v' : Value) (w : World) (hlen : l.length ≤ 9000000000000000000) (hlen' : m.length ≤ 9000000000000000000) (hv : IntsV w l v) (hv' : IntsV w m v') :
    Calls Tryz.prog 56 #[v, v'] w (Rt w (.bool (decide (l = m)))) := by
  obtain ⟨a, cap, rfl, hat⟩ := hv
  obtain ⟨a', cap', rfl, hat'⟩ := hv'
  have H := hide (And.intro hat hat')
  clear hat hat'
  obtain ⟨r, hr⟩ : ∃ r, r = decide (l = m) := ⟨_, rfl⟩
  rw [← hr]
  have Hr := hide hr
  clear hr
  by_cases hnm : l.length = m.length
  · obtain ⟨n, hn⟩ : ∃ n, n = l.length := ⟨_, rfl⟩
    rw [← hnm, ← hn]
    rw [← hn] at hlen
    have Hn := hide (And.intro hn hnm)
    clear hn hnm hlen'
    go_enter Tryz.func56, Tryz.ntmps56
    go_wp2
    go_loopw [13] (fun k wr => ∃ i : Nat, i ≤ n ∧ k = .int .i64 i ∧ (∀ j, j < i → l[j]? = m[j]?) ∧ Below w.heap.size w wr) (fun k _ => n - (intOf k).toNat)
    case atStart => exact ⟨0, Nat.zero_le _, rfl, fun j h => absurd h (Nat.not_lt_zero _), Below.refl _ _⟩
    case round =>
      obtain ⟨i, hi, rfl, hj, hB⟩ := hrel
      by_cases hlt : i < n
      · obtain ⟨b, o, rfl, hat⟩ := H.out.1 (by rw [← Hn.out.1]; omega)
        obtain ⟨b', o', rfl, hat'⟩ := H.out.2 (by rw [← Hn.out.2, ← Hn.out.1]; omega)
        obtain ⟨x, hx⟩ : ∃ x, l[i]? = some x := ⟨_, List.getElem?_eq_getElem (by rw [← Hn.out.1]; exact hlt)⟩
        obtain ⟨y, hy⟩ : ∃ x, m[i]? = some x := ⟨_, List.getElem?_eq_getElem (by rw [← Hn.out.2, ← Hn.out.1]; exact hlt)⟩
        have k0 := (hB.cell (p := ⟨b, o + i, none⟩) hat.1).trans (hat.2 i x hx)
        have k1 := (hB.cell (p := ⟨b', o' + i, none⟩) hat'.1).trans (hat'.2 i y hy)
        have Hx := hide (And.intro hx hy)
        have Hj := hide hj
        clear hx hy hj hat hat'
        go_wp2_with fail
        refine wp_named fun w1 hw1 => ?_
        rw [← hw1] at k0 k1 hB
        clear hw1
        refine wp_region_pred 8 (fun W => Below w1.heap.size w1 W) (fun W W' => Below W.heap.size W W') (VEqI n cap cap' b o b' o' i x y) (by kernel_rfl) (by kernel_rfl) (Below.refl _ _).drew
          (fun W W' h hg => h.trans (hg.mono h.size)) ?hV_7 (fun W => Below.refl _ _) ?how_7 ?hfin_7
        case hV_7 =>
          intro i_ v_ g_ W W' hg h
          match i_, h with
          | 0, h => exact h
          | 1, h => exact h
          | 2, h => exact h
          | 3, h => exact h
          | 4, h => exact h
          | 5, h => exact h
          | 6, h => exact h
          | 7, h => exact h
          | _ + 8, _ => trivial
        case how_7 =>
          intro i_ hi_
          match i_, hi_ with
          | 0, _ =>
            refine owes_plain rfl rfl fun ac_ W hC hold hdep => ?_
            have hs0 := hold 0 (by kernel_rfl)
            clear hdep hold
            go_simp
            exact ⟨_, rfl, Below.refl _ _, rfl⟩
          | 1, _ =>
            refine owes_plain rfl rfl fun ac_ W hC hold hdep => ?_
            have hs5 := hold 5 (by kernel_rfl)
            clear hdep hold
            go_simp
            exact ⟨_, rfl, Below.refl _ _, rfl⟩
          | 2, _ =>
            refine owes_plain rfl rfl fun ac_ W hC hold hdep => ?_
            obtain ⟨_, (hd0 : _ = (.slice (some ⟨b, o, none⟩) n cap : Value))⟩ := hdep 0 16 (by kernel_rfl)
            obtain ⟨_, (hd1 : _ = (.int .i64 (i : Int) : Value))⟩ := hdep 1 17 (by kernel_rfl)
            clear hdep hold
            go_simp
            exact ⟨_, rfl, Below.refl _ _, rfl⟩
          | 3, _ =>
            refine owes_plain rfl rfl fun ac_ W hC hold hdep => ?_
            obtain ⟨_, (hd2 : _ = (.pointer (some ⟨b, o + i, none⟩) : Value))⟩ := hdep 2 18 (by kernel_rfl)
            have k0 := (hC.cell (cellLt k0)).trans k0
            clear hdep hold
            go_simp
            exact ⟨_, rfl, Below.refl _ _, rfl⟩
          | 4, _ =>
            refine owes_plain rfl rfl fun ac_ W hC hold hdep => ?_
            have hs1 := hold 1 (by kernel_rfl)
            clear hdep hold
            go_simp
            exact ⟨_, rfl, Below.refl _ _, rfl⟩
          | 5, _ =>
            refine owes_plain rfl rfl fun ac_ W hC hold hdep => ?_
            have hs5 := hold 5 (by kernel_rfl)
            clear hdep hold
            go_simp
            exact ⟨_, rfl, Below.refl _ _, rfl⟩
          | 6, _ =>
            refine owes_plain rfl rfl fun ac_ W hC hold hdep => ?_
            obtain ⟨_, (hd4 : _ = (.slice (some ⟨b', o', none⟩) n cap' : Value))⟩ := hdep 4 20 (by kernel_rfl)
            obtain ⟨_, (hd5 : _ = (.int .i64 (i : Int) : Value))⟩ := hdep 5 21 (by kernel_rfl)
            clear hdep hold
            go_simp
            exact ⟨_, rfl, Below.refl _ _, rfl⟩
          | 7, _ =>
            refine owes_plain rfl rfl fun ac_ W hC hold hdep => ?_
            obtain ⟨_, (hd6 : _ = (.pointer (some ⟨b', o' + i, none⟩) : Value))⟩ := hdep 6 22 (by kernel_rfl)
            have k1 := (hC.cell (cellLt k1)).trans k1
            clear hdep hold
            go_simp
            exact ⟨_, rfl, Below.refl _ _, rfl⟩
          | k + 8, hk => exact absurd hk (by omega)
        case' hfin_7 =>
          intro fv W hC hold hval
          have v3 : (fv 19) = (.int .i64 x : Value) := hval 3 _ (by omega) rfl
          have v7 : (fv 23) = (.int .i64 y : Value) := hval 7 _ (by omega) rfl
          have s0 := hold 0 (by kernel_rfl)
          simp only [Array.getD_eq_getD_getElem?, List.getElem?_toArray, List.getElem?_cons_succ, List.getElem?_cons_zero, Option.getD_some] at s0
          have s1 := hold 1 (by kernel_rfl)
          simp only [Array.getD_eq_getD_getElem?, List.getElem?_toArray, List.getElem?_cons_succ, List.getElem?_cons_zero, Option.getD_some] at s1
          have s2 := hold 2 (by kernel_rfl)
          simp only [Array.getD_eq_getD_getElem?, List.getElem?_toArray, List.getElem?_cons_succ, List.getElem?_cons_zero, Option.getD_some] at s2
          have s3 := hold 3 (by kernel_rfl)
          simp only [Array.getD_eq_getD_getElem?, List.getElem?_toArray, List.getElem?_cons_succ, List.getElem?_cons_zero, Option.getD_some] at s3
          have s4 := hold 4 (by kernel_rfl)
          simp only [Array.getD_eq_getD_getElem?, List.getElem?_toArray, List.getElem?_cons_succ, List.getElem?_cons_zero, Option.getD_some] at s4
          have s5 := hold 5 (by kernel_rfl)
          simp only [Array.getD_eq_getD_getElem?, List.getElem?_toArray, List.getElem?_cons_succ, List.getElem?_cons_zero, Option.getD_some] at s5
          have s6 := hold 6 (by kernel_rfl)
          simp only [Array.getD_eq_getD_getElem?, List.getElem?_toArray, List.getElem?_cons_succ, List.getElem?_cons_zero, Option.getD_some] at s6
          have s7 := hold 7 (by kernel_rfl)
          simp only [Array.getD_eq_getD_getElem?, List.getElem?_toArray, List.getElem?_cons_succ, List.getElem?_cons_zero, Option.getD_some] at s7
          have s8 := hold 8 (by kernel_rfl)
          simp only [Array.getD_eq_getD_getElem?, List.getElem?_toArray, List.getElem?_cons_succ, List.getElem?_cons_zero, Option.getD_some] at s8
          have s9 := hold 9 (by kernel_rfl)
          simp only [Array.getD_eq_getD_getElem?, List.getElem?_toArray, List.getElem?_cons_succ, List.getElem?_cons_zero, Option.getD_some] at s9
          have s10 := hold 10 (by kernel_rfl)
          simp only [Array.getD_eq_getD_getElem?, List.getElem?_toArray, List.getElem?_cons_succ, List.getElem?_cons_zero, Option.getD_some] at s10
          have s11 := hold 11 (by kernel_rfl)
          simp only [Array.getD_eq_getD_getElem?, List.getElem?_toArray, List.getElem?_cons_succ, List.getElem?_cons_zero, Option.getD_some] at s11
          have s12 := hold 12 (by kernel_rfl)
          simp only [Array.getD_eq_getD_getElem?, List.getElem?_toArray, List.getElem?_cons_succ, List.getElem?_cons_zero, Option.getD_some] at s12
          have s13 := hold 13 (by kernel_rfl)
          simp only [Array.getD_eq_getD_getElem?, List.getElem?_toArray, List.getElem?_cons_succ, List.getElem?_cons_zero, Option.getD_some] at s13
          clear hval hold
          simp only [List.drop_succ_cons, List.drop_zero, List.size_toArray, List.length_cons, List.length_nil, Nat.reduceAdd]
          simp only [List.range, List.range.loop]
          simp only [List.map_cons, List.map_nil]
          simp only [s0, s1, s2, s3, s4, s5, s6, s7, s8, s9, s10, s11, s12, s13]
        have hBW := hB.trans (hC.mono hB.size)
        by_cases hxy : x = y
        · go_wp2_with fail
          go_roundw
          case rel =>
            refine ⟨i + 1, by omega, by first | rfl | go_num, fun j h => ?_, hBW⟩
            rcases Nat.lt_succ_iff_lt_or_eq.1 h with h | rfl
            · exact Hj.out j h
            · rw [Hx.out.1, Hx.out.2, hxy]
          case measure => simp [intOf]; omega
        · go_wp2_with fail
          go_ret
          refine ⟨?_, hBW⟩
          have : r = false := by
            rw [Hr.out, decide_eq_false_iff_not]
            rintro rfl
            have := Hx.out.1.symm.trans Hx.out.2
            cases this; exact hxy rfl
          rw [this]; rfl
      · have hin : i = n := by omega
        subst hin
        have Hj := hide hj
        clear hj
        go_wp2
        go_ret
        refine ⟨?_, hB⟩
        have : r = true := by
          rw [Hr.out, decide_eq_true_iff]
          apply List.ext_getElem?
          intro j
          by_cases hji : j < i
          · exact Hj.out j hji
          · rw [List.getElem?_eq_none (by rw [← Hn.out.1]; omega), List.getElem?_eq_none (by rw [← Hn.out.2, ← Hn.out.1]; omega)]
        rw [this]; rfl
  · have hne : ((l.length : Int) != (m.length : Int)) = true := by simp; omega
    go_enter Tryz.func56, Tryz.ntmps56
    go_wp2
    go_ret
    refine ⟨?_, by ((repeat' (first | exact Below.refl _ _ | assumption | (refine Below.drew ?_) | (refine Below.alloc ?_ ?_ _) | (refine Below.setCell ?_ ?_ _) | (refine Below.step (W := ?hW) ?hq ?_ ?_; case hq => assumption))) <;> (first | (simp; done) | (simp; omega) | (simp at *; omega)))⟩
    have : r = false := by
      rw [Hr.out, decide_eq_false_iff_not]
      rintro rfl
      exact hnm rfl
    rw [this]; rfl
end Go.Proofs.YtllfaffbaijgfaaGreatDoor
