/- What a row's laid variables give: sentinels. What a row's laid variables give: all that the walks ask. An argument opened: a name, a report. A law that answers true and turns nothing that was there: what the row asks behind the call. A world that holds what a row lists: for the witness. -/
import Derived.Test.YtllfaffbaijgfaaGreatDoorJ06
import Derived.LaidLaws
import Derived.LaidHandle
import Derived.OpenShut
import Derived.Test.YtllfaffbaijgfaaGreatDoorJ39
import Derived.Test.YtllfaffbaijgfaaGreatDoorJ11
import Derived.Carry
import Derived.Deep.DeepLaidRun
import Derived.Deep.DeepWitnessRowRef
set_option linter.unusedVariables false
set_option linter.unusedSimpArgs false
namespace Go.Proofs.YtllfaffbaijgfaaGreatDoor
open Go Go.RowKit Go.Shelf Go.ChangeShapes Go.WideShapes

/-- a row's list, parted: plain data, handles -/
theorem laidH_parts {L : List (String × DataW Unit)} {W : World} (h : laidMetH Tryz.prog L W) (hne : (L.filter fun x => x.2.handleName?.isSome).isEmpty = false) :
    laidMet Tryz.prog (L.filter fun x => x.2.handleName?.isNone) W ∧ handlesMet Tryz.prog (L.filter fun x => x.2.handleName?.isSome) W := by
  unfold laidMetH at h
  split at h
  · next e => rw [e] at hne; cases hne
  · next e => exact ⟨h.1, by rw [e]; exact h.2⟩

/-- each variable of the list -/
theorem laidVars_at {W : World} : ∀ {l : List (String × DataW Unit)} {ps : List MemPlace}, DataW.LaidVars Tryz.prog W l ps → ∀ x ∈ l,
    ∃ g t cs fuel p, Tryz.prog.globalNamed x.1 = some g ∧ (Tryz.prog.globals[g]?).map (·.type) = some t ∧ W.var? Tryz.prog x.1 = some cs ∧ DataW.trod (fun _ => ()) Tryz.prog W 0 (fun _ => true) false fuel t cs.toList = some (x.2, p)
  | [], _, _, x, hx => by cases hx
  | (n, d) :: r, ps, ⟨g, t, cs, f, p, q, h1, h2, h3, h4, h5, e⟩, x, hx => by
    rcases List.mem_cons.1 hx with rfl | hx
    · exact ⟨g, t, cs, f, p, h1, h2, h3, h4⟩
    · exact laidVars_at h5 x hx

def isSent : DataW Unit → Bool
  | .iface nm (.ptr (.agg [.lit (.string _)])) => nm == "*errors.errorString"
  | _ => false
theorem sent_eq {d : DataW Unit} (h : isSent d = true) : ∃ s, d = .iface "*errors.errorString" (.ptr (.agg [.lit (.string s)])) := by
  unfold isSent at h
  split at h
  · exact ⟨_, by rw [eq_of_beq h]⟩
  · cases h
theorem starE : "*" ++ "errors.errorString" = "*errors.errorString" := by decide
theorem rowE (u : TypeId) (h : Tryz.prog.typeName? 3 u = some "*errors.errorString") : u = 526 :=
  typeName_ptr_named (nm := "errors.errorString") (by rw [starE]; kernel_rfl) (by kernel_rfl) (by decide) u (by rw [starE]; exact h)

/-- a variable that holds an error of its own -/
structure SentAt (W : World) (ps : List MemPlace) (n : String) (g : Nat) (a : Addr) : Prop where
  var : W.var? Tryz.prog n = some #[.iface 526 (.pointer (some a))]
  own : MemPlace.cell g 0 ∈ ps
  place : MemPlace.cell a.block a.off ∈ ps
theorem SentAt.mono {W : World} {ps ps' : List MemPlace} {n : String} {g : Nat} {a : Addr} (h : SentAt W ps n g a) (hp : ∀ x ∈ ps, x ∈ ps') : SentAt W ps' n g a := ⟨h.var, hp _ h.own, hp _ h.place⟩

/-- the names of errors are variables of the type error -/
noncomputable def typedB (l : List (String × DataW Unit)) : Bool := l.all fun x => !isSent x.2 || (Tryz.prog.globalNamed x.1).any fun g => (Tryz.prog.globals[g]?).map (·.type) == some 78

set_option maxRecDepth 100000 in
theorem sents_apart {W : World} : ∀ {l : List (String × DataW Unit)} {ps : List MemPlace}, DataW.LaidVars Tryz.prog W l ps → ps.Nodup → typedB l = true →
    (∀ b off, MemPlace.cell b off ∈ ps → ∀ u v, W.cell? ⟨b, off, none⟩ = some (.iface u v) → Value.okWide Tryz.prog W .any 0 u v) →
    ∃ A : Nat → Addr, (∀ x ∈ l, isSent x.2 = true → ∀ g, Tryz.prog.globalNamed x.1 = some g → SentAt W ps x.1 g (A g)) ∧
      (∀ x ∈ l, ∀ y ∈ l, isSent x.2 = true → isSent y.2 = true → ∀ g h, Tryz.prog.globalNamed x.1 = some g → Tryz.prog.globalNamed y.1 = some h → A g = A h → g = h)
  | [], _, _, _, _, _ => ⟨fun _ => ⟨0, 0, none⟩, fun x hx => absurd hx List.not_mem_nil, fun x hx => absurd hx List.not_mem_nil⟩
  | (n, d) :: r, ps, ⟨g, t, cs, f, p, q, h1, h2, h3, h4, h5, e⟩, hnd, hty, hok => by
    subst e
    simp only [typedB, List.all_cons, Bool.and_eq_true] at hty
    have hnq : q.Nodup := (List.nodup_append.1 hnd).2.1
    have hty2 : typedB r = true := by unfold typedB; exact hty.2
    have up : ∀ x ∈ q, x ∈ MemPlace.row ⟨g, 0, none⟩ cs.size ++ p ++ q := fun x hx => List.mem_append_right _ hx
    have hok2 : ∀ b off, MemPlace.cell b off ∈ q → ∀ u v, W.cell? ⟨b, off, none⟩ = some (.iface u v) → Value.okWide Tryz.prog W .any 0 u v := by
      intro b off hp u v hc
      exact hok b off (up _ hp) u v hc
    obtain ⟨A, hA, hB⟩ := sents_apart h5 hnq hty2 hok2
    have apart : ∀ x ∈ MemPlace.row ⟨g, 0, none⟩ cs.size ++ p, ∀ y ∈ q, x ≠ y := (List.nodup_append.1 hnd).2.2
    by_cases hs : isSent d = true
    · obtain ⟨s, rfl⟩ := sent_eq hs
      have ht : t = 78 := by
        have := hty.1
        simp only [hs, Bool.not_true, Bool.false_or, h1, Option.any_some, h2] at this
        simpa using this
      subst ht
      have ok0 : ∀ u v, cs.toList = [.iface u v] → Value.okWide Tryz.prog W .any 0 u v := fun u v ec => by
        obtain ⟨l⟩ := cs
        have : l = [.iface u v] := ec
        subst this
        exact hok g 0 (by simp [MemPlace.row]) u v (by simpa using World.var?_cell h1 h3 0)
      obtain ⟨a, s0, ec, hc0, hs0, hz0, rfl⟩ := errorString_of_trod Tryz.underlying78 rowE Tryz.underlying526 Tryz.underlying528 rfl rfl Tryz.underlying9 (by kernel_rfl) (by kernel_rfl) h4 ok0
      obtain ⟨l⟩ := cs
      have : l = [.iface 526 (.pointer (some a))] := ec
      subst this
      have tail : ∀ x ∈ r, isSent x.2 = true → ∀ k, Tryz.prog.globalNamed x.1 = some k → k ≠ g ∧ A k ≠ a := fun x hx hxs k hk => by
        have := hA x hx hxs k hk
        refine ⟨fun e => ?_, fun e => ?_⟩
        · subst e
          exact apart (.cell k 0) (by simp [MemPlace.row]) (.cell k 0) this.own rfl
        · refine apart (.cell a.block a.off) (by simp [MemPlace.row]) (.cell a.block a.off) ?_ rfl
          rw [← e]; exact this.place
      obtain ⟨B, hBg, hBn⟩ : ∃ B : Nat → Addr, B g = a ∧ ∀ k, k ≠ g → B k = A k := ⟨fun k => if k = g then a else A k, if_pos rfl, fun k h => if_neg h⟩
      refine ⟨B, ?_, ?_⟩
      · intro x hx hxs k hk
        rcases List.mem_cons.1 hx with rfl | hx
        · obtain rfl := Option.some.inj (h1.symm.trans hk)
          rw [hBg]
          exact ⟨h3, by simp [MemPlace.row], by simp [MemPlace.row]⟩
        · rw [hBn k (tail x hx hxs k hk).1]
          exact (hA x hx hxs k hk).mono up
      · intro x hx y hy hxs hys k h hk hh he
        rcases List.mem_cons.1 hx with rfl | hx
        · obtain rfl := Option.some.inj (h1.symm.trans hk)
          rcases List.mem_cons.1 hy with rfl | hy
          · exact (Option.some.inj (h1.symm.trans hh))
          · exfalso
            rw [hBg, hBn h (tail y hy hys h hh).1] at he
            exact (tail y hy hys h hh).2 he.symm
        · rcases List.mem_cons.1 hy with rfl | hy
          · exfalso
            obtain rfl := Option.some.inj (h1.symm.trans hh)
            rw [hBg, hBn k (tail x hx hxs k hk).1] at he
            exact (tail x hx hxs k hk).2 he
          · rw [hBn k (tail x hx hxs k hk).1, hBn h (tail y hy hys h hh).1] at he
            exact hB x hx y hy hxs hys k h hk hh he
    · refine ⟨A, ?_, ?_⟩
      · intro x hx hxs k hk
        rcases List.mem_cons.1 hx with rfl | hx
        · exact absurd hxs hs
        · exact (hA x hx hxs k hk).mono up
      · intro x hx y hy hxs hys k h hk hh he
        rcases List.mem_cons.1 hx with rfl | hx
        · exact absurd hxs hs
        · rcases List.mem_cons.1 hy with rfl | hy
          · exact absurd hys hs
          · exact hB x hx y hy hxs hys k h hk hh he

/-! arrays of structs of numbers -/
noncomputable def rowsB (fs : Array Field) : Bool := (List.range fs.size).all fun j => (fs[j]?).any fun f => f.offset == j && Tryz.prog.cellsOf f.type == 1 && (match Tryz.prog.underlying f.type with | some (.int .i64) => true | _ => false)
theorem rows_at {fs : Array Field} (h : rowsB fs = true) {j : Nat} {f : Field} (hf : fs[j]? = some f) : f.offset = j ∧ Tryz.prog.cellsOf f.type = 1 ∧ Tryz.prog.underlying f.type = some (.int .i64) := by
  have := List.all_eq_true.1 h j (List.mem_range.2 (Array.getElem?_eq_some_iff.1 hf).1)
  simp only [hf, Option.any_some, Bool.and_eq_true, beq_iff_eq] at this
  refine ⟨this.1.1, this.1.2, ?_⟩
  have h3 := this.2
  split at h3
  · next e => exact e
  · cases h3

theorem cell_of_rows {W : World} {fuel : Nat} {t e : TypeId} {cs : List Value} {ds : List (DataW Unit)} {p : List MemPlace} {n m : Nat} {fs : Array Field}
    (ht : Tryz.prog.underlying t = some (.array n e)) (he : Tryz.prog.underlying e = some (.struct fs)) (hm : Tryz.prog.cellsOf e = m) (hfs : rowsB fs = true)
    (h : DataW.trod (fun _ => ()) Tryz.prog W 0 (fun _ => true) false fuel t cs = some (.agg ds, p)) {i j : Nat} {es : List (DataW Unit)} {z : Int} (hi : ds[i]? = some (.agg es)) (hj : es[j]? = some (.lit (.int .i64 z))) :
    cs[i * m + j]? = some (.int .i64 z) := by
  obtain ⟨xs, k, _, hx, _, hn, hf⟩ := DataW.trod_array ht h
  cases hx
  rw [List.getElem?_map, Option.map_eq_some_iff] at hi
  obtain ⟨y, hy, hye⟩ := hi
  have hin : i < n := by rw [← hn]; exact (List.getElem?_eq_some_iff.1 hy).1
  have h1 := (hf i hin).trans hy
  obtain ⟨ys, k2, _, hx2, _, hn2, hf2⟩ := DataW.trod_struct he h1
  subst hx2
  cases hye
  rw [List.getElem?_map, Option.map_eq_some_iff] at hj
  obtain ⟨u, hu, hue⟩ := hj
  have hjn : j < fs.size := by rw [← hn2]; exact (List.getElem?_eq_some_iff.1 hu).1
  obtain ⟨o1, o2, o3⟩ := rows_at hfs (Array.getElem?_eq_getElem hjn)
  have h2 := (hf2 j _ (Array.getElem?_eq_getElem hjn)).trans hu
  rw [o1, o2, hm] at h2
  obtain ⟨z', hc, rfl, _⟩ := DataW.trod_int o3 h2
  cases hue
  have h3 := cell_of_cut hc
  rw [List.getElem?_take] at h3
  split at h3
  · rw [List.getElem?_drop] at h3; exact h3
  · cases h3
end Go.Proofs.YtllfaffbaijgfaaGreatDoor

namespace Go.Proofs.YtllfaffbaijgfaaGreatDoor
open Go Go.RowKit Go.Shelf Go.ChangeShapes Go.WideShapes

theorem var_row {W : World} {n : String} {g : Nat} {cs cs' : Array Value} {t : TypeId} {fr : Nat × Nat} (hg : Tryz.prog.globalNamed n = some g) (hv : W.var? Tryz.prog n = some cs) (hr : W.heap[g]? = some (.cells cs' t fr)) : cs' = cs := by
  simpa [World.var?, hg, hr] using hv
theorem glob_row {W : World} (hsh : W.ShapedOpen Tryz.prog) {g : Nat} {t : TypeId} (hg : decide (g < Tryz.prog.globals.size) = true) (h0 : (((begin Tryz.prog (fun _ _ => 0) default).world.heap[g]?).bind Obj.row?).map (·.2) = some t) :
    ∃ cs, W.heap[g]? = some (.cells cs t (0, 0)) := by
  obtain ⟨⟨zero, t'⟩, h1, rfl⟩ := Option.map_eq_some_iff.1 h0
  obtain ⟨cs, h2, _⟩ := hsh.1 g zero t' (of_decide_eq_true hg) h1
  exact ⟨cs, h2⟩

theorem list_of {cs : List Value} {vs : List Value} (hl : cs.length = vs.length) (h : ∀ i, i < vs.length → cs[i]? = vs[i]?) : cs = vs := by
  apply List.ext_getElem?
  intro i
  by_cases hi : i < vs.length
  · exact h i hi
  · rw [List.getElem?_eq_none (by omega), List.getElem?_eq_none (by omega)]

def kindsD : DataW Unit := .agg [.agg [.lit (.int .i64 0), .lit (.int .i64 0)], .agg [.lit (.int .i64 1), .lit (.int .i64 2)], .agg [.lit (.int .i64 2), .lit (.int .i64 4)]]
def pairsD : DataW Unit := .agg [.agg [.lit (.int .i64 206), .lit (.int .i64 6)], .agg [.lit (.int .i64 207), .lit (.int .i64 7)], .agg [.lit (.int .i64 210), .lit (.int .i64 10)]]
def roomsD : DataW Unit := .agg [.agg [.lit (.int .i64 0), .lit (.int .i64 24), .lit (.int .i64 0)], .agg [.lit (.int .i64 1), .lit (.int .i64 256), .lit (.int .i64 24)], .agg [.lit (.int .i64 2), .lit (.int .i64 65536), .lit (.int .i64 25)], .agg [.lit (.int .i64 4), .lit (.int .i64 4294967296), .lit (.int .i64 26)], .agg [.lit (.int .i64 8), .lit (.int .i64 281474976710656), .lit (.int .i64 27)]]
def errD : DataW Unit := .iface "internal/reflectlite.rtype" (.agg [.ptr (.lit (.string [101, 114, 114, 111, 114]))])

theorem len_of {W : World} {fuel : Nat} {t e : TypeId} {cs : List Value} {x : DataW Unit × List MemPlace} {n : Nat}
    (ht : Tryz.prog.underlying t = some (.array n e)) (h : DataW.trod (fun _ => ()) Tryz.prog W 0 (fun _ => true) false fuel t cs = some x) : cs.length = Tryz.prog.cellsOf t := by
  obtain ⟨_, _, _, _, h1, _⟩ := DataW.trod_array ht h
  exact h1

/-- what a row lists -/
structure Lists (L : List (String × DataW Unit)) : Prop where
  part : (L.filter fun x => x.2.handleName?.isSome).isEmpty = false
  typed : typedB (L.filter fun x => x.2.handleName?.isNone) = true
  sents : (signErrs ++ headErrs ++ numErrs).all (fun g => (L.filter fun x => x.2.handleName?.isNone).any fun x => isSent x.2 && Tryz.prog.globalNamed x.1 == some g) = true
  kinds : ("postrider/crc.kinds", kindsD) ∈ L.filter fun x => x.2.handleName?.isNone
  pairs : ("postrider/ext.pairs", pairsD) ∈ L.filter fun x => x.2.handleName?.isNone
  rooms : ("postrider/head.rooms", roomsD) ∈ L.filter fun x => x.2.handleName?.isNone
  err : ("errors.errorType", errD) ∈ L.filter fun x => x.2.handleName?.isSome

theorem oneError : ((List.range Tryz.prog.types.size).filter fun t => Tryz.prog.rowNamed t [101, 114, 114, 111, 114]) = [78] := by kernel_rfl
theorem rtypeRow : (Tryz.prog.cutTypes.find? (·.1 == "internal/reflectlite.rtype")).map (·.2) = some 335 := by kernel_rfl
theorem handleRow : typeHandle Tryz.prog 78 = .pointer (some ⟨33, 78, none⟩) := by kernel_rfl
theorem errG : Tryz.prog.globalNamed "errors.errorType" = some 7 := by kernel_rfl
theorem kindsG : Tryz.prog.globalNamed "postrider/crc.kinds" = some 10 := by kernel_rfl
theorem pairsG : Tryz.prog.globalNamed "postrider/ext.pairs" = some 25 := by kernel_rfl
theorem roomsG : Tryz.prog.globalNamed "postrider/head.rooms" = some 26 := by kernel_rfl
theorem kindsT : (Tryz.prog.globals[10]?).map (·.type) = some 271 := by kernel_rfl
theorem pairsT : (Tryz.prog.globals[25]?).map (·.type) = some 476 := by kernel_rfl
theorem roomsT : (Tryz.prog.globals[26]?).map (·.type) = some 506 := by kernel_rfl

theorem err_of {hs : List (String × DataW Unit)} {W : World} (h : handlesMet Tryz.prog hs W) (hm : ("errors.errorType", errD) ∈ hs) : ErrAt W := by
  have h1 := h _ hm
  have hf : errD.funcsIn? = none := by kernel_rfl
  simp only [hf] at h1
  obtain ⟨name, u, ty, e1, e2, e3, e4, e5⟩ := h1
  have en : name = [101, 114, 114, 111, 114] := (Option.some.inj (e1.symm.trans (show errD.handleName? = some [101, 114, 114, 111, 114] by kernel_rfl)))
  subst en
  obtain rfl := Option.some.inj (rtypeRow.symm.trans e2)
  have hty : ty ∈ (List.range Tryz.prog.types.size).filter fun t => Tryz.prog.rowNamed t [101, 114, 114, 111, 114] := List.mem_filter.2 ⟨List.mem_range.2 e3, e4⟩
  rw [oneError] at hty
  obtain rfl := List.mem_singleton.1 hty
  rw [handleRow] at e5
  have := World.var?_cell errG e5 0
  unfold ErrAt
  simpa using this

set_option maxRecDepth 100000 in
theorem lay_of_laid {L : List (String × DataW Unit)} {W : World} (hL : Lists L) (h : laidMetH Tryz.prog L W) (hsh : W.ShapedOpen Tryz.prog) : ∃ S : Nat → Addr, Lay S S S W := by
  obtain ⟨⟨ps, hv, hnd, hrows⟩, hh⟩ := laidH_parts h hL.part
  obtain ⟨A, hA, hB⟩ := sents_apart hv hnd hL.typed (fun b off hp => (hrows b off hp).2)
  have each : ∀ g ∈ signErrs ++ headErrs ++ numErrs, ∃ x ∈ L.filter fun x => x.2.handleName?.isNone, isSent x.2 = true ∧ Tryz.prog.globalNamed x.1 = some g := by
    intro g hg
    have := List.all_eq_true.1 hL.sents g hg
    obtain ⟨x, hx, hxs⟩ := List.any_eq_true.1 this
    simp only [Bool.and_eq_true, beq_iff_eq] at hxs
    exact ⟨x, hx, hxs⟩
  have sent : ∀ g ∈ signErrs ++ headErrs ++ numErrs, W.cell? ⟨g, 0, none⟩ = some (errV (some (A g))) ∧ ∃ c t, W.heap[(A g).block]? = some (.cells c t (0, 0)) := by
    intro g hg
    obtain ⟨x, hx, hxs, hxg⟩ := each g hg
    have hs := hA x hx hxs g hxg
    have := World.var?_cell hxg hs.var 0
    exact ⟨by simpa [errV] using this, (hrows _ _ hs.place).1⟩
  have two : ∀ g ∈ signErrs ++ headErrs ++ numErrs, ∀ k ∈ signErrs ++ headErrs ++ numErrs, A g = A k → g = k := by
    intro g hg k hk he
    obtain ⟨x, hx, hxs, hxg⟩ := each g hg
    obtain ⟨y, hy, hys, hyg⟩ := each k hk
    exact hB x hx y hy hxs hys g k hxg hyg he
  have m1 : ∀ g ∈ signErrs, g ∈ signErrs ++ headErrs ++ numErrs := fun g hg => List.mem_append_left _ (List.mem_append_left _ hg)
  have m2 : ∀ g ∈ headErrs, g ∈ signErrs ++ headErrs ++ numErrs := fun g hg => List.mem_append_left _ (List.mem_append_right _ hg)
  have m3 : ∀ g ∈ numErrs, g ∈ signErrs ++ headErrs ++ numErrs := fun g hg => List.mem_append_right _ hg
  obtain ⟨kg, kt, kc, kf, kp, k1, k2, k3, k4⟩ := laidVars_at hv _ hL.kinds
  obtain rfl := Option.some.inj (kindsG.symm.trans k1)
  obtain rfl := Option.some.inj (kindsT.symm.trans k2)
  obtain ⟨qg, qt, qc, qf, qp, q1, q2, q3, q4⟩ := laidVars_at hv _ hL.pairs
  obtain rfl := Option.some.inj (pairsG.symm.trans q1)
  obtain rfl := Option.some.inj (pairsT.symm.trans q2)
  obtain ⟨rg, rt, rc, rf, rp, r1, r2, r3, r4⟩ := laidVars_at hv _ hL.rooms
  obtain rfl := Option.some.inj (roomsG.symm.trans r1)
  obtain rfl := Option.some.inj (roomsT.symm.trans r2)
  have kcell := fun {i j es z} => cell_of_rows Tryz.underlying271 Tryz.underlying270 (m := 2) (by kernel_rfl) (by kernel_rfl) k4 (i := i) (j := j) (es := es) (z := z)
  have qcell := fun {i j es z} => cell_of_rows Tryz.underlying476 Tryz.underlying426 (m := 2) (by kernel_rfl) (by kernel_rfl) q4 (i := i) (j := j) (es := es) (z := z)
  have rcell := fun {i j es z} => cell_of_rows Tryz.underlying506 Tryz.underlying461 (m := 3) (by kernel_rfl) (by kernel_rfl) r4 (i := i) (j := j) (es := es) (z := z)
  have kl : kc.toList.length = 6 := (len_of Tryz.underlying271 k4).trans (by kernel_rfl)
  have ql : qc.toList.length = 6 := (len_of Tryz.underlying476 q4).trans (by kernel_rfl)
  have rl : rc.toList.length = 15 := (len_of Tryz.underlying506 r4).trans (by kernel_rfl)
  have ke : kc.toList = [.int .i64 0, .int .i64 0, .int .i64 1, .int .i64 2, .int .i64 2, .int .i64 4] := list_of kl fun i hi => by
    match i, hi with
    | 0, _ => exact kcell (i := 0) (j := 0) rfl rfl
    | 1, _ => exact kcell (i := 0) (j := 1) rfl rfl
    | 2, _ => exact kcell (i := 1) (j := 0) rfl rfl
    | 3, _ => exact kcell (i := 1) (j := 1) rfl rfl
    | 4, _ => exact kcell (i := 2) (j := 0) rfl rfl
    | 5, _ => exact kcell (i := 2) (j := 1) rfl rfl
    | k + 6, h => exact absurd h (by simp)
  have qe : qc.toList = [.int .i64 206, .int .i64 6, .int .i64 207, .int .i64 7, .int .i64 210, .int .i64 10] := list_of ql fun i hi => by
    match i, hi with
    | 0, _ => exact qcell (i := 0) (j := 0) rfl rfl
    | 1, _ => exact qcell (i := 0) (j := 1) rfl rfl
    | 2, _ => exact qcell (i := 1) (j := 0) rfl rfl
    | 3, _ => exact qcell (i := 1) (j := 1) rfl rfl
    | 4, _ => exact qcell (i := 2) (j := 0) rfl rfl
    | 5, _ => exact qcell (i := 2) (j := 1) rfl rfl
    | k + 6, h => exact absurd h (by simp)
  have re : rc.toList = roomsV.toList := list_of rl fun i hi => by
    match i, hi with
    | 0, _ => exact rcell (i := 0) (j := 0) rfl rfl
    | 1, _ => exact rcell (i := 0) (j := 1) rfl rfl
    | 2, _ => exact rcell (i := 0) (j := 2) rfl rfl
    | 3, _ => exact rcell (i := 1) (j := 0) rfl rfl
    | 4, _ => exact rcell (i := 1) (j := 1) rfl rfl
    | 5, _ => exact rcell (i := 1) (j := 2) rfl rfl
    | 6, _ => exact rcell (i := 2) (j := 0) rfl rfl
    | 7, _ => exact rcell (i := 2) (j := 1) rfl rfl
    | 8, _ => exact rcell (i := 2) (j := 2) rfl rfl
    | 9, _ => exact rcell (i := 3) (j := 0) rfl rfl
    | 10, _ => exact rcell (i := 3) (j := 1) rfl rfl
    | 11, _ => exact rcell (i := 3) (j := 2) rfl rfl
    | 12, _ => exact rcell (i := 4) (j := 0) rfl rfl
    | 13, _ => exact rcell (i := 4) (j := 1) rfl rfl
    | 14, _ => exact rcell (i := 4) (j := 2) rfl rfl
    | k + 15, h => exact absurd h (by simp)
  have kq : kc = #[.int .i64 0, .int .i64 0, .int .i64 1, .int .i64 2, .int .i64 2, .int .i64 4] := by rw [← (Array.toArray_toList : kc.toList.toArray = kc), ke]
  have qq : qc = #[.int .i64 206, .int .i64 6, .int .i64 207, .int .i64 7, .int .i64 210, .int .i64 10] := by rw [← (Array.toArray_toList : qc.toList.toArray = qc), qe]
  have rq : rc = roomsV := by rw [← (Array.toArray_toList : rc.toList.toArray = rc), re]
  obtain ⟨qcs, qh⟩ := glob_row hsh (g := 25) (t := 476) (by kernel_rfl) (by kernel_rfl)
  obtain rfl := var_row pairsG q3 qh
  obtain ⟨rcs, rh⟩ := glob_row hsh (g := 26) (t := 506) (by kernel_rfl) (by kernel_rfl)
  obtain rfl := var_row roomsG r3 rh
  have kcell0 := fun i => World.var?_cell kindsG k3 i
  rw [kq] at kcell0
  refine ⟨A, ⟨fun g hg => sent g (m1 g hg), fun g hg k hk => two g (m1 g hg) k (m1 k hk)⟩, ⟨by rw [rh, rq], fun g hg => sent g (m2 g hg), fun g hg k hk => two g (m2 g hg) k (m2 k hk)⟩, ?_, err_of hh hL.err, ⟨fun g hg => sent g (m3 g hg), fun g hg k hk => two g (m3 g hg) k (m3 k hk)⟩, ⟨kcell0, ?_⟩⟩
  · unfold PairsAt
    rw [qh, qq]
  · have := kcell0 0
    exact cellLt this
end Go.Proofs.YtllfaffbaijgfaaGreatDoor

namespace Go.Proofs.YtllfaffbaijgfaaGreatDoor
open Go Go.RowKit Go.Shelf Go.ChangeShapes Go.WideShapes

section
variable {H : Type} {enc : TypeId × Value → H} {W : World} {sp : Nat → Bool} {held : Bool}

theorem int_of_trod {base fuel : Nat} {cs : List Value} {x : DataW H × List MemPlace} (h : DataW.trod enc Tryz.prog W base sp held fuel 3 cs = some x) : ∃ n, cs = [.int .i64 n] ∧ x = (.lit (.int .i64 n), []) := by
  obtain ⟨n, h1, h2, _⟩ := DataW.trod_int Tryz.underlying3 h
  exact ⟨n, h1, h2⟩
theorem bool_of_trod {base fuel : Nat} {cs : List Value} {x : DataW H × List MemPlace} (h : DataW.trod enc Tryz.prog W base sp held fuel 4 cs = some x) : ∃ n, cs = [.bool n] ∧ x = (.lit (.bool n), []) := by
  obtain ⟨n, h1, h2⟩ := DataW.trod_bool Tryz.underlying4 h
  exact ⟨n, h1, h2⟩
theorem str_of_trod {base fuel : Nat} {cs : List Value} {x : DataW H × List MemPlace} (h : DataW.trod enc Tryz.prog W base sp held fuel 9 cs = some x) : ∃ l, cs = [.string (bs l)] ∧ x = (.lit (.string l), []) ∧ l.length ≤ maxLen := by
  obtain ⟨s, h1, h2, h3⟩ := DataW.trod_string Tryz.underlying9 h
  obtain ⟨l, rfl⟩ := bs_surj s
  exact ⟨l, h1, by rw [h2, bs_toList], by rw [← bs_size]; exact h3⟩

def eidD (H : Type) (e : Eid) : DataW H := .agg [.lit (.int .i64 e.scheme), .lit (.string e.node), .lit (.string e.service), .lit (.int .i64 e.a), .lit (.int .i64 e.b)]
set_option maxRecDepth 100000 in
theorem eid_of_trod {base fuel : Nat} {cs : List Value} {x : DataW H × List MemPlace} (h : DataW.trod enc Tryz.prog W base sp held fuel 29 cs = some x) :
    ∃ e : Eid, cs = [.int .i64 e.scheme, .string (bs e.node), .string (bs e.service), .int .i64 e.a, .int .i64 e.b] ∧ x = (eidD H e, []) ∧ e.node.length ≤ maxLen ∧ e.service.length ≤ maxLen := by
  obtain ⟨xs, k, _, rfl, hl, hn, hf⟩ := DataW.trod_struct Tryz.underlying29 h
  rw [show Tryz.prog.cellsOf 29 = 5 by kernel_rfl] at hl
  have c1 : Tryz.prog.cellsOf 3 = 1 := by kernel_rfl
  have c2 : Tryz.prog.cellsOf 9 = 1 := by kernel_rfl
  match cs, hl, xs, hn with
  | [a, b, c, d, e], _, [x0, x1, x2, x3, x4], _ =>
    have f0 := hf 0 _ rfl
    have f1 := hf 1 _ rfl
    have f2 := hf 2 _ rfl
    have f3 := hf 3 _ rfl
    have f4 := hf 4 _ rfl
    simp only [c1, c2, List.drop_zero, List.drop_succ_cons, List.take_succ_cons, List.take_zero, List.getElem?_cons_zero, List.getElem?_cons_succ] at f0 f1 f2 f3 f4
    obtain ⟨n0, e0, rfl⟩ := int_of_trod f0
    obtain ⟨n1, e1, rfl, l1⟩ := str_of_trod f1
    obtain ⟨n2, e2, rfl, l2⟩ := str_of_trod f2
    obtain ⟨n3, e3, rfl⟩ := int_of_trod f3
    obtain ⟨n4, e4, rfl⟩ := int_of_trod f4
    cases e0
    cases e1
    cases e2
    cases e3
    cases e4
    exact ⟨⟨n0, n1, n2, n3, n4⟩, rfl, rfl, l1, l2⟩

/-- a slice of numbers -/
theorem ints_of_trod {base fuel : Nat} {cs : List Value} {x : DataW H × List MemPlace} (h : DataW.trod enc Tryz.prog W base (fun _ => true) held fuel 45 cs = some x) :
    ∃ (a : Option Addr) (l r : List Int) (cap : Nat), cs = [.slice a l.length cap] ∧ cap = l.length + r.length ∧ cap ≤ maxLen ∧ IntsV W l (.slice a l.length cap) ∧ (x.1 = .slice (lits .i64 l) (lits .i64 r) ∨ (x.1 = .nil ∧ l = [])) := by
  rcases open_ints Tryz.underlying45 Tryz.underlying3 (by kernel_rfl) h with ⟨rfl, rfl⟩ | ⟨a, len, cap, zs, rfl, _, hle, hm, hz, rfl, hc, _⟩
  · exact ⟨none, [], [], 0, rfl, rfl, Nat.zero_le _, ⟨_, _, rfl, fun h => absurd h (Nat.lt_irrefl _)⟩, Or.inr ⟨rfl, rfl⟩⟩
  · simp only [if_true] at hz
    have hl : (zs.take len).length = len := by rw [List.length_take]; omega
    refine ⟨some a, zs.take len, zs.drop len, cap, by rw [hl], by rw [hl, List.length_drop]; omega, hm, ⟨_, _, rfl, fun h0 => ?_⟩, Or.inl rfl⟩
    obtain ⟨b, o, rfl, hat⟩ := ints_at hc (by omega)
    have h1 := hat 0 (by omega)
    refine ⟨b, o, rfl, ?_, fun i n hi => ?_⟩
    · unfold World.cell? at h1
      cases hb : W.heap[b]? with
      | none => simp [hb] at h1
      | some x => exact (Array.getElem?_eq_some_iff.1 hb).1
    · have hil : i < len := by rw [← hl]; exact (List.getElem?_eq_some_iff.1 hi).1
      rw [hat i (by omega)]
      rw [List.getElem?_take_of_lt hil] at hi
      simp [List.getD, hi]

set_option maxRecDepth 100000 in
/-- a report -/
theorem report_of_trod {base fuel : Nat} {cs : List Value} {x : DataW H × List MemPlace} (h : DataW.trod enc Tryz.prog W base (fun _ => true) held fuel 47 cs = some x) :
    ∃ (y : Report) (a : Option Addr) (cap : Nat), cs = [.int .i64 y.bits, .slice a y.times.length cap, .int .i64 y.reason, .int .i64 y.source.scheme, .string (bs y.source.node), .string (bs y.source.service), .int .i64 y.source.a, .int .i64 y.source.b, .int .i64 y.time, .int .i64 y.seq, .bool y.part, .int .i64 y.off, .int .i64 y.len] ∧ y.times.length ≤ cap ∧ cap ≤ maxLen ∧ IntsV W y.times (.slice a y.times.length cap) := by
  obtain ⟨xs, k, _, rfl, hl, hn, hf⟩ := DataW.trod_struct Tryz.underlying47 h
  rw [show Tryz.prog.cellsOf 47 = 13 by kernel_rfl] at hl
  have c1 : Tryz.prog.cellsOf 3 = 1 := by kernel_rfl
  have c2 : Tryz.prog.cellsOf 4 = 1 := by kernel_rfl
  have c3 : Tryz.prog.cellsOf 45 = 1 := by kernel_rfl
  have c4 : Tryz.prog.cellsOf 29 = 5 := by kernel_rfl
  match cs, hl, xs, hn with
  | [v0, v1, v2, v3, v4, v5, v6, v7, v8, v9, v10, v11, v12], _, [x0, x1, x2, x3, x4, x5, x6, x7, x8], _ =>
    have f0 := hf 0 _ rfl
    have f1 := hf 1 _ rfl
    have f2 := hf 2 _ rfl
    have f3 := hf 3 _ rfl
    have f4 := hf 4 _ rfl
    have f5 := hf 5 _ rfl
    have f6 := hf 6 _ rfl
    have f7 := hf 7 _ rfl
    have f8 := hf 8 _ rfl
    simp only [c1, c2, c3, c4, List.drop_zero, List.drop_succ_cons, List.take_succ_cons, List.take_zero, List.getElem?_cons_zero, List.getElem?_cons_succ] at f0 f1 f2 f3 f4 f5 f6 f7 f8
    obtain ⟨n0, e0, _⟩ := int_of_trod f0
    obtain ⟨a, l, r, cap, e1, hcap, hm, hv, _⟩ := ints_of_trod f1
    obtain ⟨n2, e2, _⟩ := int_of_trod f2
    obtain ⟨n3, e3, _⟩ := eid_of_trod f3
    obtain ⟨n4, e4, _⟩ := int_of_trod f4
    obtain ⟨n5, e5, _⟩ := int_of_trod f5
    obtain ⟨n6, e6, _⟩ := bool_of_trod f6
    obtain ⟨n7, e7, _⟩ := int_of_trod f7
    obtain ⟨n8, e8, _⟩ := int_of_trod f8
    cases e0
    cases e1
    cases e2
    cases e3
    cases e4
    cases e5
    cases e6
    cases e7
    cases e8
    exact ⟨⟨n0, l, n2, n3, n4, n5, n6, n7, n8⟩, a, cap, rfl, by show l.length ≤ cap; omega, hm, hv⟩
end
end Go.Proofs.YtllfaffbaijgfaaGreatDoor

namespace Go.Proofs.YtllfaffbaijgfaaGreatDoor
open Go Go.RowKit Go.Shelf Go.ChangeShapes Go.WideShapes

theorem laidOutP : laidOutB Tryz.prog = true := by kernel_rfl

section
variable {H : Type} {enc : TypeId × Value → H}

theorem trodAll_below {W W' : World} (hb : Below W.heap.size W W') : ∀ {ts : List TypeId} {vs : List Value} {ds : List (DataW H)} {ps : List MemPlace}, (∀ t ∈ ts, Tryz.prog.readableRec t = true ∧ t < Tryz.prog.types.size) →
    DataW.TrodAll enc Tryz.prog W 0 (fun _ => true) true ts vs ds ps → (∀ x ∈ ps, x.block < W.heap.size) → DataW.TrodAll enc Tryz.prog W' 0 (fun b => decide (b < W.heap.size)) true ts vs ds ps
  | [], _, _, _, _, h, _ => by
    obtain ⟨rfl, rfl, rfl⟩ := trodAll_nil h
    exact trodAll_mk0
  | t :: ts, _, _, _, ht, h, hlt => by
    obtain ⟨v, vs, d, ds, p, q, rfl, rfl, rfl, h1, h2⟩ := trodAll_cons h
    obtain ⟨r1, r2⟩ := ht t (List.mem_cons_self ..)
    exact ⟨p, q, Below.trod laidOutP r1 r2 h1 hb (fun x hx => hlt x (List.mem_append_left _ hx)), trodAll_below hb (fun t h => ht t (List.mem_cons_of_mem _ h)) h2 (fun x hx => hlt x (List.mem_append_right _ hx)), rfl⟩

theorem post_true {f : Func} {s : ChangeSpec} {W W' : World} {args : Array Value} {ds gs : List (DataW H)} {before : List MemPlace}
    (hvars : s.vars = []) (hfn : (s.fn H (ds ++ gs)).results = [.lit (.bool true)] ∧ (s.fn H (ds ++ gs)).args = ds ∧ (s.fn H (ds ++ gs)).vars = []) (hr : f.resultTypes = #[4]) (ht : ∀ t ∈ f.params.toList, Tryz.prog.readableRec t = true ∧ t < Tryz.prog.types.size)
    (hW : DataW.Whole enc Tryz.prog f.params.toList s.vars false W args.toList ds gs before) (hb : Below W.heap.size W W') : s.post enc Tryz.prog f false true false false W args (.bool true) W' := by
  have hW' := hW
  obtain ⟨p, q, hA, hV, rfl, hfz, hnd⟩ := hW
  have hlt : ∀ x ∈ p, x.block < W.heap.size := fun x hx => by simpa using hW'.lt x (List.mem_append_left _ hx)
  refine ⟨ds, gs, p ++ q, [], p, [], hW', ?_, ?_, ?_, hb.frame _, fun h => by cases h⟩
  · rw [hfn.1, hr]
    exact trodAll_cons_mk (shut_bool Tryz.underlying4 true) trodAll_mk0
  · rw [hfn.2.1]
    exact trodAll_below hb ht hA hlt
  · rw [hfn.2.2, hvars]
    rfl
end
end Go.Proofs.YtllfaffbaijgfaaGreatDoor

namespace Go.Proofs.YtllfaffbaijgfaaGreatDoor
open Go Go.RowKit Go.Shelf Go.ChangeShapes Go.WideShapes

def flatLits : List (DataW Unit) → List Value
  | .lit (.int k z) :: l => .int k z :: flatLits l
  | _ :: l => flatLits l
  | [] => []
def flatRows : List (DataW Unit) → List Value
  | .lit (.int k z) :: l => .int k z :: flatRows l
  | .agg es :: l => flatLits es ++ flatRows l
  | _ :: l => flatRows l
  | [] => []
def setRow (cs : Array Value) : Obj → Obj
  | .cells _ t fr => .cells cs t fr
  | o => o
/-- one variable of the list, laid -/
noncomputable def layOne (w : World) (x : String × DataW Unit) : World :=
  match Tryz.prog.globalNamed x.1 with
  | none => w
  | some g =>
    match x.2 with
    | .iface _ (.ptr (.agg [.lit (.string s)])) => { w with heap := (w.heap.push (.cells #[.string (bs s)] 528)).modify g (setRow #[.iface 526 (.pointer (some ⟨w.heap.size, 0, none⟩))]) }
    | .iface _ _ => { w with heap := w.heap.modify g (setRow #[.iface 335 (.agg #[typeHandle Tryz.prog 78])]) }
    | .agg ds => { w with heap := w.heap.modify g (setRow (flatRows ds).toArray) }
    | _ => w
/-- the settled world, all of the list laid -/
noncomputable def laidWorld (L : List (String × DataW Unit)) (os : Os) : World := L.foldl layOne (World.holding Tryz.prog os ⟨#[], #[], []⟩)
end Go.Proofs.YtllfaffbaijgfaaGreatDoor
