/-
  From the rows' condition on package variables to what the calls read of them, in every world that has the form's shape; the builder that hands a contract both.
-/
import Derived.Test.YtceopllngemnnaaGreatDoorRows
import Derived.Test.YtceopllngemnnaaGreatDoorMA
import Derived.ProofKit
import Derived.LaidMore
import Derived.Stop.LaidErr
import Derived.Lib.LaidTab
import Derived.Shelf.Vars
import Derived.SizedLaws
namespace Go.Proofs.YtceopllngemnnaaGreatDoor
open Go.ChangeShapes Go.WideShapes Go.ChangeAt Go.RowKit

theorem own : ownKnob Tryz.prog.godebug = none := by kernel_rfl
theorem laidOut : laidOutB Tryz.prog = true := by kernel_rfl

/-- The builder: the contract is handed the listed variables and the world's shape. -/
theorem handed_laid {H : Type} {enc : TypeId × Value → H} {a : Assume} {C : Checked} {os : Os} {f : FuncId} {fn : Func} {s : ChangeSpec} {conds : List PathCond} {apart fresh handsOn again : Bool} {X : World → Array Value → Prop}
    (hX : ∀ (w w' : World) (args : Array Value), w.heap = w'.heap → X w args → X w' args)
    (own : ownKnob C.prog.godebug = none) (started : os.Started) (noInit : C.prog.inits.idxOf? f = none) (hfn : C.prog.funcs[f]? = some fn)
    (witness : ∃ (w : World) (tape : Tape) (i : Input), w.os = os ∧ (w.forCall tape i).Shaped C.prog ∧ i.vars = [] ∧ Input.okWide C.prog (w.forCall tape i) .any w.heap.size f i ∧
      ((s.pre enc C.prog fn conds apart (w.forCall tape i).memory i.args ∧ X (w.forCall tape i).memory i.args) ∧ sizedMet enc C.prog fn (OpenSpec.ofChange s) apart (w.forCall tape i).memory i.args) ∧ a.holds C.prog (lone (Frame.enter C.prog f i.args .normal) [] (w.forCall tape i)))
    (contract : ∀ (W : World) (base : Nat) (args : Array Value) (ds gs : List (DataW H)) (before : List MemPlace),
      (∀ (j : Nat) t v, fn.params[j]? = some t → args[j]? = some v → Value.okWide C.prog W .any base t v) →
      DataW.Whole enc C.prog fn.params.toList s.vars apart W args.toList ds gs before →
      conds.all (PathCond.test C.prog ⟨fn.params.toList, ds, s.plain.varTypes C.prog, gs⟩) = true →
      (DataW.weightsEach C.prog (fn.params.toList ++ s.plain.varTypes C.prog) (ds ++ gs)).all (· ≤ reachBytes) = true → X W args → W.ShapedOpen C.prog →
      Calls C.prog f args W fun e W' => ∃ v, e = .returned v ∧ s.post enc C.prog fn apart fresh handsOn again W args v W') :
    ReturnsInHanded a C os f .any (fun w args => (s.pre enc C.prog fn conds apart w args ∧ X w args) ∧ sizedMet enc C.prog fn (OpenSpec.ofChange s) apart w args) (s.post enc C.prog fn apart fresh handsOn again) := by
  refine returnsInHanded_of_calls own started noInit witness ?_
  intro w tape i _ hsh _ hok hpre _
  obtain ⟨_, _, _, fn', hfn', _, _, _, _, hval⟩ := hok
  have e : fn' = fn := Option.some.inj (hfn'.symm.trans hfn)
  subst e
  obtain ⟨⟨⟨ds, gs, before, hw, hc⟩, hx⟩, hz⟩ := hpre
  have hw' := DataW.Whole.of_heap (w' := w.forCall tape i) (by rfl) hw
  refine (contract (w.forCall tape i) w.heap.size i.args ds gs before hval hw' hc (hz.weights hw) (hX _ _ _ (by rfl) hx) hsh).mono fun e W' ⟨v, he, hp⟩ => ?_
  subst he
  exact ChangeSpec.post_blind hp

theorem gSyn : Tryz.prog.globalNamed "strconv.ErrSyntax" = some 1 := by kernel_rfl
theorem gRng : Tryz.prog.globalNamed "strconv.ErrRange" = some 2 := by kernel_rfl
theorem tTab : (Tryz.prog.globals[3]?).map (·.type) = some 181 := by kernel_rfl
theorem tSyn : (Tryz.prog.globals[1]?).map (·.type) = some 84 := by kernel_rfl
theorem tRng : (Tryz.prog.globals[2]?).map (·.type) = some 84 := by kernel_rfl
theorem c181 : Tryz.prog.cellsOf 181 = 20 := by kernel_rfl
theorem c100 : Tryz.prog.cellsOf 100 = 1 := by kernel_rfl
theorem c188 : Tryz.prog.cellsOf 188 = 1 := by kernel_rfl
theorem c9 : Tryz.prog.cellsOf 9 = 1 := by kernel_rfl
theorem star : "*errors.errorString" = "*" ++ "errors.errorString" := by decide
theorem row186 (u : TypeId) (h : Tryz.prog.typeName? 3 u = some "*errors.errorString") : u = 186 :=
  typeName_ptr_named (nm := "errors.errorString") (by rw [← star]; kernel_rfl) (by kernel_rfl) (by decide) u (by rw [← star]; exact h)

theorem env_of {W : World} (h0 : laidMetH Tryz.prog Rows.batchPacksRow.laid W) (hs : W.ShapedOpen Tryz.prog) : Env W := by
  have h : laidMet Tryz.prog Rows.batchPacksRow.laid W := by
    rw [MakeChecks.laidMetH_plain _ _ _ (by kernel_rfl)] at h0
    exact h0
  have h3 := laidMet.tail (laidMet.tail h)
  have ht := Lib.tabIs_of_head (zs := Lib.pow10Tab) tab_named tTab Tryz.underlying181 Tryz.underlying100 c100 c181 h3
  have h4 := laidMet.tail (laidMet.tail h3)
  have h5 := laidMet.tail h4
  obtain ⟨m, hm⟩ := cell_of_shapedOpen_int (g := 0) (t := 3) (k := .i64) hs (of_decide_eq_true (by kernel_rfl)) (zero := #[.int .i64 0]) (by kernel_rfl) rfl (by kernel_rfl) (by kernel_rfl) Tryz.underlying3
  obtain ⟨a1, s1, hv1, _, _, _⟩ := laid_sentinel h4 gRng tRng Tryz.underlying84 row186 Tryz.underlying186 Tryz.underlying188 rfl rfl Tryz.underlying9 c188 c9
  obtain ⟨a2, s2, hv2, _, _, _⟩ := laid_sentinel h5 gSyn tSyn Tryz.underlying84 row186 Tryz.underlying186 Tryz.underlying188 rfl rfl Tryz.underlying9 c188 c9
  refine ⟨⟨m, hm⟩, ht, ⟨_, _, by simpa using World.var?_cell gRng hv1 0⟩, ⟨_, _, by simpa using World.var?_cell gSyn hv2 0⟩, ?_⟩
  have hc := Lib.TabIs.cell ht tab_named 0 (by decide)
  exact World.block_lt_of_cell? W ⟨3, 0, none⟩ hc

end Go.Proofs.YtceopllngemnnaaGreatDoor

