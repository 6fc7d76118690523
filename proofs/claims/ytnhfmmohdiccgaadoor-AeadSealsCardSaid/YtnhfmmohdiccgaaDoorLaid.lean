/-
  What the rows' condition on chacha.quarters gives the walks: its cells. (Printed by laid.py, a program of this session.)
-/
import Derived.Test.YtnhfmmohdiccgaaDoorRows
import Derived.Test.YtnhfmmohdiccgaaDoorChachaB
import Derived.ProofKit
import Derived.LaidMore
import Derived.OpenShut
import Derived.Stop.Joined
import Derived.Lib.LaidTab
namespace Go.Proofs.YtnhfmmohdiccgaaDoor
open Go.ChangeShapes Go.WideShapes Go.ChangeAt Go.RowKit Go.Sym Plain
abbrev laidQ : List (String × DataW Unit) := [("hatchway/chacha.quarters", Rows.laid_hatchway_chacha_quarters)]
theorem gQ : Tryd.prog.globalNamed "hatchway/chacha.quarters" = some 0 := by kernel_rfl
theorem tQ : (Tryd.prog.globals[0]?).map (·.type) = some 50 := by kernel_rfl
theorem door_met (os : Os) (args : Array Value) : laidMetH Tryd.prog laidQ ((World.doorLaid Tryd.prog 22 os).forCall (fun _ _ => 0) ⟨#[], args, []⟩).memory :=
  laidMetH_of_parts3 (fuel := 8) (laidMet_of_run' 8 (by kernel_rfl) (by kernel_rfl)) (by kernel_rfl) (by kernel_rfl)
theorem row_cells {H : Type} {enc : TypeId × Value → H} {w : World} {base fuel : Nat} {sp : Nat → Bool} {held : Bool} {cs : List Value} {x : DataW H × List MemPlace} (zs : List Nat)
    (h : DataW.trod enc Tryd.prog w base sp held fuel 49 cs = some x) (hx : x.1 = .agg (zs.map fun (z : Nat) => .lit (.int .i64 (z : Int)))) : cs = zs.map NV := by
  obtain ⟨a, b⟩ := x
  obtain rfl : a = _ := hx
  have := Lib.cells_of_tab (zs := zs.map fun (z : Nat) => (z : Int)) (k := .i64) Tryd.underlying49 Tryd.underlying3 (by kernel_rfl) (by kernel_rfl) (by simpa [Lib.tabData, List.map_map, Function.comp_def] using h)
  rw [this, List.map_map]
  rfl
theorem of_laid {W : World} (h : laidMetH Tryd.prog laidQ W) : RdB W (some ⟨0, 0, none⟩) (qflat.map NV) := by
  rw [MakeChecks.laidMetH_plain _ _ _ (by kernel_rfl)] at h
  obtain ⟨ps, ⟨g0, t0, cs0, f0, p0, q0, hg0, ht0, hv0, hd0, _, _⟩, _, _⟩ := h
  obtain rfl := Option.some.inj (gQ.symm.trans hg0)
  obtain rfl := Option.some.inj (tQ.symm.trans ht0)
  obtain ⟨xs, m1, rfl, hx1, hlen, hn8, hel⟩ := DataW.trod_array Tryd.underlying50 hd0
  have c4 : Tryd.prog.cellsOf 49 = 4 := by kernel_rfl
  rw [c4] at hel
  simp only [Prod.mk.injEq] at hx1
  have hxs : xs.map (·.1) = qtab.map fun q => .agg ([q.1, q.2.1, q.2.2.1, q.2.2.2].map fun z => .lit (.int .i64 ((z : Nat) : Int))) := (DataW.agg.inj hx1.1).symm
  have hrow : ∀ i, i < 8 → (cs0.toList.drop (i * 4)).take 4 = ((qflat.drop (i * 4)).take 4).map NV := fun i hi => by
    have h1 := hel i hi
    rw [List.getElem?_eq_getElem (by omega)] at h1
    rw [qflat_at i hi]
    refine row_cells _ h1 ?_
    have h2 := congrArg (fun l => l[i]?) hxs
    simp only [List.getElem?_map] at h2
    rw [List.getElem?_eq_getElem (show i < xs.length by omega), List.getElem?_eq_getElem (show i < qtab.length from hi)] at h2
    have h3 := Option.some.inj h2
    have h4 : qAt i = qtab[i]'hi := by
      unfold qAt
      rw [List.getD_eq_getElem?_getD, List.getElem?_eq_getElem (show i < qtab.length from hi)]; rfl
    rw [h4]
    exact h3
  intro j u hu
  refine ⟨rfl, ?_⟩
  have hj : j < 32 := by have := (List.getElem?_eq_some_iff.1 hu).1; simpa [qflat] using this
  have hr := hrow (j / 4) (by omega)
  have hr2 := congrArg (fun l => l[j % 4]?) hr
  simp only [List.getElem?_map, List.getElem?_take, List.getElem?_drop] at hr2
  rw [if_pos (by omega), if_pos (by omega), show j / 4 * 4 + j % 4 = j by omega] at hr2
  have hc := World.var?_cell hg0 hv0 j
  rw [at_own, Nat.zero_add, hc]
  rw [List.getElem?_map] at hu
  rw [← hu, ← hr2]
  simp
end Go.Proofs.YtnhfmmohdiccgaaDoor
