/- Part 21 of the proof: Am21. -/
import Derived.Test.YtapedmpbgeoieaaGreatProg
import Derived.Laws.StructEq
import Derived.Test.YtapedmpbgeoieaaGreatC7p1
import Derived.Test.YtapedmpbgeoieaaGreatC7p20
set_option linter.unusedSimpArgs false
set_option linter.unusedVariables false
namespace Go.Am
open Go Go.Proofs
theorem ok27 : TiOk Tryz.prog elT 27 ti27 := {
  size := by kernel_rfl
  pos := by decide
  zero := by kernel_rfl
  one := by kernel_rfl
  agg := by kernel_rfl
  sc := fun h => by have h : true = false := h; cases h
  flds := fun _ => by kernel_rfl
  fpos := by kernel_rfl
  fsc := by kernel_rfl
  sl := fun st h => by
    have h : none = some st := h
    cases h
  lit := fun _ h => absurd rfl h
  ik := fun k h => by
    have h : none = some k := h
    cases h
  arr := fun n s h => by
    have h : none = some (n, s) := h
    cases h
  }

theorem ok25 : TiOk Tryz.prog elT 25 ti25 := {
  size := by kernel_rfl
  pos := by decide
  zero := by kernel_rfl
  one := by kernel_rfl
  agg := by kernel_rfl
  sc := fun h => by have h : true = false := h; cases h
  flds := fun _ => by kernel_rfl
  fpos := by kernel_rfl
  fsc := by kernel_rfl
  sl := fun st h => by
    have h : none = some st := h
    cases h
  lit := fun _ h => absurd rfl h
  ik := fun k h => by
    have h : none = some k := h
    cases h
  arr := fun n s h => by
    have h : none = some (n, s) := h
    cases h
  }

theorem ok3 : TiOk Tryz.prog elT 3 ti3 := {
  size := by kernel_rfl
  pos := by decide
  zero := by kernel_rfl
  one := by kernel_rfl
  agg := by kernel_rfl
  sc := fun _ => rfl
  flds := fun h => absurd rfl h
  fpos := by kernel_rfl
  fsc := by kernel_rfl
  sl := fun st h => by
    have h : none = some st := h
    cases h
  lit := fun _ h => absurd rfl h
  ik := fun k h => by
    have h : some _ = some k := h
    cases h
    show _ = _
    kernel_rfl
  arr := fun n s h => by
    have h : none = some (n, s) := h
    cases h
  }

theorem ok29 : TiOk Tryz.prog elT 29 ti29 := {
  size := by kernel_rfl
  pos := by decide
  zero := by kernel_rfl
  one := by kernel_rfl
  agg := by kernel_rfl
  sc := fun h => by have h : true = false := h; cases h
  flds := fun _ => by kernel_rfl
  fpos := by kernel_rfl
  fsc := by kernel_rfl
  sl := fun st h => by
    have h : none = some st := h
    cases h
  lit := fun _ h => absurd rfl h
  ik := fun k h => by
    have h : none = some k := h
    cases h
  arr := fun n s h => by
    have h : none = some (n, s) := h
    cases h
  }

theorem ok94 : TiOk Tryz.prog elT 94 ti94 := {
  size := by kernel_rfl
  pos := by decide
  zero := by kernel_rfl
  one := by kernel_rfl
  agg := by kernel_rfl
  sc := fun h => by have h : true = false := h; cases h
  flds := fun _ => by kernel_rfl
  fpos := by kernel_rfl
  fsc := by kernel_rfl
  sl := fun st h => by
    have h : none = some st := h
    cases h
  lit := fun _ h => absurd rfl h
  ik := fun k h => by
    have h : none = some k := h
    cases h
  arr := fun n s h => by
    have h : none = some (n, s) := h
    cases h
  }

theorem ok115 : TiOk Tryz.prog elT 115 ti115 := {
  size := by kernel_rfl
  pos := by decide
  zero := by kernel_rfl
  one := by kernel_rfl
  agg := by kernel_rfl
  sc := fun h => by have h : true = false := h; cases h
  flds := fun _ => by kernel_rfl
  fpos := by kernel_rfl
  fsc := by kernel_rfl
  sl := fun st h => by
    have h : none = some st := h
    cases h
  lit := fun _ h => absurd rfl h
  ik := fun k h => by
    have h : none = some k := h
    cases h
  arr := fun n s h => by
    have h : none = some (n, s) := h
    cases h
  }

theorem ok22 : TiOk Tryz.prog elT 22 ti22 := {
  size := by kernel_rfl
  pos := by decide
  zero := by kernel_rfl
  one := by kernel_rfl
  agg := by kernel_rfl
  sc := fun _ => rfl
  flds := fun h => absurd rfl h
  fpos := by kernel_rfl
  fsc := by kernel_rfl
  sl := fun st h => by
    have h : ti22.sl = some st := h
    have h : some _ = some st := h
    cases h
    exact ⟨by kernel_rfl, by kernel_rfl, by kernel_rfl⟩
  lit := fun h => by
    have h : some _ = none := h
    cases h
  ik := fun k h => by
    have h : none = some k := h
    cases h
  arr := fun n s h => by
    have h : none = some (n, s) := h
    cases h
  }

theorem ok23 : TiOk Tryz.prog elT 23 ti23 := {
  size := by kernel_rfl
  pos := by decide
  zero := by kernel_rfl
  one := by kernel_rfl
  agg := by kernel_rfl
  sc := fun _ => rfl
  flds := fun h => absurd rfl h
  fpos := by kernel_rfl
  fsc := by kernel_rfl
  sl := fun st h => by
    have h : ti23.sl = some st := h
    have h : some _ = some st := h
    cases h
    exact ⟨by kernel_rfl, by kernel_rfl, by kernel_rfl⟩
  lit := fun h => by
    have h : some _ = none := h
    cases h
  ik := fun k h => by
    have h : none = some k := h
    cases h
  arr := fun n s h => by
    have h : none = some (n, s) := h
    cases h
  }

theorem ok4 : TiOk Tryz.prog elT 4 ti4 := {
  size := by kernel_rfl
  pos := by decide
  zero := by kernel_rfl
  one := by kernel_rfl
  agg := by kernel_rfl
  sc := fun _ => rfl
  flds := fun h => absurd rfl h
  fpos := by kernel_rfl
  fsc := by kernel_rfl
  sl := fun st h => by
    have h : none = some st := h
    cases h
  lit := fun _ h => absurd rfl h
  ik := fun k h => by
    have h : none = some k := h
    cases h
  arr := fun n s h => by
    have h : none = some (n, s) := h
    cases h
  }

theorem ok125 : TiOk Tryz.prog elT 125 ti125 := {
  size := by kernel_rfl
  pos := by decide
  zero := by kernel_rfl
  one := by kernel_rfl
  agg := by kernel_rfl
  sc := fun h => by have h : true = false := h; cases h
  flds := fun _ => by kernel_rfl
  fpos := by kernel_rfl
  fsc := by kernel_rfl
  sl := fun st h => by
    have h : none = some st := h
    cases h
  lit := fun _ h => absurd rfl h
  ik := fun k h => by
    have h : none = some k := h
    cases h
  arr := fun n s h => by
    have h : none = some (n, s) := h
    cases h
  }

theorem ok62 : TiOk Tryz.prog elT 62 ti62 := {
  size := by kernel_rfl
  pos := by decide
  zero := by kernel_rfl
  one := by kernel_rfl
  agg := by kernel_rfl
  sc := fun h => by have h : true = false := h; cases h
  flds := fun _ => by kernel_rfl
  fpos := by kernel_rfl
  fsc := by kernel_rfl
  sl := fun st h => by
    have h : none = some st := h
    cases h
  lit := fun _ h => absurd rfl h
  ik := fun k h => by
    have h : none = some k := h
    cases h
  arr := fun n s h => by
    have h : none = some (n, s) := h
    cases h
  }

theorem ok78 : TiOk Tryz.prog elT 78 ti78 := {
  size := by kernel_rfl
  pos := by decide
  zero := by kernel_rfl
  one := by kernel_rfl
  agg := by kernel_rfl
  sc := fun h => by have h : true = false := h; cases h
  flds := fun _ => by kernel_rfl
  fpos := by kernel_rfl
  fsc := by kernel_rfl
  sl := fun st h => by
    have h : none = some st := h
    cases h
  lit := fun _ h => absurd rfl h
  ik := fun k h => by
    have h : none = some k := h
    cases h
  arr := fun n s h => by
    have h : none = some (n, s) := h
    cases h
  }

theorem ok167 : TiOk Tryz.prog elT 167 ti167 := {
  size := by kernel_rfl
  pos := by decide
  zero := by kernel_rfl
  one := by kernel_rfl
  agg := by kernel_rfl
  sc := fun h => by have h : true = false := h; cases h
  flds := fun _ => by kernel_rfl
  fpos := by kernel_rfl
  fsc := by kernel_rfl
  sl := fun st h => by
    have h : none = some st := h
    cases h
  lit := fun _ h => absurd rfl h
  ik := fun k h => by
    have h : none = some k := h
    cases h
  arr := fun n s h => by
    have h : none = some (n, s) := h
    cases h
  }

theorem ok60 : TiOk Tryz.prog elT 60 ti60 := {
  size := by kernel_rfl
  pos := by decide
  zero := by kernel_rfl
  one := by kernel_rfl
  agg := by kernel_rfl
  sc := fun h => by have h : true = false := h; cases h
  flds := fun _ => by kernel_rfl
  fpos := by kernel_rfl
  fsc := by kernel_rfl
  sl := fun st h => by
    have h : none = some st := h
    cases h
  lit := fun _ h => absurd rfl h
  ik := fun k h => by
    have h : none = some k := h
    cases h
  arr := fun n s h => by
    have h : none = some (n, s) := h
    cases h
  }

theorem ok123 : TiOk Tryz.prog elT 123 ti123 := {
  size := by kernel_rfl
  pos := by decide
  zero := by kernel_rfl
  one := by kernel_rfl
  agg := by kernel_rfl
  sc := fun h => by have h : true = false := h; cases h
  flds := fun _ => by kernel_rfl
  fpos := by kernel_rfl
  fsc := by kernel_rfl
  sl := fun st h => by
    have h : none = some st := h
    cases h
  lit := fun _ h => absurd rfl h
  ik := fun k h => by
    have h : none = some k := h
    cases h
  arr := fun n s h => by
    have h : none = some (n, s) := h
    cases h
  }

theorem ok31 : TiOk Tryz.prog elT 31 ti31 := {
  size := by kernel_rfl
  pos := by decide
  zero := by kernel_rfl
  one := by kernel_rfl
  agg := by kernel_rfl
  sc := fun _ => rfl
  flds := fun h => absurd rfl h
  fpos := by kernel_rfl
  fsc := by kernel_rfl
  sl := fun st h => by
    have h : ti31.sl = some st := h
    have h : some _ = some st := h
    cases h
    exact ⟨by kernel_rfl, by kernel_rfl, by kernel_rfl⟩
  lit := fun h => by
    have h : some _ = none := h
    cases h
  ik := fun k h => by
    have h : none = some k := h
    cases h
  arr := fun n s h => by
    have h : none = some (n, s) := h
    cases h
  }

theorem ok225 : TiOk Tryz.prog elT 225 ti225 := {
  size := by kernel_rfl
  pos := by decide
  zero := by kernel_rfl
  one := by kernel_rfl
  agg := by kernel_rfl
  sc := fun h => by have h : true = false := h; cases h
  flds := fun _ => by kernel_rfl
  fpos := by kernel_rfl
  fsc := by kernel_rfl
  sl := fun st h => by
    have h : none = some st := h
    cases h
  lit := fun _ h => absurd rfl h
  ik := fun k h => by
    have h : none = some k := h
    cases h
  arr := fun n s h => by
    have h : none = some (n, s) := h
    cases h
  }

theorem ok173 : TiOk Tryz.prog elT 173 ti173 := {
  size := by kernel_rfl
  pos := by decide
  zero := by kernel_rfl
  one := by kernel_rfl
  agg := by kernel_rfl
  sc := fun h => by have h : true = false := h; cases h
  flds := fun _ => by kernel_rfl
  fpos := by kernel_rfl
  fsc := by kernel_rfl
  sl := fun st h => by
    have h : none = some st := h
    cases h
  lit := fun _ h => absurd rfl h
  ik := fun k h => by
    have h : none = some k := h
    cases h
  arr := fun n s h => by
    have h : none = some (n, s) := h
    cases h
  }

theorem ok188 : TiOk Tryz.prog elT 188 ti188 := {
  size := by kernel_rfl
  pos := by decide
  zero := by kernel_rfl
  one := by kernel_rfl
  agg := by kernel_rfl
  sc := fun h => by have h : true = false := h; cases h
  flds := fun h => absurd rfl h
  fpos := by kernel_rfl
  fsc := by kernel_rfl
  sl := fun st h => by
    have h : none = some st := h
    cases h
  lit := fun _ h => absurd rfl h
  ik := fun k h => by
    have h : none = some k := h
    cases h
  arr := fun n s h => by
    have h : some (2, 1) = some (n, s) := h
    cases h
    show _ = _
    kernel_rfl
  }

theorem ok211 : TiOk Tryz.prog elT 211 ti211 := {
  size := by kernel_rfl
  pos := by decide
  zero := by kernel_rfl
  one := by kernel_rfl
  agg := by kernel_rfl
  sc := fun h => by have h : true = false := h; cases h
  flds := fun _ => by kernel_rfl
  fpos := by kernel_rfl
  fsc := by kernel_rfl
  sl := fun st h => by
    have h : none = some st := h
    cases h
  lit := fun _ h => absurd rfl h
  ik := fun k h => by
    have h : none = some k := h
    cases h
  arr := fun n s h => by
    have h : none = some (n, s) := h
    cases h
  }

theorem ok57 : TiOk Tryz.prog elT 57 ti57 := {
  size := by kernel_rfl
  pos := by decide
  zero := by kernel_rfl
  one := by kernel_rfl
  agg := by kernel_rfl
  sc := fun _ => rfl
  flds := fun h => absurd rfl h
  fpos := by kernel_rfl
  fsc := by kernel_rfl
  sl := fun st h => by
    have h : ti57.sl = some st := h
    have h : some _ = some st := h
    cases h
    exact ⟨by kernel_rfl, by kernel_rfl, by kernel_rfl⟩
  lit := fun h => by
    have h : some _ = none := h
    cases h
  ik := fun k h => by
    have h : none = some k := h
    cases h
  arr := fun n s h => by
    have h : none = some (n, s) := h
    cases h
  }

theorem ok17 : TiOk Tryz.prog elT 17 ti17 := {
  size := by kernel_rfl
  pos := by decide
  zero := by kernel_rfl
  one := by kernel_rfl
  agg := by kernel_rfl
  sc := fun _ => rfl
  flds := fun h => absurd rfl h
  fpos := by kernel_rfl
  fsc := by kernel_rfl
  sl := fun st h => by
    have h : none = some st := h
    cases h
  lit := fun _ h => absurd rfl h
  ik := fun k h => by
    have h : none = some k := h
    cases h
  arr := fun n s h => by
    have h : none = some (n, s) := h
    cases h
  }

theorem ok83 : TiOk Tryz.prog elT 83 ti83 := {
  size := by kernel_rfl
  pos := by decide
  zero := by kernel_rfl
  one := by kernel_rfl
  agg := by kernel_rfl
  sc := fun _ => rfl
  flds := fun h => absurd rfl h
  fpos := by kernel_rfl
  fsc := by kernel_rfl
  sl := fun st h => by
    have h : ti83.sl = some st := h
    have h : some _ = some st := h
    cases h
    exact ⟨by kernel_rfl, by kernel_rfl, by kernel_rfl⟩
  lit := fun h => by
    have h : some _ = none := h
    cases h
  ik := fun k h => by
    have h : none = some k := h
    cases h
  arr := fun n s h => by
    have h : none = some (n, s) := h
    cases h
  }

theorem ok183 : TiOk Tryz.prog elT 183 ti183 := {
  size := by kernel_rfl
  pos := by decide
  zero := by kernel_rfl
  one := by kernel_rfl
  agg := by kernel_rfl
  sc := fun h => by have h : true = false := h; cases h
  flds := fun _ => by kernel_rfl
  fpos := by kernel_rfl
  fsc := by kernel_rfl
  sl := fun st h => by
    have h : none = some st := h
    cases h
  lit := fun _ h => absurd rfl h
  ik := fun k h => by
    have h : none = some k := h
    cases h
  arr := fun n s h => by
    have h : none = some (n, s) := h
    cases h
  }

theorem ok36 : TiOk Tryz.prog elT 36 ti36 := {
  size := by kernel_rfl
  pos := by decide
  zero := by kernel_rfl
  one := by kernel_rfl
  agg := by kernel_rfl
  sc := fun _ => rfl
  flds := fun h => absurd rfl h
  fpos := by kernel_rfl
  fsc := by kernel_rfl
  sl := fun st h => by
    have h : none = some st := h
    cases h
  lit := fun _ h => absurd rfl h
  ik := fun k h => by
    have h : some _ = some k := h
    cases h
    show _ = _
    kernel_rfl
  arr := fun n s h => by
    have h : none = some (n, s) := h
    cases h
  }

theorem ok206 : TiOk Tryz.prog elT 206 ti206 := {
  size := by kernel_rfl
  pos := by decide
  zero := by kernel_rfl
  one := by kernel_rfl
  agg := by kernel_rfl
  sc := fun h => by have h : true = false := h; cases h
  flds := fun _ => by kernel_rfl
  fpos := by kernel_rfl
  fsc := by kernel_rfl
  sl := fun st h => by
    have h : none = some st := h
    cases h
  lit := fun _ h => absurd rfl h
  ik := fun k h => by
    have h : none = some k := h
    cases h
  arr := fun n s h => by
    have h : none = some (n, s) := h
    cases h
  }

theorem ok236 : TiOk Tryz.prog elT 236 ti236 := {
  size := by kernel_rfl
  pos := by decide
  zero := by kernel_rfl
  one := by kernel_rfl
  agg := by kernel_rfl
  sc := fun h => by have h : true = false := h; cases h
  flds := fun h => absurd rfl h
  fpos := by kernel_rfl
  fsc := by kernel_rfl
  sl := fun st h => by
    have h : none = some st := h
    cases h
  lit := fun _ h => absurd rfl h
  ik := fun k h => by
    have h : none = some k := h
    cases h
  arr := fun n s h => by
    have h : some (2, 1) = some (n, s) := h
    cases h
    show _ = _
    kernel_rfl
  }

theorem ok169 : TiOk Tryz.prog elT 169 ti169 := {
  size := by kernel_rfl
  pos := by decide
  zero := by kernel_rfl
  one := by kernel_rfl
  agg := by kernel_rfl
  sc := fun _ => rfl
  flds := fun h => absurd rfl h
  fpos := by kernel_rfl
  fsc := by kernel_rfl
  sl := fun st h => by
    have h : none = some st := h
    cases h
  lit := fun _ h => absurd rfl h
  ik := fun k h => by
    have h : none = some k := h
    cases h
  arr := fun n s h => by
    have h : none = some (n, s) := h
    cases h
  }

theorem ok232 : TiOk Tryz.prog elT 232 ti232 := {
  size := by kernel_rfl
  pos := by decide
  zero := by kernel_rfl
  one := by kernel_rfl
  agg := by kernel_rfl
  sc := fun h => by have h : true = false := h; cases h
  flds := fun _ => by kernel_rfl
  fpos := by kernel_rfl
  fsc := by kernel_rfl
  sl := fun st h => by
    have h : none = some st := h
    cases h
  lit := fun _ h => absurd rfl h
  ik := fun k h => by
    have h : none = some k := h
    cases h
  arr := fun n s h => by
    have h : none = some (n, s) := h
    cases h
  }

theorem ok222 : TiOk Tryz.prog elT 222 ti222 := {
  size := by kernel_rfl
  pos := by decide
  zero := by kernel_rfl
  one := by kernel_rfl
  agg := by kernel_rfl
  sc := fun _ => rfl
  flds := fun h => absurd rfl h
  fpos := by kernel_rfl
  fsc := by kernel_rfl
  sl := fun st h => by
    have h : none = some st := h
    cases h
  lit := fun _ h => absurd rfl h
  ik := fun k h => by
    have h : none = some k := h
    cases h
  arr := fun n s h => by
    have h : none = some (n, s) := h
    cases h
  }

theorem ok30 : TiOk Tryz.prog elT 30 ti30 := {
  size := by kernel_rfl
  pos := by decide
  zero := by kernel_rfl
  one := by kernel_rfl
  agg := by kernel_rfl
  sc := fun _ => rfl
  flds := fun h => absurd rfl h
  fpos := by kernel_rfl
  fsc := by kernel_rfl
  sl := fun st h => by
    have h : ti30.sl = some st := h
    have h : some _ = some st := h
    cases h
    exact ⟨by kernel_rfl, by kernel_rfl, by kernel_rfl⟩
  lit := fun h => by
    have h : some _ = none := h
    cases h
  ik := fun k h => by
    have h : none = some k := h
    cases h
  arr := fun n s h => by
    have h : none = some (n, s) := h
    cases h
  }

theorem ok153 : TiOk Tryz.prog elT 153 ti153 := {
  size := by kernel_rfl
  pos := by decide
  zero := by kernel_rfl
  one := by kernel_rfl
  agg := by kernel_rfl
  sc := fun _ => rfl
  flds := fun h => absurd rfl h
  fpos := by kernel_rfl
  fsc := by kernel_rfl
  sl := fun st h => by
    have h : none = some st := h
    cases h
  lit := fun _ h => absurd rfl h
  ik := fun k h => by
    have h : none = some k := h
    cases h
  arr := fun n s h => by
    have h : none = some (n, s) := h
    cases h
  }

theorem ok192 : TiOk Tryz.prog elT 192 ti192 := {
  size := by kernel_rfl
  pos := by decide
  zero := by kernel_rfl
  one := by kernel_rfl
  agg := by kernel_rfl
  sc := fun _ => rfl
  flds := fun h => absurd rfl h
  fpos := by kernel_rfl
  fsc := by kernel_rfl
  sl := fun st h => by
    have h : none = some st := h
    cases h
  lit := fun _ _ => ⟨by kernel_rfl, by kernel_rfl, by kernel_rfl⟩
  ik := fun k h => by
    have h : none = some k := h
    cases h
  arr := fun n s h => by
    have h : none = some (n, s) := h
    cases h
  }

theorem ok223 : TiOk Tryz.prog elT 223 ti223 := {
  size := by kernel_rfl
  pos := by decide
  zero := by kernel_rfl
  one := by kernel_rfl
  agg := by kernel_rfl
  sc := fun _ => rfl
  flds := fun h => absurd rfl h
  fpos := by kernel_rfl
  fsc := by kernel_rfl
  sl := fun st h => by
    have h : none = some st := h
    cases h
  lit := fun _ h => absurd rfl h
  ik := fun k h => by
    have h : none = some k := h
    cases h
  arr := fun n s h => by
    have h : none = some (n, s) := h
    cases h
  }

theorem ok45 : TiOk Tryz.prog elT 45 ti45 := {
  size := by kernel_rfl
  pos := by decide
  zero := by kernel_rfl
  one := by kernel_rfl
  agg := by kernel_rfl
  sc := fun _ => rfl
  flds := fun h => absurd rfl h
  fpos := by kernel_rfl
  fsc := by kernel_rfl
  sl := fun st h => by
    have h : ti45.sl = some st := h
    have h : some _ = some st := h
    cases h
    exact ⟨by kernel_rfl, by kernel_rfl, by kernel_rfl⟩
  lit := fun h => by
    have h : some _ = none := h
    cases h
  ik := fun k h => by
    have h : none = some k := h
    cases h
  arr := fun n s h => by
    have h : none = some (n, s) := h
    cases h
  }

theorem ok187 : TiOk Tryz.prog elT 187 ti187 := {
  size := by kernel_rfl
  pos := by decide
  zero := by kernel_rfl
  one := by kernel_rfl
  agg := by kernel_rfl
  sc := fun _ => rfl
  flds := fun h => absurd rfl h
  fpos := by kernel_rfl
  fsc := by kernel_rfl
  sl := fun st h => by
    have h : none = some st := h
    cases h
  lit := fun _ _ => ⟨by kernel_rfl, by kernel_rfl, by kernel_rfl⟩
  ik := fun k h => by
    have h : none = some k := h
    cases h
  arr := fun n s h => by
    have h : none = some (n, s) := h
    cases h
  }

theorem ok121 : TiOk Tryz.prog elT 121 ti121 := {
  size := by kernel_rfl
  pos := by decide
  zero := by kernel_rfl
  one := by kernel_rfl
  agg := by kernel_rfl
  sc := fun _ => rfl
  flds := fun h => absurd rfl h
  fpos := by kernel_rfl
  fsc := by kernel_rfl
  sl := fun st h => by
    have h : none = some st := h
    cases h
  lit := fun _ h => absurd rfl h
  ik := fun k h => by
    have h : none = some k := h
    cases h
  arr := fun n s h => by
    have h : none = some (n, s) := h
    cases h
  }

theorem ok5 : TiOk Tryz.prog elT 5 ti5 := {
  size := by kernel_rfl
  pos := by decide
  zero := by kernel_rfl
  one := by kernel_rfl
  agg := by kernel_rfl
  sc := fun _ => rfl
  flds := fun h => absurd rfl h
  fpos := by kernel_rfl
  fsc := by kernel_rfl
  sl := fun st h => by
    have h : none = some st := h
    cases h
  lit := fun _ h => absurd rfl h
  ik := fun k h => by
    have h : some _ = some k := h
    cases h
    show _ = _
    kernel_rfl
  arr := fun n s h => by
    have h : none = some (n, s) := h
    cases h
  }

theorem ok151 : TiOk Tryz.prog elT 151 ti151 := {
  size := by kernel_rfl
  pos := by decide
  zero := by kernel_rfl
  one := by kernel_rfl
  agg := by kernel_rfl
  sc := fun _ => rfl
  flds := fun h => absurd rfl h
  fpos := by kernel_rfl
  fsc := by kernel_rfl
  sl := fun st h => by
    have h : none = some st := h
    cases h
  lit := fun _ _ => ⟨by kernel_rfl, by kernel_rfl, by kernel_rfl⟩
  ik := fun k h => by
    have h : none = some k := h
    cases h
  arr := fun n s h => by
    have h : none = some (n, s) := h
    cases h
  }

theorem ok177 : TiOk Tryz.prog elT 177 ti177 := {
  size := by kernel_rfl
  pos := by decide
  zero := by kernel_rfl
  one := by kernel_rfl
  agg := by kernel_rfl
  sc := fun _ => rfl
  flds := fun h => absurd rfl h
  fpos := by kernel_rfl
  fsc := by kernel_rfl
  sl := fun st h => by
    have h : none = some st := h
    cases h
  lit := fun _ h => absurd rfl h
  ik := fun k h => by
    have h : none = some k := h
    cases h
  arr := fun n s h => by
    have h : none = some (n, s) := h
    cases h
  }

theorem ok191 : TiOk Tryz.prog elT 191 ti191 := {
  size := by kernel_rfl
  pos := by decide
  zero := by kernel_rfl
  one := by kernel_rfl
  agg := by kernel_rfl
  sc := fun _ => rfl
  flds := fun h => absurd rfl h
  fpos := by kernel_rfl
  fsc := by kernel_rfl
  sl := fun st h => by
    have h : none = some st := h
    cases h
  lit := fun _ h => absurd rfl h
  ik := fun k h => by
    have h : none = some k := h
    cases h
  arr := fun n s h => by
    have h : none = some (n, s) := h
    cases h
  }

theorem ok219 : TiOk Tryz.prog elT 219 ti219 := {
  size := by kernel_rfl
  pos := by decide
  zero := by kernel_rfl
  one := by kernel_rfl
  agg := by kernel_rfl
  sc := fun _ => rfl
  flds := fun h => absurd rfl h
  fpos := by kernel_rfl
  fsc := by kernel_rfl
  sl := fun st h => by
    have h : none = some st := h
    cases h
  lit := fun _ _ => ⟨by kernel_rfl, by kernel_rfl, by kernel_rfl⟩
  ik := fun k h => by
    have h : none = some k := h
    cases h
  arr := fun n s h => by
    have h : none = some (n, s) := h
    cases h
  }

theorem ok221 : TiOk Tryz.prog elT 221 ti221 := {
  size := by kernel_rfl
  pos := by decide
  zero := by kernel_rfl
  one := by kernel_rfl
  agg := by kernel_rfl
  sc := fun _ => rfl
  flds := fun h => absurd rfl h
  fpos := by kernel_rfl
  fsc := by kernel_rfl
  sl := fun st h => by
    have h : none = some st := h
    cases h
  lit := fun _ _ => ⟨by kernel_rfl, by kernel_rfl, by kernel_rfl⟩
  ik := fun k h => by
    have h : none = some k := h
    cases h
  arr := fun n s h => by
    have h : none = some (n, s) := h
    cases h
  }

theorem ok32 : TiOk Tryz.prog elT 32 ti32 := {
  size := by kernel_rfl
  pos := by decide
  zero := by kernel_rfl
  one := by kernel_rfl
  agg := by kernel_rfl
  sc := fun _ => rfl
  flds := fun h => absurd rfl h
  fpos := by kernel_rfl
  fsc := by kernel_rfl
  sl := fun st h => by
    have h : none = some st := h
    cases h
  lit := fun _ h => absurd rfl h
  ik := fun k h => by
    have h : none = some k := h
    cases h
  arr := fun n s h => by
    have h : none = some (n, s) := h
    cases h
  }

theorem ok233 : TiOk Tryz.prog elT 233 ti233 := {
  size := by kernel_rfl
  pos := by decide
  zero := by kernel_rfl
  one := by kernel_rfl
  agg := by kernel_rfl
  sc := fun _ => rfl
  flds := fun h => absurd rfl h
  fpos := by kernel_rfl
  fsc := by kernel_rfl
  sl := fun st h => by
    have h : none = some st := h
    cases h
  lit := fun _ _ => ⟨by kernel_rfl, by kernel_rfl, by kernel_rfl⟩
  ik := fun k h => by
    have h : none = some k := h
    cases h
  arr := fun n s h => by
    have h : none = some (n, s) := h
    cases h
  }

theorem ok35 : TiOk Tryz.prog elT 35 ti35 := {
  size := by kernel_rfl
  pos := by decide
  zero := by kernel_rfl
  one := by kernel_rfl
  agg := by kernel_rfl
  sc := fun _ => rfl
  flds := fun h => absurd rfl h
  fpos := by kernel_rfl
  fsc := by kernel_rfl
  sl := fun st h => by
    have h : none = some st := h
    cases h
  lit := fun _ h => absurd rfl h
  ik := fun k h => by
    have h : none = some k := h
    cases h
  arr := fun n s h => by
    have h : none = some (n, s) := h
    cases h
  }

theorem ok9 : TiOk Tryz.prog elT 9 ti9 := {
  size := by kernel_rfl
  pos := by decide
  zero := by kernel_rfl
  one := by kernel_rfl
  agg := by kernel_rfl
  sc := fun _ => rfl
  flds := fun h => absurd rfl h
  fpos := by kernel_rfl
  fsc := by kernel_rfl
  sl := fun st h => by
    have h : none = some st := h
    cases h
  lit := fun _ h => absurd rfl h
  ik := fun k h => by
    have h : none = some k := h
    cases h
  arr := fun n s h => by
    have h : none = some (n, s) := h
    cases h
  }

theorem ok209 : TiOk Tryz.prog elT 209 ti209 := {
  size := by kernel_rfl
  pos := by decide
  zero := by kernel_rfl
  one := by kernel_rfl
  agg := by kernel_rfl
  sc := fun _ => rfl
  flds := fun h => absurd rfl h
  fpos := by kernel_rfl
  fsc := by kernel_rfl
  sl := fun st h => by
    have h : none = some st := h
    cases h
  lit := fun _ h => absurd rfl h
  ik := fun k h => by
    have h : some _ = some k := h
    cases h
    show _ = _
    kernel_rfl
  arr := fun n s h => by
    have h : none = some (n, s) := h
    cases h
  }

theorem tys_ok : ∀ p ∈ tys, TiOk Tryz.prog elT p.1 p.2 := List.forall_mem_cons.2 ⟨ok27, List.forall_mem_cons.2 ⟨ok25, List.forall_mem_cons.2 ⟨ok3, List.forall_mem_cons.2 ⟨ok29, List.forall_mem_cons.2 ⟨ok94, List.forall_mem_cons.2 ⟨ok115, List.forall_mem_cons.2 ⟨ok22, List.forall_mem_cons.2 ⟨ok23, List.forall_mem_cons.2 ⟨ok4, List.forall_mem_cons.2 ⟨ok125, List.forall_mem_cons.2 ⟨ok62, List.forall_mem_cons.2 ⟨ok78, List.forall_mem_cons.2 ⟨ok167, List.forall_mem_cons.2 ⟨ok60, List.forall_mem_cons.2 ⟨ok123, List.forall_mem_cons.2 ⟨ok31, List.forall_mem_cons.2 ⟨ok225, List.forall_mem_cons.2 ⟨ok173, List.forall_mem_cons.2 ⟨ok188, List.forall_mem_cons.2 ⟨ok211, List.forall_mem_cons.2 ⟨ok57, List.forall_mem_cons.2 ⟨ok17, List.forall_mem_cons.2 ⟨ok83, List.forall_mem_cons.2 ⟨ok183, List.forall_mem_cons.2 ⟨ok36, List.forall_mem_cons.2 ⟨ok206, List.forall_mem_cons.2 ⟨ok236, List.forall_mem_cons.2 ⟨ok169, List.forall_mem_cons.2 ⟨ok232, List.forall_mem_cons.2 ⟨ok222, List.forall_mem_cons.2 ⟨ok30, List.forall_mem_cons.2 ⟨ok153, List.forall_mem_cons.2 ⟨ok192, List.forall_mem_cons.2 ⟨ok223, List.forall_mem_cons.2 ⟨ok45, List.forall_mem_cons.2 ⟨ok187, List.forall_mem_cons.2 ⟨ok121, List.forall_mem_cons.2 ⟨ok5, List.forall_mem_cons.2 ⟨ok151, List.forall_mem_cons.2 ⟨ok177, List.forall_mem_cons.2 ⟨ok191, List.forall_mem_cons.2 ⟨ok219, List.forall_mem_cons.2 ⟨ok221, List.forall_mem_cons.2 ⟨ok32, List.forall_mem_cons.2 ⟨ok233, List.forall_mem_cons.2 ⟨ok35, List.forall_mem_cons.2 ⟨ok9, List.forall_mem_cons.2 ⟨ok209, (fun _ h => by cases h)⟩⟩⟩⟩⟩⟩⟩⟩⟩⟩⟩⟩⟩⟩⟩⟩⟩⟩⟩⟩⟩⟩⟩⟩⟩⟩⟩⟩⟩⟩⟩⟩⟩⟩⟩⟩⟩⟩⟩⟩⟩⟩⟩⟩⟩⟩⟩⟩
end Go.Am
