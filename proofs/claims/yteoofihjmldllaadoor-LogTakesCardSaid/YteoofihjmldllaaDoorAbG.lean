/- Short forms: what a heap keeps of another one, and what lies in a block, found by what is at hand. No condition. -/
import Derived.Test.YteoofihjmldllaaDoorAb30
namespace Go.Ab
/-- What a call's heap keeps, as found by its target. -/
structure SubS (X Y : Hp) : Prop where
  of ::
  s : Sub X Y
theorem SubS.at_ {X Y : Hp} (h : SubS X Y) {n : Nat} {b : Blk} (hn : X n = some b) : Y n = some b := h.s n b hn
theorem SubS.tr {X Y Z : Hp} (hs : Sub X Y) (h : SubS Y Z) : Sub X Z := sub_trans hs h.s
theorem hpA {X : Hp} {n : Nat} {b : Blk} (h : X n = some b := by repeat (first | assumption | exact upd_same _ _ _ | refine (upd_other _ _ (by omega)).trans ?_ | refine SubS.at_ (by assumption) ?_)) : X n = some b := h
theorem subA {X Y : Hp} (h : Sub X Y := by repeat (first | exact sub_refl _ | assumption | refine sub_upd' ?_ (by ((repeat refine (upd_other _ _ (by omega)).trans ?_); first | (apply_assumption <;> omega) | fail)) | refine SubS.tr ?_ (by assumption) | refine sub_over (by assumption) | refine sub_over0 ?_ | refine sub_trans (sub_same (by assumption)) ?_ | refine sub_dropu ?_ | refine sub_drop ?_ | refine sub_put ?_ (by repeat (first | assumption | exact upd_same _ _ _ | refine (upd_other _ _ (by omega)).trans ?_ | refine SubS.at_ (by assumption) ?_)))) : Sub X Y := h
end Go.Ab
