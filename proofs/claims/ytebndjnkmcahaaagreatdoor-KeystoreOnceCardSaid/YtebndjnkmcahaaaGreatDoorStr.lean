/- joined of several texts; own work; no statement of the seat is proved but in the last -/
import Derived.Test.YtebndjnkmcahaaaGreatDoorAbsT
import Derived.Test.YtebndjnkmcahaaaGreatDoorTi
import Derived.Test.YtebndjnkmcahaaaGreatDoorWords
import Derived.Handy
/-
  The executor's rules as one set for simp. Own work; no statement of the seat is proved here.
-/
section
namespace Go.Proofs.YtebndjnkmcahaaaGreatDoor
set_option linter.unusedSimpArgs false
set_option linter.unusedVariables false
open Go Go.Abs Go.RowKit
attribute [go_sem] condA.eq_1 gA.eq_1 gA.eq_2 guardA.eq_1 guardA.eq_2 guardO.eq_1 resA.eq_1 resA.eq_2 resA.eq_3 exitA.eq_1 dstL resD.eq_1 resD.eq_2 resD.eq_3 guardD.eq_1 guardDO.eq_1 gD.eq_1 gD.eq_2 dropTo aop
attribute [go_sem] ev evs evp lk hget binR arithR strR boolR eqK unR R.pure R.pureS eff put prune pickS hpr memB pickR setB ofConst constOk boxR allocR pvs oneVs oneC oneP oneCs cells loadR loadB
attribute [go_sem] takeAs TK.agg storeR storeB setAt fieldR fieldV extractR sliceR bndLo bndHi bndMx mxIs topOf indexR idxVR lenR max2R min2R convR TK.isNone TK.isIface ifaceR nilR callR callV.eq_1 callV.eq_2 callB
attribute [go_sem] invokeR invK.eq_1 buildR fillA placeF posF sliceLitR makeR appendR copyR srcOf ltAll keys bt Value.oneCell' argS frz delL nilEq capR appZR List.nil_append List.cons_append Nat.blt
attribute [go_sem] Nat.succ_eq_add_one Nat.add_zero Nat.zero_add Bool.not_true Bool.not_false Bool.false_eq_true List.drop_succ_cons List.drop_zero List.take_succ_cons List.take_zero List.length_cons
attribute [go_sem] List.length_nil List.getElem?_cons_zero List.getElem?_cons_succ Option.map_some Option.map_none List.map_cons List.map_nil true_and and_true List.set_cons_zero List.set_cons_succ
attribute [go_sem] Int.toNat_natCast List.size_toArray Array.size_empty Nat.beq List.replicate_succ List.replicate_zero Nat.mul_one Int.cast_ofNat_Int and_self XW DK.eq_1 DK.eq_2 fzB fzS fzA fzL fzO fzOL EndV
attribute [go_sem] EndF resVs resV retV List.toList_toArray
attribute [go_sem] subSl subHp subBlk viewA viewAs viewP viewPs liveK nodupB liveS sg
attribute [go_sem] dfl headA.eq_1 headA.eq_2 head_cb2 head_bt head_wd head_cb cut_bt
attribute [go_sem] List.length_drop List.length_map List.length_take List.length_append List.length_replicate cb_len AV.p.injEq PV.v.injEq Value.int.injEq AV.agg.injEq AV.tup.injEq List.cons.injEq
attribute [go_sem] true_or or_true false_and and_false or_false false_or
attribute [go_sem] allP_cb unPs_cb allQ_cb unQs_cb cb_take cb_drop PV.data.injEq
attribute [go_sem] resA_bad resD_bad
attribute [go_sem] renA renL renU addN
attribute [go_sem] beq_eq_false_iff_ne bne_eq_false_iff_eq Decidable.not_not
attribute [go_sem] renL_cb renL_map
theorem allP_cons (a : AV) (l : List AV) : allP (a :: l) ↔ isP a ∧ allP l := by simp [allP]
theorem allP_nil : allP [] := by simp [allP]
theorem unPs_cons (a : AV) (l : List AV) : unPs (a :: l) = unP a :: unPs l := rfl
theorem unPs_nil : unPs [] = [] := rfl
attribute [go_sem] isQ allQ unQ unQs unI allP_cons allP_nil unPs_cons unPs_nil isP unP FzOk frzB frz1 fz1 fz1L fz1O fz1OL fz1Sl fz1SlO fz1Hp fz1HpO
attribute [go_sem] eqN_refl eqP_refl eqNL_refl eqN eqNL eqP
attribute [go_sem] fz1L_cb fz1OL_cb brkB brkA.eq_1 brkA.eq_2 take_bt Nat.sub_zero fzI fzIL headP.eq_1 headP.eq_2 Bool.not_eq_false'
attribute [go_sem] decide_eq_true_eq decide_eq_false_iff_not beq_iff_eq bne_iff_ne Bool.not_eq_true' ne_eq
attribute [go_sem] not_false_eq_true not_true_eq_false Nat.reduceAdd Nat.reduceMul reduceCtorEq Nat.reduceLeDiff Int.reduceToNat Int.reduceLT Int.reduceLE Int.reduceEq Int.reduceNe Int.reduceBEq Int.reduceBNe
attribute [go_sem] dataR ustrR updMR delMR lookMR unT_mapT
attribute [go_sem] isK cellEq andO.eq_1 fldsEq aggR eqts
theorem zrep_one (n : Nat) (z : Value) : zrep n [z] = List.replicate n (.p (.v z)) := by simp [zrep]
theorem zrep_two (n : Nat) (a b : Value) (r : List Value) : zrep n (a :: b :: r) = (List.replicate n (pvs (a :: b :: r))).flatten := by simp [zrep]
attribute [go_sem] globT zrep_one zrep_two
attribute [go_sem] tis0 tis1 tis2 tis3 tis4 tis5 tis6 tis7
theorem hmix : Tryz.prog.follows .mixedOrders = true := by kernel_rfl
end Go.Proofs.YtebndjnkmcahaaaGreatDoor
end
/-
  Strings as their bytes. Own work; no statement of the seat is proved here.
-/
section
namespace Go.Proofs.YtebndjnkmcahaaaGreatDoor
set_option linter.unusedSimpArgs false
set_option linter.unusedVariables false
open Go Go.Abs Go.RowKit

/-- a string as its bytes -/
abbrev sv (l : List UInt8) : AV := .p (.v (.string ⟨l.toArray⟩))
theorem sz_of (l : List UInt8) : (⟨l.toArray⟩ : ByteArray).size = l.length := by simp [ByteArray.size]
theorem toL_of (l : List UInt8) : (⟨l.toArray⟩ : ByteArray).toList = l := by rw [ByteArray.toList_eq]
theorem ext_of (l : List UInt8) (a b : Nat) : (⟨l.toArray⟩ : ByteArray).extract a b = ⟨((l.take b).drop a).toArray⟩ := by
  apply ByteArray.ext
  rw [ByteArray.data_extract]
  apply Array.ext'
  simp [List.drop_take]
theorem app_of (a b : List UInt8) : (⟨a.toArray⟩ : ByteArray) ++ ⟨b.toArray⟩ = ⟨(a ++ b).toArray⟩ := by
  apply ByteArray.ext
  rw [ByteArray.data_append]
  simp
end Go.Proofs.YtebndjnkmcahaaaGreatDoor
end
