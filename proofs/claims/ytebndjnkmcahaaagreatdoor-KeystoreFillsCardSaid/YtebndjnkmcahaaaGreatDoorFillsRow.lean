/- KeystoreFills: for all arguments the law returns true, and its arguments read as before; the package variables of utf8 start as the program's text lays them (the card ties them). -/
import Derived.Test.YtebndjnkmcahaaaGreatDoorKv
import Derived.Test.YtebndjnkmcahaaaGreatDoorOi
import Derived.Test.YtebndjnkmcahaaaGreatDoorCards
import Derived.SevenTiedAt
import Derived.Lay
namespace Go.Proofs.YtebndjnkmcahaaaGreatDoor
set_option linter.unusedSimpArgs false
set_option linter.unusedVariables false
open Go Go.Abs Go.RowKit Go.WideShapes Go.ChangeShapes Go.ChangeAt
set_option maxRecDepth 100000 in
theorem sI (os:Os) (started:os.Started) (H:Type) (enc:TypeId×Value→H) :
 ReturnsInHanded {} Tryz.checked os 5 .any (fun w args=>(Rows.keystoreFillsSpec.pre enc Tryz.prog Tryz.f5 [] false w args∧laidMetH Tryz.prog Rows.keystoreFillsRow.laid w)∧sizedMet enc Tryz.prog Tryz.f5 (OpenSpec.ofChange Rows.keystoreFillsSpec) false w args)
  (Rows.keystoreFillsSpec.post enc Tryz.prog Tryz.f5 false true false false):=by
 refine returnsInHanded_of_change_and (C:=Tryz.checked) (X:=fun w _=>laidMetH Tryz.prog Rows.keystoreFillsRow.laid w) (fun _ _ _ hh h=>h.of_heap hh) own started (by kernel_rfl) Tryz.func5
  (ChangeSpec.witness_shaped (enc:=enc) (C:=Tryz.checked) (os:=os) (X:=fun w _=>laidMetH Tryz.prog Rows.keystoreFillsRow.laid w) false (World.laidAll Tryz.prog os Rows.keystoreFillsRow.laid) #[.int .i64 0,.int .i64 0] 8 (World.laidAll_os _ _ _)
   (World.shaped_of_ZipB (by kernel_rfl) (by kernel_rfl)) (by kernel_rfl) (by kernel_rfl) (by kernel_rfl)
   (by rw [MakeChecks.laidMetH_plain _ _ _ (by kernel_rfl)];exact laidMet_laidAll _ (by kernel_rfl) (by kernel_rfl))) ?_
 intro W base args ds gs before hval0 hW _ hsz hL _
 have hval:∀(j:Nat) t v,Tryz.f5.params[j]?=some t→args[j]?=some v→Value.okWide Tryz.prog W .any base t v:=hval0
 have hW':=hW
 obtain⟨p,q,hA0,hV,rfl,hfz,hnd⟩:=hW
 have hA:DataW.TrodAll enc Tryz.prog W 0 (fun _=>true) true Tryz.f5.params.toList args.toList ds p:=hA0
 have hAk:=hA
 rw [Tryz.params5] at hA hval
 obtain⟨v0,vs0,d0,ds0,p0,q0,hargs,rfl,rfl,h0,r0⟩:=trodAll_cons hA
 obtain⟨v1,vs1,d1,ds1,p1,q1,rfl,rfl,rfl,h1,r1⟩:=trodAll_cons r0
 obtain⟨rfl,rfl,rfl⟩:=trodAll_nil r1
 obtain rfl:args=#[v0,v1]:=by cases args;simp_all
 obtain⟨rfl,rfl⟩:=trodVars_none hV
 have hlt:∀x∈p0++(p1++[]),x.block<W.heap.size:=fun x hx=>hW'.lt x (by simpa using hx)
 obtain⟨z0,hz0,-,-,w0⟩:=open_int Tryz.underlying3 (hval 0 _ v0 rfl rfl) h0
 obtain⟨z1,hz1,-,-,w1⟩:=open_int Tryz.underlying3 (hval 1 _ v1 rfl rfl) h1
 refine (Ay (Fz z0 z1) (iG Tryz.func5 rfl (by kernel_rfl)) (EK hL) rfl ?_).mono fun e W' ⟨he,hb⟩=>?_
 ·intro i c hi
  match i,hi with
  | 0,hi =>
   simp only [List.getElem?_cons_zero,Option.some.injEq] at hi
   subst hi
   subst hz0
   exact .p _ _ (.v _ rfl)
  | 1,hi =>
   simp only [List.getElem?_cons_succ,List.getElem?_cons_zero,Option.some.injEq] at hi
   subst hi
   subst hz1
   exact .p _ _ (.v _ rfl)
  | i+2,hi=>simp at hi
 ·subst he
  refine⟨_,rfl,qM (pa:=p0++(p1++[])) (pv:=[]) hW' (fun _ _ _=>trodAll_cons_mk (shut_bool Tryz.underlying4 _) trodAll_mk0) (fun sp hsp=>kG hb ?_ hAk hlt sp (fun x hx=>hsp x (by simpa using hx))) (fun _ _=>rfl) rfl hb (ok_one (by kernel_rfl) rfl (okWide_bool_mk Tryz.underlying4 _))⟩
  rw [Tryz.params5]
  intro t ht
  simp only [List.mem_cons,List.not_mem_nil,or_false] at ht
  rcases ht with rfl|rfl
  ·exact⟨by kernel_rfl,of_decide_eq_true (by kernel_rfl)⟩
  ·exact⟨by kernel_rfl,of_decide_eq_true (by kernel_rfl)⟩
theorem fills_over:Rows.KeystoreFillsSaid :=
 OpenClaim.holds_of_wide 5 Tryz.f5 rfl rfl rfl rfl rfl rfl rfl ⟨rfl,rfl,rfl,rfl,rfl⟩ rfl rfl rfl rfl rfl (by kernel_rfl) Tryz.func5 (by kernel_rfl)
  (of_decide_eq_true (by kernel_rfl)) (by unfold Func.isWrapper;first|(rw [if_pos (by decide +kernel)];kernel_rfl)|(rw [if_neg (by decide +kernel)];exact⟨rfl,rfl⟩))
  (fun os started H enc _=>sI os started H enc)
theorem fills_holds:Rows.KeystoreFillsCardSaid :=
 Claim7.holds_tied_plain_at .later [] [.data,.pinned] true Rows.keystoreFillsCard.stood.harness false
  fills_over (fun _ h=>by cases h) (by kernel_rfl) (fun _ h=>by cases h) keystoreFills_row_tie rfl ⟨rfl,rfl⟩ (by kernel_rfl) rfl
  (fun f fn hf hfn=>by
   obtain rfl:f=5:=Option.some.inj ((show Tryz.prog.funcNamed "passkey/passkeylaw17.KeystoreFills"=some 5 by kernel_rfl).symm.trans hf) |>.symm
   obtain rfl:fn=Tryz.f5:=(Option.some.inj (Tryz.func5.symm.trans hfn)).symm
   exact⟨by kernel_rfl,fun j t ht=>by
    rw [Tryz.params5] at ht
    have hm:t∈[3,3]:=by simpa using Array.mem_of_getElem? ht
    have hall:([3,3].all fun u => !Tryz.prog.wantsStandIn u)=true:=by kernel_rfl
    exact (show Tryz.prog.wantsStandIn t=false by simpa using List.all_eq_true.1 hall t hm)⟩)
  (by kernel_rfl)
end Go.Proofs.YtebndjnkmcahaaaGreatDoor
