/- Proved: the law RepairMinimal (clashes are minimal, and repairs are their minimal hitting sets) returns true for every input, and leaves its arguments as they read; conditions: those of its given row and card alone. -/
import Derived.JoinedOf
import Derived.SevenTiedAt
import Derived.Test.YtjmbkfjklemmpaaGreatDoorCards
import Derived.Test.YtjmbkfjklemmpaaGreatDoorRows
import Derived.Test.YtjmbkfjklemmpaaGreatDoorTie
import Derived.Test.YtjmbkfjklemmpaaGreatDoorJ35
set_option linter.all false
set_option maxRecDepth 100000
set_option maxHeartbeats 32000000
namespace Go.Proofs.YtjmbkfjklemmpaaGreatDoor
open Go.ChangeAt Go.ChangeShapes Go.Deep Go.Joins Go.RowKit Go.WideShapes Go.Proofs.Tryz
theorem repairMinimal_lifted(os:Os)(started:os.Started)(H:Type)(enc:TypeId×Value->H):
 ReturnsInHanded {} Tryz.checked os 4 .any (λw args=>(Rows.repairMinimalSpec.pre enc prog Tryz.f4 [] false w args/\laidMetH prog vI w)/\sizedMet enc prog Tryz.f4 (OpenSpec.ofChange Rows.repairMinimalSpec) false w args) (Rows.repairMinimalSpec.post enc prog Tryz.f4 false true false false):=by
 refine returnsInHanded_of_change_and (C:=Tryz.checked) (X:=λw _=>laidMetH prog vI w) (λ_ _ _ hh h=>h.of_heap hh) own started (by as_aux_lemma=>kernel_rfl) func4
  (ChangeSpec.witness_shaped (enc:=enc) (C:=Tryz.checked) (os:=os) (X:=λw _=>laidMetH prog vI w) false (World.laidAll prog os vI) #[.agg #[.slice none 0 0],.slice none 0 0] 8 (World.laidAll_os _ _ _) (Gm os) (by as_aux_lemma=>kernel_rfl) (by as_aux_lemma=>kernel_rfl) (by as_aux_lemma=>kernel_rfl) (OP os _)) ?_
 intro W base args ds gs before hval0 hW _ hsz hL _
 have hval:∀(j:Nat) t v,Tryz.f4.params[j]?=some t->args[j]?=some v->Value.okWide prog W .any base t v:=hval0
 have hW':=hW
 obtain⟨p,q,hA0,hV,rfl,hfz,hnd⟩:=hW
 have hA:DataW.TrodAll enc prog W 0 (λ_=>true) true Tryz.f4.params.toList args.toList ds p:=hA0
 have hZ:(DataW.weightsEach prog (Tryz.f4.params.toList++Rows.repairMinimalSpec.plain.varTypes prog) (ds++gs)).all (·<=reachBytes)=true:=hsz
 rw[params4]at hA hval hZ
 obtain⟨v0,vs0,d0,ds0,p0,q0,hargs,rfl,rfl,h0,r0⟩:=trodAll_cons hA
 obtain⟨v1,vs1,d1,ds1,p1,q1,rfl,rfl,rfl,h1,r1⟩:=trodAll_cons r0
 obtain⟨rfl,rfl,rfl⟩:=trodAll_nil r1
 obtain rfl:args= #[v0,v1]:=by cases args;simp_all
 obtain⟨rfl,rfl⟩:=trodVars_none hV
 have k0:=h0
 have lt0:∀x∈p0,x.block<W.heap.size:=by obtain⟨m,hm⟩:=k0;exact DataW.trod_lt m _ _ _ hm
 have k1:=h1
 have lt1:∀x∈p1,x.block<W.heap.size:=by obtain⟨m,hm⟩:=k1;exact DataW.trod_lt m _ _ _ hm
 have wt:Q.Wt prog 24 d0:=λn hn=>fh_ (io_ (I4 (fa_.1 hZ n (DataW.weights_mem_each (j:=0) rfl rfl n hn))) reachBytes_lt)
 obtain⟨a0,L,rfl,s0,f0⟩:=JX (hval 0 24 v0 rfl rfl) h0 wt
 obtain⟨a1,s1,f1⟩:=Mw (hval 1 25 v1 rfl rfl) h1
 clear hA0 hval0
 refine(repairMinimal_any L a0 v1 a1 W s0 s1 f0 f1 (AJ hL)).mono λe W' ⟨he,bel⟩=>?_
 subst he
 exact⟨_,rfl,_,_,_,[],_,[],hW',trodAll_mk1 (shut_bool underlying4 _),(trodAll_cons_mk (Below.trod laidOut (by as_aux_lemma=>kernel_rfl) (I4 (by as_aux_lemma=>kernel_rfl)) k0 bel lt0) (trodAll_cons_mk (Below.trod laidOut (by as_aux_lemma=>kernel_rfl) (I4 (by as_aux_lemma=>kernel_rfl)) k1 bel lt1) trodAll_mk0)),rfl,bel.frame _,λh=>by cases h⟩
theorem repairMinimal_F:joinedFacts Tryz.pinned.checked.prog 4 Tryz.f4 Rows.repairMinimalSpec Rows.repairMinimalRow=true:=by
 unfold joinedFacts
 repeat' with_reducible refine abp ?_ ?_
 all_goals as_aux_lemma=>kernel_rfl
theorem repairMinimal_N:Tryz.pinned.checked.prog.funcNamed Rows.repairMinimalRow.func=some 4:=by kernel_rfl
theorem repairMinimal_I:Tryz.f4.isInstance Tryz.pinned.checked.prog Rows.repairMinimalRow.origin Rows.repairMinimalRow.targs:=I4 (by kernel_rfl)
theorem repairMinimal_P:Tryz.f4.isWrapper Tryz.pinned.checked.prog Rows.repairMinimalRow.wrapper Rows.repairMinimalRow.mainSum:=by unfold Func.isWrapper;first|(rw[A_ (by decide+kernel)];kernel_rfl)|(rw[u_ (by decide+kernel)];exact⟨rfl,rfl⟩)
theorem repairMinimal_row:Rows.RepairMinimalSaid:=
 OpenClaim.holds_of_wide 4 Tryz.f4 rfl rfl rfl rfl rfl rfl rfl ⟨rfl,rfl,rfl,rfl,rfl⟩ rfl rfl rfl rfl rfl repairMinimal_N func4 repairMinimal_F repairMinimal_I repairMinimal_P
  (λos started H enc _=>repairMinimal_lifted os started H enc)
theorem repairMinimal_W:Rows.repairMinimalRow.wfByText (OpenSpec.ofChange Rows.repairMinimalSpec)=true:=by kernel_rfl
theorem repairMinimal_M:Tryz.pinned.checked.prog.mainIs=some (true,"b823fd128fb6b4957ed989609cb130157d6747234ff309a53f93dd75b68c8821".toList):=by kernel_rfl
theorem repairMinimal_L:false=Tryz.pinned.checked.prog.looks []:=by kernel_rfl
theorem repairMinimal_S:([24,25].all λu=> !Tryz.prog.wantsStandIn u)=true:=by kernel_rfl
theorem repairMinimal_G:false=Rows.repairMinimalRow.goesBy Tryz.pinned.checked.prog:=by kernel_rfl
theorem repairMinimal_holds:Rows.RepairMinimalCardSaid:=
 Claim7.holds_tied_plain_at .later [] [.data,.data,.data,.data,.data,.data,.data,.pinned] true (true,"b823fd128fb6b4957ed989609cb130157d6747234ff309a53f93dd75b68c8821") false
  repairMinimal_row (λ_ h=>by cases h) repairMinimal_W (λ_ h=>by cases h) repairMinimal_row_tie rfl ⟨rfl,rfl⟩ repairMinimal_M rfl
  (λf fn hf hfn=>by
   obtain rfl:f=4:=Dy (repairMinimal_N.symm.trans hf) |>.symm
   obtain rfl:fn=Tryz.f4:=(Dy (func4.symm.trans hfn)).symm
   exact⟨repairMinimal_L,λj t ht=>by
    rw[params4]at ht
    have hm:t∈[24,25]:=by simpa using Array.mem_of_getElem? ht
    exact(show prog.wantsStandIn t=false by simpa using fa_.1 repairMinimal_S t hm)⟩)
  repairMinimal_G
end Go.Proofs.YtjmbkfjklemmpaaGreatDoor
