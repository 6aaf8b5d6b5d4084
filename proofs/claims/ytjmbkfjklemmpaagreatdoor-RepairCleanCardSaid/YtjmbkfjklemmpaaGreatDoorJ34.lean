/- Proved: the law RepairClean (repairs of contradictions are exactly the smallest sets without which a base is consistent) returns true for every input, and leaves its arguments as they read; conditions: those of its given row and card alone. -/
import Derived.JoinedOf
import Derived.SevenTiedAt
import Derived.Test.YtjmbkfjklemmpaaGreatDoorCards
import Derived.Test.YtjmbkfjklemmpaaGreatDoorRows
import Derived.Test.YtjmbkfjklemmpaaGreatDoorTie
import Derived.Test.YtjmbkfjklemmpaaGreatDoorJ33
set_option linter.all false
set_option maxRecDepth 100000
set_option maxHeartbeats 32000000
namespace Go.Proofs.YtjmbkfjklemmpaaGreatDoor
open Go.ChangeAt Go.ChangeShapes Go.Deep Go.Joins Go.RowKit Go.WideShapes Go.Proofs.Tryz
theorem repairClean_lifted(os:Os)(started:os.Started)(H:Type)(enc:TypeId×Value->H):
 ReturnsInHanded {} Tryz.checked os 3 .any (λw args=>(Rows.repairCleanSpec.pre enc prog Tryz.f3 [] false w args/\laidMetH prog vI w)/\sizedMet enc prog Tryz.f3 (OpenSpec.ofChange Rows.repairCleanSpec) false w args) (Rows.repairCleanSpec.post enc prog Tryz.f3 false true false false):=by
 refine returnsInHanded_of_change_and (C:=Tryz.checked) (X:=λw _=>laidMetH prog vI w) (λ_ _ _ hh h=>h.of_heap hh) own started (by as_aux_lemma=>kernel_rfl) func3
  (ChangeSpec.witness_shaped (enc:=enc) (C:=Tryz.checked) (os:=os) (X:=λw _=>laidMetH prog vI w) false (World.laidAll prog os vI) #[.agg #[.slice none 0 0],.slice none 0 0,.slice none 0 0] 8 (World.laidAll_os _ _ _) (Gm os) (by as_aux_lemma=>kernel_rfl) (by as_aux_lemma=>kernel_rfl) (by as_aux_lemma=>kernel_rfl) (OP os _)) ?_
 intro W base args ds gs before hval0 hW _ hsz hL _
 have hval:∀(j:Nat) t v,Tryz.f3.params[j]?=some t->args[j]?=some v->Value.okWide prog W .any base t v:=hval0
 have hW':=hW
 obtain⟨p,q,hA0,hV,rfl,hfz,hnd⟩:=hW
 have hA:DataW.TrodAll enc prog W 0 (λ_=>true) true Tryz.f3.params.toList args.toList ds p:=hA0
 have hZ:(DataW.weightsEach prog (Tryz.f3.params.toList++Rows.repairCleanSpec.plain.varTypes prog) (ds++gs)).all (·<=reachBytes)=true:=hsz
 rw[params3]at hA hval hZ
 obtain⟨v0,vs0,d0,ds0,p0,q0,hargs,rfl,rfl,h0,r0⟩:=trodAll_cons hA
 obtain⟨v1,vs1,d1,ds1,p1,q1,rfl,rfl,rfl,h1,r1⟩:=trodAll_cons r0
 obtain⟨v2,vs2,d2,ds2,p2,q2,rfl,rfl,rfl,h2,r2⟩:=trodAll_cons r1
 obtain⟨rfl,rfl,rfl⟩:=trodAll_nil r2
 obtain rfl:args= #[v0,v1,v2]:=by cases args;simp_all
 obtain⟨rfl,rfl⟩:=trodVars_none hV
 have k0:=h0
 have lt0:∀x∈p0,x.block<W.heap.size:=by obtain⟨m,hm⟩:=k0;exact DataW.trod_lt m _ _ _ hm
 have k1:=h1
 have lt1:∀x∈p1,x.block<W.heap.size:=by obtain⟨m,hm⟩:=k1;exact DataW.trod_lt m _ _ _ hm
 have k2:=h2
 have lt2:∀x∈p2,x.block<W.heap.size:=by obtain⟨m,hm⟩:=k2;exact DataW.trod_lt m _ _ _ hm
 have wt:Q.Wt prog 24 d0:=λn hn=>fh_ (io_ (I4 (fa_.1 hZ n (DataW.weights_mem_each (j:=0) rfl rfl n hn))) reachBytes_lt)
 obtain⟨a0,L,rfl,s0,f0⟩:=JX (hval 0 24 v0 rfl rfl) h0 wt
 obtain⟨a1,s1,f1⟩:=Mw (hval 1 25 v1 rfl rfl) h1
 obtain⟨a2,s2,f2⟩:=Mw (hval 2 25 v2 rfl rfl) h2
 clear hA0 hval0
 refine(repairClean_any L a0 v1 v2 a1 a2 W s0 s1 s2 f0 f1 (AJ hL)).mono λe W' ⟨he,bel⟩=>?_
 subst he
 exact⟨_,rfl,_,_,_,[],_,[],hW',trodAll_mk1 (shut_bool underlying4 _),(trodAll_cons_mk (Below.trod laidOut (by as_aux_lemma=>kernel_rfl) (I4 (by as_aux_lemma=>kernel_rfl)) k0 bel lt0) (trodAll_cons_mk (Below.trod laidOut (by as_aux_lemma=>kernel_rfl) (I4 (by as_aux_lemma=>kernel_rfl)) k1 bel lt1) (trodAll_cons_mk (Below.trod laidOut (by as_aux_lemma=>kernel_rfl) (I4 (by as_aux_lemma=>kernel_rfl)) k2 bel lt2) trodAll_mk0))),rfl,bel.frame _,λh=>by cases h⟩
theorem repairClean_F:joinedFacts Tryz.pinned.checked.prog 3 Tryz.f3 Rows.repairCleanSpec Rows.repairCleanRow=true:=by
 unfold joinedFacts
 repeat' with_reducible refine abp ?_ ?_
 all_goals as_aux_lemma=>kernel_rfl
theorem repairClean_N:Tryz.pinned.checked.prog.funcNamed Rows.repairCleanRow.func=some 3:=by kernel_rfl
theorem repairClean_I:Tryz.f3.isInstance Tryz.pinned.checked.prog Rows.repairCleanRow.origin Rows.repairCleanRow.targs:=I4 (by kernel_rfl)
theorem repairClean_P:Tryz.f3.isWrapper Tryz.pinned.checked.prog Rows.repairCleanRow.wrapper Rows.repairCleanRow.mainSum:=by unfold Func.isWrapper;first|(rw[A_ (by decide+kernel)];kernel_rfl)|(rw[u_ (by decide+kernel)];exact⟨rfl,rfl⟩)
theorem repairClean_row:Rows.RepairCleanSaid:=
 OpenClaim.holds_of_wide 3 Tryz.f3 rfl rfl rfl rfl rfl rfl rfl ⟨rfl,rfl,rfl,rfl,rfl⟩ rfl rfl rfl rfl rfl repairClean_N func3 repairClean_F repairClean_I repairClean_P
  (λos started H enc _=>repairClean_lifted os started H enc)
theorem repairClean_W:Rows.repairCleanRow.wfByText (OpenSpec.ofChange Rows.repairCleanSpec)=true:=by kernel_rfl
theorem repairClean_M:Tryz.pinned.checked.prog.mainIs=some (true,"b823fd128fb6b4957ed989609cb130157d6747234ff309a53f93dd75b68c8821".toList):=by kernel_rfl
theorem repairClean_L:false=Tryz.pinned.checked.prog.looks []:=by kernel_rfl
theorem repairClean_S:([24,25,25].all λu=> !Tryz.prog.wantsStandIn u)=true:=by kernel_rfl
theorem repairClean_G:false=Rows.repairCleanRow.goesBy Tryz.pinned.checked.prog:=by kernel_rfl
theorem repairClean_holds:Rows.RepairCleanCardSaid:=
 Claim7.holds_tied_plain_at .later [] [.data,.data,.data,.data,.data,.data,.data,.pinned] true (true,"b823fd128fb6b4957ed989609cb130157d6747234ff309a53f93dd75b68c8821") false
  repairClean_row (λ_ h=>by cases h) repairClean_W (λ_ h=>by cases h) repairClean_row_tie rfl ⟨rfl,rfl⟩ repairClean_M rfl
  (λf fn hf hfn=>by
   obtain rfl:f=3:=Dy (repairClean_N.symm.trans hf) |>.symm
   obtain rfl:fn=Tryz.f3:=(Dy (func3.symm.trans hfn)).symm
   exact⟨repairClean_L,λj t ht=>by
    rw[params3]at ht
    have hm:t∈[24,25,25]:=by simpa using Array.mem_of_getElem? ht
    exact(show prog.wantsStandIn t=false by simpa using fa_.1 repairClean_S t hm)⟩)
  repairClean_G
end Go.Proofs.YtjmbkfjklemmpaaGreatDoor
