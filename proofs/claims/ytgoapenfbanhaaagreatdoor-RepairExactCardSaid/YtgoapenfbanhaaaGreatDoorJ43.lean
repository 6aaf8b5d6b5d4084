/- Proved: the law RepairExact (repairs are exactly the smallest sets without which a conclusion does not follow) returns true for every input; conditions: those of its given row and card alone. -/
import Derived.Test.YtgoapenfbanhaaaGreatDoorCards
import Derived.Test.YtgoapenfbanhaaaGreatDoorTie
import Derived.Test.YtgoapenfbanhaaaGreatDoorJ37
import Derived.Test.YtgoapenfbanhaaaGreatDoorJ42
set_option linter.all false
set_option maxRecDepth 100000
set_option maxHeartbeats 32000000
open Go.ChangeAt Go.ChangeShapes Go.Deep Go.Joins Go.RowKit Go.WideShapes Go.Proofs.Tryz
namespace Go.Proofs.YtgoapenfbanhaaaGreatDoor
theorem repairExact_lifted(os:Os)(started:os.Started)(H:Type)(enc:TypeId×Value->H):
 ReturnsInHanded {} Tryz.checked os 3 .any (λw args=>(Rows.repairExactSpec.pre enc prog Tryz.f3 [] false w args/\laidMetH prog wN w)/\sizedMet enc prog Tryz.f3 (OpenSpec.ofChange Rows.repairExactSpec) false w args) (Rows.repairExactSpec.post enc prog Tryz.f3 false true false false):=by
 refine returnsInHanded_of_change_and (C:=Tryz.checked) (X:=λw _=>laidMetH prog wN w) (λ_ _ _ hh h=>h.of_heap hh) own started (by as_aux_lemma=>kernel_rfl) func3
  (ChangeSpec.witness_shaped (enc:=enc) (C:=Tryz.checked) (os:=os) (X:=λw _=>laidMetH prog wN w) false (World.laidAll prog os wN) #[.agg #[.slice none 0 0],.agg (fZ Cm none 0 none 0 none 0),.slice none 0 0,.slice none 0 0] 8 (World.laidAll_os _ _ _) (I9 os) (by as_aux_lemma=>kernel_rfl) (by as_aux_lemma=>kernel_rfl) (by as_aux_lemma=>kernel_rfl) (RI os _)) ?_
 intro W base args D gs before a G _ z hL _
 have l:∀(j:Nat) t v,Tryz.f3.params[j]?=some t->args[j]?=some v->Value.okWide prog W .any base t v:=a
 have d:=G
 obtain⟨p,q,c,hV,rfl,hfz,hnd⟩:=G
 have F:DataW.TrodAll enc prog W 0 (λ_=>true) true Tryz.f3.params.toList args.toList D p:=c
 have Z:(DataW.weightsEach prog (Tryz.f3.params.toList++Rows.repairExactSpec.plain.varTypes prog) (D++gs)).all (·<=reachBytes)=true:=z
 rw[params3]at F l Z
 obtain⟨N,vs0,d0,ds0,p0,q0,s,rfl,rfl,y,r0⟩:=trodAll_cons F
 obtain⟨O,vs1,d1,ds1,p1,q1,rfl,rfl,rfl,A,r1⟩:=trodAll_cons r0
 obtain⟨V,vs2,d2,ds2,p2,q2,rfl,rfl,rfl,B,r2⟩:=trodAll_cons r1
 obtain⟨u,vs3,d3,ds3,p3,q3,rfl,rfl,rfl,E,r3⟩:=trodAll_cons r2
 obtain⟨rfl,rfl,rfl⟩:=trodAll_nil r3
 obtain rfl:args= #[N,O,V,u]:=by cases args;simp_all
 obtain⟨rfl,rfl⟩:=trodVars_none hV
 have K:=y
 have g:∀x∈p0,x.block<W:=by obtain⟨m,b⟩:=K;exact DataW.trod_lt m _ _ _ b
 have I:=A
 have i:∀x∈p1,x.block<W:=by obtain⟨m,b⟩:=I;exact DataW.trod_lt m _ _ _ b
 have J:=B
 have k:∀x∈p2,x.block<W:=by obtain⟨m,b⟩:=J;exact DataW.trod_lt m _ _ _ b
 have M:=E
 have o:∀x∈p3,x.block<W:=by obtain⟨m,b⟩:=M;exact DataW.trod_lt m _ _ _ b
 have wt:Q.Wt prog 24 d0:=λn f=>fd_ (Zf (Cg (Vo.1 Z n (DataW.weights_mem_each (j:=0) rfl rfl n f))) reachBytes_lt)
 obtain⟨T,L,rfl,s0,f0⟩:=Mr (l 0 24 N rfl rfl) y wt
 have wu:Q.Wt prog 30 d1:=λn f=>fd_ (Zf (Cg (Vo.1 Z n (DataW.weights_mem_each (j:=1) rfl rfl n f))) reachBytes_lt)
 obtain⟨a1,P,U,R,Y,S,cs,rfl,s1,f1⟩:=Ws (l 1 30 O rfl rfl) A wu
 obtain⟨a2,s2,f2⟩:=Ow (l 2 31 V rfl rfl) B
 obtain⟨a3,s3,f3⟩:=Ow (l 3 31 u rfl rfl) E
 clear c a
 refine(repairExact_any L T V u a1 P U R Y S cs a2 a3 W s0 s1 s2 s3 f0 f1 f2 (Cc hL)).mono λe W' ⟨he,r⟩=>?_
 subst he
 exact⟨_,rfl,_,_,_,[],_,[],d,trodAll_mk1 (shut_bool underlying4 _),(trodAll_cons_mk (Below.trod laidOut (by as_aux_lemma=>kernel_rfl) (Cg (by as_aux_lemma=>kernel_rfl)) K r g) (trodAll_cons_mk (Below.trod laidOut (by as_aux_lemma=>kernel_rfl) (Cg (by as_aux_lemma=>kernel_rfl)) I r i) (trodAll_cons_mk (Below.trod laidOut (by as_aux_lemma=>kernel_rfl) (Cg (by as_aux_lemma=>kernel_rfl)) J r k) (trodAll_cons_mk (Below.trod laidOut (by as_aux_lemma=>kernel_rfl) (Cg (by as_aux_lemma=>kernel_rfl)) M r o) trodAll_mk0)))),rfl,r.frame _,λh=>by cases h⟩
theorem repairExact_F:joinedFacts Tryz.pinned.checked.prog 3 Tryz.f3 Rows.repairExactSpec Rows.repairExactRow=true:=by
 unfold joinedFacts
 repeat' with_reducible refine adR ?_ ?_
 all_goals as_aux_lemma=>kernel_rfl
theorem repairExact_N:Tryz.pinned.checked.prog.funcNamed Rows.repairExactRow.func=some 3:=k_
theorem repairExact_I:Tryz.f3.isInstance Tryz.pinned.checked.prog Rows.repairExactRow.origin Rows.repairExactRow.targs:=Cg k_
theorem repairExact_P:Tryz.f3.isWrapper Tryz.pinned.checked.prog Rows.repairExactRow.wrapper Rows.repairExactRow.mainSum:=by unfold Func.isWrapper;first|(rw[P_ (by decide+kernel)];kernel_rfl)|(rw[C_ (by decide+kernel)];exact⟨rfl,rfl⟩)
theorem repairExact_row:Rows.RepairExactSaid:=
 OpenClaim.holds_of_wide 3 Tryz.f3 rfl rfl rfl rfl rfl rfl rfl ⟨rfl,rfl,rfl,rfl,rfl⟩ rfl rfl rfl rfl rfl repairExact_N func3 repairExact_F repairExact_I repairExact_P
  (λos started H enc _=>repairExact_lifted os started H enc)
theorem repairExact_W:Rows.repairExactRow.wfByText (OpenSpec.ofChange Rows.repairExactSpec)=true:=k_
theorem repairExact_M:Tryz.pinned.checked.prog.mainIs=some (true,"3e62bcea066f38a47034fe7f10237c7ef4156ccccb08c19270be8e63d7ca92e8".toList):=k_
theorem repairExact_L:false=Tryz.pinned.checked.prog.looks []:=k_
theorem repairExact_S:([24,30,31,31].all λu=> !Tryz.prog.wantsStandIn u)=true:=k_
theorem repairExact_G:false=Rows.repairExactRow.goesBy Tryz.pinned.checked.prog:=k_
theorem repairExact_holds:Rows.RepairExactCardSaid:=
 Claim7.holds_tied_plain_at .later [] [.data,.data,.data,.data,.data,.data,.data,.pinned] true (true,"3e62bcea066f38a47034fe7f10237c7ef4156ccccb08c19270be8e63d7ca92e8") false
  repairExact_row (λ_ h=>by cases h) repairExact_W (λ_ h=>by cases h) repairExact_row_tie rfl ⟨rfl,rfl⟩ repairExact_M rfl
  (λf F b H=>by
   obtain rfl:f=3:=Ch (repairExact_N.symm.trans b) |>.symm
   obtain rfl:F=Tryz.f3:=(Ch (func3.symm.trans H)).symm
   exact⟨repairExact_L,λj t a=>by
    rw[params3]at a
    have m:t∈[24,30,31,31]:=by simpa using Array.mem_of_getElem? a
    exact(show prog.wantsStandIn t=false by simpa using Vo.1 repairExact_S t m)⟩)
  repairExact_G


