/- Proved: the law RepairFirst (a smaller number leads to the first results) returns true for every input; conditions: those of its given row and card alone. -/
import Derived.Test.YtgoapenfbanhaaaGreatDoorCards
import Derived.Test.YtgoapenfbanhaaaGreatDoorTie
import Derived.Test.YtgoapenfbanhaaaGreatDoorJ37
import Derived.Test.YtgoapenfbanhaaaGreatDoorJ38
set_option linter.all false
set_option maxRecDepth 100000
set_option maxHeartbeats 32000000
open List renaming length->l_
open Go.RowKit renaming Below->B_
namespace Go.Proofs.YtgoapenfbanhaaaGreatDoor
section
open Go.RowKit Go.Proofs.Tryz
variable{P:(Int->Prop)->Prop}{x:Ax}{b:H_}{K k:I_}{a c:Int}{L:List Ax}{m:Nat}
def RX(m:Nat)(c:Int)(M:H_)(C:Int)(a:H_):Prop:=c=C/\M=a.take m
theorem RY{M:H_}(hl:l_ L<=8)(e:sw P)(f:o8 P (fT (l_ L) K) m c M)(g:o8 P (fT (l_ L) K) 256 a b):RX m c M a b:=by rcases f with⟨a1,a2,a3⟩|⟨a1,a2,C,R,a3,a4,a5,h⟩<;>rcases g with⟨B,n,o⟩|⟨B,n,i,l,o,j,k,d⟩;(.exact⟨U,by rw[a2,n];simp⟩);(.exact absurd a1 B);(.grind);·(obtain rfl:C=i:=nL a3 o λx=>(a4 x).trans (j x).symm);obtain rfl:=a5.unique k;rw[J9 (Ox hl e a4 a5)]at d;subst d;exact⟨U,h⟩
theorem abI{M:H_}(hl:l_ L<=8)(d:(uU L x k≠0/\c=uU L x k/\M=[])\/(uU L x k=0/\o8 (gq L k λM=>ug M (fD x).1) (fT (l_ L) k) m c M))(e:(uU L x k≠0/\a=uU L x k/\b=[])\/(uU L x k=0/\o8 (gq L k λM=>ug M (fD x).1) (fT (l_ L) k) 256 a b)):RX m c M a b:=by rcases d with⟨a1,a2,a3⟩|⟨a1,a2⟩<;>rcases e with⟨f,B,g⟩|⟨f,B⟩;(.exact⟨by rw[a2,B],by rw[a3,g];simp⟩);(.exact absurd f a1);(.grind);.exact RY hl (BZ L k _) a2 B
theorem Vl{M:H_}(hl:l_ L<=8)(d:(iW L k≠0/\c=iW L k/\M=[])\/(iW L k=0/\o8 (gq L k Bad) (fT (l_ L) k) m c M))(e:(iW L k≠0/\a=iW L k/\b=[])\/(iW L k=0/\o8 (gq L k Bad) (fT (l_ L) k) 256 a b)):RX m c M a b:=by rcases d with⟨a1,a2,a3⟩|⟨a1,a2⟩<;>rcases e with⟨f,B,g⟩|⟨f,B⟩;(.exact⟨by rw[a2,B],by rw[a3,g];simp⟩);(.exact absurd f a1);(.grind);.exact RY hl (IX L k) a2 B
theorem Vm{M:H_}(hl:l_ L<=8)(i:(iW L K≠0/\c=iW L K/\M=[])\/(iW L K=0/\c=0/\∃C:H_,C.Pairwise vk/\(∀T,T∈C↔jh (gq L K Bad) (fT (l_ L) K) T)/\M=C.take m))(d:(iW L K≠0/\a=iW L K/\b=[])\/(iW L K=0/\a=0/\∃C:H_,C.Pairwise vk/\(∀T,T∈C↔jh (gq L K Bad) (fT (l_ L) K) T)/\b=C.take 256)):RX m c M a b:=by rcases i with⟨a1,a2,a3⟩|⟨a1,a2,C,a3,a4,a5⟩<;>rcases d with⟨p,q,B⟩|⟨p,q,j,B,k,f⟩;(.exact⟨by rw[a2,q],by rw[a3,B];simp⟩);(.exact absurd p a1);(.grind);·(obtain rfl:C=j:=nL a3 B λx=>(a4 x).trans (k x).symm);(have l:C.Nodup:=a3.imp λh e=>by rw[e]at h;unfold vk at h;rw[yH.2 rfl]at h;omega);(have:=Bh (n:=l_ L) l λT g=>⟨((a4 T).1 g).1,λx o=>by have:=iC.1 (((a4 T).1 g).2.1 x o);exact⟨this.1,this.2.1⟩⟩);have d:2 ^ (l_ L)<=2 ^ 8:=ft_ U hl;rw[J9 U]at f;subst f;exact⟨U,a5⟩
end
section
open Go.Maps Go.RowKit Go.Proofs.Tryz
variable{a:H_}{w5:World}
def ae7(w:World)(Q:Nat->Int->H_->Prop)(m:Nat)(e:Ending)(w':World):Prop:=B_ w w w'/\∃(A:J_)(k:Nat)(c:Int)(M:H_),e=.returned (.tuple #[.slice A (l_ M) k,.int .i64 c])/\SS w' (.slice A (l_ M) k) M/\Q m c M
def Oy{m d b:Nat}{c f:Int}{g i:J_}{M:H_}(h:RX m c M f a)(o:SS w5 (.slice g (l_ M) d) M)(j:SS w5 (.slice i (l_ a) b) a):c=f/\min (m:Int) (l_ a:Int)=(l_ M:Int)/\(l_ M:Int)<=(b:Int)/\b<=9223372036854775807/\(Y 13 #[.slice g (l_ M) d,.slice i (l_ M) b] w5 (.bool true)):=by obtain⟨rfl,k⟩:=h;(have hl:l_ M=min m (l_ a):=by rw[k,wE]);obtain⟨_,_,e,H,l,_⟩:=j.form;injection e with p r q;subst p q;have n:=SS.take j (l_ M) U;(have e:a.take (l_ M)=M:=by (rw[hl];conv=>rhs;rw[k]);rw[List.take_eq_take_iff];omega);rw[e]at n;have:=BO _ _ M M w5 o n;rw[fQ rfl]at this;simp only[maxLen]at l;exact⟨rfl,U,U,l,this⟩
theorem repairFirst_any(L:List Ax)(v kv:Value)(x:Ax)(g:J_)(i:Nat)(j:J_)(l:Nat)(n:J_)(o:Nat)(z:I_)(most:Int)(w:World)(h:lT w v L)(aQ:kH w x g i j l n o)(s:SI w kv z)(ai:∀x∈L,vN x)(a1:vN x)(ao:∀x∈z,qD x)(aj:l8 w):Y 4 #[.agg #[v],.agg (fZ x g i j l n o),kv,.int .i64 most] w (.bool true):=by
 obtain⟨A,c,rfl,_,bq,_⟩:=h.form;obtain⟨O,Q,rfl,_,bB,_⟩:=S1.form s;have gk:=s.jH;simp only[maxLen]at bq bB gk;obtain⟨a,K⟩:=e_ ((w.alloc (.cells #[.slice A (l_ L) c] 24)).alloc (.cells (fZ x g i j l n o) 30));obtain⟨F,a2⟩:=e_ w.heap.size;(have B:B_ w w a:=by rw[<-K];exact X_ (X_ (fu _ _) _) _);(have a3:f_ a F 24 #[.slice A (l_ L) c]:=by rw[<-K,<-a2];exact(f_.new _ _ _).alloc _);(have a4:f_ a (F+1) 30 (fZ x g i j l n o):=by rw[<-K,<-a2];exact f_.newAt _ _ _ S);(have d:∀W,B_ a a W->W.cell? (a_ F 0)=some (.slice A (l_ L) c)/\f_ W (F+1) 30 (fZ x g i j l n o):=λW D=>⟨(bk D a3).cell 0,bk D a4⟩);(have f:∀W,B_ a a W->lT W (.slice A (l_ L) c) L/\l8 W/\SI W (.slice O (l_ z) Q) z/\kH W x g i j l n o:=λW D=>by have D:=b_ B D;exact⟨h.up D,aj.up D,s.up D,aQ.up D⟩);(have a5:Y 5 #[] a (.bool true):=(RS a (aj.up B)));(have ap:Hid (∀W,B_ a a W->Calls prog 6 #[.agg #[.slice A (l_ L) c]] W (yD W L)):=j_ λW D=>Ww L _ W (f _ D).1 ai);have aq:(∀x∈L,vN x)/\vN x:=⟨ai,a1⟩;have s0:=(d _ (fu _ _)).1;unfold yD at ap;clear h aQ s ai a1 aj a3 a4;unfold fZ at K;go_in;go_wp2_with (go_at_call 5;(with_reducible refine a5.mono ?_);rintro e bR ⟨rfl,H⟩;have b7:=j_ H;have s1:=(d _ H).1;clear H);refine(ap.out _ b7.out).mono ?_;rintro e u ⟨ar,b,rfl,hb⟩;have au:=d _ (b_ b7.out ar);have s2:=au.1;obtain⟨z0,aR,z2,z3,z4,z5,aS,aT,aU,z9,aV,aW,aX,zd,aY,aZ⟩:=gy au.2;have av:=(b_ b7.out ar);have P:=j_ hb;clear hb ar s0 s1 au K;cases b;(case false=>clear z0 aR z2 z3 z4 z5 aS aT aU z9 aV aW aX zd aY aZ;go_wp2;go_ret;exact⟨rfl,b_ B av⟩);have ak:=P.out rfl;have b8:=ak.1;(have R:∀x∈L,oZ x:=λx br=>(ak.2 x br).sm);obtain⟨wl,X⟩:=e_ ((u.alloc (.cells (fZ x g i j l n o) 30)).alloc (.cells #[.slice A (l_ L) c,.slice (a_ u 0) 1 1] 22));have aw:B_ u u wl:=by rw[<-X];exact X_ (X_ (fu _ _) _) _
 have ax:Hid (Calls prog 7 #[.slice (a_ (u+1) 0) 2 2] wl (pK [(.slice A (l_ L) c,L),(.slice (a_ u 0) 1 1,[x])] wl)):=j_ (by
  have a0:=f _ (b_ av aw);refine Ab [(.slice A (l_ L) c,L),(.slice (a_ u 0) 1 1,[x])] (u+1) wl (by rw[<-X];exact f_.newAt _ _ _ S) (λp r=>?_) (λp r=>?_) S (λp r=>?_);(.rcases jL.1 r with rfl|r;(.exact a0.1);.rw[gW.1 r];exact Wy (t:=30) (by rw[<-X];exact(f_.new _ _ _).alloc _) a0.2.2.2);.rcases jL.1 r with rfl|r;(.exact aq.1);.rw[gW.1 r];intro y bs;rw[gW.1 bs];exact aq.2
  .rcases jL.1 r with rfl|r
   .simp only;omega
   .rw[gW.1 r];simp)
 have ay:=(b_ av aw);unfold pK at ax;unfold fZ at X;clear P ak ap a5 aw;go_wp2_with fail;refine ax.out.mono ?_;rintro e bS ⟨V,b,rfl,hb⟩;have s3:=(d _ (b_ ay V)).1;have bC:=(d _ (b_ ay V)).2;have I:=(b_ ay V);have P:=j_ hb;clear hb V X ax s2 z0 aR z2 z3 z4 z5 aS aT aU z9 aV aW aX zd aY aZ;cases b;(case false=>go_wp2;go_ret;exact⟨rfl,b_ B I⟩);have a6:oZ x:=(o7.sm (P.out rfl (.slice (a_ u 0) 1 1,[x]) S x S));clear P;by_cases ck:l_ z<=20;(case neg=>have bt:decide (20<(l_ z:Int))=true:=y7 U;go_wp2;go_ret;exact⟨rfl,b_ B I⟩);have bt:decide (20<(l_ z:Int))=false:=sj U;by_cases az:most<0;(case pos=>have bu:decide (most<0)=true:=y7 az;go_wp2;go_ret;exact⟨rfl,b_ B I⟩);have bu:decide (most<0)=false:=sj az;by_cases aA:256<most;(case pos=>have bv:decide (256<most)=true:=y7 aA;go_wp2;go_ret;exact⟨rfl,b_ B I⟩);have bv:decide (256<most)=false:=sj aA;obtain⟨m,rfl⟩:∃m:Nat,most=(m:Int):=⟨most.toNat,U⟩;have aB:m<=256:=U;(have al:∀k:Nat,k<=256->Hid (∀W,B_ a a W->Calls prog 8 #[.agg #[.slice A (l_ L) c],.agg (fZ x g i j l n o),.slice O (l_ z) Q,.int .i64 (k:Int)] W (ae7 W (λm c M=>(uU L x z≠0/\c=uU L x z/\M=[])\/(uU L x z=0/\o8 (gq L z λM=>ug M (fD x).1) (fT (l_ L) z) m c M)) k)):=λk s=>j_ λW D=>pR L _ x g i j l n o _ z k W (f _ D).1 (f _ D).2.2.2 (f _ D).2.2.1 U R a6 ao U (f _ D).2.1 s);(have am:∀k:Nat,k<=256->Hid (∀W,B_ a a W->Calls prog 14 #[.agg #[.slice A (l_ L) c],.slice O (l_ z) Q,.int .i64 (k:Int)] W (ae7 W (λm c M=>(iW L z≠0/\c=iW L z/\M=[])\/(iW L z=0/\o8 (gq L z Bad) (fT (l_ L) z) m c M)) k)):=λk s=>j_ λW D=>IZ L _ _ z k W (f _ D).1 (f _ D).2.2.1 U R ao U (f _ D).2.1 s);(have an:∀k:Nat,k<=256->Hid (∀W,B_ a a W->Calls prog 15 #[.agg #[.slice A (l_ L) c],.slice O (l_ z) Q,.int .i64 (k:Int)] W (ae7 W (λm c M=>(iW L z≠0/\c=iW L z/\M=[])\/(iW L z=0/\c=0/\∃C:H_,C.Pairwise vk/\(∀T,T∈C↔jh (gq L z Bad) (fT (l_ L) z) T)/\M=C.take m)) k)):=λk s=>j_ λW D=>rX L _ _ z k W (f _ D).1 (f _ D).2.2.1 U R ao U (f _ D).2.1 s);have bD:=al m aB;have a7:=al 256 (gH _);rw[show((256:Nat):Int)=256 from rfl]at a7;have bE:=am m aB;have a8:=am 256 (gH _);rw[show((256:Nat):Int)=256 from rfl]at a8;have bF:=an m aB;have a9:=an 256 (gH _);rw[show((256:Nat):Int)=256 from rfl]at a9;have aC:l_ L<=8:=U;clear al am an R a6 aq az aA;go_wp2_with (first|(refine Dp rfl 30 _ rfl (F+1) 0 rfl (fZ x g i j l n o).toList _ bC.all underlying30 rfl gB ?_)|(refine Dp rfl 30 _ rfl (F+1) 0 rfl (fZ x g i j l n o).toList _ bG.all underlying30 rfl gB ?_)|(go_at_call 8;(with_reducible refine(bD.out _ I).mono ?_);rintro e bT ⟨a',bU,k4,c4,bV,rfl,aD,aE⟩;have ah:=(b_ I a');have s4:=(d _ ah).1;have bG:=(d _ ah).2;have bH:=j_ aD;have bI:=j_ aE;clear a' aD aE s3)|(go_at_call 8;(with_reducible refine(a7.out _ ah).mono ?_);rintro e w5 ⟨aF,A5,k5,c5,bW,rfl,ba,bb⟩;obtain⟨Z,G,J,N,E⟩:=Oy (abI aC bI.out bb) (bH.out.up aF) ba;have bJ:=(b_ ah aF);have bc:=j_ E;subst Z;clear aF ba bb E s4 bH bI)|(go_at_call 13;(with_reducible refine bc.out.mono ?_);rintro e bX ⟨rfl,bd⟩;have aG:=(b_ bJ bd);have bw:=(d _ aG).1;clear bd bc G J N));go_wp2_with (first|(go_at_call 14;(with_reducible refine(bE.out _ aG).mono ?_);rintro e bY ⟨be,bZ,b0,c7,b1,rfl,aH,aI⟩;have aJ:=(b_ aG be);have bx:=(d _ aJ).1;have bK:=j_ aH;have bL:=j_ aI;clear be aH aI bw)|(go_at_call 14;(with_reducible refine(a8.out _ aJ).mono ?_);rintro e b2 ⟨aK,b3,b4,c8,b5,rfl,bf,bg⟩;obtain⟨Z,G,J,N,E⟩:=Oy (Vl aC bL.out bg) (bK.out.up aK) bf;have bM:=(b_ aJ aK);have bh:=j_ E;subst Z;clear aK bf bg E bx bK bL)|(go_at_call 13;(with_reducible refine bh.out.mono ?_);rintro e b6 ⟨rfl,bi⟩;have aL:=(b_ bM bi);have bz:=(d _ aL).1;clear bi bh G J N));go_wp2_with (first|(go_at_call 15;(with_reducible refine(bF.out _ aL).mono ?_);rintro e b9 ⟨bj,b',ca,cb,cc,rfl,aM,aN⟩;have aO:=(b_ aL bj);have bN:=(d _ aO).1;have bO:=j_ aM;have bP:=j_ aN;clear bj aM aN bz)|(go_at_call 15;(with_reducible refine(a9.out _ aO).mono ?_);rintro e cd ⟨aP,ce,cf,cg,ch,rfl,bl,bm⟩;obtain⟨Z,G,J,N,E⟩:=Oy (Vm aC bP.out bm) (bO.out.up aP) bl;have bQ:=(b_ aO aP);have bn:=j_ E;subst Z;clear aP bl bm E bN bO bP)|(go_at_call 13;(with_reducible refine bn.out.mono ?_);rintro e ci ⟨rfl,bo⟩;have bp:=(b_ bQ bo);have cj:=(d _ bp).1;clear bo bn G J N));go_ret;exact⟨rfl,b_ B bp⟩

end
end Go.Proofs.YtgoapenfbanhaaaGreatDoor
namespace Go.Proofs.YtgoapenfbanhaaaGreatDoor
open Go.ChangeAt Go.ChangeShapes Go.Deep Go.Joins Go.RowKit Go.WideShapes Go.Proofs.Tryz
theorem repairFirst_lifted(os:Os)(started:os.Started)(H:Type)(enc:TypeId×Value->H):
 ReturnsInHanded {} Tryz.checked os 4 .any (λw args=>(Rows.repairFirstSpec.pre enc prog Tryz.f4 [] false w args/\laidMetH prog wN w)/\sizedMet enc prog Tryz.f4 (OpenSpec.ofChange Rows.repairFirstSpec) false w args) (Rows.repairFirstSpec.post enc prog Tryz.f4 false true false false):=by
 refine returnsInHanded_of_change_and (C:=Tryz.checked) (X:=λw _=>laidMetH prog wN w) (λ_ _ _ hh h=>h.of_heap hh) own started (by as_aux_lemma=>kernel_rfl) func4
  (ChangeSpec.witness_shaped (enc:=enc) (C:=Tryz.checked) (os:=os) (X:=λw _=>laidMetH prog wN w) false (World.laidAll prog os wN) #[.agg #[.slice none 0 0],.agg (fZ Cm none 0 none 0 none 0),.slice none 0 0,.int .i64 0] 8 (World.laidAll_os _ _ _) (I9 os) (by as_aux_lemma=>kernel_rfl) (by as_aux_lemma=>kernel_rfl) (by as_aux_lemma=>kernel_rfl) (RI os _)) ?_
 intro W base args D gs before a F _ z hL _
 have l:∀(j:Nat) t v,Tryz.f4.params[j]?=some t->args[j]?=some v->Value.okWide prog W .any base t v:=a
 have d:=F
 obtain⟨p,q,c,hV,rfl,hfz,hnd⟩:=F
 have E:DataW.TrodAll enc prog W 0 (λ_=>true) true Tryz.f4.params.toList args.toList D p:=c
 have Z:(DataW.weightsEach prog (Tryz.f4.params.toList++Rows.repairFirstSpec.plain.varTypes prog) (D++gs)).all (·<=reachBytes)=true:=z
 rw[params4]at E l Z
 obtain⟨M,vs0,d0,ds0,p0,q0,s,rfl,rfl,u,r0⟩:=trodAll_cons E
 obtain⟨N,vs1,d1,ds1,p1,q1,rfl,rfl,rfl,y,r1⟩:=trodAll_cons r0
 obtain⟨V,vs2,d2,ds2,p2,q2,rfl,rfl,rfl,A,r2⟩:=trodAll_cons r1
 obtain⟨O,vs3,d3,ds3,p3,q3,rfl,rfl,rfl,B,r3⟩:=trodAll_cons r2
 obtain⟨rfl,rfl,rfl⟩:=trodAll_nil r3
 obtain rfl:args= #[M,N,V,O]:=by cases args;simp_all
 obtain⟨rfl,rfl⟩:=trodVars_none hV
 have K:=u
 have g:∀x∈p0,x.block<W:=by obtain⟨m,b⟩:=K;exact DataW.trod_lt m _ _ _ b
 have G:=y
 have i:∀x∈p1,x.block<W:=by obtain⟨m,b⟩:=G;exact DataW.trod_lt m _ _ _ b
 have I:=A
 have k:∀x∈p2,x.block<W:=by obtain⟨m,b⟩:=I;exact DataW.trod_lt m _ _ _ b
 have J:=B
 have o:∀x∈p3,x.block<W:=by obtain⟨m,b⟩:=J;exact DataW.trod_lt m _ _ _ b
 have wt:Q.Wt prog 24 d0:=λn f=>fd_ (Zf (Cg (Vo.1 Z n (DataW.weights_mem_each (j:=0) rfl rfl n f))) reachBytes_lt)
 obtain⟨T,L,rfl,s0,f0⟩:=Mr (l 0 24 M rfl rfl) u wt
 have wu:Q.Wt prog 30 d1:=λn f=>fd_ (Zf (Cg (Vo.1 Z n (DataW.weights_mem_each (j:=1) rfl rfl n f))) reachBytes_lt)
 obtain⟨a1,P,U,R,Y,S,cs,rfl,s1,f1⟩:=Ws (l 1 30 N rfl rfl) y wu
 obtain⟨a2,s2,f2⟩:=Ow (l 2 31 V rfl rfl) A
 obtain⟨a3,rfl,_,_,f3⟩:=open_int underlying3 (l 3 3 O rfl rfl) B
 clear c a
 refine(repairFirst_any L T V a1 P U R Y S cs a2 a3 W s0 s1 s2 f0 f1 f2 (Cc hL)).mono λe W' ⟨he,r⟩=>?_
 subst he
 exact⟨_,rfl,_,_,_,[],_,[],d,trodAll_mk1 (shut_bool underlying4 _),(trodAll_cons_mk (Below.trod laidOut (by as_aux_lemma=>kernel_rfl) (Cg (by as_aux_lemma=>kernel_rfl)) K r g) (trodAll_cons_mk (Below.trod laidOut (by as_aux_lemma=>kernel_rfl) (Cg (by as_aux_lemma=>kernel_rfl)) G r i) (trodAll_cons_mk (Below.trod laidOut (by as_aux_lemma=>kernel_rfl) (Cg (by as_aux_lemma=>kernel_rfl)) I r k) (trodAll_cons_mk (Below.trod laidOut (by as_aux_lemma=>kernel_rfl) (Cg (by as_aux_lemma=>kernel_rfl)) J r o) trodAll_mk0)))),rfl,r.frame _,λh=>by cases h⟩
theorem repairFirst_F:joinedFacts Tryz.pinned.checked.prog 4 Tryz.f4 Rows.repairFirstSpec Rows.repairFirstRow=true:=by
 unfold joinedFacts
 repeat' with_reducible refine adR ?_ ?_
 all_goals as_aux_lemma=>kernel_rfl
theorem repairFirst_N:Tryz.pinned.checked.prog.funcNamed Rows.repairFirstRow.func=some 4:=k_
theorem repairFirst_I:Tryz.f4.isInstance Tryz.pinned.checked.prog Rows.repairFirstRow.origin Rows.repairFirstRow.targs:=Cg k_
theorem repairFirst_P:Tryz.f4.isWrapper Tryz.pinned.checked.prog Rows.repairFirstRow.wrapper Rows.repairFirstRow.mainSum:=by unfold Func.isWrapper;first|(rw[P_ (by decide+kernel)];kernel_rfl)|(rw[C_ (by decide+kernel)];exact⟨rfl,rfl⟩)
theorem repairFirst_row:Rows.RepairFirstSaid:=
 OpenClaim.holds_of_wide 4 Tryz.f4 rfl rfl rfl rfl rfl rfl rfl ⟨rfl,rfl,rfl,rfl,rfl⟩ rfl rfl rfl rfl rfl repairFirst_N func4 repairFirst_F repairFirst_I repairFirst_P
  (λos started H enc _=>repairFirst_lifted os started H enc)
theorem repairFirst_W:Rows.repairFirstRow.wfByText (OpenSpec.ofChange Rows.repairFirstSpec)=true:=k_
theorem repairFirst_M:Tryz.pinned.checked.prog.mainIs=some (true,"3e62bcea066f38a47034fe7f10237c7ef4156ccccb08c19270be8e63d7ca92e8".toList):=k_
theorem repairFirst_L:false=Tryz.pinned.checked.prog.looks []:=k_
theorem repairFirst_S:([24,30,31,3].all λu=> !Tryz.prog.wantsStandIn u)=true:=k_
theorem repairFirst_G:false=Rows.repairFirstRow.goesBy Tryz.pinned.checked.prog:=k_
theorem repairFirst_holds:Rows.RepairFirstCardSaid:=
 Claim7.holds_tied_plain_at .later [] [.data,.data,.data,.data,.data,.data,.data,.pinned] true (true,"3e62bcea066f38a47034fe7f10237c7ef4156ccccb08c19270be8e63d7ca92e8") false
  repairFirst_row (λ_ h=>by cases h) repairFirst_W (λ_ h=>by cases h) repairFirst_row_tie rfl ⟨rfl,rfl⟩ repairFirst_M rfl
  (λf F b H=>by
   obtain rfl:f=4:=Ch (repairFirst_N.symm.trans b) |>.symm
   obtain rfl:F=Tryz.f4:=(Ch (func4.symm.trans H)).symm
   exact⟨repairFirst_L,λj t a=>by
    rw[params4]at a
    have m:t∈[24,30,31,3]:=by simpa using Array.mem_of_getElem? a
    exact(show prog.wantsStandIn t=false by simpa using Vo.1 repairFirst_S t m)⟩)
  repairFirst_G


