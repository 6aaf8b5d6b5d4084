import Derived.Test.YtgoapenfbanhaaaGreatDoorJ24
set_option linter.all false
set_option maxRecDepth 100000
set_option maxHeartbeats 32000000
open List renaming length->l_
open Go.RowKit Go.Sort Go.Proofs.Tryz
namespace Go.Proofs.YtgoapenfbanhaaaGreatDoor
def UD(x y:Ax)(a b c d f g:J_)(h i j k l m:Nat)(w:World)(n:kH w x a h b i c j)(o:kH w y d k f l g m)(p:SzA x)(S:SzA y)(s:Later w):z 39 #[.agg (fZ x a h b i c j),.agg (fZ y d k f l g m)] s.at λe r=>e=.returned (lg x y)/\∃q:Later w,r=q.at:=oH (wJ x y a b c d f g h i j k l m s.at (n.up s.below) (o.up s.below) p S)
def kZ(L:List Ax)(v:Value)(w:World)(h:lT w v L)(bg:xP w)(bh:∀x∈L,oZ x)(hl:l_ L<=100000):Y 21 #[.agg #[v]] w (gP L):=by
 obtain⟨A,c,rfl,hc,bi,aV⟩:=h.form;(have cc:Hid (∀W,G w W->z 41 #[.slice A (l_ L) c] W λe w'=>(∃u,e=.returned (.tuple #[u,(rU L)]))/\G W w'):=O λW bj=>G7 L _ W (h.up bj) (bg.up bj) bh hl);have cd:f_ (w.alloc (.cells #[.slice A (l_ L) c] 24)) w 24 #[.slice A (l_ L) c]:=(f_.new _ _ _);have ce:G w (w.alloc (.cells #[.slice A (l_ L) c] 24)):=bA;go_in;go_wp2;go_loopw [13] (λi wr=>∃k:Nat,k<=l_ L/\i=.int .i64 (k:Int)/\w.heap.size+1<=wr.heap.size/\Hid (jU L=jU (L.drop k))/\Hid (G w wr/\f_ wr w 24 #[.slice A (l_ L) c])) (λi _=>l_ L-(intOf i).toNat);exact⟨0,gZ _,rfl,S,O S,O ⟨ce,cd⟩⟩;obtain⟨k,b',rfl,cf,aK,aL⟩:=hrel;by_cases cg:k<l_ L
 .obtain⟨b,I,rfl,aA,K⟩:=aV U
  obtain⟨x,a⟩:=g_ cg;obtain⟨aM,ac,ad⟩:=K k x a;obtain⟨d,f,g,n,s,t,P,a0,a1,a2,a3,a4,a5,ao,ap,aq,a9,ar,ab,au,av,aw,ax⟩:=wK ac ad aA aL.o.1;have ca:=O P;have hd:=JQ a;have r1:0<=(k:Int):=U;have bl:(k:Int)<l_ L:=U;obtain⟨y,T,B⟩:∃y e,fD x=(y,e):=⟨_,_,rfl⟩;(have bL:∀W,G w W->z 22 #[.agg (fZ x d f g n s t)] W (l7 W (y,T)):=λW hB=>by have a6:=P.up hB;rw[<-B];exact tZ x _ _ (bg.up hB) (bh x (gV a)) ⟨_,rfl,⟨_,_,_,rfl,by obtain⟨aM,e,h⟩:=a6.l;injection e with e;have:=iM Array.toList e;simp at this;subst this;exact h,by obtain⟨aM,e,h⟩:=a6.r;injection e with e;have:=iM Array.toList e;simp at this;subst this;exact h,a6.rs⟩⟩);have X:=O B;go_wp2_with (refine z_ rfl 30 _ _ rfl wr 30 _ (f_.new _ _ _) (fZ x d f g n s t) rfl rfl rfl gB (kI ..) ?_);intro Z ak al aH;have a7:G w Z:=(X_ aL.o.1 _).grown al (by simp;omega) (λj ay=>by injection ay with e;omega);have bM:f_ Z w 24 #[.slice (a_ b I) (l_ L) c]:=((aL.o.2.alloc _).grown al (by intro e;injection e with e;omega));have aB:=O a7;have am:=O ak;(have bf:(wr:Nat)<Z:=by(try simp at aH);omega);have bN:=(bL Z a7);go_wp2_with (refine Dp rfl 30 _ rfl wr 0 rfl (fZ x d f g n s t).toList _ am.o.all underlying30 rfl gB ?_);refine bN.mono ?_;rintro e F ⟨c2,rfl,b5,aI⟩;obtain⟨r,D,J,V,cZ,rfl,bO,bP,a8⟩:=b5.form;obtain⟨ai,az,rfl,_⟩:=S1.form a8;have bQ:G w F:=(b_ aB.o aI);have bR:f_ F w 24 #[.slice (a_ b I) (l_ L) c]:=(bk aI bM);have bS:f_ F wr 30 (fZ x d f g n s t):=(bk aI am.o);(have c3:(wr:Nat)<F:=by have:=aI.size;omega);have bT:kH F y r D J V ai az:=⟨bO,bP,a8⟩;go_wp2_with (refine z_ rfl 30 _ _ rfl F 30 _ (f_.new _ _ _) (fZ y r D J V ai az) rfl rfl rfl gB (kI ..) ?_);intro aj ch bU ci;have aE:G F aj:=bA.grown bU S (λj ay=>by injection ay with e;omega);have a':G w aj:=(b_ bQ aE);have cj:f_ aj w 24 #[.slice (a_ b I) (l_ L) c]:=(bk aE bR);have bV:=(bk aE bS);have ck:=(bT.up aE);(have c4:(wr:Nat)<aj:=by have:=aE.size;omega);by_cases aF:T=0
  .subst aF
   have ba:=xY (x:=x) (by rw[X.o])
   have bb:Hid (Y 38 #[.agg (fZ x d f g n s t),.agg (fZ y r D J V ai az)] aj (.bool (x.op==y.op&&decide (lg x y=0)))):=O
    (XV x y d g s r J ai f n t D V az _ (ca.o.up a') ck ba.2.1 (by have:=ba.2.2;rwa[X.o]at this))
   obtain⟨q,aW⟩:∃q,(x.op==y.op&&decide (lg x y=0))=q:=⟨_,rfl⟩;rw[aW]at bb;go_wp2_with (first|refine Dp rfl 30 _ rfl wr 0 rfl (fZ x d f g n s t).toList _ bV.all underlying30 rfl gB ?_|refine Dp rfl 30 _ rfl F 0 rfl (fZ y r D J V ai az).toList _ ch.all underlying30 rfl gB ?_);refine bb.o.mono ?_;rintro e aN ⟨rfl,an⟩;have aR:Hid (G w aN/\f_ aN w 24 #[.slice (a_ b I) (l_ L) c]):=O ⟨b_ a' an,bk an cj⟩;(have cW:w.heap.size+1<=aN.heap.size:=by have:=an.size;omega);cases q
   .have C:gP L=22:=(by
     have E:kN x=22:=by unfold kN;rw[X.o,C_ S];simp only[];rw[aW];rfl
     unfold gP;rw[aK.o,hd,E];simp)
    go_wp2;go_ret;exact⟨by rw[C];rfl,aR.o.1⟩
   .have aO:Hid (jU L=jU (L.drop (k+1))):=O (by
     have E:kN x=0:=by unfold kN;rw[X.o,C_ S];simp only[];rw[aW];rfl
     rw[aK.o,hd,E];simp)
    go_wp2;go_roundw;exact⟨k+1,U,R,cW,aO,aR⟩;exact M
  .have C:gP L=T:=(by
    have E:kN x=T:=by unfold kN;rw[X.o,P_ aF]
    unfold gP;rw[aK.o,hd,E];simp[aF])
   have ak:(T !=0)=true:=Q aF;go_wp2;go_ret;exact⟨by rw[C];rfl,a'⟩
 .obtain rfl:k=l_ L:=by omega
  have aG:jU L=0:=(by rw[aK.o,R9];rfl);(have bW:∀x∈L,SzA x:=λx a=>(xY (NQ (zB aG x a)).1).2.1);obtain⟨bm,cl⟩:∃bm,bm=wr:=⟨_,rfl⟩;subst cl;go_wp2;go_loopw [7] (λi wr=>∃m:Nat,(m=0\/m<l_ L)/\i=.int .i64 ((m:Int)+1)/\w.heap.size+1<=wr.heap.size/\Hid (∀j x y,j<m->L[j]?=some x->L[j+1]?=some y->lg x y= -1)/\Hid (G w wr/\f_ wr w 24 #[.slice A (l_ L) c])) (λi _=>l_ L-(intOf i).toNat);exact⟨0,.inl rfl,rfl,cf,O (λ_ _ _ h=>absurd h (eh_ _)),aL⟩;obtain⟨m,bi,rfl,b6,bn,H⟩:=hrel;have aX:N wr w 0 (.slice A (l_ L) c):=H.o.2.cell 0;by_cases b7:m+1<l_ L
  .obtain⟨b,I,rfl,aA,K⟩:=aV U
   obtain⟨x,a⟩:∃x,L[m]?=some x:=⟨_,r9 U⟩;obtain⟨y,B⟩:=g_ b7;obtain⟨aM,ac,ad⟩:=K m x a;obtain⟨az,bX,b8⟩:=K (m+1) y B;obtain⟨d,f,g,n,s,t,P,a0,a1,a2,a3,a4,a5,ao,ap,aq,a9,ar,ab,au,av,aw,ax⟩:=wK ac ad aA H.o.1;obtain⟨r,D,J,V,ai,d',bo,bp,bq,br,bs,bt,bu,bv,T,bw,bx,bz,bB,bC,bD,bE,bF⟩:=wK bX b8 aA H.o.1;have bc:=(UD x y d g s r J ai f n t D V d' wr (P.up H.o.1) (bo.up H.o.1) (bW x (gV a)) (bW y (gV B)));have aP:=O a;have X:=O B;have r1:0<=(m:Int):=U;have bl:(m:Int)<l_ L:=U;have c0:0<=(m:Int)+1:=U;have bG:(m:Int)+1<(l_ L:Int):=U;have cm:=fq a0;have cn:=fq a1;have co:=fq a2;have cp:=fq a3;have cq:=fq a4;have cr:=fq a5;have cs:=fq ao;have ct:=fq ap;have cu:=fq aq;have cv:=fq a9;have cw:=fq ar;have cx:=fq ab;have cy:=fq au;have cz:=fq av;have cA:=fq aw;have cB:=fq ax;have cC:=fq bp;have cD:=fq bq;have cE:=fq br;have cF:=fq bs;have cG:=fq bt;have cH:=fq bu;have cI:=fq bv;have cJ:=fq T;have cK:=fq bw;have cL:=fq bx;have cM:=fq bz;have cN:=fq bB;have cO:=fq bC;have cP:=fq bD;have cQ:=fq bE;have cR:=fq bF;have cS:=fq aX;go_wp2_with fail;refine iy k_ k_ ?_;(repeat (first|go_big_quiet_step (with_reducible exact bc _)|quiet_step (with_reducible exact bc _)));refine wpQuiet_nil ?_;rintro _ ⟨l,rfl⟩;have bY:Hid (G w l.at/\f_ l.at w 24 #[.slice (a_ b I) (l_ L) c]):=O ⟨b_ H.o.1 l.below,bk l.below H.o.2⟩;have cX:w.heap.size+1<=l.at.heap.size:=gY b6 l.below.size;generalize l.at=c1 at *;by_cases aC:lg x y= -1;·(have cT:Hid (∀j x y,j<m+1->L[j]?=some x->L[j+1]?=some y->lg x y= -1):=O λj bH bI ay bZ b0=>by by_cases e:j=m;(.subst e;obtain rfl:x=bH:=Ch (aP.o.symm.trans bZ);obtain rfl:y=bI:=Ch (X.o.symm.trans b0);exact aC);.exact bn.o j bH bI U bZ b0);rw[aC];go_wp2;go_roundw;exact⟨m+1,.inr b7,R,cX,cT,bY⟩;exact M
   .have C:gP L=70:=(by
     unfold gP;rw[C_ (Q aG),P_];intro hi
     exact aC (hi m x y aP.o X.o))
    have ak:(lg x y != -1)=true:=Q aC;go_wp2;go_ret;exact⟨by rw[C];rfl,bY.o.1⟩
  .have bd:aaI L:=λj x y a B=>by
    have:=(jv.1 B).1;exact bn.o j x y U a B
   (have bG:decide ((m:Int)+1<(l_ L:Int))=false:=by simp;omega);by_cases aT:1024<l_ L
   .have C:gP L=2:=(by
     unfold gP
     rw[C_ (Q aG),C_ (Q bd),P_ aT])
    (have bJ:decide ((1024:Int)<l_ L)=true:=by simp;omega);go_wp2;go_ret;exact⟨by rw[C];rfl,H.o.1⟩
   .have c5:=O aT
    (have bJ:decide ((1024:Int)<l_ L)=false:=by simp;omega);obtain⟨bK,cU⟩:∃bK,bK=wr:=⟨_,rfl⟩;subst cU;go_wp2_with fail;clear aX bG bJ
    as_aux_lemma=>
     go_loopw [58] (λi wr=>∃k:Nat,k<=l_ L/\i=.int .i64 (k:Int)/\w.heap.size+1<=wr.heap.size/\Hid ((L.take k).any (λx=>qN x.K&& !x.op)=false)/\Hid (G w wr/\f_ wr w 24 #[.slice A (l_ L) c])) (λi _=>l_ L-(intOf i).toNat);exact⟨0,gZ _,rfl,b6,O S,H⟩;obtain⟨k,b',rfl,c6,b2,aD⟩:=hrel;by_cases cY:k<l_ L
     .obtain⟨b,I,rfl,aA,K⟩:=aV U
      obtain⟨x,a⟩:=g_ cY;obtain⟨aM,ac,ad⟩:=K k x a;obtain⟨d,f,g,n,s,t,P,a0,a1,a2,a3,a4,a5,ao,ap,aq,a9,ar,ab,au,av,aw,ax⟩:=wK ac ad aA aD.o.1;(have b3:∀W,Y 40 #[.agg (fZ x d f g n s t)] W (qN x.K):=λW=>Uo x d g s f n t W);have r1:0<=(k:Int):=U;have bl:(k:Int)<l_ L:=U;(have cV:L.take (k+1)=L.take k++[x]:=by obtain⟨E,cb⟩:=jv.1 a;rw[Fh E,cb]);have aP:=O a;go_wp2_with (refine z_ rfl 30 _ _ rfl wr 30 _ (f_.new _ _ _) (fZ x d f g n s t) rfl rfl rfl gB (kI ..) ?_);intro Z ak al aH;have aB:Hid (G w Z/\f_ Z w 24 #[.slice (a_ b I) (l_ L) c]):=O ⟨(X_ aD.o.1 _).grown al (by simp;omega) (λj ay=>by injection ay with e;omega),(aD.o.2.alloc _).grown al (by intro e;injection e with e;omega)⟩;have am:=O ak;(have bf:w.heap.size+1<=Z.heap.size:=by(try simp at aH);omega);go_wp2_with (refine Dp rfl 30 _ rfl wr 0 rfl (fZ x d f g n s t).toList _ am.o.all underlying30 rfl gB ?_);refine(b3 _).mono ?_;rintro e aQ ⟨rfl,aJ⟩;have be:Hid (G w aQ/\f_ aQ w 24 #[.slice (a_ b I) (l_ L) c]):=O ⟨b_ aB.o.1 aJ,bk aJ aB.o.2⟩;have b9:w.heap.size+1<=aQ.heap.size:=gY bf aJ.size;have g1:N aQ wr 1 x.op:=(bk aJ am.o).cell 1;obtain⟨p,aY⟩:=e_ (qN x.K);obtain⟨o,aZ⟩:=e_ x.op;have aS:qN x.K=p/\x.op=o:=⟨aY,aZ⟩;rw[aY];rw[aZ]at g1;by_cases aU:p=true/\o=false
      .obtain⟨rfl,rfl⟩:=aU
       have C:gP L=71:=(by
        have E:vQ L=true:=bx_.2 ⟨x,gV aP.o,by rw[aS.1,aS.2];rfl⟩;unfold gP
        rw[C_ (Q aG),C_ (Q bd),C_ aT,P_ E])
       go_wp2;go_ret;exact⟨by rw[C];rfl,be.o.1⟩
      .have aO:Hid ((L.take (k+1)).any (λx=>qN x.K&& !x.op)=false):=O (by
        rw[cV,cb_,b2.o];simp only[List.any_cons,List.any_nil,gc_,ik_];rw[aS.1,aS.2]
        cases p<;>cases o<;>simp_all)
       cases p;(.go_wp2;go_roundw;exact⟨k+1,U,R,b9,aO,be⟩;exact M);.cases o;(.exact absurd ⟨rfl,rfl⟩ aU);.go_wp2;go_roundw;exact⟨k+1,U,R,b9,aO,be⟩;exact M
     .obtain rfl:k=l_ L:=by omega
      have C:gP L=rU L:=(by
       (have E:vQ L=false:=by have:=b2.o;rwa[jy]at this);unfold gP
       rw[C_ (Q aG),C_ (Q bd),C_ aT,C_ (by rw[E];simp)])
      have b1:N wr w 0 (.slice A (l_ L) c):=aD.o.2.cell 0;have b4:=(cc.o wr aD.o.1);go_wp2_with fail;refine b4.mono ?_;rintro e aN ⟨⟨u,rfl⟩,an⟩;have aR:=O (b_ aD.o.1 an);go_wp2;go_ret;exact⟨by rw[C];rfl,aR.o⟩


