import Derived.Test.YtjmbkfjklemmpaaGreatDoorJ24
set_option linter.all false
set_option maxRecDepth 100000
set_option maxHeartbeats 32000000
open Go renaming World->W_,Value->V_,maxLen->m_,Ending->E_
open Go.RowKit renaming Below->B_
namespace Go.Proofs.YtjmbkfjklemmpaaGreatDoor
section
open Go.RowKit Go.Sort Go.Proofs.Tryz
def RL(x y:Ax)(a b c d f g:Option Addr)(h i j k l m:Nat)(w:W_)(n:lJ w x a h b i c j)(o:lJ w y d k f l g m)(p:Xf x)(q:Xf y)(s:Later w):Calls prog 43 #[.agg (gV x a h b i c j),.agg (gV y d k f l g m)] s.at λe t=>e=.returned (.int .i64 (j5 x y))/\∃r:Later w,t=r.at:=nL (vE x y a b c d f g h i j k l m s.at (n.up s.below) (o.up s.below) p q)
def j4(L:List Ax)(v:V_)(w:W_)(h:lC w v L)(bh:zQ w)(bi:∀x∈L,qR x)(hl:L.length<=100000):Calls prog 21 #[.agg #[v]] w λe w'=>e=.returned (.int .i64 (fZ L))/\B_ w.heap.size w w':=by
 obtain⟨A,c,rfl,hc,bj,aV⟩:=h.form;(have ce:Hid (∀W,B_ w.heap.size w W->Calls prog 45 #[.slice A L.length c] W λe w'=>(∃u,e=.returned (.tuple #[u,.int .i64 (qF L)]))/\B_ W.heap.size W w'):=K_ λW bl=>FC L _ W (h.up bl) (bh.up bl) bi hl);have cf:f_ (w.alloc (.cells #[.slice A L.length c] 24)) w.heap.size 24 #[.slice A L.length c]:=(f_.new _ _ _);have cg:B_ w.heap.size w (w.alloc (.cells #[.slice A L.length c] 24)):=(L_ (fD _ _) _);clear h hc bj;go_in;go_wp2;go_loopw [13] (λi wr=>∃k:Nat,k<=L.length/\i=.int .i64 (k:Int)/\w.heap.size+1<=wr.heap.size/\Hid (jv L=jv (L.drop k))/\Hid (B_ w.heap.size w wr/\f_ wr w.heap.size 24 #[.slice A L.length c])) (λi _=>L.length-(intOf i).toNat);exact⟨0,gL _,rfl,S,K_ S,K_ ⟨cg,cf⟩⟩;obtain⟨k,cb,rfl,ch,aK,aL⟩:=hrel;by_cases ci:k<L.length
 ·obtain⟨b,I,rfl,aA,K⟩:=aV U
  obtain⟨x,a⟩:=g_ ci;obtain⟨aM,ac,ad⟩:=K k x a;obtain⟨d,f,g,n,s,t,P,a0,a1,a2,a3,a4,a5,ao,ap,aq,a9,ar,ab,au,av,aw,ax⟩:=zZ ac ad aA aL.out.1;have cc:=K_ P;have aW:=Iu a;have r1:(0:Int)<=(k:Int):=U;have bm:(k:Int)<(L.length:Int):=U;obtain⟨y,T,B⟩:∃y e,gF x=(y,e):=⟨_,_,rfl⟩;(have bN:∀W,B_ w.heap.size w W->Calls prog 33 #[.agg (gV x d f g n s t)] W (kZ W (y,T)):=λW bn=>by have a7:=P.up bn;rw[<-B];exact sw x _ _ (bh.up bn) (bi x (gM a)) ⟨_,rfl,⟨_,_,_,rfl,by obtain⟨aM,e,h⟩:=a7.l;injection e with e;have:=qQ Array.toList e;simp at this;subst this;exact h,by obtain⟨aM,e,h⟩:=a7.r;injection e with e;have:=qQ Array.toList e;simp at this;subst this;exact h,a7.rs⟩⟩);have X:=K_ B;clear K ac ad a P B;go_wp2_with (refine z_ rfl 43 _ _ rfl wr.heap.size 43 _ (f_.new _ _ _) (gV x d f g n s t) rfl rfl rfl gD (kR ..) ?_);intro Z ak al aH;have a8:B_ w.heap.size w Z:=(L_ aL.out.1 _).grown al (by simp;omega) (λj ay=>by injection ay with e;omega);have bO:f_ Z w.heap.size 24 #[.slice (some ⟨b,I,none⟩) L.length c]:=((aL.out.2.alloc _).grown al (by intro e;injection e with e;omega));have aB:=K_ a8;have am:=K_ ak;(have bg:wr.heap.size<Z.heap.size:=by(try simp at aH);omega);have bP:=(bN Z a8);clear ak al aH a8 bN a0 a1 a2 a3 a4 a5 ao ap aq a9 ar ab au av aw ax;go_wp2_with (refine Hg rfl 43 _ rfl wr.heap.size 0 rfl (gV x d f g n s t).toList _ am.out.all underlying43 rfl gD ?_);refine bP.mono ?_;rintro e F ⟨c4,rfl,b7,aI⟩;obtain⟨ae,af,ag,ah,c1,rfl,bQ,bR,a'⟩:=b7.form;obtain⟨ai,az,rfl,_⟩:=S1.form a';have bS:B_ w.heap.size w F:=(b_ aB.out aI);have bT:f_ F w.heap.size 24 #[.slice (some ⟨b,I,none⟩) L.length c]:=(bk aI bO);have bU:f_ F wr.heap.size 43 (gV x d f g n s t):=(bk aI am.out);(have c5:wr.heap.size<F.heap.size:=by have:=aI.size;omega);have bV:lJ F y ae af ag ah ai az:=⟨bQ,bR,a'⟩;clear aI bQ bR a' b7 bP aB bO am bg;go_wp2_with (refine z_ rfl 43 _ _ rfl F.heap.size 43 _ (f_.new _ _ _) (gV y ae af ag ah ai az) rfl rfl rfl gD (kR ..) ?_);intro aj cj bW ck;have aE:B_ F.heap.size F aj:=(L_ (fD _ _) _).grown bW S (λj ay=>by injection ay with e;omega);have ba:B_ w.heap.size w aj:=(b_ bS aE);have cl:f_ aj w.heap.size 24 #[.slice (some ⟨b,I,none⟩) L.length c]:=(bk aE bT);have bX:=(bk aE bU);have cm:=(bV.up aE);(have c6:wr.heap.size<aj.heap.size:=by have:=aE.size;omega);clear bW ck aE bS bT bU bV;by_cases aF:T=0
  ·subst aF
   have bb:=Oh (x:=x) (by rw[X.out])
   have bc:Hid (Calls prog 42 #[.agg (gV x d f g n s t),.agg (gV y ae af ag ah ai az)] aj λe w'=>e=.returned (.bool (x.op==y.op&&decide (j5 x y=0)))/\B_ aj.heap.size aj w'):=K_
    (Us x y d g s ae ag ai f n t af ah az _ (cc.out.up ba) cm bb.2.1 (by have:=bb.2.2;rwa[X.out]at this))
   obtain⟨q,aX⟩:∃q,(x.op==y.op&&decide (j5 x y=0))=q:=⟨_,rfl⟩;rw[aX]at bc;clear bb;go_wp2_with (first|refine Hg rfl 43 _ rfl wr.heap.size 0 rfl (gV x d f g n s t).toList _ bX.all underlying43 rfl gD ?_|refine Hg rfl 43 _ rfl F.heap.size 0 rfl (gV y ae af ag ah ai az).toList _ cj.all underlying43 rfl gD ?_);refine bc.out.mono ?_;rintro e aN ⟨rfl,an⟩;have aR:Hid (B_ w.heap.size w aN/\f_ aN w.heap.size 24 #[.slice (some ⟨b,I,none⟩) L.length c]):=K_ ⟨b_ ba an,bk an cl⟩;(have cY:w.heap.size+1<=aN.heap.size:=by have:=an.size;omega);clear an bc bX;cases q
   ·have C:fZ L=22:=(by
     have E:jS x=22:=by unfold jS;rw[X.out,u_ S];simp only[];rw[aX];rfl
     unfold fZ;rw[aK.out,aW,E];simp)
    go_wp2;go_ret;exact⟨by rw[C];rfl,aR.out.1⟩
   ·have aO:Hid (jv L=jv (L.drop (k+1))):=K_ (by
     have E:jS x=0:=by unfold jS;rw[X.out,u_ S];simp only[];rw[aX];rfl
     rw[aK.out,aW,E];simp)
    go_wp2;go_roundw;exact⟨k+1,U,R,cY,aO,aR⟩;exact M
  ·have C:fZ L=T:=(by
    have E:jS x=T:=by unfold jS;rw[X.out,A_ aF]
    unfold fZ;rw[aK.out,aW,E];simp[aF])
   have ak:(T !=0)=true:=Q aF;clear aF;go_wp2;go_ret;exact⟨by rw[C];rfl,ba⟩
 ·obtain rfl:k=L.length:=by omega
  have aG:jv L=0:=(by rw[aK.out,Qb];rfl);(have bY:∀x∈L,Xf x:=λx a=>(Oh (LU (yE aG x a)).1).2.1);obtain⟨bo,cn⟩:∃bo,bo=wr:=⟨_,rfl⟩;subst cn;go_wp2;go_loopw [7] (λi wr=>∃m:Nat,(m=0\/m<L.length)/\i=.int .i64 ((m:Int)+1)/\w.heap.size+1<=wr.heap.size/\Hid (∀j x y,j<m->L[j]?=some x->L[j+1]?=some y->j5 x y= -1)/\Hid (B_ w.heap.size w wr/\f_ wr w.heap.size 24 #[.slice A L.length c])) (λi _=>L.length-(intOf i).toNat);exact⟨0,.inl rfl,rfl,ch,K_ (λ_ _ _ h=>absurd h (em_ _)),aL⟩;obtain⟨m,bj,rfl,b8,bp,H⟩:=hrel;have aY:wr.cell? ⟨w.heap.size,0,none⟩=some (.slice A L.length c):=H.out.2.cell 0;by_cases b9:m+1<L.length
  ·obtain⟨b,I,rfl,aA,K⟩:=aV U
   obtain⟨x,a⟩:∃x,L[m]?=some x:=⟨_,qY U⟩;obtain⟨y,B⟩:=g_ b9;obtain⟨aM,ac,ad⟩:=K m x a;obtain⟨az,bZ,b'⟩:=K (m+1) y B;obtain⟨d,f,g,n,s,t,P,a0,a1,a2,a3,a4,a5,ao,ap,aq,a9,ar,ab,au,av,aw,ax⟩:=zZ ac ad aA H.out.1;obtain⟨ae,af,ag,ah,ai,d',bq,br,bs,bt,bu,bv,bw,bx,T,bz,bB,bC,bD,bE,bF,bG,bH⟩:=zZ bZ b' aA H.out.1;have bd:=(RL x y d g s ae ag ai f n t af ah d' wr (P.up H.out.1) (bq.up H.out.1) (bY x (gM a)) (bY y (gM B)));have aP:=K_ a;have X:=K_ B;have r1:(0:Int)<=(m:Int):=U;have bm:(m:Int)<(L.length:Int):=U;have c2:(0:Int)<=(m:Int)+1:=U;have bI:(m:Int)+1<(L.length:Int):=U;have co:=G_ a0;have cp:=G_ a1;have cq:=G_ a2;have cr:=G_ a3;have cs:=G_ a4;have ct:=G_ a5;have cu:=G_ ao;have cv:=G_ ap;have cw:=G_ aq;have cx:=G_ a9;have cy:=G_ ar;have cz:=G_ ab;have cA:=G_ au;have cB:=G_ av;have cC:=G_ aw;have cD:=G_ ax;have cE:=G_ br;have cF:=G_ bs;have cG:=G_ bt;have cH:=G_ bu;have cI:=G_ bv;have cJ:=G_ bw;have cK:=G_ bx;have cL:=G_ T;have cM:=G_ bz;have cN:=G_ bB;have cO:=G_ bC;have cP:=G_ bD;have cQ:=G_ bE;have cR:=G_ bF;have cS:=G_ bG;have cT:=G_ bH;have cU:=G_ aY;clear a0 a1 a2 a3 a4 a5 ao ap aq a9 ar ab au av aw ax br bs bt bu bv bw bx T bz bB bC bD bE bF bG bH K ac bZ ad b' a B P bq;go_wp2_with fail;clear aY;refine gN (by kernel_rfl) (by kernel_rfl) ?_;(repeat (first|go_big_quiet_step (with_reducible exact bd _)|quiet_step (with_reducible exact bd _)));refine wpQuiet_nil ?_;rintro _ ⟨aa,rfl⟩;have b0:Hid (B_ w.heap.size w aa.at/\f_ aa.at w.heap.size 24 #[.slice (some ⟨b,I,none⟩) L.length c]):=K_ ⟨b_ H.out.1 aa.below,bk aa.below H.out.2⟩;have cZ:w.heap.size+1<=aa.at.heap.size:=gT b8 aa.below.size;clear co cp cq cr cs ct cu cv cw cx cy cz cA cB cC cD cE cF cG cH cI cJ cK cL cM cN cO cP cQ cR cS cT cU bd;generalize aa.at=c3 at *;clear aa;by_cases aC:j5 x y= -1;·(have cV:Hid (∀j x y,j<m+1->L[j]?=some x->L[j+1]?=some y->j5 x y= -1):=K_ λj bJ bK ay b2 b3=>by by_cases e:j=m;(·subst e;obtain rfl:x=bJ:=Dy (aP.out.symm.trans b2);obtain rfl:y=bK:=Dy (X.out.symm.trans b3);exact aC);·exact bp.out j bJ bK U b2 b3);rw[aC];clear aC;go_wp2;go_roundw;exact⟨m+1,.inr b9,R,cZ,cV,b0⟩;exact M
   ·have C:fZ L=70:=(by
     unfold fZ;rw[u_ (Q aG),A_];intro hi
     exact aC (hi m x y aP.out X.out))
    have ak:(j5 x y != -1)=true:=Q aC;clear aC;go_wp2;go_ret;exact⟨by rw[C];rfl,b0.out.1⟩
  ·have be:XP L:=λj x y a B=>by
    have:=(iR.1 B).1;exact bp.out j x y U a B
   (have bI:decide ((m:Int)+1<(L.length:Int))=false:=by simp;omega);by_cases aT:1024<L.length
   ·have C:fZ L=2:=(by
     unfold fZ
     rw[u_ (Q aG),u_ (Q be),A_ aT])
    (have bL:decide ((1024:Int)<(L.length:Int))=true:=by simp;omega);go_wp2;go_ret;exact⟨by rw[C];rfl,H.out.1⟩
   ·have c7:=K_ aT
    (have bL:decide ((1024:Int)<(L.length:Int))=false:=by simp;omega);obtain⟨bM,cW⟩:∃bM,bM=wr:=⟨_,rfl⟩;subst cW;go_wp2_with fail;clear aY bI bL
    as_aux_lemma=>
     go_loopw [58] (λi wr=>∃k:Nat,k<=L.length/\i=.int .i64 (k:Int)/\w.heap.size+1<=wr.heap.size/\Hid ((L.take k).any (λx=>pR x.kind&& !x.op)=false)/\Hid (B_ w.heap.size w wr/\f_ wr w.heap.size 24 #[.slice A L.length c])) (λi _=>L.length-(intOf i).toNat);exact⟨0,gL _,rfl,b8,K_ S,H⟩;obtain⟨k,cb,rfl,c8,b4,aD⟩:=hrel;by_cases c0:k<L.length
     ·obtain⟨b,I,rfl,aA,K⟩:=aV U
      obtain⟨x,a⟩:=g_ c0;obtain⟨aM,ac,ad⟩:=K k x a;obtain⟨d,f,g,n,s,t,P,a0,a1,a2,a3,a4,a5,ao,ap,aq,a9,ar,ab,au,av,aw,ax⟩:=zZ ac ad aA aD.out.1;(have b5:∀W,Calls prog 44 #[.agg (gV x d f g n s t)] W λe w'=>e=.returned (.bool (pR x.kind))/\B_ W.heap.size W w':=λW=>Qo x d g s f n t W);have r1:(0:Int)<=(k:Int):=U;have bm:(k:Int)<(L.length:Int):=U;(have cX:L.take (k+1)=L.take k++[x]:=by obtain⟨E,cd⟩:=iR.1 a;rw[Ht E,cd]);have aP:=K_ a;clear K ac ad a P;go_wp2_with (refine z_ rfl 43 _ _ rfl wr.heap.size 43 _ (f_.new _ _ _) (gV x d f g n s t) rfl rfl rfl gD (kR ..) ?_);intro Z ak al aH;have aB:Hid (B_ w.heap.size w Z/\f_ Z w.heap.size 24 #[.slice (some ⟨b,I,none⟩) L.length c]):=K_ ⟨(L_ aD.out.1 _).grown al (by simp;omega) (λj ay=>by injection ay with e;omega),(aD.out.2.alloc _).grown al (by intro e;injection e with e;omega)⟩;have am:=K_ ak;(have bg:w.heap.size+1<=Z.heap.size:=by(try simp at aH);omega);clear ak al aH a0 a1 a2 a3 a4 a5 ao ap aq a9 ar ab au av aw ax;go_wp2_with (refine Hg rfl 43 _ rfl wr.heap.size 0 rfl (gV x d f g n s t).toList _ am.out.all underlying43 rfl gD ?_);refine(b5 _).mono ?_;rintro e aQ ⟨rfl,aJ⟩;have bf:Hid (B_ w.heap.size w aQ/\f_ aQ w.heap.size 24 #[.slice (some ⟨b,I,none⟩) L.length c]):=K_ ⟨b_ aB.out.1 aJ,bk aJ aB.out.2⟩;have ca:w.heap.size+1<=aQ.heap.size:=gT bg aJ.size;have g1:aQ.cell? ⟨wr.heap.size,1,none⟩=some (.bool x.op):=(bk aJ am.out).cell 1;clear aJ aB am b5;obtain⟨p,aZ⟩:=e_ (pR x.kind);obtain⟨o,a6⟩:=e_ x.op;have aS:pR x.kind=p/\x.op=o:=⟨aZ,a6⟩;rw[aZ];rw[a6]at g1;clear aZ a6;by_cases aU:p=true/\o=false
      ·obtain⟨rfl,rfl⟩:=aU
       have C:fZ L=71:=(by
        have E:uN L=true:=WI.2 ⟨x,gM aP.out,by rw[aS.1,aS.2];rfl⟩;unfold fZ
        rw[u_ (Q aG),u_ (Q be),u_ aT,A_ E])
       go_wp2;go_ret;exact⟨by rw[C];rfl,bf.out.1⟩
      ·have aO:Hid ((L.take (k+1)).any (λx=>pR x.kind&& !x.op)=false):=K_ (by
        rw[cX,cg_,b4.out];simp only[List.any_cons,List.any_nil,gk_,is_];rw[aS.1,aS.2]
        cases p<;>cases o<;>simp_all)
       cases p;(·clear aU;go_wp2;go_roundw;exact⟨k+1,U,R,ca,aO,bf⟩;exact M);·cases o;(·exact absurd ⟨rfl,rfl⟩ aU);·clear aU;go_wp2;go_roundw;exact⟨k+1,U,R,ca,aO,bf⟩;exact M
     ·obtain rfl:k=L.length:=by omega
      have C:fZ L=qF L:=(by
       (have E:uN L=false:=by have:=b4.out;rwa[jh]at this);unfold fZ
       rw[u_ (Q aG),u_ (Q be),u_ aT,u_ (by rw[E];simp)])
      have b1:wr.cell? ⟨w.heap.size,0,none⟩=some (.slice A L.length c):=aD.out.2.cell 0;have b6:=(ce.out wr aD.out.1);go_wp2_with fail;refine b6.mono ?_;rintro e aN ⟨⟨u,rfl⟩,an⟩;have aR:=K_ (b_ aD.out.1 an);clear an b6 b1;go_wp2;go_ret;exact⟨by rw[C];rfl,aR.out⟩
end
section
open Go.Maps Go.RowKit Go.Proofs.Tryz
noncomputable def je (L:List Ax):Int:=if fZ L≠0 then fZ L else nV L []
def yG(s:St)(c:UInt8):Lib.hasPrefix s [c]=true↔s.head?=some c:=by
 cases s with
 |nil=>simp[Lib.hasPrefix]
 |cons a s=>
  unfold Lib.hasPrefix;rw[List.isPrefixOf];simp only[KJ,Uh,List.head?_cons,Option.some.injEq];exact⟨λh=>h.1.symm,λh=>⟨h.symm,by cases s<;>rfl⟩⟩
def VG{L:List Ax}{l:List Fc}(h:ny (fu L++[]) l):l.any sD=true↔Bad L:=by rw[Zo]at h;rw[WI];constructor;(·rintro⟨f,hf,hc⟩;unfold sD at hc;simp only[KJ,Ug,I5,yG]at hc;obtain⟨⟨a,d⟩,b⟩:=hc;refine⟨f,(h.2 f).1 hf,by rw[a];rfl,?_,b⟩;rw[show iE=f.B from d.symm];exact a);·rintro⟨f,hf,e,a,b⟩;(have c:f.B=[33]:=by rw[a];rfl);refine⟨f,(h.2 f).2 hf,?_⟩;unfold sD;simp only[KJ,Ug,I5,yG];exact⟨⟨by rw[c];exact a,c⟩,b⟩
def oU(w:W_)(L:List Ax)(e:E_)(w':W_):Prop:=G w w'/\∃ok:Bool,e=.returned (.tuple #[ok,(je L)])/\(je L≠0->ok=false)/\(je L=0->(ok=true↔¬Bad L))
def nW(L:List Ax)(v:V_)(w:W_)(h:lC w v L)(aa:kG w)(ab:∀x∈L,qR x)(hl:L.length<=100000):z 23 #[.agg #[v]] w (oU w L):=by obtain⟨A,c,rfl,hc,_,_⟩:=h.form;obtain⟨n,af⟩:=e_ (w.alloc (.cells #[.slice A L.length c] 24));obtain⟨ac,ao⟩:=e_ w.heap.size;(have k:G w n:=by rw[<-af];exact bA);(have H:f_ n ac 24 #[.slice A L.length c]:=by rw[<-af,<-ao];exact f_.new _ _ _);have s1:N n ac 0 (.slice A L.length c):=H.cell 0;have I:=j4 L _ n (h.up k) (aa.up k).a.s ab hl;obtain⟨u,t⟩:=e_ (fZ L);rw[t]at I;have g:=O I;clear hc I;by_cases o:u=0;(·subst o;obtain⟨y,K⟩:=e_ (nV L []);(have i:Hid (∀W,G w W->z 46 #[.agg #[.slice A L.length c],.slice none 0 0] W (OO W L [])):=O λW ad=>AB L [] _ _ W (h.up ad) (aa.up ad) ab hl (Sl.nil _ _ _ _) (λ_ h=>by cases h) S);unfold OO at i;rw[K]at i;by_cases P:y=0;(·subst P;go_in;go_wp2_with (first|(go_at_call 21;(with_reducible refine g.o.mono ?_);rintro e ae ⟨rfl,b⟩;have f:=(b_ k b);have s2:=(bk b H).cell 0;clear b s1 g)|(go_at_call 46;(with_reducible refine(i.o _ f).mono ?_);rintro e j ⟨m,p,r,cv,B,C,E,rfl,ag⟩;have T:=(b_ f m);obtain⟨l,ah,ai,av⟩:=ag (by first|trivial|rfl);have aw:=O ah;obtain⟨F,aj⟩:∃q,j.alloc (.cells #[.slice p r cv,.slice B C E] 83)=q:=⟨_,rfl⟩;obtain⟨am,ap⟩:=e_ j.heap.size;have X:G j F:=(by rw[<-aj];exact bA);have Z:f_ F am 83 #[.slice p r cv,.slice B C E]:=(by rw[<-aj,<-ap];exact f_.new _ _ _);have t0:=Z.cell 0;have t1:=Z.cell 1;have ak:=(Vf (.slice p r cv) _ l F (ai.up X) U);have aq:=(b_ T X);clear m ag ai X Z s2 i)|(go_at_call 47;(with_reducible refine ak.mono ?_);rintro e au ⟨⟨s,rfl⟩,al⟩;have ar:=(b_ aq al);clear al ak t0 t1));go_ret2;(have d:je L=0:=by unfold je;rw[u_ (by rw[t];simp)];exact K);refine⟨ar, !l.any sD,by rw[d];rfl,λh=>absurd d h,λ_=>?_⟩;rw[<-VG ah];cases l.any sD<;>simp);·have an:(y==0)=false:=Q P;go_in;go_wp2_with (first|(go_at_call 21;(with_reducible refine g.o.mono ?_);rintro e ae ⟨rfl,b⟩;have f:=(b_ k b);have s2:=(bk b H).cell 0;clear b s1 g)|(go_at_call 46;(with_reducible refine(i.o _ f).mono ?_);rintro e j ⟨m,p,r,cv,B,C,E,rfl,_⟩;have T:=(b_ f m);clear m s2 i));go_ret2;(have d:je L=y:=by unfold je;rw[u_ (by rw[t];simp)];exact K);exact⟨L_ T _,false,by rw[d];rfl,λ_=>rfl,λh=>absurd (d.symm.trans h) P⟩);·have an:(u==0)=false:=Q o;go_in;go_wp2_with (go_at_call 21;(with_reducible refine g.o.mono ?_);rintro e ae ⟨rfl,b⟩;have f:=(b_ k b);clear b g);go_ret2;(have d:je L=u:=by unfold je;rw[t,A_ o]);exact⟨f,false,by rw[d];rfl,λ_=>rfl,λh=>absurd (d.symm.trans h) o⟩
def J3(w:W_)(L:List Ax)(e:E_)(w':W_):Prop:=G w w'/\∃bad:Bool,e=.returned (.tuple #[bad,(je L)])/\(je L≠0->bad=false)/\(je L=0->(bad=true↔Bad L))
def DY(L:List Ax)(v:V_)(w:W_)(h:lC w v L)(l:kG w)(m:∀x∈L,qR x)(hl:L.length<=100000):z 24 #[.agg #[v]] w (J3 w L):=by obtain⟨A,c,rfl,hc,_,_⟩:=h.form;obtain⟨b,p⟩:=e_ (w.alloc (.cells #[.slice A L.length c] 24));obtain⟨n,u⟩:=e_ w.heap.size;(have d:G w b:=by rw[<-p];exact bA);(have q:f_ b n 24 #[.slice A L.length c]:=by rw[<-p,<-u];exact f_.new _ _ _);have s1:N b n 0 (.slice A L.length c):=q.cell 0;have f:=nW L _ b (h.up d) (l.up d) m hl;unfold oU at f;obtain⟨o,r⟩:=e_ (je L);unfold J3;rw[r]at f ⊢;have g:=O f;clear h l m hc q f r;by_cases j:o=0;(·subst j;go_in;go_wp2_with (go_at_call 23;(with_reducible refine g.o.mono ?_);rintro e s ⟨a,ok,rfl,_,i⟩;have k:=(b_ d a);have t:=O i;clear a i g);go_ret2;refine⟨k,_,rfl,λh=>absurd rfl h,λ_=>?_⟩;have:=t.o (by first|trivial|rfl);cases ok<;>simp_all);·have y:(o==0)=false:=Q j;go_in;go_wp2_with (go_at_call 23;(with_reducible refine g.o.mono ?_);rintro e s ⟨a,ok,rfl,_,i⟩;have k:=(b_ d a);clear a i g);go_ret2;exact⟨k,_,rfl,λ_=>rfl,λh=>absurd h j⟩
end
section
open Go.RowKit Go.Proofs.Tryz
def AO:∀{L:List Ax},jv L=0↔∀x∈L,jS x=0
 |[]=>by simp[jv]
 |x::l=>by
  unfold jv;by_cases h:jS x=0;(·rw[u_ (Q h),AO];simp[h]);·rw[A_ h];simp[h]
def rQ:∀{L:List Ax},gI L=0↔∀x∈L,X_ x=0
 |[]=>by simp[gI]
 |x::l=>by
  unfold gI;by_cases h:X_ x=0;(·rw[u_ (Q h),rQ];simp[h]);·rw[A_ h];simp[h]
def aaA{x y z:Ax}(a:j5 x y= -1)(b:j5 y z= -1):j5 x z= -1:=by have:=(WM x y z).1 U U;rcases WO x z with h|h|h<;>omega
def Yw{L:List Ax}:XP L↔L.Pairwise (λx y=>j5 x y= -1):=by
 constructor
 ·intro h
  induction L with
  |nil=>exact List.Pairwise.nil
  |cons a l g=>
   (have hl:XP l:=λi x y d c=>h (i+1) x y (Q d) (Q c));have e:=g hl;refine Dz.2 ⟨λy c=>?_,e⟩
   match l,c with
   |b::r,c=>
    have f:j5 a b= -1:=h 0 a b rfl rfl;rcases jU.1 c with rfl|c;(·exact f);·exact aaA f ((Dz.1 e).1 y c)
 ·intro h i x y d c;obtain⟨hi,rfl⟩:=iR.1 d;obtain⟨j,rfl⟩:=iR.1 c;exact SV.1 h i (i+1) hi j U
def zk{L:List Ax}:fZ L=0↔(∀x∈L,jS x=0)/\L.Pairwise (λx y=>j5 x y= -1)/\L.length<=1024/\uN L=false/\(∀x∈L,X_ x=0)/\¬uF L:=by
 unfold fZ qF;rw[<-AO,<-Yw,<-rQ];by_cases a:jv L=0
 ·rw[u_ (Q a)]
  by_cases c:XP L
  ·rw[u_ (Q c)]
   by_cases e:1024<L.length;·rw[A_ e];constructor;(·intro h;cases h);·rintro⟨_,_,h,_⟩;omega
   ·rw[u_ e]
    cases f:uN L with
    |true=>rw[A_ rfl];constructor
           (·intro h;cases h);·rintro⟨_,_,_,h,_⟩;cases h
    |false=>
     rw[u_ S];by_cases b:gI L=0;(·rw[u_ (Q b)];by_cases d:uF L;(·rw[A_ d];constructor;(·intro h;cases h);·rintro⟨_,_,_,_,_,h⟩;exact absurd d h);·rw[u_ d];exact⟨λ_=>⟨a,c,U,rfl,b,d⟩,λ_=>rfl⟩);·rw[A_ b];constructor;(·intro h;exact absurd h b);·rintro⟨_,_,_,_,h,_⟩;exact absurd h b
  ·rw[A_ c];constructor;(·intro h;cases h);·rintro⟨_,h,_⟩;exact absurd h c
 ·rw[A_ a];constructor;(·intro h;exact absurd h a);·rintro⟨h,_⟩;exact absurd h a
def J4{L M:List Ax}(c:M.Sublist L)(h:fZ L=0):fZ M=0:=by obtain⟨e,f,g,d,i,j⟩:=zk.1 h;(have b:∀x∈M,x∈L:=λx a=>c.subset a);refine zk.2 ⟨λx a=>e x (b x a),f.sublist c,gT c.length_le g,?_,λx a=>i x (b x a),λhc=>j (hc.mono b)⟩;unfold uN at d ⊢;rw[List.any_eq_false]at d ⊢;exact λx a=>d x (b x a)
def Dl{L:List Ax}:∀n,(iP n L).length=(L.map λx=>(qz (Bb x)).length).sum:=by
 induction L with
 |nil=>intro n;rfl
 |cons x l a=>intro n;unfold iP;rw[lG,oD,a (n+1)];simp
def MC:∀{a b:List Nat},a.Sublist b->a.sum<=b.sum
 |_,_,.slnil=>fU _
 |_,_,.cons x h=>by have:=MC h;simp;omega
 |_,_,.cons₂ x h=>by have:=MC h;simp;omega
def Gt{L M:List Ax}(a:M.Sublist L):(fu M).length<=(fu L).length:=by unfold fu;rw[Dl,Dl];exact MC (a.map _)
def ou{L:List Ax}:je L=0↔fZ L=0/\nV L []=0:=by unfold je;by_cases h:fZ L=0;(·rw[u_ (Q h)];simp[h]);·rw[A_ h];simp[h]
def uQ{L:List Ax}{m:List Pc}:nV L m=0↔iJ L=0/\¬Over (fu L++m):=by unfold nV;by_cases h:iJ L=0;(·rw[u_ (Q h)];by_cases a:Over (fu L++m);(·rw[A_ a];simp[a]);·rw[u_ a];simp[h,a]);·rw[A_ h];simp[h]
def OY{L M:List Ax}(a:M.Sublist L)(h:iJ L=0):iJ M=0:=by obtain⟨e,b,f⟩:=AA h;have hl:=a.length_le;have g:=Gt a;(have c:gI M=0:=rQ.2 λx d=>rQ.1 b x (a.subset d));unfold iJ;rw[u_ U,u_ (Q c),u_ U]
def Yx{L M:List Ax}(b:M.Sublist L){m:List Pc}(h:Over (fu M++m)):Over (fu L++m):=by(refine h.mono ?_ λx a=>?_);(·have:=Gt b;simp;omega);·rcases gH.1 a with a|a;(·obtain⟨z,c,e⟩:=wH (λx a=>b.subset a) x a;exact⟨z,gH.2 (.inl c),e⟩);·exact⟨x,gH.2 (.inr a),rfl⟩
def J5{L M:List Ax}(a:M.Sublist L){m:List Pc}(h:nV L m=0):nV M m=0:=uQ.2 ⟨OY a (uQ.1 h).1,λb=>(uQ.1 h).2 (Yx a b)⟩
def xO{L M:List Ax}(a:M.Sublist L)(h:je L=0):je M=0:=ou.2 ⟨J4 a (ou.1 h).1,J5 a (ou.1 h).2⟩
def Gu{L:List Ax}{p q:Nat->Bool}(h:∀i,p i=true->q i=true):∀x∈gJ L p,x∈gJ L q:=λx a=>by obtain⟨i,b,c⟩:=xM.1 a;exact xM.2 ⟨i,b,h i c⟩
end
section
open Go.Maps Go.RowKit Go.Proofs.Tryz
noncomputable def fK (n:Nat) (S:List Int):List Int:=((List.range n).map λi:Nat=>(i:Int)).filter λx=> !iX (x∈S)
def Gv(n:Nat)(S:List Int):fK (n+1) S=if iX ((n:Int)∈S) then fK n S else fK n S++[(n:Int)]:=by unfold fK;rw[dr_,sJ,P9];cases h:iX ((n:Int)∈S)<;>simp[h]
def xP(n:Nat)(S:List Int):(fK n S).length<=n:=by unfold fK;refine gT (PY _ _) ?_;simp
def gu{n:Nat}{S:List Int}{x:Int}:x∈fK n S↔0<=x/\x<(n:Int)/\x∉S:=by unfold fK;rw[qX,pY];constructor;(·rintro⟨⟨i,b,rfl⟩,a⟩;have:=Zj.1 b;refine⟨U,U,λh=>?_⟩;rw[P_ h]at a;cases a);·rintro⟨b,a,c⟩;exact⟨⟨x.toNat,Zj.2 U,U⟩,by rw[J_ c];rfl⟩
def tZ(n:Nat)(S:List Int):Inc (fK n S):=by unfold fK;refine cu_ _ ?_;rw[Zz];exact List.pairwise_lt_range.imp λh=>U
def uR(w:W_)(l:List Int)(e:E_)(w':W_):Prop:=G w w'/\∃v,e=.returned v/\w'.ownsRow w.heap.size 3 1 v l.length (l.map iV)
def Gw(A:Option Addr)(n c:Nat)(kv s ag:V_)(keep out:List Int)(w:W_)(t:SI w kv keep)(ah:SI w ag out)(a0:n<=100000)(aF:∀x∈keep,oG x)(aG:∀x∈out,oG x)(a4:keep.length<=1000000)(a5:out.length<=1000000):z 38 #[.agg #[.slice A n c,kv,s],ag] w (uR w (fK n (keep++out))):=by
 obtain⟨v,y,rfl,aH,aI,aJ⟩:=S1.form t;obtain⟨a1,a2,rfl,aK,aL,aM⟩:=S1.form ah;simp only[m_]at aI aL;obtain⟨f,H⟩:∃q,w.alloc (.cells #[.slice A n c,.slice v keep.length y,s] 56)=q:=⟨_,rfl⟩;obtain⟨r,P⟩:=e_ w.heap.size;obtain⟨b,T⟩:=e_ f.heap.size;(have am:G w f:=by rw[<-H];exact bA);(have W:f_ f r 56 #[.slice A n c,.slice v keep.length y,s]:=by rw[<-H,<-P];exact f_.new _ _ _);(have a7:r<b:=by rw[<-T,<-H,<-P];simp);have an:G w (f.alloc (.map #[] 0)):=L_ am _;have s1:N (f.alloc (.map #[] 0)) r 1 (.slice v keep.length y):=(W.alloc _).cell 1;(have ao:t_ (f.alloc (.map #[] 0)) K3 b 0 (kQ []):=by have:=t_.made f K3;rw[T]at this;exact this.congr λx _=>by unfold kQ;rw[u_ S]);have aN:= @run_makeMap prog;have ap:=O an;have aq:=O (W.alloc (.map #[] 0));have ar:=O ao;have au:w.heap.size<=b:=U;clear t ah am W an ao aH aK;obtain⟨a3,av⟩:=e_ (f.alloc (.map #[] 0));rw[av]at ap aq ar s1;obtain⟨aA,aO,aP,aQ,aR⟩:=qV BJ;go_in;go_wp2_with fail;clear H av T P s1 aN;go_loopw [15] (λi wr=>∃k:Nat,k<=keep.length/\i=.int .i64 (k:Int)/\Hid (t_ wr K3 b k (kQ (keep.take k)))/\Hid (G w wr)/\Hid (f_ wr r 56 #[.slice A n c,.slice v keep.length y,s])) (λi _=>keep.length-(intOf i).toNat);exact⟨0,gL _,rfl,ar,ap,aq⟩;obtain⟨k,t,rfl,l,a,h⟩:=hrel;by_cases I:k<keep.length;·obtain⟨b1,K,rfl,X,B⟩:=aJ U;obtain⟨x,d⟩:=get_some I;have aB:=(a.o.cell (p:=⟨b1,K+k,none⟩) X).trans (B k x d);have Z:=(aF x (gM d));have L:=O d;have r1:(0:Int)<=(k:Int):=U;have ai:(k:Int)<(keep.length:Int):=U;clear B d;go_wp2_with (at_mapUpdate;refine iO _ rfl _ _ _ 105 rfl 4 K3 underlying105 b k _ rfl l.o ?c1 x Z (.bool true) rfl rfl ?_);(case c1=>unfold m_;omega);intro aC m o;rw[nA,<-w_ L.o]at m;have aa:=O m;have ab:=O (a.o.grown o a.o.size (λg e=>by cases e;exact au));have ac:=O (h.o.grown o (by intro e;injection e with e;omega));clear m o;go_wp2;go_roundw;exact⟨k+1,U,R,aa,ab,ac⟩;exact M
 ·obtain rfl:k=keep.length:=by omega
  have aS:Hid (t_ wr K3 b (keep.length+0) (kQ (keep++out.take 0))):=O (by have:=l.o;rw[jh]at this;simpa using this);have aT:=a;have aU:=h;clear l a h;obtain⟨C,rfl⟩:∃C:W_,C=wr:=⟨_,rfl⟩;go_wp2;go_loopw [24] (λi wr=>∃k:Nat,k<=out.length/\i=.int .i64 (k:Int)/\Hid (t_ wr K3 b (keep.length+k) (kQ (keep++out.take k)))/\Hid (G w wr)/\Hid (f_ wr r 56 #[.slice A n c,.slice v keep.length y,s])) (λi _=>out.length-(intOf i).toNat);exact⟨0,gL _,rfl,aS,aT,aU⟩;obtain⟨k,t,rfl,l,a,h⟩:=hrel;by_cases I:k<out.length;·obtain⟨b1,K,rfl,X,B⟩:=aM U;obtain⟨x,d⟩:=get_some I;have aB:=(a.o.cell (p:=⟨b1,K+k,none⟩) X).trans (B k x d);have Z:=(aG x (gM d));have L:=O d;have r1:(0:Int)<=(k:Int):=U;have ai:(k:Int)<(out.length:Int):=U;clear B d;go_wp2_with (at_mapUpdate;refine iO _ rfl _ _ _ 105 rfl 4 K3 underlying105 b (keep.length+k) _ rfl l.o ?c1 x Z (.bool true) rfl rfl ?_);(case c1=>unfold m_;omega);intro aC m o;rw[nA,Ho,<-w_ L.o]at m;have aa:=O m;have ab:=O (a.o.grown o a.o.size (λg e=>by cases e;exact au));have ac:=O (h.o.grown o (by intro e;injection e with e;omega));clear m o;go_wp2;go_roundw;exact⟨k+1,U,R,aa,ab,ac⟩;exact M
  ·obtain rfl:k=out.length:=by omega
   have aV:t_ wr K3 b (keep.length+out.length) (kQ (keep++out)):=(by have:=l.o;rwa[jh]at this);have ad:=a;have a6:=h;have s0:N wr r 0 (.slice A n c):=h.o.cell 0;clear l a h;obtain⟨j,rfl⟩:∃C:W_,C=wr:=⟨_,rfl⟩;go_wp2_with fail;clear s0;go_loopw [4,35] (λu i wr=>∃k:Nat,k<=n/\i=.int .i64 (k:Int)/\j.heap.size<=wr.heap.size/\Hid (wr.ownsRow j.heap.size 3 1 u (fK k (keep++out)).length ((fK k (keep++out)).map iV))/\Hid (G j wr)) (λ_ i _=>n-(intOf i).toNat);exact⟨0,gL _,rfl,fU _,O (Ba _ _ _ _),O (fD _ _)⟩;obtain⟨k,t,rfl,aW,E,a⟩:=hrel;obtain⟨aj,ak,rfl⟩:=o_ E.o;by_cases I:k<n
   ·obtain⟨aD,ae⟩:=e_ (iX ((k:Int)∈keep++out))
    have aX:=sW (aV.up a.o) (uP (k:=k) U) ae;have aY:=xP k (keep++out);obtain⟨N,F⟩:=e_ ((fK k (keep++out)).length);rw[F]at aY;have ai:(k:Int)<(n:Int):=U;cases aD
    ·have aw:=(by have:=E.o;rw[F]at this;exact this:wr.ownsRow j.heap.size 3 1 (.slice aj N ak) N ((fK k (keep++out)).map iV))
     rw[F];go_wp2_with (at_builtin;refine Ih _ rfl _ _ 25 rfl j.heap.size 3 aA (.int .i64 0) 1 8 underlying25 aO aP aQ aR rfl D _ _ _ rfl (gB aw bA) ⟨wr.heap.size,0,none⟩ 1 1 [.int .i64 (k:Int)] rfl rfl ?c1 ?c2 ?c3 ?c4 ?c5 ?_);(case c1=>exact yV _ _ rfl _ _);(case c2=>intro u al;simp at al;subst al;rfl);(case c3=>simp only[m_];omega);(case c4=>omega);(case c5=>simp;omega);intro v5 w5 az ax _ _
     have af:Hid (w5.ownsRow j.heap.size 3 1 v5 (fK (k+1) (keep++out)).length ((fK (k+1) (keep++out)).map iV)):=O (by
      rw[Gv,ae,u_ S,lG,F,sJ]
      exact az)
     have ay:=O ((L_ a.o _).grown ax (by simp;omega) (λg aE=>(aw.lt g aE).1));have aZ:=ay.o.size;clear az ax aX;go_wp2;go_roundw;exact⟨k+1,U,R,aZ,af,ay⟩;exact M
    ·have af:Hid (wr.ownsRow j.heap.size 3 1 (.slice aj (fK k (keep++out)).length ak) (fK (k+1) (keep++out)).length ((fK (k+1) (keep++out)).map iV)):=O (by
      rw[Gv,ae,A_ rfl];exact E.o)
     go_wp2;go_roundw;exact⟨k+1,U,R,aW,af,a⟩;exact M
   ·(obtain rfl:k=n:=by omega);go_wp2;go_ret;exact⟨ad.o.trans (a.o.mono ad.o.size),_,rfl,jf E.o ad.o.size⟩
def VH{l:List Int}(h:Inc l)(n:Nat)(m:∀x∈l,0<=x):(l.filter λx=>decide (x<((n+1:Nat):Int)))=(l.filter λx=>decide (x<(n:Int)))++(if(n:Int)∈l then[(n:Int)] else[]):=by(have i:∀x,x∈(l.filter λx=>decide (x<(n:Int)))->x<(n:Int):=λx j=>by have:=(qX.1 j).2;simpa using this);(refine jY (h.filter _) ?_ λx=>?_);(·by_cases d:(n:Int)∈l;(·rw[A_ d];refine am_.2 ⟨h.filter _,Wy _ _,λa k b hb=>?_⟩;rw[gy.1 hb];exact i a k);·rw[u_ d,Zo];exact h.filter _);·rw[qX,gH,qX];by_cases d:(n:Int)∈l;(·rw[A_ d,gy];constructor;(·rintro⟨c,f⟩;have g:x<(n:Int)+1:=Q f;by_cases e:x=(n:Int);(·exact .inr e);·exact .inl ⟨c,by simp;omega⟩);·rintro(⟨c,f⟩|rfl);(·have g:x<(n:Int):=Q f;exact⟨c,by simp;omega⟩);·exact⟨d,by simp;omega⟩);·rw[u_ d];constructor;(·rintro⟨c,f⟩;have g:x<(n:Int)+1:=Q f;(have o:x≠(n:Int):=λe=>d (by rw[<-e];exact c));exact .inl ⟨c,by simp;omega⟩);·rintro(⟨c,f⟩|h);(·have g:x<(n:Int):=Q f;exact⟨c,by simp;omega⟩);·cases h
def rR(L:List Ax)(l:List Int):List Ax:=l.filterMap λi=>L[i.toNat]?
def RN{L:List Ax}{l:List Int}(h:fQ l L.length):rR L l=gJ L (wZ l):=by
 have key:∀n,n<=L.length->rR L (l.filter λx=>decide (x<(n:Int)))=gJ (L.take n) (wZ l):=by
  intro n
  induction n with
  |zero=>
   intro _;(have:(l.filter λx=>decide (x<((0:Nat):Int)))=[]:=by rw[List.filter_eq_nil_iff];intro x a;have:=(h.2 x a).1;simp;omega);rw[this];rfl
  |succ n c=>
   intro d;obtain⟨x,a⟩:∃x,L[n]?=some x:=⟨_,qY U⟩;rw[VH h.1 n λx a=>(h.2 x a).1,zi a,<-c U];unfold rR;rw[fo_];by_cases b:(n:Int)∈l;(·rw[A_ b,A_ (show wZ l n=true from P_ b)];simp[a]);·rw[u_ b,u_ (by rw[show wZ l n=false from J_ b];simp)];simp
 have:=key L.length (fU _);rw[jh]at this;rw[<-this];congr 1;rw[ge_.2];intro x a;have:=(h.2 x a).2;simpa using this
def RO{L:List Ax}{l:List Int}{k:Nat}{i:Int}{x:Ax}(h:l[k]?=some i)(a:L[i.toNat]?=some x):rR L (l.take (k+1))=rR L (l.take k)++[x]:=by unfold rR;rw[w_ h,fo_];simp[a]
def VI(L:List Ax)(l:List Int):(rR L l).length<=l.length:=fp_ _ _
def Er{l:List Int}{n:Nat}(h:fQ l n):l.length<=n:=by(have:=zW (a:=l) (b:=fK n []) h.1 λx c=>gu.2 ⟨(h.2 x c).1,(h.2 x c).2,S⟩);exact gT this (xP _ _)
def Yy{l:List Int}(h:Inc l){k:Nat}{x:Int}(a:l[k]?=some x):∀y∈l.drop (k+1),x<y:=λy c=>by have d:=(iR.1 a).1;have b:Inc (l.drop k):=h.sublist (gf_ _ _);rw[Hq d,(iR.1 a).2]at b;exact(Dz.1 b).1 y c
def afQ(W:W_)(a:Array V_)(x:Ax)(h:a.toList.length=16):Rd (W.alloc (.cells a 43)) OU 16 (.slice (some ⟨W.heap.size,0,none⟩) 1 1) [⟨(a.toList,x),h⟩]:=
 ⟨_,1,rfl,fU _,by simp[m_],λ_=>⟨_,0,rfl,S,λi y hi j z b=>by
   (obtain rfl:i=0:=by have:=(iR.1 hi).1;simp at this;omega);injection hi with hi;subst hi;have:=(f_.new W 43 a).cell (0+0*16+j);rw[show 0+0*16+j=j by omega]at this ⊢;rw[this,<-b]
   simp[OU]⟩⟩
def Yz(x:Ax)(b:Option Addr)(d:Nat)(e:Option Addr)(f:Nat)(g:Option Addr)(c:Nat):∀y∈[(⟨((gV x b d e f g c).toList,x),rfl⟩:CA)],∀u∈OU y,u.oneCell'=true:=λy h u a=>by rw[gy.1 h]at a;simp[OU,gV]at a;rcases a with rfl|rfl|rfl|rfl|rfl|rfl|rfl|rfl|rfl|rfl|rfl|rfl|rfl|rfl|rfl|rfl<;>rfl
def o8.base{a w:W_}{base b:Nat}{v:V_}{M:List Ax}(h:o8 a w base v M)(hb:b<=base):o8 a w b v M:=by obtain⟨l,e,c,d⟩:=h.row;exact⟨l,e,jf c hb,d⟩
def Gx(wz w:W_)(M:List Ax)(e:E_)(w':W_):Prop:=G w w'/\∃(A:Option Addr)(c:Nat),e=.returned (.tuple #[.agg #[.slice A M.length c],V 0])/\o8 wz w' w.heap.size (.slice A M.length c) M
def YA(L:List Ax)(v aG:V_)(l:List Int)(E w:W_)(ao:G E w)(h:lC E v L)(aH:kG w)(aI:∀x∈L,qR x)(aS:L.length<=100000)(aJ:fZ L=0)(hl:SI w aG l)(hi:fQ l L.length):z 37 #[.agg #[v],aG] w (Gx E w (gJ L (wZ l))):=by rw[<-RN hi];obtain⟨A,c,rfl,hc,bn,aK⟩:=h.form;obtain⟨b7,b8,rfl,bH,bI,aT⟩:=S1.form hl;simp only[m_]at bn bI;obtain⟨F,af⟩:=e_ ((w.alloc (.cells #[.slice A L.length c] 24)).alloc (.cells #[.slice none 0 0] 24));obtain⟨d,ap⟩:=e_ w.heap.size;(have aq:G w F:=by rw[<-af];exact L_ bA _);(have ay:f_ F d 24 #[.slice A L.length c]:=by rw[<-af,<-ap];exact(f_.new _ _ _).alloc _);(have aU:f_ F (d+1) 24 #[.slice none 0 0]:=by rw[<-af,<-ap];exact f_.newAt _ _ _ S);(have bJ:d+2<=F.heap.size:=by rw[<-af,<-ap];simp);have s2:N F d 0 (.slice A L.length c):=ay.cell 0;have az:=j4 L _ F (h.up (ao.trans (aq.mono ao.size))) (aH.up aq).a.s aI aS;rw[aJ]at az;have aV:=O az;have aW:=O ao;have bo:=O aK;have aX:=O aT;have ac:=O hi;have aY:=O aq;have ag:=O ay;have ar:=O aU;have bK:=O ap;obtain⟨bp,bL,bM,bN,bO⟩:=qV TQ;go_in;go_wp2_with (go_at_call 21;(with_reducible refine aV.o.mono ?_);rintro e H ⟨rfl,aZ⟩;have ah:=O aZ;clear aZ s2 aV);have aA:Hid (G w H):=O (b_ aY.o ah.o);have ag:Hid (f_ H d 24 #[.slice A L.length c]):=O (bk ah.o ag.o);have ar:Hid (f_ H (d+1) 24 #[.slice none 0 0]):=O (bk ah.o ar.o);have a6:d+2<=H.heap.size:=gT bJ ah.o.size;have ca:l.length<=100000:=gT (Er ac.o) aS;go_loopw [7,20] (λbq i wr=>∃(k:Nat)(z:Int),k<=l.length/\i=.int .i64 (k:Int)/\bq=.int .i64 z/\-1<=z/\Hid (∀x∈l.drop k,z<x)/\Hid (G H wr)) (λ_ i _=>l.length-(intOf i).toNat);exact⟨0,-1,gL _,rfl,rfl,U,O (λx n=>by have:=(ac.o.2 x (Q n)).1;omega),O (fD _ _)⟩;obtain⟨k,z,br,rfl,rfl,cb,aL,f⟩:=hrel;by_cases au:k<l.length;(·obtain⟨b,X,rfl,aB,ak⟩:=aX.o U;obtain⟨x,n⟩:=g_ au;have aM:N wr b (X+k) x:=((b_ aA.o f.o).cell (p:=⟨b,X+k,none⟩) aB).trans (ak k x n);have a7:x∈l:=gM n;have cc:=ac.o.2 x a7;have cd:z<x:=aL.o x (by rw[Hq au];have:=(iR.1 n).2;rw[this];simp);have s2:wr.cell? ⟨d,0,none⟩=some (.slice A L.length c):=(bk f.o ag.o).cell 0;have bs:Hid (∀y∈l.drop (k+1),x<y):=K_ (Yy ac.out.1 n);have r1:(0:Int)<=(k:Int):=U;have bt:(k:Int)<(l.length:Int):=U;(have q1:decide (x<=z)=false:=by simp;omega);(have q2:decide ((L.length:Int)<=x)=false:=by simp;omega);go_wp2;go_roundw;exact⟨k+1,x,U,R,rfl,U,bs,f⟩;exact M);·(obtain rfl:k=l.length:=by omega);have aC:Hid (B_ w.heap.size w wr):=K_ (b_ aA.out f.out);have bP:Hid (f_ wr d 24 #[.slice A L.length c]):=K_ (bk f.out ag.out);have bQ:Hid (f_ wr (d+1) 24 #[.slice none 0 0]):=K_ (bk f.out ar.out);have ce:d+2<=wr.heap.size:=gT a6 f.out.size;go_wp2_with fail;obtain⟨C,rfl⟩:∃bu:W_,bu=wr:=⟨_,rfl⟩;go_loopw [39] (λi wr=>∃(k:Nat)(u:V_),k<=l.length/\i=.int .i64 (k:Int)/\C.heap.size<=wr.heap.size/\Hid (o8 E wr C.heap.size u (rR L (l.take k)))/\Hid (f_ wr d 24 #[.slice A L.length c])/\Hid (f_ wr (d+1) 24 #[u])/\Hid (B_ w.heap.size w wr)) (λi _=>l.length-(intOf i).toNat);exact⟨0,_,gL _,rfl,fU _,K_ (o8.nil _ _ _),bP,bQ,aC⟩;obtain⟨k,u,br,rfl,cf,al,a8,q,f⟩:=hrel;by_cases au:k<l.length;(·obtain⟨aN,aO,rfl,aB,ak⟩:=aX.out U;obtain⟨i,hi⟩:=g_ au;have aM:wr.cell? ⟨aN,aO+k,none⟩=some (.int .i64 i):=(f.o.cell (p:=⟨aN,aO+k,none⟩) aB).trans (ak k i hi);have cg:=ac.out.2 i (gM hi);obtain⟨j,rfl⟩:∃j:Nat,i=(j:Int):=⟨i.toNat,U⟩;obtain⟨b,X,rfl,b1,bm⟩:=bo.out U;obtain⟨x,n⟩:∃x,L[j]?=some x:=⟨_,qY U⟩;obtain⟨b9,a',ba⟩:=bm j x n;obtain⟨Z,aa,I,K,P,T,bb,a0,a1,a2,a3,a4,a5,bv,bw,bx,a9,bz,ab,bB,bC,bD,bE⟩:=zZ a' ba b1 (aW.out.trans (f.out.mono aW.out.size));have bR:=K_ bb;have bS:Hid (rR L (l.take (k+1))=rR L (l.take k)++[x]):=K_ (RO hi (Q n));obtain⟨r,t,rfl⟩:=al.out.form;obtain⟨N,ad⟩:=e_ ((rR L (l.take k)).length);(have ch:N<=100000:=by have am:=VI L (l.take k);rw[ad]at am;simp at am;omega);obtain⟨aP,hl1,hl2,bc⟩:=al.out.row;(have bd:aP.length=N:=by rw[<-ad,<-hl1];simp);rw[bd,ad]at hl2;rw[ad]at q;have s2:wr.cell? ⟨d,0,none⟩=some (.slice (some ⟨b,X,none⟩) L.length c):=a8.out.cell 0;have aQ:wr.cell? ⟨d+1,0,none⟩=some (.slice r N t):=q.out.cell 0;have aR:wr.frozen? ⟨d+1,0,none⟩=false:=q.out.frozen 0;have aD:=K_ hl2;have bT:=K_ hl1;have bU:=K_ bc;have r1:(0:Int)<=(k:Int):=U;have bt:(k:Int)<(l.length:Int):=U;have b2:d<wr.heap.size:=U;have b3:d+1<wr.heap.size:=U;(have be:∀g,g<C.heap.size->some g≠(Value.slice r N t).ownBlock:=λg ae e=>by have:=(aD.out.lt g e.symm).1;omega);have av:=K_ be;(have bf:Hid (∀o W,((wr.alloc o).drew).grownBy W (Value.slice r N t).ownBlock->W.cell? ⟨d+1,0,none⟩=some (.slice r N t)/\W.frozen? ⟨d+1,0,none⟩=false):=K_ λo W ae=>⟨((q.out.alloc o).drew.grown ae (av.out _ U)).cell 0,((q.out.alloc o).drew.grown ae (av.out _ U)).frozen 0⟩);(have bV:N+1<=m_:=by simp only[m_];omega);go_wp2;go_region_law ((refine gX _ OU rfl (.tmp 44) (.tmp 50) 22 rfl C.heap.size 43 bp _ 16 216 underlying22 bL bM bN bO rfl D _ _ _ rfl (aD.o.alloc _).drew _ _ [⟨((gV x Z aa I K P T).toList,x),rfl⟩] OV rfl ((afQ wr (gV x Z aa I K P T) x rfl).up (fD _ _).drew) (Yz x Z aa I K P T) bV (by(simp only[zC];omega)) (by(simp;omega)) ?_;intro v4 m aF aw b4;obtain⟨B,c4,rfl⟩:=o_ aF;have bF:=(bf.o _ _ aw).1;have bG:=(bf.o _ _ aw).2;have bg:=O aF;have bh:=O aw;clear aF aw b4));all_goals clear bF bG;have ai:G wr ((wr.alloc (.cells (gV x Z aa I K P T) 43)).drew):=bA.drew;have aj:((wr.alloc (.cells (gV x Z aa I K P T) 43)).drew).grownBy m (Value.slice r N t).ownBlock:=bh.o;have bi:f_ m (d+1) 24 #[.slice r N t]:=(bk ai q.o).grown aj (av.o _ U);have bj:f_ m d 24 #[.slice (some ⟨b,X,none⟩) L.length c]:=(bk ai a8.o).grown aj (av.o _ U);have bl:G w m:=(b_ f.o ai).grown aj (by have:=f.o.size;simp;omega) (λg ae=>by have am:=(aD.o.lt g ae).1;have:=aC.o.size;omega);(have aE:o8 E m C.heap.size (.slice B (N+1) c4) (rR L (l.take (k+1))):=by rw[bS.o];refine⟨aP++[⟨((gV x Z aa I K P T).toList,x),rfl⟩],by rw[sJ,bT.o];rfl,?_,λc hc=>?_⟩;(·rw[lG,WK,bd];exact bg.o);·rcases gH.1 hc with hc|hc;(·exact bU.o c hc);·rw[gy.1 hc];exact bR.o.rda);(have b5:C.heap.size<=m.heap.size:=by have am:=ai.size;have b':=aj.size;omega);have bW:Hid (o8 E (m.setCell ⟨d+1,0,none⟩ (.slice B (N+1) c4)) C.heap.size (.slice B (N+1) c4) (rR L (l.take (k+1)))):=O (aE.kept (iU m ⟨d+1,0,none⟩ _) (by rcases e:(Value.slice B (N+1) c4).ownBlock with _|g;exact .inl rfl;exact .inr (λax=>by have:=(aE.lt g e).1;injection ax with ax;simp only at ax;omega)));have bX:Hid (f_ (m.setCell ⟨d+1,0,none⟩ (.slice B (N+1) c4)) d 24 #[.slice (some ⟨b,X,none⟩) L.length c]):=O (bj.keep (D8 _ _ _ _ S));have bY:Hid (f_ (m.setCell ⟨d+1,0,none⟩ (.slice B (N+1) c4)) (d+1) 24 #[.slice B (N+1) c4]):=O (bi.iK 0 _);have bZ:Hid (G w (m.setCell ⟨d+1,0,none⟩ (.slice B (N+1) c4))):=O (P5 bl (p:=⟨d+1,0,none⟩) (by have:=bK.o;simp only;omega) _);have b6:C.heap.size<=(m.setCell ⟨d+1,0,none⟩ (.slice B (N+1) c4)).heap.size:=Q b5;go_wp2;go_roundw;exact⟨k+1,_,U,R,b6,bW,bX,bY,bZ⟩;exact M);·(obtain rfl:k=l.length:=by omega);have an:=al.o;rw[jh]at an;obtain⟨r,t,rfl⟩:=an.form;have aQ:N wr (d+1) 0 (.slice r (rR L l).length t):=q.o.cell 0;have aR:wr.frozen? ⟨d+1,0,none⟩=false:=q.o.frozen 0;have b0:=O an;go_wp2_with fail;rw[iN q.o rfl];refine qW (fF rfl _ _ rfl rfl (OW q.o)) rfl ⟨f.o,r,t,rfl,b0.o.base aC.o.size⟩
end
end Go.Proofs.YtjmbkfjklemmpaaGreatDoor
