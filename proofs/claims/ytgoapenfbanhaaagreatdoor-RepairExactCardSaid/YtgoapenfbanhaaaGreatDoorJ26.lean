import Derived.Test.YtgoapenfbanhaaaGreatDoorJ24
set_option linter.all false
set_option maxRecDepth 100000
set_option maxHeartbeats 32000000
open List renaming length->l_
open Go.Maps Go.RowKit Go.Proofs.Tryz
namespace Go.Proofs.YtgoapenfbanhaaaGreatDoor
variable{x:Ax}{L:List Ax}{r:List St}{k:Nat}{t:St}{w:World}
def kY(r:List St)(t:St):Nat->St
 |0=>r.headD []
 |k+1=>if k+2<l_ r then kY r t k++46::r.getD (k+1) [] else t
def lH(r:List St)(t:St)(k:Nat):List Pc:=(List.range k).map λj=>jV (kY r t j) (r.getD (j+1) []) (kY r t (j+1))
def QT(r:List St)(t:St)(k:Nat):lH r t (k+1)=lH r t k++[jV (kY r t k) (r.getD (k+1) []) (kY r t (k+1))]:=by unfold lH;rw[dl_,wO,List.map_singleton]
def UA(d:l_ t<=24)(b:∀s∈r,l_ s<=24)(k:Nat):l_ (kY r t k)<=25*(k+1):=by
 have c:∀i,l_ (r.getD i [])<=24:=λi=>by
  rw[R3]
  cases h:r[i]? with
  |none=>simp
  |some s=>exact b s (gV h)
 induction k with
 |zero=>
  show(r.headD []).length<=_
  cases r with
  |nil=>simp
  |cons a l=>have:=b a S;simp;omega
 |succ k e=>
  show(if k+2<l_ r then kY r t k++46::r.getD (k+1) [] else t).length<=_;split;(.have:=c (k+1);simp only[ny,p8];omega);.omega
def QU(r:List St)(t:St):∀(n j:Nat),l_ r=j+1+n->pG (kY r t j) t (r.drop (j+1))=(lH r t (j+n)).drop j:=by
 intro n
 induction n with
 |zero=>
  intro j h;rw[ex_ U];simp[pG,lH]
 |succ n f=>
  intro j h;have c:j+1<l_ r:=U;have e:=Jd c;(have hl:j<l_ (lH r t (j+(n+1))):=by simp[lH]);(have H:r.getD (j+1) []=r[j+1]:=by rw[R3,r9 c];rfl);have g:j+1+n=j+(n+1):=U;have hi:=f (j+1) U;rw[g]at hi;(have i:(lH r t (j+(n+1)))[j]=jV (kY r t j) r[j+1] (kY r t (j+1)):=by rw[<-H];simp[lH]);rw[Jd hl,i,<-hi,e];by_cases k:n=0;(.subst k;have a:r.drop (j+2)=[]:=ex_ U;(have b:kY r t (j+1)=t:=by show(if j+2<l_ r then _ else t)=t;rw[C_ U]);rw[a,b];rfl);·(have d:j+2<l_ r:=by omega);have a:=Jd d;(have b:kY r t (j+1)=kY r t j++46::r[j+1]:=by show(if j+2<l_ r then _ else t)=_;rw[P_ d,H]);rw[a,b];rfl
def H6(t:St)(h:0<l_ r):pG (r.headD []) t r.tail=lH r t (l_ r-1):=by have:=QU r t (l_ r-1) 0 U;simpa[kY]using this
def aaL(c:World)(z b:Nat)(n:Int)(hf: -1<=n/\n<=100000)(x:Ax)(d:x.K=6):aew c z b n x:=by
 intro w v o an ao ap aq aZ ar au aI J bb O a0;have P:=QG au;have aP:¬Xc z b v w.heap.size:=O.fresh (gH _);have aj:=P.n;rw[d]at aj;(have bc:2<=l_ x.H/\l_ x.H<=4:=by simp[kE,nZ]at aj;omega);have aQ:Hid (∀s∈x.H,l_ s<=24):=j_ P.rs;have aR:Hid (Ci x=lH x.H x.U (l_ x.H-1)):=j_ (by unfold Ci;rw[d,<-H6 x.U U];simp);have az:Hid (∀k,l_ (kY x.H x.U k)<=25*(k+1)):=j_ (UA P.U P.rs);obtain⟨a1,c2,aJ,bj,_,aA⟩:=S1.form aI.rs;injection aJ with aK _ aL;subst aK aL;obtain⟨bA,h,rfl,Y,aC⟩:=aA U;have bd:(1:Int)<=l_ x.H:=U;obtain⟨D,q⟩:=get_some (l:=x.H) (k:=0) U;have aS:Hid (c.cell? (a_ bA h)=some (.string ⟨D.toArray⟩)):=j_ (aC 0 D q)
 have aD:Hid (D=kY x.H x.U 0):=j_ (by
  show D=x.H.headD []
  cases av:x.H with
  |nil=>rw[av]at q;cases q
  |cons a l=>rw[av]at q;simp at q;simp[q])
 (have b1:(x.K==1)=false:=by rw[d];decide);(have b2:(x.K==2)=false:=by rw[d];decide);(have b3:(x.K==3)=false:=by rw[d];decide);(have a2:(x.K==4)=false:=by rw[d];decide);(have a3:(x.K==5)=false:=by rw[d];decide);(have a4:(x.K==6)=true:=by rw[d];decide);have r:=j_ (BI (w.alloc (.cells (fZ x an ao ap aq (a_ bA h) ar) 30)) _ z b v n o (O.up (X_ (fu _ _) _)));obtain⟨a5,a6,a7,r⟩:=r.out;have r:=j_ r;(try unfold d_ at r);go_in;go_wp2_with (go_at_call 183;(with_reducible refine r.out.mono ?_);rintro e j ⟨rfl,be,T⟩;have y:=bk T (f_.new w 30 (fZ x an ao ap aq (a_ bA h) ar));obtain⟨z0,F,z2,z3,z4,z5,H,I,K,z9,X,Z,aa,ab,ac,ad⟩:=N_ y;have aM:j.cell? (a_ bA h)=some (.string ⟨D.toArray⟩):=((J.trans ((b_ (X_ (fu _ _) _) T).mono J.size)).cell (p:=a_ bA h) Y).trans aS.out);have N:Below w w j:=b_ (X_ (fu _ _) _) T;have aT:=j_ y;have aE:=j_ (O.up N);have aU:Hid (mq z b v w v j):=j_ (.of N);have aV:Hid (mq z b v j v j):=j_ (.refl _ _ _ _);have aW:Hid (Below c c j):=j_ (J.trans (N.mono J.size));rw[aD.out];go_loopw [6,132] (λf i wr=>∃(k:Nat)(u:Value),k<=l_ x.H-1/\i=.int .i64 (k:Int)/\f=.string ⟨(kY x.H x.U k).toArray⟩/\Hid (Col wr c z b u n (gU n o (lH x.H x.U k)))/\Hid (mq z b v j u wr)) (λ_ i _=>l_ x.H-1-(intOf i).toNat);exact⟨0,v,gZ _,rfl,rfl,aE,aV⟩;obtain⟨k,u,bf,rfl,rfl,ak,A⟩:=hrel;by_cases bg:k<l_ x.H-1;(.obtain⟨s,L⟩:=get_some (l:=x.H) (k:=k+1) U;have aF:Hid (Below c c wr):=j_ (aW.out.trans (aE.out.low A.out));have aw:h+(k+1)=h+1+k:=U;(have ax:wr.cell? (a_ bA (h+1+k))=some (.string ⟨s.toArray⟩):=by rw[<-aw];exact(aF.out.cell (p:=a_ bA (h+(k+1))) Y).trans (aC (k+1) s L));have y:=A.out.blk aT.out aP;obtain⟨z0,F,z2,z3,z4,z5,H,I,K,z9,X,Z,aa,ab,ac,ad⟩:=N_ y;have aG:Hid (x.H.getD (k+1) []=s):=j_ (by rw[R3,L];rfl);have bh:=aQ.out s (gV L);have aX:=az.out k;have aY:=az.out (k+1);have G:=j_ (QT x.H x.U k);(have aH:l_ (gU n o (lH x.H x.U k))<=100000:=by have ay:=(mK n o (lH x.H x.U k)).2;(have m:l_ (lH x.H x.U k)=k:=by simp[lH]);omega);have t:Hid (kY x.H x.U (k+1)=if k+2<l_ x.H then kY x.H x.U k++46::x.H.getD (k+1) [] else x.U):=j_ rfl;obtain⟨f,al⟩:=e_ (kY x.H x.U k);obtain⟨g,Q⟩:=e_ (kY x.H x.U (k+1));rw[al]at aX G t;rw[al];rw[Q]at aY G t;rw[aG.out]at G t;(have ag:Hid (∀W,Below wr wr W->Calls prog 188 #[.pointer (a_ z 0),.slice (a_ W 0) 1 1] (W.alloc (.cells #[.int .i64 6,x_,x_,x_,.string ⟨f.toArray⟩,.string ⟨s.toArray⟩,.string ⟨g.toArray⟩,.int .i64 0,.int .i64 0,.int .i64 0] 150)) λe w'=>e=.returned (.tuple #[])/\∃v',Col w' c z b v' n (gU n (gU n o (lH x.H x.U k)) [jV f s g])/\mq z b u wr v' w'):=j_ λW aN=>add_one ak.out aN (jV f s g) (acN U U U) hf aH);(have ah:Hid (∀(w':World)(v':Value),Col w' c z b v' n (gU n (gU n o (lH x.H x.U k)) [jV f s g])->mq z b u wr v' w'-> Hid (Col w' c z b v' n (gU n o (lH x.H x.U (k+1))))/\Hid (mq z b v j v' w')):=j_ λw' v' ay m=>⟨j_ (by rw[G.out,mJ];exact ay),j_ (A.out.trans m)⟩);have r1:0<=(k:Int):=U;have a8:(k:Int)<((l_ x.H-1:Nat):Int):=U;have a9:(k:Int)<l_ x.H-1:=U;by_cases m:k+2<l_ x.H;(.have S:=y7 U;(have bi:((⟨f.toArray⟩:ByteArray)++⟨#[46]⟩++⟨s.toArray⟩)=⟨g.toArray⟩:=by have:=t.out;rw[P_ m]at this;rw[this];show((⟨f.toArray⟩++⟨[46].toArray⟩)++⟨s.toArray⟩:ByteArray)=_;rw[jO,jO];simp);have a':¬9223372036854775807<l_ f+1:=U;have ba:¬9223372036854775807<l_ f+1+l_ s:=U;go_wp2_with fail;refine(ag.out _ (fu _ _)).mono ?_;rintro e w5 ⟨rfl,V,B,C⟩;have E:=ah.out w5 V B C;go_wp2;go_roundw;exact⟨k+1,V,U,R,by rw[Q],E.1,E.2⟩;exact M);.have S:=sj U;(have aO:g=x.U:=by have:=t.out;rwa[C_ m]at this);subst aO;go_wp2_with fail;refine(ag.out _ (fu _ _)).mono ?_;rintro e w5 ⟨rfl,V,B,C⟩;have E:=ah.out w5 V B C;go_wp2;go_roundw;exact⟨k+1,V,U,R,by rw[Q],E.1,E.2⟩;exact M);·(obtain rfl:k=l_ x.H-1:=by omega);go_wp2;go_end0;exact⟨rfl,u,by rw[aR.out];exact ak.out,aU.out.trans A.out⟩
def Yh(a:World)(k b:Nat)(f:Int)(H: -1<=f/\f<=100000)(x:Ax):aew a k b f x:=by by_cases h:x.K=6;(.exact aaL a k b f H x h);.exact acP a k b f H x h
structure JR(w:World):Prop where
 s:xP w
 t:Tab w
def JR.up{w':World}(h:JR w)(hb:G w w'):JR w':=⟨h.s.up hb,h.t.up hb⟩
def JR.p(h:JR w):Bu w:=⟨h.s.n,h.t⟩
def kH.av{a b d:J_}{f g c:Nat}(h:kH w x a f b g d c):AV w (.agg (fZ x a f b g d c)) x:=⟨_,rfl,⟨_,_,_,rfl,by obtain⟨i,e,h⟩:=h.l;injection e with e;have:=iM Array.toList e;subst this;exact h,by obtain⟨i,e,h⟩:=h.r;injection e with e;have:=iM Array.toList e;subst this;exact h,h.rs⟩⟩
def LP(c:Cn):∀p∈iO c,p.fM=0:=by
 induction c using Cn.ind with
 |h c i=>
  have o:∀ps:List Cn,(∀p∈ps,∀q∈iO p,q.fM=0)->∀q∈iT ps,q.fM=0:=by
   intro ps
   induction ps with
   |nil=>intro _ q b;simp[iT]at b
   |cons a l e=>
    intro h q b;simp only[iT,iq]at b;rcases b with b|b;(.exact h a S q b);.exact e (λp j=>h p (by simp[j])) q b
  have hl:=o c.J i
  have m:∀(l d:List Cn)(f:St),∀q∈xA f d l,q.fM=0:=by
   intro l
   induction l with
   |nil=>intro d f q b;simp[xA]at b
   |cons a l e=>
    intro d f q b;simp only[xA,jL]at b;rcases b with rfl|b;(.rfl);.exact e _ _ q b
  obtain⟨k,n,l,g,ps⟩:=c;simp only[Cn.J]at hl;intro q b;simp only[iO]at b;split at b;(.rcases iq.1 b with b|b;(.exact hl q b);.cases ps with|nil=>simp at b|cons p r=>exact m r _ _ q b);split at b;(.rcases iq.1 b with b|b;(.exact hl q b);.rw[gW.1 b];rfl);split at b;(.rw[gW.1 b];rfl);.simp at b
def H7(c:Cn):∀p∈gL c,p.fM=0:=by
 induction c using Cn.ind with
 |h c f=>
  have j:∀(a:St)(ps:List Cn),(∀p∈ps,∀q∈gL p,q.fM=0)->(∀q∈iQ a ps,q.fM=0)/\∀q∈mU ps,q.fM=0:=by
   intro a ps
   induction ps with
   |nil=>intro _;exact⟨λq d=>by simp[iQ]at d,λq d=>by simp[mU]at d⟩
   |cons b l m=>
    intro h;(have e:=m λp i=>h p (by simp[i]));refine⟨λq d=>?_,λq d=>?_⟩;(.simp only[iQ,jL,iq]at d;rcases d with rfl|d|d;(.rfl);(.exact h b S q d);.exact e.1 q d);.simp only[mU,iq]at d;rcases d with d|d;(.exact h b S q d);.exact e.2 q d
  (have hl:=λa=>j a c.J f);obtain⟨k,n,l,g,ps⟩:=c;simp only[Cn.J]at hl;intro q d;simp only[gL]at d;split at d;(.exact(hl _).1 q d);split at d;(.rcases jL.1 d with rfl|d;(.rfl);.exact(hl []).2 q d);split at d;(.rw[gW.1 d];rfl);.simp at d
def H8(t:St):∀(l:List St)(f:St),∀p∈pG f t l,p.fM=0
 |[],f,p,h=>by simp[pG]at h
 |[s],f,p,h=>by simp only[pG,gW]at h;rw[h];rfl
 |s::r::l,f,p,h=>by
  simp only[pG,jL]at h;rcases h with rfl|h;(.rfl);.exact H8 t (r::l) _ p (Q h)
def acS(x:Ax):∀p∈Ci x,p.fM=0:=by intro p a;have L:=LP;have R:=H7;unfold Ci at a;(repeat' split at a);(all_goals try simp only[iq,gW,Vp,Vq]at a);(.rcases a with(h|h)|rfl;(.exact L _ p h);(.exact R _ p h);.rfl);(.rcases a with((((h|h)|rfl)|h)|h)|rfl;(.exact L _ p h);(.exact R _ p h);(.rfl);(.exact L _ p h);(.exact R _ p h);.rfl);(.rcases a with(h|h)|rfl;(.exact L _ p h);(.exact L _ p h);.rfl);(.rcases a with h|rfl;(.exact R _ p h);.rfl);(.rw[a];rfl);(.exact H8 _ _ _ p a);(.rw[a];rfl);(.rcases a with h|rfl;(.exact R _ p h);.rfl);.rw[a];rfl
def je(L:List Ax):Int:=if 1024<l_ L then 2 else if gG L≠0 then gG L else if 16384<l_ (fH L) then 2 else 0
def yg(n:Nat)(L M:List Ax):jl n (L++M)=jl n L++jl (n+l_ L) M:=by
 induction L generalizing n with
 |nil=>simp[jl]
 |cons x l a=>simp only[Ka,jl,a,p8,Kg];rw[show n+1+l_ l=n+(l_ l+1) by omega]
def NS(h:L[k]?=some x):fH (L.take (k+1))=fH (L.take k)++(rz (Ci x)).map (o_ k):=by obtain⟨a,b⟩:=jv.1 h;unfold fH;rw[Fh a,b,yg];simp[jl,fc_ (fd_ a)]
def Fa(L:List Ax)(k:Nat):l_ (fH (L.take k))<=l_ (fH L):=by(have:fH L=fH (L.take k)++jl (0+l_ (L.take k)) (L.drop k):=by unfold fH;rw[<-yg,dw_]);rw[this,ny];omega
def acT(h:Z_ x=0):l_ (Ci x)<=5000:=by have e:=QG h;(have f:∀k:Int,jB k=true->x.K=k->l_ (iO x.L)<=1024/\l_ (gL x.L)<=1024:=λk a b=>by have:=e.l (by rw[b];exact a);exact⟨BH this,xZ this⟩);(have c:∀k:Int,jk k=true->x.K=k->l_ (iO x.R)<=1024/\l_ (gL x.R)<=1024:=λk a b=>by have:=e.r (by rw[b];exact a);exact⟨BH this,xZ this⟩);unfold Ci;by_cases a:x.K=1;(.rw[P_ a];have:=f 1 rfl a;have:=c 1 rfl a;simp;omega);rw[C_ a];by_cases b:x.K=2;(.rw[P_ b];have:=f 2 rfl b;have:=c 2 rfl b;simp;omega);rw[C_ b];by_cases d:x.K=3;(.rw[P_ d];have:=f 3 rfl d;have:=c 3 rfl d;simp;omega);rw[C_ d];by_cases g:x.K=4;(.rw[P_ g];have:=c 4 rfl g;simp;omega);rw[C_ g];by_cases m:x.K=5;(.rw[P_ m];simp);rw[C_ m];by_cases i:x.K=6;(.rw[P_ i];have o:=e.n;rw[i]at o;simp[kE,nZ]at o;rw[H6 _ U];simp[lH];omega);rw[C_ i];by_cases p:x.K=7;(.rw[P_ p];simp);rw[C_ p];by_cases j:x.K=8;(.rw[P_ j];have:=c 8 rfl j;simp;omega);rw[C_ j];split<;>simp
def H9(l:List Pc):l_ (rz l)<=l_ l:=by
 have:=(mK 0 [] l).2
 have k:∀(l a:List Pc),l_ (l.foldl (λa p=>if p∈a then a else a++[p]) a)<=l_ a+l_ l:=by
  intro l
  induction l with
  |nil=>intro a;simp
  |cons p l b=>
   intro a;rw[fe_];have:=b (if p∈a then a else a++[p]);split at this<;>rename_i h;(.rw[P_ h];simp;omega);.rw[C_ h];simp at this ⊢;omega
 have:=k l [];simpa[rz]using this
def JU(h:gG L=0):∀x∈L,Z_ x=0:=oN h
def Ia(w:World)(L:List Ax)(e:Ending)(w':World):Prop:=G w w'/\∃v,e=.returned (.tuple #[v,(je L)])/\(je L≠0->v=.slice none 0 0)/\(je L=0->Rd w' kJ 10 v (fH L))
def UC(L:List Ax)(v:Value)(w:World)(h:lT w v L)(aV:JR w)(bj:∀x∈L,oZ x)(hl:l_ L<=1000000):z 86 #[v] w (Ia w L):=by
 obtain⟨A,c,rfl,hc,bl,aW⟩:=h.form;clear h hc bl;by_cases Z:1024<l_ L;(.have l:Hid (je L=2):=O (by unfold je;rw[P_ Z]);have hd:decide ((1024:Int)<l_ L)=true:=y7 U;clear Z;go_in;go_wp2;go_ret2;exact⟨fu _ _,_,by rw[l.o];rfl,λ_=>rfl,λh=>by rw[l.o]at h;cases h⟩);have hd:decide ((1024:Int)<l_ L)=false:=sj U;have aG:Hid (je L=if gG L≠0 then gG L else if 16384<l_ (fH L) then 2 else 0):=O (by unfold je;rw[C_ Z]);have bM:l_ L<=1024:=U;clear Z hl;go_in;go_wp2;go_loopw [2,15] (λaj i wr=>∃k:Nat,k<=l_ L/\i=.int .i64 (k:Int)/\aj=.slice none 0 0/\Hid (gG L=gG (L.drop k))/\Hid (G w wr)) (λ_ i _=>l_ L-(intOf i).toNat);exact⟨0,gZ _,rfl,rfl,O S,O (fu _ _)⟩;obtain⟨k,bm,rfl,rfl,l,f⟩:=hrel;by_cases aH:k<l_ L;.obtain⟨b,bv,rfl,aI,p⟩:=aW U;obtain⟨x,m⟩:=get_some aH;obtain⟨bn,P,T⟩:=p k x m;obtain⟨q,r,t,y,B,C,I,a0,a1,a2,a3,a4,a5,ak,al,am,a9,an,ab,ao,ap,aq,ar⟩:=wK P T aI f.o;have s:=O m;have au:=O I;have N:=Br m;have r1:0<=(k:Int):=U;have bo:(k:Int)<l_ L:=U;clear p P T m I;go_wp2_with (refine z_ rfl 30 _ _ rfl wr 30 _ (f_.new _ _ _) (fZ x q r t y B C) rfl rfl rfl gB (kI ..) ?_);intro a F W aJ;have H:Below wr wr a:=(X_ (fu _ _) _).grown W S (λj aw=>by injection aw with e;omega);have d:Hid (G w a):=O (b_ f.o H);have J:Hid (Y 42 #[.agg (fZ x q r t y B C)] a (Z_ x)):=O (jq x _ _ (aV.s.up d.o) (bj x (gV s.o)) (au.o.up d.o).av);obtain⟨z0,ax,z2,z3,z4,z5,ay,az,aA,z9,aK,aL,aM,aN,aO,aP⟩:=N_ F;clear F W aJ H a0 a1 a2 a3 a4 a5 ak al am a9 an ab ao ap aq ar f;by_cases E:Z_ x=0;(.have V:Hid (gG L=gG (L.drop (k+1))):=O (by rw[l.o,N,E];simp);rw[E]at J;clear N l;go_wp2_with (go_at_call 42;with_reducible refine J.o.mono ?_;rintro e aX ⟨rfl,ag⟩);have bw:Hid (G w aX):=O (b_ d.o ag);clear ag J z0 ax z2 z3 z4 z5 ay az aA z9 aK aL aM aN aO aP;go_roundw;exact⟨k+1,U,R,rfl,V,bw⟩;exact M);.have V:Hid (je L=Z_ x):=O (by rw[aG.o,l.o,N,P_ E,P_ E]);have F:(Z_ x !=0)=true:=Q E;clear N l;go_wp2_with (go_at_call 42;with_reducible refine J.o.mono ?_;rintro e aX ⟨rfl,ag⟩);go_ret2;exact⟨b_ d.o ag,_,by rw[V.o];rfl,λ_=>rfl,λh=>by rw[V.o]at h;exact absurd h E⟩
 .as_aux_lemma=>
  obtain rfl:k=l_ L:=U;have a7:Hid (gG L=0):=O (by have:=l.o;rw[R9]at this;exact this);have bh:Hid (je L=if 16384<l_ (fH L) then 2 else 0):=O (by rw[aG.o,a7.o];simp);have a8:=f;obtain⟨bp,bx,bz,bB,bC⟩:=qw Ho;clear f l aG;go_wp2;go_loopw [2,27] (λaj i wr=>∃(k:Nat)(aB:J_)(aC n:Nat),k<=l_ L/\i=.int .i64 (k:Int)/\aj=.slice aB n aC/\n<=16384/\Hid (n=l_ (fH (L.take k)))/\Hid (wr.ownsRow w 150 10 (.slice aB n aC) n ((fH (L.take k)).flatMap kJ))/\Hid (G w wr)) (λ_ i _=>l_ L-(intOf i).toNat);exact⟨0,none,0,0,gZ _,rfl,rfl,gZ _,O rfl,O (Ce _ _ _ _),a8⟩;clear a8;obtain⟨k,aB,aC,n,bm,rfl,rfl,bK,aD,aE,f⟩:=hrel;by_cases aH:k<l_ L
  .obtain⟨b,bv,rfl,aI,p⟩:=aW U
   obtain⟨x,m⟩:=get_some aH;obtain⟨bn,P,T⟩:=p k x m;obtain⟨q,r,t,y,B,C,I,a0,a1,a2,a3,a4,a5,ak,al,am,a9,an,ab,ao,ap,aq,ar⟩:=wK P T aI f.o;have s:=O m;have au:=O I;have r1:0<=(k:Int):=U;have bo:(k:Int)<l_ L:=U;clear p P T m I;go_wp2_with (refine z_ rfl 30 _ _ rfl wr 30 _ (f_.new _ _ _) (fZ x q r t y B C) rfl rfl rfl gB (kI ..) ?_);intro a F W aJ;have H:Below wr wr a:=(X_ (fu _ _) _).grown W S (λj aw=>by injection aw with e;omega);have d:Hid (G w a):=O (b_ f.o H);have bD:=O (gJ aE.o H);have bE:=O F;have a':=O (uM (k:Int) a);have aF:=JU a7.o x (gV s.o);(have aT:Hid (∀o,G a o->Col o a (a+1) a (.slice none 0 0) (k:Int) []->z 139 #[.pointer (a_ (a+1) 0),.agg (fZ x q r t y B C)] o (yN a (a+1) a (.slice none 0 0) (k:Int) [] (Ci x) o)):=O λo bq br=>Yh a (a+1) a (k:Int) U x o _ [] q r t y B C aF (au.o.up d.o) bq (aV.up d.o).p br S);have aQ:Hid (gU (k:Int) [] (Ci x)=(rz (Ci x)).map (o_ k)):=O (Hl _ _ (acS x));have bF:Hid (l_ (gU (k:Int) [] (Ci x))<=5000):=O (by rw[aQ.o,qm];exact gY (H9 _) (acT aF));have ba:=O (NS s.o);unfold fZ d_ at aT;clear F W aJ H aF a0 a1 a2 a3 a4 a5 ak al am a9 an ab ao ap aq ar f aE;go_wp2_with fail;refine a'.o.mono ?_;rintro e o ⟨rfl,bb,X⟩;have bc:=bk X bE.o;obtain⟨z0,ax,z2,z3,z4,z5,ay,az,aA,z9,aK,aL,aM,aN,aO,aP⟩:=N_ bc;have bI:=O (aT.o o X bb);clear bc aT a';have bN:l_ (gU (k:Int) [] (Ci x))<=5000:=bF.o;go_wp2_with (first|(at_builtin;refine gQ _ kJ rfl _ _ 144 rfl w 150 bp (.agg (vP ⟨0,[],[],[],[],[],[],0,0,0⟩)) 10 128 underlying144 bx bz bB bC rfl D _ _ _ rfl aR.o _ _ (gU (k:Int) [] (Ci x)) mM rfl bi.o (λx _ u bs=>xX x u bs) ?c1 ?c2 ?c3 ?_)|(go_at_call 139;(with_reducible refine bI.o.mono ?_);rintro e aY ⟨rfl,v4,ah,bd⟩;obtain⟨bL,c4,rfl⟩:=n_ ah.row;have ai:=O (bb.low bd);have aR:=O (gJ bD.o (X.trans ai.o));have bi:=O (nD mM U ah.row);have bt:aY.cell? (a_ (a+1) 1)=_:=ah.blk.cell 1;clear z0 ax z2 z3 z4 z5 ay az aA z9 aK aL aM aN aO aP bd ah));(case c1=>simp only[maxLen];omega);(case c2=>omega);(case c3=>exact(d.o.trans ((X.trans ai.o).mono d.o.size)).size);intro v5 w5 aU be bJ;obtain⟨A5,c5,rfl⟩:=n_ aU;have bG:Hid (w5.ownsRow w 150 10 (.slice A5 (n+l_ (gU (k:Int) [] (Ci x))) c5) (n+l_ (gU (k:Int) [] (Ci x))) ((fH (L.take (k+1))).flatMap kJ)):=O (by rw[ba.o,<-aQ.o,Zb];exact aU);have bf:Hid (n+l_ (gU (k:Int) [] (Ci x))=l_ (fH (L.take (k+1)))):=O (by rw[ba.o,<-aQ.o,ny,<-aD.o]);have aS:G w aY:=d.o.trans ((X.trans ai.o).mono d.o.size);have bg:Hid (G w w5):=O (aS.grown be aS.size (λg bu=>(aR.o.lt g bu).1));by_cases Z:16384<n+l_ (gU (k:Int) [] (Ci x))
   .have K:Hid (je L=2):=O (by
     have:=Fa L (k+1)
     rw[bh.o,P_ (by have:=bf.o;omega)])
    have hd2:decide ((16384:Int)<((n+l_ (gU (k:Int) [] (Ci x)):Nat):Int))=true:=y7 U;go_wp2;go_ret2;exact⟨bg.o,_,by rw[K.o];rfl,λ_=>rfl,λh=>by rw[K.o]at h;cases h⟩
   .have hd2:decide ((16384:Int)<((n+l_ (gU (k:Int) [] (Ci x)):Nat):Int))=false:=sj U;go_wp2;go_roundw;exact⟨k+1,A5,c5,_,U,R,rfl,U,bf,bG,bg⟩;exact M
  ·(obtain rfl:k=l_ L:=by omega);go_wp2;go_ret2;(have bH:¬16384<l_ (fH L):=by have:=aD.o;rw[jy]at this;omega);(have K:je L=0:=by rw[bh.o,C_ bH]);refine⟨f.o,_,by rw[K];rfl,λh=>absurd K h,λ_=>?_⟩;have aZ:=aE.o;have a6:=aD.o;rw[jy]at aZ a6;subst a6;exact nD mM U aZ



