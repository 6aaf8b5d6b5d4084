import Derived.Lib.IndexBytes
import Derived.Lib.SplitLaws
import Derived.Test.YtjmbkfjklemmpaaGreatDoorJ20
set_option linter.all false
set_option maxRecDepth 100000
set_option maxHeartbeats 32000000
open Go renaming World->W_
namespace Go.Proofs.YtjmbkfjklemmpaaGreatDoor
open Go.Maps Go.RowKit Tryz
def rO(S:List Pc):ES:=⟨S.flatMap λx=>(iG x).map λk=>(k,x),S.flatMap λx=>if x.kind=7 then[x.R] else[],[],[],[],[],[],[],[],[],[]⟩
def Yi(S:List Pc)(x:Pc):Vq (rO S) x=rO (S++[x]):=by simp[Vq,rO]
def Vr(x:Pc):(iG x).length<=2:=by unfold iG;(repeat' split);all_goals simp
def Mk(S:List Pc):(rO S).pu.length<=2*S.length/\(rO S).lp.length<=S.length:=by
 induction S with
 |nil=>simp[rO]
 |cons a l d=>
  have b:(rO (a::l)).pu=(iG a).map (λk=>(k,a))++(rO l).pu:=rfl;have c:(rO (a::l)).lp=(if a.kind=7 then[a.R] else[])++(rO l).lp:=rfl;have:=Vr a;rw[b,c,lG,lG,oD,p8];refine⟨U,?_⟩;split<;>simp<;>omega
def Rn{L:List Pc}{k:Nat}{p:Pc}(h:L[k]?=some p):fT 0 [] (L.take (k+1))=if h_ 0 p∈fT 0 [] (L.take k) then fT 0 [] (L.take k) else fT 0 [] (L.take k)++[h_ 0 p]:=by obtain⟨a,b⟩:=iR.1 h;rw[Ht a,b,kK];rfl
def OB(n:Int):∀(L d:List Pc)(x:Pc),x∈fT n d L↔x∈d\/∃y∈L,h_ n y=x
 |[],d,x=>by simp[fT]
 |a::L,d,x=>by
  have:fT n d (a::L)=fT n (if h_ n a∈d then d else d++[h_ n a]) L:=rfl;rw[this,OB n L];by_cases h:h_ n a∈d;(·rw[A_ h];constructor;(·rintro(b|⟨y,c,e⟩);(·exact .inl b);·exact .inr ⟨y,by simp[c],e⟩);·rintro(b|⟨y,c,e⟩);(·exact .inl b);·rcases jU.1 c with rfl|c;(·exact .inl (by rw[<-e];exact h));·exact .inr ⟨y,c,e⟩);·rw[u_ h];constructor;(·rintro(b|⟨y,c,e⟩);(·rcases gH.1 b with b|b;(·exact .inl b);·exact .inr ⟨a,S,(gy.1 b).symm⟩);·exact .inr ⟨y,by simp[c],e⟩);·rintro(b|⟨y,c,e⟩);(·exact .inl (by simp[b]));·rcases jU.1 c with rfl|c;(·exact .inl (by simp[e]));·exact .inr ⟨y,c,e⟩
def Ml(w:W_)(L:List Pc)(e:Ending)(w':W_):Prop:=e=.returned (.pointer (some ⟨w.heap.size+9,0,none⟩))/\∃vf em,jm w' w.heap.size (λg=>w.heap.size<=g/\g<=w.heap.size+9) em vf (rO (fT 0 [] L))/\G w w'
def IB(L:List Pc)(v:Value)(w:W_)(h:Rd w jM 10 v L)(bp:∀p∈L,WC (h_ 0 p))(Z:∀p∈L,1<=p.kind/\p.kind<=9)(hl:L.length<=100000):z 140 #[v] w (Ml w L):=by
 obtain⟨A,c,rfl,hc,bJ,bK⟩:=h.form;obtain⟨B,bb⟩:=e_ w.heap.size;have bL:=O h;have b5:=O bp;have bM:=O Z;have b6:= @run_makeMap prog;clear h bp Z bK hc bJ;unfold Ml;rw[bb];have aF:w.heap.size=B:=bb;obtain⟨m,ab⟩:=e_ (w.alloc (.map #[] 0));(have aG:m.heap.size=B+1:=by rw[<-ab];simp[aF]);obtain⟨n,ac⟩:=e_ (m.alloc (.map #[] 0));(have aH:n.heap.size=B+2:=by rw[<-ac];simp[aG]);obtain⟨o,ad⟩:=e_ (n.alloc (.map #[] 0));(have aI:o.heap.size=B+3:=by rw[<-ad];simp[aH]);obtain⟨r,ae⟩:=e_ (o.alloc (.map #[] 0));(have aJ:r.heap.size=B+4:=by rw[<-ae];simp[aI]);obtain⟨s,af⟩:=e_ (r.alloc (.map #[] 0));(have aK:s.heap.size=B+5:=by rw[<-af];simp[aJ]);obtain⟨t,ag⟩:=e_ (s.alloc (.map #[] 0));(have aL:t.heap.size=B+6:=by rw[<-ag];simp[aK]);obtain⟨u,ah⟩:=e_ (t.alloc (.map #[] 0));(have aM:u.heap.size=B+7:=by rw[<-ah];simp[aL]);obtain⟨y,ai⟩:=e_ (u.alloc (.map #[] 0));(have aN:y.heap.size=B+8:=by rw[<-ai];simp[aM]);obtain⟨E,aj⟩:=e_ (y.alloc (.map #[] 0));(have aO:E.heap.size=B+9:=by rw[<-aj];simp[aN]);obtain⟨l,ao⟩:=e_ (E.alloc (.cells (Ap B .nilFunc (.slice none 0 0)) 224));(have a':l.heap.size=B+10:=by rw[<-ao];simp[aO]);obtain⟨d,ap⟩:=e_ (l.alloc (.map #[] 0));(have bH:d.heap.size=B+11:=by rw[<-ap];simp[a']);have bq:G d d:=fD _ _;(have aP:G l d:=by(have a:G l d:=by rw[<-ap];exact bA);exact a.trans (bq.mono a.size));(have ar:G E d:=by(have a:G E l:=by rw[<-ao];exact bA);exact a.trans (aP.mono a.size));(have au:G y d:=by(have a:G y E:=by rw[<-aj];exact bA);exact a.trans (ar.mono a.size));(have av:G u d:=by(have a:G u y:=by rw[<-ai];exact bA);exact a.trans (au.mono a.size));(have ax:G t d:=by(have a:G t u:=by rw[<-ah];exact bA);exact a.trans (av.mono a.size));(have ay:G s d:=by(have a:G s t:=by rw[<-ag];exact bA);exact a.trans (ax.mono a.size));(have az:G r d:=by(have a:G r s:=by rw[<-af];exact bA);exact a.trans (ay.mono a.size));(have q3:G o d:=by(have a:G o r:=by rw[<-ae];exact bA);exact a.trans (az.mono a.size));(have q2:G n d:=by(have a:G n o:=by rw[<-ad];exact bA);exact a.trans (q3.mono a.size));(have q1:G m d:=by(have a:G m n:=by rw[<-ac];exact bA);exact a.trans (q2.mono a.size));(have bc:G w d:=by(have a:G w m:=by rw[<-ab];exact bA);exact a.trans (q1.mono a.size));(have bd:t_ d KY (B+0) 0 (λ_=>none):=by have a:=t_.made w KY;rw[ab,aF]at a;exact a.up q1);(have m1:nQ d KF (B+1) 0 (λ_=>none):=by have a:=nQ.made m KF;rw[ac,aG]at a;exact a.pz (q2.block _ a.lt));(have be:t_ d KT (B+2) 0 (λ_=>none):=by have a:=t_.made n KT;rw[ad,aH]at a;exact a.up q3);(have m3:t_ d KT (B+3) 0 (λ_=>none):=by have a:=t_.made o KT;rw[ae,aI]at a;exact a.up az);(have m4:t_ d KS (B+4) 0 (λ_=>none):=by have a:=t_.made r KS;rw[af,aJ]at a;exact a.up ay);(have bf:t_ d KS (B+5) 0 (λ_=>none):=by have a:=t_.made s KS;rw[ag,aK]at a;exact a.up ax);(have bg:t_ d KS (B+6) 0 (λ_=>none):=by have a:=t_.made t KS;rw[ah,aL]at a;exact a.up av);(have bh:t_ d KS (B+7) 0 (λ_=>none):=by have a:=t_.made u KS;rw[ai,aM]at a;exact a.up au);(have bi:t_ d KF (B+8) 0 (λ_=>none):=by have a:=t_.made y KF;rw[aj,aN]at a;exact a.up ar);(have br:t_ d KP (B+10) 0 (λ_=>none):=by have a:=t_.made l KP;rw[ap,a']at a;exact a);(have bs:f_ d (B+9) 224 (Ap B .nilFunc (.slice none 0 0)):=by(have a:f_ l E.heap.size 224 (Ap B .nilFunc (.slice none 0 0)):=by rw[<-ao];exact f_.new _ _ _);rw[aO]at a;exact bk aP a);(have bI:jm d B (λg=>B<=g/\g<=B+9) .nilFunc (λ_=> .slice none 0 0) (rO []):=by refine⟨bs,?_,λj ce=>⟨U,U⟩,λg aA=>⟨aA.1,by rw[bH];omega⟩,⟨bd.congr λx _=>rfl,m1.congr λx _=>by simp[l9,rO],be.congr λx _=>rfl,m3.congr λx _=>rfl,m4.congr λx _=>rfl,bf.congr λx _=>rfl,bg.congr λx _=>rfl,bh.congr λx _=>rfl,bi.congr λx _=>by simp[l9,rO]⟩⟩;(have e:SC (rO [])=λ_=>[]:=by funext i;cases i<;>rfl);rw[e];exact RF.begin _ _ _ _ _);have bt:=O bI;have bu:Hid (t_ d KP (B+10) 0 (Ag (fT 0 [] (L.take 0)))):=O (br.congr λx _=>by simp[Ag,fT]);have bv:Hid (G w d):=O bc
 have bw:Hid (¬Yb (λg=>B<=g/\g<=B+9) (λ_=>Value.slice none 0 0) (B+10)):=O (by
  rintro(a|⟨i,hi⟩);·omega
  ·cases hi)
 have aB:=O aF;clear bq aP ar au av ax ay az q3 q2 q1 bc bd m1 be m3 m4 bf bg bh bi br bs bI;go_in;go_wp2_with fail;clear ab ac ad ae af ag ah ai aj ao ap aG aH aI aJ aK aL aM aN aO a' bH b6;(try clear m n o r s t u y E l);go_loopw [21] (λi wr=>∃(k:Nat)(vf:Slot->Value),k<=L.length/\i=.int .i64 (k:Int)/\Hid (jm wr B (λg=>B<=g/\g<=B+9) .nilFunc vf (rO (fT 0 [] (L.take k))))/\Hid (t_ wr KP (B+10) k (Ag (fT 0 [] (L.take k))))/\Hid (G w wr)/\Hid (¬Yb (λg=>B<=g/\g<=B+9) vf (B+10))) (λi _=>L.length-(intOf i).toNat);exact⟨0,_,gL _,rfl,bt,bu,bv,bw⟩;clear bt bu bv bw;obtain⟨k,vf,Z,rfl,aC,bj,aD,aa⟩:=hrel;by_cases b7:k<L.length
 ·obtain⟨p,I⟩:=g_ b7
  obtain⟨b,cg,rfl,hb,a0,a1,a2,a3,a4,a5,bN,bO,bP,a9⟩:=TA (bL.o.up aD.o) I;have r1:(0:Int)<=(k:Int):=U;have cf:(k:Int)<(L.length:Int):=U;obtain⟨F,aQ⟩:=e_ (wr.alloc (.cells (vP p) 146));(have W:f_ F wr.heap.size 146 (vP p):=by rw[<-aQ];exact f_.new _ _ _);(have aR:G wr F:=by rw[<-aQ];exact bA);have bx:¬Yb (λg=>B<=g/\g<=B+9) vf wr.heap.size:=aC.o.fresh (fU _);have bz:=bj.o.lt;obtain⟨f,aq⟩:=e_ wr.heap.size;have ba:Below f F (F.setCell ⟨f,9,none⟩ (.int .i64 0)):=(fD f F).setCell (show f<=(⟨f,9,none⟩:Addr).block from fU _) _;(have z9:F.frozen? ⟨f,9,none⟩=false:=by rw[<-aq];exact W.frozen 9);(have bQ:N F f 9 p.fA:=by rw[<-aq];exact W.cell 9);obtain⟨H,aS⟩:∃q,F.setCell ⟨f,9,none⟩ (.int .i64 0)=q:=⟨_,rfl⟩;rw[aS]at ba;rw[aq]at W bx aR bz;obtain⟨q,P⟩:=e_ (h_ 0 p);(have aT:f_ H f 146 (vP q):=by rw[<-aS,<-P];exact W.iK 9 _);have X:Below f wr H:=aR.trans ba;rw[<-aq]at X;have aU:=O (aC.o.up X);have ak:=O (bj.o.up X);have aV:=O (b_ aD.o X);obtain⟨S1,al⟩:=e_ (fT 0 [] (L.take k));rw[al]at aU ak;(have am:WC q:=by rw[<-P];exact b5.o p (gM I));have aW:Hid (fT 0 [] (L.take (k+1))=if q∈S1 then S1 else S1++[q]):=O (by rw[Rn I,al,P]);(have ch:S1.length<=k:=by rw[<-al];have:=(kW 0 [] (L.take k)).2;rw[qg,fg_ Z]at this;simpa using this);obtain⟨bl,aX⟩:=e_ (decide (q∈S1));have b8:(Instr.lookup 211 (.map (some (B+10))) (.agg #[q.kind,q.A,q.B,q.C,q.R,q.S,q.T,q.lo,q.hi,q.fA]) false).run prog H=.ok (.bool bl) H:=JE ak.o am aX;obtain⟨w5,bB,bC,an⟩:=(ak.o).put (K:=KP) underlying211 (by simp only[maxLen];omega) am (.bool true);have b9:(Instr.mapUpdate 211 (.map (some (B+10))) (.agg #[q.kind,q.A,q.B,q.C,q.R,q.S,q.T,q.lo,q.hi,q.fA]) (.bool true)).run prog H=.ok () w5:=bB;have cd:f≠B+10:=U;have bD:f_ w5 f 146 (vP q):=aT.grown an (by intro e;injection e with e;exact cd e);obtain⟨c0,c1,c2,c3,c4,c5,bR,bS,bT,bU⟩:=gZ aT;obtain⟨bV,bW,bX,bY,bZ,b0,b1,b2,b3,b4⟩:=gZ bD;have bE:=O (aU.o.grown an aa.o);have aY:Hid (t_ w5 KP (B+10) (k+1) (Ag (S1++[q]))):=O (by rw[<-JD];exact bC);have b':Hid (G w w5):=O (aV.o.grown an aV.o.size (λg aA=>by injection aA with e;have:=aB.o;omega));have aZ:=O (OA q (by rw[<-P];exact bM.o p (gM I)) w5 B _ .nilFunc vf _ bE.o am (by have:=(Mk S1).1;omega) (by have:=(Mk S1).2;omega));have a6:=O aX;unfold vP d_ at aZ;clear W aR bx bz ba P aT X al am aX bB bC an bD I;cases bl
  ·go_wp2_with (go_at_call 199;(with_reducible refine aZ.o.mono ?_);rintro e aE ⟨rfl,bF,bm,t6⟩)
   have a7:Hid (jm aE B (λg=>B<=g/\g<=B+9) .nilFunc bF (rO (fT 0 [] (L.take (k+1))))):=O (by
    rw[aW.o,u_ (by have:=a6.o;simpa using this),<-Yi];exact bm)
   have a8:Hid (t_ aE KP (B+10) (k+1) (Ag (fT 0 [] (L.take (k+1))))):=O (by
    rw[aW.o,u_ (by have:=a6.o;simpa using this)];exact aY.o.pz (t6.aw.block _ aY.o.lt aa.o))
   have ca:Hid (G w aE):=O (by
    have a:=bE.o.below t6;have bn:=aB.o;rw[bn];have bo:=b'.o;rw[bn]at bo
    exact bo.trans a)
   have cb:=O (t6.nx aY.o.lt aa.o);clear bm t6 aQ aS a0 a1 a2 a3 a4 a5 bN bO bP a9 c0 c1 c2 c3 c4 c5 bR bS bT bU bV bW bX bY bZ b0 b1 b2 b3 b4 b8 b9 z9 bQ aZ;go_wp2;go_roundw;exact⟨k+1,bF,U,R,a7,a8,ca,cb⟩;exact M
  ·go_wp2_with fail;(have bG:fT 0 [] (L.take (k+1))=S1:=by rw[aW.o,A_ (by have:=a6.o;simpa using this)]);have a7:Hid (jm H B (λg=>B<=g/\g<=B+9) .nilFunc vf (rO (fT 0 [] (L.take (k+1))))):=O (by rw[bG];exact aU.o);have a8:Hid (t_ H KP (B+10) (k+1) (Ag (fT 0 [] (L.take (k+1))))):=O (by rw[bG];exact ak.o.mono U);go_roundw;exact⟨k+1,vf,U,R,a7,a8,aV,aa⟩;exact M
 ·(obtain rfl:k=L.length:=by omega);have cc:Hid (jm wr B (λg=>B<=g/\g<=B+9) .nilFunc vf (rO (fT 0 [] L))):=O (by have:=aC.o;rwa[jh]at this);go_wp2;go_ret;exact⟨rfl,vf,.nilFunc,cc.o,by rw[<-aB.o];exact aD.o⟩
def acg(x:Ax):Prop:=∀(w:W_)(Al:Option Addr)(cl:Nat)(Ar:Option Addr)(cr:Nat)(As:Option Addr)(cs:Nat),X_ x=0->lJ w x Al cl Ar cr As cs->Om w->qR x-> z 177 #[.agg (gV x Al cl Ar cr As cs)] w (FY w x)
def Di{c:Cn}(h:r_ c=0):(I_ c).length<=20002:=by have:=Ae h;unfold I_;split;(·simp;omega);·omega
def aav(x:Ax)(k:x.kind=1):acg x:=by
 intro w Z aa ab ac aE aF aw aG a2 a3;have a4:=QX aw;have aI:G w (w.alloc (.cells (gV x Z aa ab ac aE aF) 43)):=bA;have ax:=O (jG x _ (w.alloc (.cells (gV x Z aa ab ac aE aF) 43)) (a2.up aI).s a3 (aG.up aI).av);rw[aw]at ax;have a5:rM x=0:=(by unfold rM;rw[aw,k];decide);have T:=(a4.l (by rw[k];rfl));have X:=(a4.r (by rw[k];rfl));have aJ:(iF x.left).length<=1024/\(fV x.left).length<=1024/\(j_ x.left).length<=20000/\(I_ x.left).length<=20002/\(iF x.right).length<=1024/\(fV x.right).length<=1024/\(j_ x.right).length<=20000/\(I_ x.right).length<=20002/\True:=⟨xL T,tT T,iD T,Di T,xL X,tT X,iD X,Di X,trivial⟩;have bn:yw x=[O_ (j_ x.left),O_ (j_ x.right)]++fV x.left++iF x.right:=(by unfold yw;rw[k];simp);have bo:yx x=[n_ (j_ x.left) (j_ x.right)]:=(by unfold yx;rw[k];simp);(have b1:(x.kind==1)=true:=by rw[k];decide);(have b2:(x.kind==2)=false:=by rw[k];decide);(have b3:(x.kind==3)=false:=by rw[k];decide);(have bE:(x.kind==4)=false:=by rw[k];decide);(have bF:(x.kind==8)=false:=by rw[k];decide);(have bG:(x.kind==9)=false:=by rw[k];decide);clear aw k a3 aI;(try unfold d_ at ax);go_in;go_wp2_with (go_at_call 65;with_reducible refine ax.o.mono ?_;rintro e c ⟨rfl,aK⟩);have d:=bk aK (f_.new w 43 (gV x Z aa ab ac aE aF));have bM:w.heap.size<c.heap.size:=d.lt;have bh:=O d;have an:G w c:=(b_ bA aK);have ay:Ad c:=(a2.up an).p;have aT:=O (aG.up an).l;unfold d_ at aT;have aU:=O (aG.up an).r;unfold d_ at aU;obtain⟨kp,g,bK,bp⟩:=Vg (-1) c;clear d aK ax;go_wp2_with (go_at_call 137;(with_reducible refine bp.mono ?_);rintro e aV ⟨rfl,a6,az⟩);obtain⟨fA,a7⟩:∃f:Int,f= -1:=⟨_,rfl⟩;obtain⟨v,hv⟩:∃u,u=Value.slice none 0 0:=⟨_,rfl⟩;obtain⟨i,aL⟩:∃a:List Pc,a=[]:=⟨_,rfl⟩;have aM:Col aV c.heap.size kp g v fA i:=(by rw[a7,hv,aL];exact a6);have hf: -1<=fA/\fA<=100000:=U;(have bH:i.length<=10000:=by rw[aL];simp);(have aj:¬Xc kp g v w.heap.size:=λh=>by have:=(aM.lt h).1;omega);obtain⟨aW,aX,aY,bq⟩:=FQ aV _ kp g v fA i aM;clear a6 hv;go_wp2_with (go_at_call 194;(with_reducible refine bq.mono ?_);rintro e b ⟨rfl,a8,aA⟩;have d:=bk (az.trans (aA.mono az.size)) bh.o;obtain⟨z0,C,z2,z3,z4,z5,n,o,t,z9,A,B,H,I,K,L⟩:=iH d);have bD:w.heap.size<b.heap.size:=d.lt;have ao:=O d;have aB:=(aM.up aA);have a9:kU kp g v b v b:=(.refl _ _ _ _);have ae:G c b:=(az.trans (aA.mono az.size));clear d aA bh;have bL:¬Xc kp g v w.heap.size:=a9.nx bD aj;(have a':∀W,G b W->z 196 #[.agg #[x.left.kind,x.left.name,x.left.lo,x.left.hi,.slice Z x.left.parts.length aa]] W λe w'=>e=.returned (j_ x.left)/\G b w':=λW E=>have ap:G c W:=ae.trans (E.mono ae.size);(Af x.left _ W ((aT.o).up ap) (LJ T) (ay.up ap) T).mono λe w' ⟨ad,al⟩=>⟨ad,E.trans (al.mono E.size)⟩);(have ba:∀W,G b W->z 196 #[.agg #[x.right.kind,x.right.name,x.right.lo,x.right.hi,.slice ab x.right.parts.length ac]] W λe w'=>e=.returned (j_ x.right)/\G b w':=λW E=>have ap:G c W:=ae.trans (E.mono ae.size);(Af x.right _ W ((aU.o).up ap) (LJ X) (ay.up ap) X).mono λe w' ⟨ad,al⟩=>⟨ad,E.trans (al.mono E.size)⟩);have j:N b w 2 x.left.kind/\N b w 3 x.left.name/\N b w 4 x.left.lo/\N b w 5 x.left.hi/\N b w 6 (.slice Z x.left.parts.length aa)/\N b w 7 x.right.kind/\N b w 8 x.right.name/\N b w 9 x.right.lo/\N b w 10 x.right.hi/\N b w 11 (.slice ab x.right.parts.length ac):=⟨z2,z3,z4,z5,n,o,t,z9,A,B⟩;(have aq:∀W,G b W->N W w 2 x.left.kind/\N W w 3 x.left.name/\N W w 4 x.left.lo/\N W w 5 x.left.hi/\N W w 6 (.slice Z x.left.parts.length aa)/\N W w 7 x.right.kind/\N W w 8 x.right.name/\N W w 9 x.right.lo/\N W w 10 x.right.hi/\N W w 11 (.slice ab x.right.parts.length ac):=λW y=>⟨cB j.1 y,cB j.2.1 y,cB j.2.2.1 y,cB j.2.2.2.1 y,cB j.2.2.2.2.1 y,cB j.2.2.2.2.2.1 y,cB j.2.2.2.2.2.2.1 y,cB j.2.2.2.2.2.2.2.1 y,cB j.2.2.2.2.2.2.2.2.1 y,cB j.2.2.2.2.2.2.2.2.2 y⟩);have bb:G b b.drew:=(fD _ _).drew;clear z0 C z2 z3 z4 z5 n o t z9 A B H I K L;go_wp2
 go_region_held3 (λW=>N W w 2 x.left.kind/\N W w 3 x.left.name/\N W w 4 x.left.lo/\N W w 5 x.left.hi/\N W w 6 (.slice Z x.left.parts.length aa)/\N W w 7 x.right.kind/\N W w 8 x.right.name/\N W w 9 x.right.lo/\N W w 10 x.right.hi/\N W w 11 (.slice ab x.right.parts.length ac))
  (first|with_reducible exact j|with_reducible exact s3|with_reducible exact s2|exact j)
  (first|(go_at_call 196;(with_reducible refine(a' _ aN.o).mono ?_);rintro e aZ ⟨rfl,af⟩;have s3:=aq _ af;have bc:=O af;clear af)|(go_at_call 196;(with_reducible refine(ba _ aN.o).mono ?_);rintro e aZ ⟨rfl,af⟩;have s3:=aq _ af;have bc:=O af;clear af)|(go_at_call 196;(with_reducible refine(a' _ bb).mono ?_);rintro e bm ⟨rfl,ag⟩;have s2:=aq _ ag;have aN:=O ag;clear ag)|(go_at_call 196;(with_reducible refine(ba _ bb).mono ?_);rintro e bm ⟨rfl,ag⟩;have s2:=aq _ ag;have aN:=O ag;clear ag)|fail)
 all_goals clear j aq s2 s3;obtain⟨q1,aO⟩:∃q,q=aZ:=⟨_,rfl⟩;obtain⟨aH,aP⟩:∃u,u=v:=⟨_,rfl⟩;(have ah:G b q1:=by rw[aO];exact bc.o);have br:Col q1 c.heap.size kp g aH fA (i):=(by rw[aP];exact aB.up ah);have aQ:kU kp g v b aH q1:=(by rw[aP];exact a9.then ah);have d:=aQ.blk ao.o aj;obtain⟨z0,C,z2,z3,z4,z5,n,o,t,z9,A,B,H,I,K,L⟩:=iH d;rw[<-aO];clear d ah aP aO;have ak:i.length<=90000:=U;have bs:=aJ;(have bd:Hid (∀W,G q1 W->z 232 #[.pointer (some ⟨kp,0,none⟩),.slice (some ⟨W.heap.size,0,none⟩) 2 2] (W.alloc (.cells #[(j_ x.left),(j_ x.right)] 9)) λe w'=>e=.returned (.tuple #[])/\∃v',Col w' c.heap.size kp g v' fA (fT fA (i) [O_ (j_ x.left),O_ (j_ x.right)])/\kU kp g aH q1 v' w'):=O λW E=>Ot br E (j_ x.left) (j_ x.right) U U hf ak);clear ak bs;go_wp2_with (go_at_call 232;(with_reducible refine(bd.o _ (fD _ _)).mono ?_);rintro e q2 ⟨rfl,v2,P,m⟩;clear z0 C z2 z3 z4 z5 n o t z9 A B H I K L bd;have bi:=aQ.trans m;have d:=bi.blk ao.o aj;obtain⟨z0,C,z2,z3,z4,z5,n,o,t,z9,A,B,H,I,K,L⟩:=iH d;clear d bi);have bt:Col q2 c.heap.size kp g v2 fA (fT fA i ([O_ (j_ x.left),O_ (j_ x.right)])):=(by exact P);have aC:kU kp g v b v2 q2:=(aQ.trans m);have bu:G c q2:=(ae.trans (aB.low aC));have bv:=(a8.to aC);clear P m;(have ak:(fT fA i ([O_ (j_ x.left),O_ (j_ x.right)])).length<=20000:=by have ad:=(kW fA i ([O_ (j_ x.left),O_ (j_ x.right)])).2;have al:=aJ;(try simp only[lG,zC,p8,MV]at ad);omega);have aR:=size_le T;have au:=(JK c kp g aW aX aY fA hf x.left T _ q2 v2 _ aT.o bu ay bt bv U);clear ak aR;go_wp2_with (go_at_call 243;(with_reducible refine au.mono ?_);rintro e q3 ⟨rfl,v3,P,m⟩;clear z0 C z2 z3 z4 z5 n o t z9 A B H I K L au;have bj:=aC.trans m;have d:=bj.blk ao.o aj;obtain⟨z0,C,z2,z3,z4,z5,n,o,t,z9,A,B,H,I,K,L⟩:=iH d;clear d bj);have bw:Col q3 c.heap.size kp g v3 fA (fT fA i ([O_ (j_ x.left),O_ (j_ x.right)]++fV x.left)):=(by rw[kK];exact P);have aD:kU kp g v b v3 q3:=(aC.trans m);have bx:G c q3:=(ae.trans (aB.low aD));have bz:=(a8.to aD);clear P m;(have ak:(fT fA i ([O_ (j_ x.left),O_ (j_ x.right)]++fV x.left)).length<=20000:=by have ad:=(kW fA i ([O_ (j_ x.left),O_ (j_ x.right)]++fV x.left)).2;have al:=aJ;(try simp only[lG,zC,p8,MV]at ad);omega);have aR:=size_le X;have au:=(Oe c kp g aW aX aY fA hf x.right X _ q3 v3 _ aU.o bx ay bw bz U);clear ak aR;go_wp2_with (go_at_call 242;(with_reducible refine au.mono ?_);rintro e am ⟨rfl,v4,P,m⟩;clear z0 C z2 z3 z4 z5 n o t z9 A B H I K L au;have bl:=aD.trans m;have d:=bl.blk ao.o aj;obtain⟨z0,C,z2,z3,z4,z5,n,o,t,z9,A,B,H,I,K,L⟩:=iH d;clear d bl);have aS:Col am c.heap.size kp g v4 fA (fT fA i ([O_ (j_ x.left),O_ (j_ x.right)]++fV x.left++iF x.right)):=(by rw[kK];exact P);have be:kU kp g v b v4 am:=(aD.trans m);have bf:G c am:=(ae.trans (aB.low be));clear P m;obtain⟨F,a0⟩:=e_ (n_ (j_ x.left) (j_ x.right));(have bg:∀W,z 231 #[(j_ x.left),(j_ x.right)] W λe w'=>e=.returned (.agg (mJ F))/\G W w':=λW=>by rw[<-a0];exact XT (j_ x.left) (j_ x.right) W);go_wp2_with (go_at_call 231;(with_reducible refine(bg _).mono ?_);rintro e ai ⟨rfl,ar⟩;clear z0 C z2 z3 z4 z5 n o t z9 A B H I K L bg;have ah:=be.blk ao.o aj;have g1:w.heap.size<ai.heap.size:=(bk ar ah).lt;have z0:ai.cell? ⟨w.heap.size,0,none⟩=_:=(bk ar ah).cell 0;have bI:ai.cell? ⟨kp,1,none⟩=_:=(aS.up ar).blk.cell 1;have bJ:kp<ai.heap.size:=(aS.up ar).blk.lt;clear ah);go_wp2;go_ret3;have a1:G am ai:=ar;have bB:=L_ (an.trans ((bf.trans (a1.mono bf.size)).mono an.size)) (.cells (mJ F) 148);refine⟨bB,_,_,by rw[a5];rfl,λh=>absurd a5 h,λ_=>⟨?_,?_⟩⟩;(·(have bC:lK x=fT fA i ([O_ (j_ x.left),O_ (j_ x.right)]++fV x.left++iF x.right):=by rw[Vi,bn,a7,aL]);rw[bC];exact qy mI U (aS.up (L_ a1 _)).row);·rw[bo,a0];exact aaj ai F
def fB:St->List St
 |[]=>[[]]
 |c::s=>if c=46 then[]::fB s else match fB s with
  |[]=>[[c]]
  |h::t=>(c::h)::t
def tV(s:St):fB s≠[]:=by
 cases s with
 |nil=>simp[fB]
 |cons c s=>
  unfold fB;split;(·simp);·split<;>simp
def qb:∀{s:St},(46:UInt8)∉s->fB s=[s]
 |[],_=>rfl
 |c::s,h=>by
  (have a:¬c=46:=λe=>h (by simp[e]));have b:=qb (s:=s) (λe=>h (by simp[e]));rw[fB,u_ a,b]
def ze:∀(a b:St),fB (a++46::b)=fB a++fB b
 |[],b=>by simp[fB]
 |c::a,b=>by
  have d:=ze a b;by_cases h:c=46;·simp only[IY,fB,A_ h,d]
  ·rw[IY,fB,u_ h,d,fB,u_ h]
   cases e:fB a with
   |nil=>exact absurd e (tV a)
   |cons x l=>rfl
def Ga:∀(k:Nat)(s:St),s.count 46=k->Lib.splitK [46] 0 k s=fB s
 |0,s,h=>by
  rw[qb (List.count_eq_zero.1 h)];rfl
 |k+1,s,h=>by
  have f:(46:UInt8)∈s:=List.count_pos_iff.1 U;(have hi:¬Lib.indexByte s 46= -1:=λe=>by obtain⟨j,a⟩:=Wz f;exact Lib.indexByte_none e j a);have q:=Lib.indexByte_ge s 46;obtain⟨i,d⟩:∃i:Nat,Lib.indexByte s 46=i:=⟨(Lib.indexByte s 46).toNat,U⟩;obtain⟨g,l⟩:=Lib.indexByte_some d;obtain⟨o,p⟩:=iR.1 g;(have b:s=s.take i++46::s.drop (i+1):=by conv=>lhs;rw[<-eb_ i s,Hq o,p]);(have c:(46:UInt8)∉s.take i:=λe=>by obtain⟨j,a⟩:=Wz e;rw[MW]at a;split at a;(·exact l j (by assumption) a);·cases a);(have hc:(s.drop (i+1)).count 46=k:=by rw[b,List.count_append,List.count_eq_zero.2 c,List.count_cons_self]at h;omega);rw[Lib.splitK,Lib.index_one,d,u_ S];have m:((i:Int).toNat+0)=i:=U;have n:((i:Int).toNat+([46]:St).length)=i+1:=S;rw[m,n,Ga k _ hc];(conv=>rhs;rw[b,ze,qb c]);rfl
def Mq{s:St}(h:mM s=true){c:UInt8}(hc:(iY c||c==95||(48<=c&&c<=57))=false):c∉s:=λa=>by have:=fa_.1 h c a;rw[hc]at this;cases this
def zf{s:St}(h:jJ s=true):mM s=true/\∃c t,s=c::t/\iY c=true:=by unfold jJ at h;split at h;(·cases h);·simp only[KJ]at h;exact⟨h.1.2,_,_,rfl,h.1.1⟩
def Mr:∀(s:St),(og s).2=none/\s=(og s).1\/∃b,(og s).2=some b/\s=(og s).1++58::b
 |[]=> .inl ⟨rfl,rfl⟩
 |c::s=>by
  by_cases h:c=58;(·subst h;exact .inr ⟨s,by simp[og],by simp[og]⟩);·rcases Mr s with⟨a,d⟩|⟨b,a,d⟩;(·exact .inl ⟨by simp[og,h,a],by simp[og,h,<-d]⟩);·exact .inr ⟨b,by simp[og,h,a],by simp only[og,u_ h,IY];rw[<-d]⟩
def Gb{s:St}(h:fE s=true):jJ (og s).1=true/\∀b,(og s).2=some b->jJ b=true:=by unfold fE at h;split at h;(·cases h);split at h;(·rename_i a e;rw[e];exact⟨h,λb e=>by cases e⟩);·rename_i a b e;rw[e];simp only[KJ]at h;exact⟨h.1,λc e=>by cases e;exact h.2⟩
def zh{s:St}(h:fq s=true):(46:UInt8)∉s:=by unfold fq at h;rcases Ug _ _ ▸ h with h|h;(·obtain⟨e,f⟩:=Gb h;have t1:=Mq (zf e).1 (c:=46) D;rcases Mr s with⟨d,a⟩|⟨b,d,a⟩;(·rw[a];exact t1);·have t2:=Mq (zf (f b d)).1 (c:=46) D;rw[a];simp[t1,t2]);·unfold iy at h;split at h;(·simp only[KJ]at h;exact Mq h.1.2 D);·cases h
def Vs{s:St}(h:fq s=true):∃c t,s=c::t/\c≠123/\c≠60:=by unfold fq at h;rcases Ug _ _ ▸ h with h|h;(·obtain⟨d,g⟩:=Gb h;obtain⟨_,c,t,e,hl⟩:=zf d;have hc:c≠123/\c≠60:=⟨λe=>by subst e;revert hl;decide,λe=>by subst e;revert hl;decide⟩;rcases Mr s with⟨f,a⟩|⟨b,f,a⟩;(·exact⟨c,t,a.trans e,hc⟩);·exact⟨c,t++58::b,by rw[a,e];rfl,hc⟩);·unfold iy at h;split at h;(·rename_i c _ _;simp only[KJ,Uh]at h;exact⟨_,_,rfl,by rw[h.1.1];decide,by rw[h.1.1];decide⟩);·cases h
def lU(s:St):Prop:=(fB s).length<=4/\∀r∈fB s,fq r=true
def jI(s:St):Prop:=s=jo\/s=iE\/(∃n,fq n=true/\s=lV n)\/(∃t:St,t≠[]/\t.length<=90000/\s=60::t++[62])\/fq s=true
def TH(k:Int):Bool:=decide (k=1\/k=2\/k=3\/k=4\/k=8)
def TI(k:Int):Bool:=decide (k=2)
def TJ(k:Int):Bool:=decide (k=1\/k=2\/k=3\/k=4\/k=9)
def Ro(k:Int):Bool:=decide (k=3\/k=4\/k=5\/k=6\/k=7\/k=8\/k=9)
def TL(k:Int):Bool:=decide (k=6)
def TM(k:Int):Bool:=decide (k=5\/k=6)
def JU(k:Int):Bool:=decide (k=8\/k=9)
structure DX(p:Pc):Prop where
 k:1<=p.kind/\p.kind<=9
 n:(JU p.kind=true-> -maxNum<=p.lo/\p.lo<=p.hi/\p.hi<=maxNum)/\(JU p.kind=false->p.lo=0/\p.hi=0)
 a:(TH p.kind=true->jI p.A)/\(TH p.kind=false->p.A=[])
 b:(TI p.kind=true->jI p.B)/\(TI p.kind=false->p.B=[])
 c:(TJ p.kind=true->jI p.C)/\(TJ p.kind=false->p.C=[])
 r:(Ro p.kind=true->lU p.R/\(JU p.kind=true->fq p.R=true))/\(Ro p.kind=false->p.R=[])
 s:(TL p.kind=true->lU p.S)/\(TL p.kind=false->p.S=[])
 t:(TM p.kind=true->lU p.T)/\(TM p.kind=false->p.T=[])
def Gc{s:St}(h:jI s):s.length<=100000:=by rcases h with rfl|rfl|⟨n,a,rfl⟩|⟨t,_,b,rfl⟩|h;(·decide);(·decide);(·have:=tQ a;simp[lV];omega);(·simp;omega);·have:=tQ h;omega
def Gd:∀(s:St)(m:Nat),(∀r∈fB s,r.length<=m)->s.length+1<=(m+1)*(fB s).length
 |[],m,_=>by simp[fB]
 |c::s,m,h=>by
  by_cases hc:c=46;·rw[fB,A_ hc]at h ⊢;(have:=Gd s m λr g=>h r (by simp[g]));simp only[p8,Nat.mul_add]at this ⊢;omega
  ·rw[fB,u_ hc]at h ⊢
   cases j:fB s with
   |nil=>exact absurd j (tV s)
   |cons a l=>
    rw[j]at h;have q:=h (c::a) S;simp only[p8]at q
    have key:∀(s:St)(a:St)(l:List St),fB s=a::l->(∀r∈l,r.length<=m)->s.length<=a.length+(m+1)*l.length:=by
     intro s
     induction s with
     |nil=>intro a l e _;simp[fB]at e;simp[e.1.symm]
     |cons d s o=>
      intro a l e hl;by_cases p:d=46
      ·rw[fB,A_ p]at e
       injection e with n i
       cases f:fB s with
       |nil=>exact absurd f (tV s)
       |cons b k=>
        have hb:=o b k f (λr g=>hl r (by rw[<-i,f];simp[g]));have t:=hl b (by rw[<-i,f];simp);rw[<-n,<-i,f];simp only[p8,MV,Nat.mul_add]at hb ⊢;omega
      ·rw[fB,u_ p]at e
       cases f:fB s with
       |nil=>exact absurd f (tV s)
       |cons b k=>
        rw[f]at e;injection e with n i;have hb:=o b k f (λr g=>hl r (by rw[<-i];exact g));rw[<-n,<-i];simp only[p8]at hb ⊢;omega
    (have:=key s a l j λr g=>h r (by simp[g]));simp only[p8,Nat.mul_add]at this ⊢;omega
def Gf{s:St}(h:lU s):s.length<=100000:=by(have:=Gd s 24 λr a=>tQ (h.2 r a));have b:=h.1;have:(24+1)*(fB s).length<=100:=U;omega
def oJ{s:St}(h:lU s):s≠[]:=λe=>by have:=h.2 [] (by rw[e];simp[fB]);revert this;decide
def kF{s:St}(h:fq s=true):lU s:=by unfold lU;rw[qb (zh h)];exact⟨S,λr a=>by rw[gy.1 a];exact h⟩
def Rp{a c:St}(b:jI a)(hc:jI c):DX (kP a c):=by constructor<;>simp[kP,JU,TH,TI,TJ,Ro,TL,TM]<;>assumption
def aec{a b c:St}(d:jI a)(hb:jI b)(hc:jI c):DX (vL a b c):=by constructor<;>simp[vL,JU,TH,TI,TJ,Ro,TL,TM]<;>assumption
def abm{a r c:St}(d:jI a)(b:fq r=true)(hc:jI c):DX (ng a r c):=by have:=kF b;constructor<;>simp[ng,JU,TH,TI,TJ,Ro,TL,TM]<;>assumption
def abn{r a c:St}(b:fq r=true)(d:jI a)(hc:jI c):DX (ni r a c):=by have:=kF b;constructor<;>simp[ni,JU,TH,TI,TJ,Ro,TL,TM]<;>assumption
def aed{r t:St}(a:lU r)(b:lU t):DX (rF r t):=by constructor<;>simp[rF,JU,TH,TI,TJ,Ro,TL,TM]<;>assumption
def Yj{r s t:St}(a:lU r)(b:lU s)(c:lU t):DX (jy r s t):=by constructor<;>simp[jy,JU,TH,TI,TJ,Ro,TL,TM]<;>assumption
def aee{r:St}(a:lU r):DX (oP r):=by constructor<;>simp[oP,JU,TH,TI,TJ,Ro,TL,TM]<;>assumption
def vIn{a r:St}{lo hi:Int}(c:jI a)(b:fq r=true)(d: -maxNum<=lo/\lo<=hi/\hi<=maxNum):DX (Tk a r lo hi):=by have:=kF b;constructor<;>simp[Tk,JU,TH,TI,TJ,Ro,TL,TM]<;>first|assumption|exact⟨this,b⟩
def afJ{r c:St}{lo hi:Int}(a:fq r=true)(hc:jI c)(b: -maxNum<=lo/\lo<=hi/\hi<=maxNum):DX (zU r lo hi c):=by have:=kF a;constructor<;>simp[zU,JU,TH,TI,TJ,Ro,TL,TM]<;>first|assumption|exact⟨this,a⟩
def Gg{c:Cn}(h:r_ c=0):(c.kind=3\/c.kind=6\/c.kind=7->fq c.name=true)/\(c.kind=4->fq c.name=true)/\(c.kind=7-> -maxNum<=c.lo/\c.lo<=c.hi/\c.hi<=maxNum):=by have b:=(jR h).own;unfold fI at b;split at b;(·cases b);split at b;(·cases b);split at b;(·cases b);rename_i f;split at b;(·rename_i a;refine⟨λd=>?_,λd=>?_,λd=>?_⟩;(·(have e:gY c.kind=1:=by unfold gY;rw[A_ d]);rw[e]at a;rcases a with a|a|a;(·cases a);(·unfold fq;rw[a];rfl);·exact absurd a.1 D);(·(have e:gY c.kind=2:=by unfold gY;rw[u_ U,A_ d]);rw[e]at a;unfold fq;rcases a with a|a|a;(·cases a);(·rw[a];rfl);·rw[a.2];simp);·simp only[not_or]at f;have:=f.1;simp only[not_and,not_or,gr_,d,true_implies]at this;omega);·cases b
def Yk{c a b:St}{l:List St}(h:c≠[]):mF c (a::b::l)≠[]:=by simp[mF,h]
def Yl{c:Cn}(h:r_ c=0)(g:5<=c.kind):jc c≠[]:=by
 have d:=gQ (jR h).own;obtain⟨k,n,lo,hi,ps⟩:=c;simp only[Cn.kind,Cn.parts]at *;unfold jc;rw[u_ U,u_ U,u_ U,u_ U];split
 ·rename_i e
  have f:=(d.2.2.2.1 e).1
  match ps,f with
  |a::b::l,_=>simp only[Qr];exact Yk S
 split<;>simp
def iw{c:Cn}(h:r_ c=0):jI (j_ c):=by have a:=Gg h;have b:=gQ (jR h).own;unfold j_ jI;split;(·exact .inl rfl);split;(·exact .inr (.inl rfl));split;(·rename_i e;exact .inr (.inr (.inr (.inr (a.1 (.inl e))))));split;(·rename_i e;exact .inr (.inr (.inl ⟨_,a.2.1 e,rfl⟩)));·exact .inr (.inr (.inr (.inl ⟨_,Yl h U,by have:=Ae h;omega,rfl⟩)))
def Rq:jI jo:= .inl rfl
def ach:jI iE:= .inr (.inl rfl)
def Rs{n:St}(h:fq n=true):jI (lV n):= .inr (.inr (.inl ⟨n,h,rfl⟩))
def Ms{c:Cn}(h:r_ c=0)(hl:0<c.parts.length):jI (headA c.parts):=by obtain⟨p,a⟩:=g_ hl;rw[BM a];exact iw (iC h (gM a))
def TN{c:Cn}(h:r_ c=0)(b:c.kind=5):∀(k:Nat),k+1<=c.parts.length->∀p∈vO c.parts k,DX p
 |0,_=>λp a=>by simp[vO]at a
 |k+1,e=>λp a=>by
  obtain⟨q,d⟩:∃q,c.parts[k+1]?=some q:=⟨_,qY U⟩;rw[JG d]at a;rcases gH.1 a with a|a;(·exact TN h b k U p a);·rw[gy.1 a];refine aec ?_ (iw (iC h (gM d))) (iw (mP h b U U));unfold mh;split;(·exact Ms h U);·exact iw (mP h b U U)
def OC(c:Cn)(h:r_ c=0):∀p∈iF c,DX p:=by
 induction c using Cn.ind with
 |h c k=>
  have m:∀ps:List Cn,(∀q∈ps,q∈c.parts)->∀p∈iB ps,DX p:=by
   intro ps
   induction ps with
   |nil=>intro _ q d;simp[iB]at d
   |cons a l n=>
    intro b q d;simp only[iB,gH]at d;rcases d with d|d;(·exact k a (b a S) (iC h (b a S)) q d);·exact n (λp e=>b p (by simp[e])) q d
  (have hl:=m c.parts λ_ h=>h);have e:=gQ (jR h).own;have j:=Gg h;intro p b;by_cases f:c.kind=5;(·have:=(e.2.2.2.1 f).1;rw[JH f U]at b;rcases gH.1 b with b|b;(·exact hl p b);·exact TN h f _ U p b);by_cases g:c.kind=6;(·rw[FN g]at b;rcases gH.1 b with b|b;(·exact hl p b);·rw[gy.1 b];exact abn (j.1 (.inr (.inl g))) (Ms h (by have:=e.2.2.1 g;omega)) (iw h));by_cases i:c.kind=7;(·rw[CY i]at b;rw[gy.1 b];exact afJ (j.1 (.inr (.inr i))) (iw h) (j.2.2 i));·rw[Oc f g i]at b;cases b
def JV(c:Cn)(h:r_ c=0):∀p∈fV c,DX p:=by
 induction c using Cn.ind with
 |h c n=>
  have s:∀(ps:List Cn)(a:St),jI a->(∀q∈ps,q∈c.parts)->∀p∈iA a ps,DX p:=by
   intro ps a r
   induction ps with
   |nil=>intro _ q e;simp[iA]at e
   |cons d l m=>
    intro b q e;have g:=iC h (b d S);simp only[iA,jU,gH]at e;rcases e with e|e|e;(·rw[e];exact Rp r (iw g));(·exact n d (b d S) g q e);·exact m (λp f=>b p (by simp[f])) q e
  have t:∀(ps:List Cn),(∀q∈ps,q∈c.parts)->∀p∈lW ps,DX p:=by
   intro ps
   induction ps with
   |nil=>intro _ q e;simp[lW]at e
   |cons d l m=>
    intro b q e;have g:=iC h (b d S);simp only[lW,gH]at e;rcases e with e|e;(·exact n d (b d S) g q e);·exact m (λp f=>b p (by simp[f])) q e
  have f:=gQ (jR h).own;have k:=Gg h;intro p b;by_cases o:c.kind=5;(·rw[FP o]at b;exact s _ _ (iw h) (λ_ h=>h) p b);by_cases i:c.kind=6;(·rw[C8 i]at b;rcases jU.1 b with b|b;(·rw[b];exact abm (iw h) (k.1 (.inr (.inl i))) (Ms h (by have:=f.2.2.1 i;omega)));·exact t _ (λ_ h=>h) p b);by_cases j:c.kind=7;(·rw[Aj j]at b;rw[gy.1 b];exact vIn (iw h) (k.1 (.inr (.inr j))) (k.2.2 j));·rw[JI o i j]at b;cases b
structure afK(x:Ax):Prop where
 role:mY x.kind=true->fq x.role=true
 a:uA x.kind=true->fq x.a=true
 b:uB x.kind=true->fq x.b=true
 rs:∀s∈x.roles,fq s=true
def Gh{s:St}(h:fE s=true):fq s=true:=by unfold fq;rw[h];rfl
def afL{x:Ax}(h:X_ x=0):afK x:=by unfold X_ at h;by_cases a:iM x=false;(·rw[A_ a]at h;cases h);rw[u_ a]at h;by_cases c:oZ x=false;(·rw[A_ c]at h;cases h);have b:oZ x=true:=Q c;unfold oZ at b;simp only[KJ,Ug,Bool.not_eq_true']at b;obtain⟨⟨⟨mr,ma⟩,d⟩,ms⟩:=b;refine⟨λu=>?_,λu=>?_,λu=>?_,λs a=>Gh (fa_.1 ms s a)⟩;(·rcases mr with m|m;(·rw[u]at m;cases m);·exact Gh m);(·rcases ma with m|m;(·rw[u]at m;cases m);·exact m);·rcases d with m|m;(·rw[u]at m;cases m);·exact m
def JW{t:St}(d:fq t=true):∀(l:List St)(f:St),lU f->(fB f).length+l.length<=4->(∀s∈l,fq s=true)->∀p∈om f t l,DX p
 |[],f,_,_,_=>λp a=>by simp[om]at a
 |[s],f,hf,_,hl=>λp a=>by
  simp only[om,gy]at a;rw[a];exact Yj hf (kF (hl s S)) (kF d)
 |s::r::l,f,hf,hn,hl=>λp a=>by
  have c:=hl s S;(have e:fB (f++46::s)=fB f++[s]:=by rw[ze,qb (zh c)]);(have g:lU (f++46::s):=by unfold lU;rw[e];refine⟨by simp at hn ⊢;omega,λx b=>?_⟩;rcases gH.1 b with b|b;(·exact hf.2 x b);·rw[gy.1 b];exact c);simp only[om,jU]at a;rcases a with a|a;(·rw[a];exact Yj hf (kF c) g);·exact JW d (r::l) _ g (by rw[e];simp at hn ⊢;omega) (λx b=>hl x (by simp at b ⊢;exact .inr b)) p a
def aci{x:Ax}(h:X_ x=0):∀p∈Bb x,DX p:=by
 have m:=QX h;have i:=afL h;(have L:=λc hc p d=>OC c hc p d);(have R:=λc hc p d=>JV c hc p d);intro p d;unfold Bb at d;have g:jP x.kind=true->r_ x.left=0:=m.l;have f:jN x.kind=true->r_ x.right=0:=m.r;split at d;(·rename_i e;have g:=g (by rw[e];rfl);have f:=f (by rw[e];rfl);simp only[gH,gy,gs_]at d;rcases d with d|d|d;(·exact L _ g p d);(·exact R _ f p d);·rw[d];exact Rp (iw g) (iw f));split at d;(·rename_i e;have g:=g (by rw[e];rfl);have f:=f (by rw[e];rfl);simp only[gH,gy,gs_]at d;rcases d with d|d|d|d|d|d;(·exact L _ g p d);(·exact R _ f p d);(·rw[d];exact Rp (iw g) (iw f));(·exact L _ f p d);(·exact R _ g p d);·rw[d];exact Rp (iw f) (iw g));split at d;(·rename_i e;have g:=g (by rw[e];rfl);have f:=f (by rw[e];rfl);simp only[gH,gy,gs_]at d;rcases d with d|d|d;(·exact L _ g p d);(·exact L _ f p d);·rw[d];exact aec (iw g) (iw f) ach);split at d;(·rename_i e;have f:=f (by rw[e];rfl);simp only[gH,gy]at d;rcases d with d|d;(·exact R _ f p d);·rw[d];exact abn (i.role (by rw[e];rfl)) Rq (iw f));split at d
 ·rename_i e
  rw[gy.1 d];refine aed (kF ?_) (kF (i.role (by rw[e];rfl)));have j:=m.n.1;rw[e]at j
  cases k:x.roles with
  |nil=>rw[k]at j;simp[jX]at j
  |cons a l=>exact i.rs a (by rw[k];simp)
 split at d
 ·rename_i e
  have j:=m.n;rw[e]at j
  cases k:x.roles with
  |nil=>rw[k]at j;simp[jX]at j
  |cons a l=>
   rw[k]at d j;have o:=i.rs a (by rw[k];simp);refine JW (i.role (by rw[e];rfl)) _ _ (kF o) ?_ (λs q=>i.rs s (by rw[k];exact ZJ _ q)) p d;show(fB a).length+l.length<=4;rw[qb (zh o)];have:=j.2;simp[mZ]at this ⊢;omega
 split at d;(·rename_i e;rw[gy.1 d];exact aee (kF (i.role (by rw[e];rfl))));split at d;(·rename_i e;have f:=f (by rw[e];rfl);simp only[gH,gy]at d;rcases d with d|d;(·exact R _ f p d);·rw[d];exact Rp (Rs (i.a (by rw[e];rfl))) (iw f));split at d;(·rename_i e;rw[gy.1 d];exact abm (Rs (i.a (by rw[e];rfl))) (i.role (by rw[e];rfl)) (Rs (i.b (by rw[e];rfl))));·cases d
def Ym{x:Ax}(b:x.kind=1)(h:X_ x=0):∀p∈yw x,DX p:=by have e:=QX h;have c:=e.l (by rw[b];rfl);have d:=e.r (by rw[b];rfl);intro p a;unfold yw at a;rw[A_ b]at a;simp only[gH,jU,ZH,ZI,gs_]at a;rcases a with rfl|rfl|a|a;(·exact Rp (iw c) Rq);(·exact Rp (iw d) Rq);(·exact JV _ c p a);·exact OC _ d p a
def DX.small{p:Pc}(h:DX p):ZW p:=by(have d:∀{s:St},s=[]->s.length<=100000:=λe=>by rw[e];simp);refine⟨?_,?_,?_,?_,?_,?_,?_,?_⟩;(·cases e:TH p.kind;(·exact d (h.a.2 e));·exact Gc (h.a.1 e));(·cases e:TI p.kind;(·exact d (h.b.2 e));·exact Gc (h.b.1 e));(·cases e:TJ p.kind;(·exact d (h.c.2 e));·exact Gc (h.c.1 e));(·cases e:Ro p.kind;(·exact d (h.r.2 e));·exact Gf (h.r.1 e).1);(·cases e:TL p.kind;(·exact d (h.s.2 e));·exact Gf (h.s.1 e));(·cases e:TM p.kind;(·exact d (h.t.2 e));·exact Gf (h.t.1 e));(·cases e:JU p.kind;(·have:=h.n.2 e;rw[this.1];omega);·have:=h.n.1 e;rw[jr]at this;omega);·cases e:JU p.kind;(·have:=h.n.2 e;rw[this.2];omega);·have:=h.n.1 e;rw[jr]at this;omega
def DX.canon{p:Pc}(h:DX p):Canon (h_ 0 p):=by obtain⟨k,A,B,C,R,S,T,lo,hi,fA⟩:=p;obtain⟨d,n,a,b,c,r,s,t⟩:=h;simp only at d n a b c r s t;rcases(show k=1\/k=2\/k=3\/k=4\/k=5\/k=6\/k=7\/k=8\/k=9 by omega) with rfl|rfl|rfl|rfl|rfl|rfl|rfl|rfl|rfl;(all_goals simp[JU,TH,TI,TJ,Ro,TL,TM]at n a b c r s t);(·exact .inl ⟨rfl,by simp[kP,h_,n,b,r,s,t]⟩);(·exact .inr (.inl ⟨rfl,by simp[vL,h_,n,r,s,t]⟩));(·exact .inr (.inr (.inl ⟨rfl,by simp[ng,h_,n,b,s,t],oJ r⟩)));(·exact .inr (.inr (.inr (.inl ⟨rfl,by simp[ni,h_,n,b,s,t],oJ r⟩))));(·exact .inr (.inr (.inr (.inr (.inl ⟨rfl,by simp[rF,h_,n,a,b,c,s],oJ r,oJ t⟩)))));(·exact .inr (.inr (.inr (.inr (.inr (.inl ⟨rfl,by simp[jy,h_,n,a,b,c],oJ r,oJ s,oJ t⟩))))));(·exact .inr (.inr (.inr (.inr (.inr (.inr (.inl ⟨rfl,by simp[oP,h_,n,a,b,c,s,t],oJ r⟩)))))));(·exact .inr (.inr (.inr (.inr (.inr (.inr (.inr (.inl ⟨rfl,by simp[Tk,h_,b,c,s,t],oJ r.1⟩))))))));·exact .inr (.inr (.inr (.inr (.inr (.inr (.inr (.inr ⟨rfl,by simp[zU,h_,a,b,s,t],oJ r.1⟩)))))))
structure IC(p:Pc):Prop where
 v:DX p
 f: -1<=p.fA/\p.fA<1024
def DX.fA{p:Pc}(h:DX p){n:Int}(d: -1<=n/\n<1024):IC (h_ n p):=⟨⟨h.k,h.n,h.a,h.b,h.c,h.r,h.s,h.t⟩,d⟩
def afM{P:List Pc}(h:∀p∈P,IC p):vM P:=by refine⟨λx ⟨y,f,e⟩=>by rw[<-e];exact(h y f).v.canon,λx ⟨y,f,e⟩=>?_,λx ⟨y,f,e⟩ g=>?_⟩;(·have d:=(h y f).v.small;rw[<-e];exact⟨d.a,d.b,d.c,d.r,d.s,d.t,d.lo,d.hi⟩);·have i:=(h y f).v.n.1;rw[<-e]at g ⊢;have:=i (by unfold JU;exact Dx g);show y.lo<=y.hi;omega
def Gi{l:List Pc}{p:Pc}(h:p∈qz l):p∈l:=by
 unfold qz at h
 have key:∀(l b:List Pc),p∈l.foldl (λb p=>if p∈b then b else b++[p]) b->p∈b\/p∈l:=by
  intro l
  induction l with
  |nil=>intro b h;exact .inl h
  |cons a l c=>
   intro b h;rw[fi_]at h;rcases c _ h with h|h;(·split at h;(·exact .inl h);·rcases gH.1 h with h|h;(·exact .inl h);·rw[gy.1 h];exact .inr S);·exact .inr (by simp[h])
 rcases key l [] h with h|h;(·cases h);·exact h
def Vt{L:List Ax}(h:∀x∈L,X_ x=0)(hl:L.length<=1024):∀p∈fu L,IC p:=λp b=>by obtain⟨i,x,a,z,c,rfl⟩:=nP.1 b;have:=(iR.1 a).1;exact(aci (h x (gM a)) z (Gi c)).fA U
def Vu{x:Ax}(b:x.kind=1)(h:X_ x=0):∀p∈lK x,IC p:=λp a=>by unfold lK at a;obtain⟨z,c,rfl⟩:=pY.1 a;exact(Ym b h z (Gi c)).fA U
def Vv(s:St):(Lib.splitB ⟨#[46]⟩ 0 (Lib.countB ⟨s.toArray⟩ ⟨#[46]⟩) ⟨s.toArray⟩).map Value.string=(fB s).map d_:=by have a:=Lib.splitB_data ⟨#[46]⟩ 0 (Lib.countB ⟨s.toArray⟩ ⟨#[46]⟩) ⟨s.toArray⟩;(have b:Lib.countB ⟨s.toArray⟩ ⟨#[46]⟩=s.count 46:=by show Lib.count s.toArray.toList [46]=_;rw[Lib.count_one]);have c:=Ga (s.count 46) s rfl;rw[b]at a ⊢;(have d:(Lib.splitB ⟨#[46]⟩ 0 (s.count 46) ⟨s.toArray⟩).map (·.data.toList)=fB s:=by rw[a];exact c);rw[<-d,SY];apply List.map_congr_left;intro x _;show Value.string x=Value.string ⟨x.data.toList.toArray⟩;simp
def Mt(s:St)(w:W_)(g:s.length<4294967281):z 314 #[s,.string ⟨#[46]⟩,V 0,V (-1)] w λe w'=>e=.returned (.slice (some ⟨w.heap.size,0,none⟩) (fB s).length (fB s).length)/\w'=w.alloc (.cells ((fB s).map d_).toArray 9):=by
 have L:=Tryz.KX;have d:=Lib.splitB_all ⟨#[46]⟩ D 0 _ ⟨s.toArray⟩ rfl;have f:=Vv s;(have hl2:(fB s).length=Lib.countB ⟨s.toArray⟩ ⟨#[46]⟩+1:=by have:=qQ List.length f;simp only[oD]at this;rw[<-this,d]);have j:=Lib.countB_le ⟨#[46]⟩ D _ ⟨s.toArray⟩ (fU _)
 have c:=Any.strings_genSplit_core L (by kernel_rfl) ⟨s.toArray⟩ ⟨#[46]⟩ 0 (-1) (Lib.countB ⟨s.toArray⟩ ⟨#[46]⟩+1) w (show s.toArray.size<4294967281 by rw[Zg];exact g) D (gL _)
  (λx c i=>by
   (refine(Any.strings_Index_one {L with} x 46 _).mono λe w' ⟨a,b⟩=>⟨?_,b⟩);rw[a];show _=Ending.returned (Value.int .i64 (Lib.index x.data.toList [46]))
   rw[Lib.index_one])
  (by
   (refine(Any.strings_Count_one {L with} ⟨s.toArray⟩ 46 w).mono λe w' ⟨a,b⟩=>⟨?_,b⟩);rw[a];show _=Ending.returned (Value.int .i64 ((Lib.count s.toArray.toList [46]:Nat):Int));rw[Lib.count_one]
   rfl)
  D D (by rw[A_ D];omega)
 rw[Nat.add_sub_cancel,d]at c;(have h:Lib.cellsOf (Lib.splitB ⟨#[46]⟩ 0 (Lib.countB ⟨s.toArray⟩ ⟨#[46]⟩) ⟨s.toArray⟩) (Lib.countB ⟨s.toArray⟩ ⟨#[46]⟩+1)=((fB s).map d_).toArray:=by rw[<-f];(conv=>lhs;rw[<-d]);exact Lib.cellsOf_full _);rw[h]at c;rw[hl2];exact c
def Vw(s:St)(w:W_)(a:s.length<4294967281):z 292 #[s,.string ⟨#[46]⟩] w λe w'=>e=.returned (.slice (some ⟨w.heap.size,0,none⟩) (fB s).length (fB s).length)/\w'=w.alloc (.cells ((fB s).map d_).toArray 9):=by have b:=(Mt s w a);clear a;go_in;go_wp2_with (go_at_call 314;(with_reducible refine b.mono ?_);rintro e c ⟨rfl,rfl⟩);go_ret;exact⟨rfl,rfl⟩
def uO(s:St)(w:W_)(c:s.length<=4611686018427387904):z 247 #[s] w λe w'=>e=.returned (fq s)/\G w w':=by
 have a:=O (rY s w c);clear c
 cases h:fq s with
 |true=>
  rw[h]at a;simp only[ZC]at a;clear h;go_in;go_wp2_with (go_at_call 168;with_reducible refine a.o.mono ?_;rintro e d ⟨rfl,b⟩);go_ret;exact⟨rfl,b⟩
 |false=>
  rw[h]at a;simp only[dz_,ZE]at a;clear h;go_in;go_wp2_with (go_at_call 168;with_reducible refine a.o.mono ?_;rintro e d ⟨rfl,b⟩);go_ret;exact⟨rfl,b⟩
def OD(s:St)(w:W_)(a:s.length<=4611686018427387904):z 294 #[s] w λe w'=>e=.returned (.bool (!fq s))/\G w w':=by have c:=(uO s w a);clear a;generalize fq s=b at *;go_in;go_wp2_with (go_at_call 247;with_reducible refine c.mono ?_;rintro e f ⟨rfl,d⟩);go_ret;exact⟨rfl,d⟩
def IE(l:List St)(m:∀s∈l,fq s=true)(v:Value)(w:W_)(h:lg w v l)(hl:∀s∈l,s.length<=1000000):z 315 #[v,.func (.func 294) #[] #[]] w λe w'=>e=.returned (V (-1))/\G w w':=by obtain⟨A,c,rfl,hc,g,_⟩:=S1.form h;have p:=gT hc g;simp only[maxLen]at p;clear hc g;go_in;go_wp2;go_loopw [8] (λi wr=>∃k:Nat,k<=l.length/\i=.int .i64 (k:Int)/\Hid (G w wr)) (λi _=>l.length-(intOf i).toNat);exact⟨0,gL _,rfl,O (fD _ _)⟩;obtain⟨k,t,rfl,f⟩:=hrel;by_cases q:k<l.length;(·obtain⟨s,a⟩:=g_ q;obtain⟨b,x,rfl,y,n⟩:=Da (S1.up h f.o) a;have d:=O (OD s wr (by have:=hl s (gM a);omega));rw[m s (gM a)]at d;simp only[Bool.not_true]at d;have r1:(0:Int)<=(k:Int):=U;have u:(k:Int)<(l.length:Int):=U;clear a;go_wp2_with fail;refine d.o.mono ?_;rintro e o ⟨rfl,j⟩;have r:Hid (G w o):=O (b_ f.o j);clear j n d;go_wp2;go_roundw;exact⟨k+1,U,R,r⟩;exact M);·(obtain rfl:k=l.length:=by omega);go_wp2;go_ret;exact⟨rfl,f.o⟩
def BP(l:List St)(a:∀s∈l,fq s=true)(v:Value)(w:W_)(h:lg w v l)(hl:∀s∈l,s.length<=1000000):z 293 #[v,.func (.func 294) #[] #[]] w λe w'=>e=.returned false/\G w w':=by have b:=(IE l a v w h hl);clear h a hl;go_in;go_wp2_with fail;refine b.mono ?_;rintro e d ⟨rfl,c⟩;go_wp2;go_ret;exact⟨rfl,c⟩
def Vx(s:St):∀r∈fB s,r.length<=s.length:=by
 induction s with
 |nil=>intro r b;simp[fB]at b;simp[b]
 |cons c s d=>
  intro r b;by_cases h:c=46;·rw[fB,A_ h]at b;rcases jU.1 b with b|b;(·rw[b];simp);·have:=d r b;simp;omega
  ·rw[fB,u_ h]at b
   cases e:fB s with
   |nil=>exact absurd e (tV s)
   |cons a l=>
    rw[e]at b d;rcases jU.1 b with b|b;(·have:=d a S;rw[b];simp;omega);·have:=d r (by simp[b]);simp;omega
def wV(s:St)(w:W_)(a:lU s)(d:s.length<=1000000):z 246 #[s] w λe w'=>e=.returned true/\G w w':=by obtain⟨b,c⟩:=e_ (w.alloc (.cells ((fB s).map d_).toArray 9));have h:Hid (z 292 #[s,.string ⟨#[46]⟩] w λe w'=>e=.returned (.slice (some ⟨w.heap.size,0,none⟩) (fB s).length (fB s).length)/\w'=b):=O (by rw[<-c];exact Vw s w U);(have j:G w b:=by rw[<-c];exact bA);(have i:lg b (.slice (some ⟨w.heap.size,0,none⟩) (fB s).length (fB s).length) (fB s):=by have:=S1.lit w w.heap.size rfl 9 ((fB s).map d_).toArray d_ (fB s) (fB s).length S S (by have:=a.1;simp only[maxLen];omega);rw[c]at this;exact this);have f:=O (BP (fB s) a.2 _ b i (λr k=>gT (Vx s r k) d));obtain⟨n,g⟩:=e_ ((fB s).length);have m:decide ((n:Int)<=4)=true:=Dx (by have:=a.1;omega);rw[g]at h f;clear c i a d g;go_in;go_wp2_with (first|(go_at_call 292;(with_reducible refine h.o.mono ?_);rintro e o ⟨rfl,rfl⟩)|(go_at_call 293;(with_reducible refine f.o.mono ?_);rintro e p ⟨rfl,l⟩));go_ret;exact⟨rfl,b_ j l⟩
def Rt(w:W_):z 248 #[.string ⟨#[42]⟩] w λe w'=>e=.returned true/\G w w':=by go_in;go_wp2;go_ret;exact⟨rfl,fD _ _⟩
def Ru(w:W_):z 248 #[.string ⟨#[33]⟩] w λe w'=>e=.returned true/\G w w':=by go_in;go_wp2;go_ret;exact⟨rfl,fD _ _⟩
def Rv(n:St)(w:W_)(c:fq n=true)(hl:n.length<=1000000):z 248 #[(lV n)] w λe w'=>e=.returned true/\G w w':=by obtain⟨s,a⟩:=e_ (lV n);(have b:s.length=n.length+2:=by rw[<-a];simp[lV]);(have g:∀h,(ByteArray.mk s.toArray)[0]'h=123:=by subst a;intro h;rfl);(have i:∀h,(ByteArray.mk s.toArray)[n.length+1]'h=125:=by subst a;intro h;show((lV n).toArray)[n.length+1]'h=125;simp[lV]);(have q1:(s==[42])=false:=by rw[KG];intro e;rw[e]at b;simp at b);(have q2:(s==[33])=false:=by rw[KG];intro e;rw[e]at b;simp at b);(have j:(ByteArray.mk s.toArray).extract 1 (n.length+1)=⟨n.toArray⟩:=by subst a;rw[Lib.extract_eq];simp[lV]);rw[a];(have d:=O λW=>uO n W U);rw[c]at d;(have l:(ByteArray.mk s.toArray).size=n.length+2:=by rw[<-b];simp[ByteArray.size]);clear c a;go_in;go_wp2_with (go_at_call 247;with_reducible refine(d.o _).mono ?_;rintro e k ⟨rfl,f⟩);go_ret;exact⟨rfl,f⟩
def Vy(t:St)(w:W_)(c:t≠[])(hl:t.length<=1000000):z 248 #[.string ⟨(60::t++[62]).toArray⟩] w λe w'=>e=.returned true/\G w w':=by obtain⟨s,a⟩:=e_ (60::t++[62]);have g:0<t.length:=en_.2 c;(have b:s.length=t.length+2:=by rw[<-a];simp);(have d:∀h,(ByteArray.mk s.toArray)[0]'h=60:=by subst a;intro h;rfl);(have f:∀h,(ByteArray.mk s.toArray)[t.length+1]'h=62:=by subst a;intro h;show((60::t++[62]).toArray)[t.length+1]'h=62;simp);(have q1:(s==[42])=false:=by rw[KG];intro e;rw[e]at b;simp at b);(have q2:(s==[33])=false:=by rw[KG];intro e;rw[e]at b;simp at b);rw[a];(have i:(ByteArray.mk s.toArray).size=t.length+2:=by rw[<-b];simp[ByteArray.size]);clear c a;go_in;go_wp2;go_ret;exact⟨rfl,fD _ _⟩
def OE(s:St)(w:W_)(d:fq s=true)(hl:s.length<=1000000)(q1:(s==[42])=false)(q2:(s==[33])=false):z 248 #[s] w λe w'=>e=.returned true/\G w w':=by obtain⟨c,t,f,k,l⟩:=Vs d;(have n:∀h,(ByteArray.mk s.toArray)[0]'h=c:=by subst f;intro h;rfl);(have m:s.length=t.length+1:=by rw[f];simp);(have u:(ByteArray.mk s.toArray).size=t.length+1:=by rw[<-m];simp[ByteArray.size]);(have o:((c.toNat:Int)==123)=false:=by rw[KG];intro e;exact k (gt_.1 (by have:(123:UInt8).toNat=123:=rfl;omega)));(have p:((c.toNat:Int)==60)=false:=by rw[KG];intro e;exact l (gt_.1 (by have:(60:UInt8).toNat=60:=rfl;omega)));(have b:=O λW=>uO s W U);rw[d]at b;clear d f k l;by_cases q:2<=t.length+1;(·by_cases r:3<=t.length+1;(·have g:decide ((2:Int)<=((t.length+1:Nat):Int))=true:=Dx U;have i:decide ((3:Int)<=((t.length+1:Nat):Int))=true:=Dx U;go_in;go_wp2_with (go_at_call 247;with_reducible refine(b.o _).mono ?_;rintro e j ⟨rfl,a⟩);go_ret;exact⟨rfl,a⟩);·have g:decide ((2:Int)<=((t.length+1:Nat):Int))=true:=Dx U;have i:decide ((3:Int)<=((t.length+1:Nat):Int))=false:=yR U;go_in;go_wp2_with (go_at_call 247;with_reducible refine(b.o _).mono ?_;rintro e j ⟨rfl,a⟩);go_ret;exact⟨rfl,a⟩);·have g:decide ((2:Int)<=((t.length+1:Nat):Int))=false:=yR U;have i:decide ((3:Int)<=((t.length+1:Nat):Int))=false:=yR U;go_in;go_wp2_with (go_at_call 247;with_reducible refine(b.o _).mono ?_;rintro e j ⟨rfl,a⟩);go_ret;exact⟨rfl,a⟩
def wW(s:St)(w:W_)(c:jI s)(hl:s.length<=1000000):z 248 #[s] w λe w'=>e=.returned true/\G w w':=by by_cases a:s=jo;(·rw[a];exact Rt w);by_cases b:s=iE;(·rw[b];exact Ru w);rcases c with h|h|⟨n,d,rfl⟩|⟨t,f,_,rfl⟩|h;(·exact absurd h a);(·exact absurd h b);(·exact Rv n w d (by simp[lV]at hl;omega));(·exact Vy t w f (by simp at hl;omega));·exact OE s w h hl (by rw[KG];exact a) (by rw[KG];exact b)
end Go.Proofs.YtjmbkfjklemmpaaGreatDoor
