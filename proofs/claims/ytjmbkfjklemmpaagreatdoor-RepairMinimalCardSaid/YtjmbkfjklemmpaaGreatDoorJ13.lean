import Derived.ArgAppend
import Derived.WalkMore
import Derived.Test.YtjmbkfjklemmpaaGreatDoorJ12
set_option linter.all false
set_option maxRecDepth 100000
set_option maxHeartbeats 32000000
namespace Go.Proofs.YtjmbkfjklemmpaaGreatDoor
section
open Go.Maps Go.RowKit Go.Sort Tryz
def Ef(E:List (List (Nat×Bool))):Nat->List (Nat×Bool):=λi=>E.getD i []
def QN{E:List (List (Nat×Bool))}{i:Nat}{l:List (Nat×Bool)}(h:E[i]?=some l):Ef E i=l:=by unfold Ef;rw[KH,h];rfl
def NZ(w:World)(E:List (List (Nat×Bool)))(n s most:Nat)(e:Ending)(w':World):Prop:=∃v,e=.returned v/\G w w'/\((v=.slice none 0 0/\∀k,k<most->¬nX (Ef E) s s true k)\/ (∃l:List Int,l≠[]/\SI w' v l/\(∀x∈l,0<=x/\x<(n:Int))/\l.length<=2*n+1/\∃k,nX (Ef E) s s true k))
def QO(E:List (List (Nat×Bool)))(n s most:Nat)(w:World)(B I:Option Addr)(C A:Nat)(bv:Zp w Zt 2 (.slice I n A) E)(cF:E.length=n)(bw:∀(i:Nat)(l:List (Nat×Bool))(t:Nat)(c:Bool),E[i]?=some l->(t,c)∈l->t<n)(aF:s<n)(cn:n<=1099511627776)(co:most<=2*n+1):z 81 #[.agg #[.slice B n C,.slice I n A],s,most] w (NZ w E n s most):=by
 obtain⟨bx,bR,cf,cg,ch⟩:=qV abR;obtain⟨is,bS,ci,cj,ck⟩:=qV abS;obtain⟨aT,a1,bq,br,bs⟩:=qV BJ;(have a2:∀W:World,(Instr.makeSlice 205 (.int .i64 (n:Int)) (.int .i64 (n:Int))).run prog W=.ok (.slice (some ⟨W.heap.size,0,none⟩) n n) (W.alloc (.cells (madeCells (Value.agg #[false,false]).cells (n*2)) 206)):=λW=>by have:=run_make (P:=prog) W 205 206 is _ underlying205 bS ci .i64 .i64 n n U (Int.le_refl _) (by rw[ck];omega) U;rw[cj]at this;simpa using this);obtain⟨X,bT,au⟩:∃X,(Instr.makeSlice 205 (.int .i64 (n:Int)) (.int .i64 (n:Int))).run prog ((w.alloc (.cells #[.slice B n C,.slice I n A] 135)).alloc (.cells #[s,false,V 0,V 0] 203))=.ok (.slice (some ⟨w.heap.size+1+1,0,none⟩) n n) X/\ X=((w.alloc (.cells #[.slice B n C,.slice I n A] 135)).alloc (.cells #[s,false,V 0,V 0] 203)).alloc (.cells (madeCells (Value.agg #[false,false]).cells (n*2)) 206):=⟨_,by rw[a2];simp,rfl⟩;(have a3:G w X:=by rw[au];exact L_ (L_ bA _) _);(have a4:f_ X w.heap.size 135 #[.slice B n C,.slice I n A]:=by rw[au];exact((f_.new _ _ _).alloc _).alloc _);(have aN:lQ X (w.heap.size+2) n (λ_ _=>false):=by have:=lQ.made (n:=n) ((w.alloc (.cells #[.slice B n C,.slice I n A] 135)).alloc (.cells #[s,false,V 0,V 0] 203)) (m:=n*2) rfl;rw[au];simpa using this);(have a5:X.ownsRow (w.heap.size+1) 203 4 (.slice (some ⟨w.heap.size+1,0,none⟩) 1 1) 1 ([(⟨s,false,0,0⟩:Way)].flatMap Zu):=by have:=World.ownsRow_lit (e:=203) (size:=4) (base:=w.heap.size+1) (w.alloc (.cells #[.slice B n C,.slice I n A] 135)) #[s,false,V 0,V 0] 1 S (by simp[maxLen]) rfl;rw[au];refine gB (W:=(w.alloc (.cells #[.slice B n C,.slice I n A] 135)).alloc (.cells #[s,false,V 0,V 0] 203)) ?_ bA;simpa[Zu]using this);obtain⟨c0,_,bz,_⟩:=aN.cell aF;have aO:=iU X ⟨w.heap.size+2,s*2,none⟩ (.bool true)
 have a6:Hid (q8 w (X.setCell ⟨w.heap.size+2,s*2,none⟩ (.bool true)) (Ef E) n s #[.slice B n C,.slice I n A] (.slice (some ⟨w.heap.size+1,0,none⟩) 1 1) [⟨s,false,0,0⟩] (λr b=>decide (r=s)&& !b) 0 []):=O
  ⟨Found.begin aF,a5.kept aO (.inr (by simp[Value.ownBlock])),(aN.set0 aF).congr λr _ b=>by simp[Bool.beq_eq_decide_eq],by simp[Value.ownBlock],P5 a3 (by simp only;omega) _,a4.grown aO S⟩
 have r1:(0:Int)<=(s:Int):=U;have cp:(s:Int)<(n:Int):=U;clear a3 a4 aN a5 aO au a2;go_in;go_wp2;go_step3;go_wp2;go_step3;go_wp2_with fail;clear c0 bz bT;go_loopw [6,7,9] (λap av i wr=>∃(p:Nat)(Z:List Way)(seen:Nat->Bool->Bool),p<=Z.length/\i=.int .i64 (p:Int)/\ap=.slice none 0 0/\w.heap.size+3<=wr.heap.size/\Hid (q8 w wr (Ef E) n s #[.slice B n C,.slice I n A] av Z seen p [])) (λ_ _ i _=>2*n+1-(intOf i).toNat);exact⟨0,_,_,gL _,rfl,rfl,a6.o.size,a6⟩;obtain⟨p,Z,seen,aU,rfl,rfl,cG,F⟩:=hrel;obtain⟨Aw,bB,rfl⟩:=o_ F.o.own;by_cases bU:p<Z.length
 ·obtain⟨⟨ro,st,ah,ma⟩,f⟩:=g_ bU
  obtain⟨g,cq,aq,bV,a7⟩:=NY F.o.own U;injection aq with aw _ aG;subst aw aG;obtain⟨bC,bD,bE,bF⟩:=JA F.o.own f;have q1:(0:Int)<=(p:Int):=U;have q2:(p:Int)<(Z.length:Int):=U;have cH:ro<n:=(F.o.found.walk p _ f).2.1;have b1:N wr w 1 (.slice I n A):=F.o.box.cell 1;(have cI:ma<=2199023255552:=by have ai:=(F.o.found.walk p _ f).2.2.2.2;have aV:=F.o.found.len;simp only at ai;omega);have aW:=O f;clear f;by_cases aP:most<=ma+1
  ·have aX:decide ((most:Int)<=(ma:Int)+1)=true:=by simp;omega
   have aH:∀k,k<most->¬nX (Ef E) s s true k:=λk aI=>F.o.found.none (most:=most) (λy K=>by
    have:=Dy (aW.o.symm.trans K)
    subst this;exact aP) aU aI
   clear aP;go_wp2_with fail;(try rw[it_]);go_ret;exact⟨_,rfl,L_ F.o.below _,.inl ⟨rfl,aH⟩⟩
  ·have aX:decide ((most:Int)<=(ma:Int)+1)=false:=by simp;omega
   obtain⟨cr,c2,aq,_,_,a8⟩:=Zp.form bv;injection aq with aw aY aG;subst aw aG;clear aY;obtain⟨ag,aj,rfl,bW,a9⟩:=a8 U;obtain⟨l,hl⟩:∃l,E[ro]?=some l:=⟨_,qY U⟩;obtain⟨u,a',ba⟩:=a9 ro l hl;obtain⟨bG,bH,rfl,bX,bb,bY⟩:=ba.form;(have cJ:l.length<=9223372036854775807:=by unfold maxLen at bb;omega);clear bX bb;have bI:N wr ag (aj+ro) (.slice bG l.length bH):=(F.o.below.cell (p:=⟨ag,aj+ro,none⟩) bW).trans a';have q3:(0:Int)<=(ro:Int):=U;have cs:(ro:Int)<(n:Int):=U;(have bZ:∀t c,(t,c)∈l->t<n:=λt c h=>bw ro l t c hl h);have bc:Ef E ro=l:=(QN hl);have b0:Hid (q8 w (wr.alloc (.cells #[.int .i64 ro,.bool st,.int .i64 ah,.int .i64 ma] 203)) (Ef E) n s #[.slice B n C,.slice (some ⟨ag,aj,none⟩) n A] (.slice (some ⟨g,0,none⟩) Z.length bB) Z seen p []):=K_ (F.out.up (L_ (fD _ _) _));have b2:f_ (wr.alloc (.cells #[ro,st,ah,ma] 203)) wr.heap.size 203 #[ro,st,ah,ma]:=(f_.new _ _ _);have b3:g<wr.heap.size:=a7;obtain⟨L,b4⟩:∃L,L=wr:=⟨_,rfl⟩;subst b4;have bJ:w.heap.size<L.heap.size:=U;have bK:ag<L.heap.size:=U;clear a8 a9 a' ba aP bV a7;go_wp2_with fail;clear bC bD bE bF bI b1 bJ bK;go_loopw [6,7,9,48] (λap av i bL wr=>∃(j:Nat)(o:List Way)(ab:Nat->Bool->Bool),j<=l.length/\bL=.int .i64 (j:Int)/\i=.int .i64 (p:Int)/\ap=.slice none 0 0/\L.heap.size+1<=wr.heap.size/\ Hid (q8 w wr (Ef E) n s #[.slice B n C,.slice (some ⟨ag,aj,none⟩) n A] av o ab p (l.take j))/\ Hid (f_ wr L.heap.size 203 #[ro,st,ah,ma]/\o[p]?=some ⟨ro,st,ah,ma⟩/\av.ownBlock≠some L.heap.size)) (λ_ _ _ j _=>l.length-(intOf j).toNat);exact⟨0,_,_,gL _,rfl,rfl,rfl,S,b0,O ⟨b2,aW.o,by simp[Value.ownBlock];have:=b3;omega⟩⟩;obtain⟨j,o,ab,ct,rfl,rfl,rfl,cR,v,T⟩:=hrel;obtain⟨aJ,aB,rfl⟩:=o_ v.o.own;by_cases cl:j<l.length
   ·obtain⟨⟨t,c⟩,am⟩:=g_ cl
    obtain⟨ax,ay,rfl,bd,aQ⟩:=bY U;have cu:N wr ax (ay+j*2) t:=(v.o.below.cell (p:=⟨ax,ay+j*2,none⟩) bd).trans (aQ j _ am 0 _ rfl);have cv:N wr ax (ay+j*2+1) c:=(v.o.below.cell (p:=⟨ax,ay+j*2+1,none⟩) bd).trans (aQ j _ am 1 _ rfl);have aC:t<n:=bZ t c (gM am);(have be:l.take (j+1)=l.take j++[(t,c)]:=by obtain⟨ai,aV⟩:=iR.1 am;rw[Ht ai,aV]);have bf:(t,c)∈Ef E ro:=(by rw[bc];exact gM am);have aw:N wr L 1 st:=T.o.1.cell 1;have aY:N wr L 3 ma:=T.o.1.cell 3;have cw:(0:Int)<=(j:Int):=U;have k3:L.heap.size<wr.heap.size:=U;have k4:w.heap.size+1+1<wr.heap.size:=U;have cx:(j:Int)<(l.length:Int):=U;have cy:(0:Int)<=(t:Int):=U;have cz:(t:Int)<(n:Int):=U;have cS:=v.o.found.len;obtain⟨d,aK⟩:=e_ (st||c);have aD:=O aK;obtain⟨z0,bM,z2,z3⟩:N wr (w.heap.size+1+1) (t*2) (ab t false)/\N wr (w.heap.size+1+1) (t*2+1) (ab t true)/\wr.frozen? ⟨w.heap.size+1+1,t*2,none⟩=false/\wr.frozen? ⟨w.heap.size+1+1,t*2+1,none⟩=false:=v.o.seen.cell aC;clear am aQ;(have aZ:(st=false/\c=false/\d=false)\/(st=false/\c=true/\d=true)\/(st=true/\d=true):=by subst aK;cases st<;>cases c<;>simp);clear aK;by_cases hf:t=s/\d=true
    ·obtain⟨an,rfl⟩:=hf
     have bg:((t:Int)==(s:Int))=true:=by simp;omega
     have b5:∃k,nX (Ef E) s s true k:=⟨_,by
      have ai:=(v.o.found.walk p _ T.o.2.1).1.step bf;rw[show(({role:=ro,strict:=st,before:=ah,many:=ma}:Way).strict||c)=true from aD.o,an]at ai
      exact ai⟩
     obtain⟨ak,c3,aq,cK,cL⟩:=NY v.o.own (by have:=(iR.1 T.o.2.1).1;omega);injection aq with bN _ bO;subst bN bO;have b6:p<o.length:=(iR.1 T.o.2.1).1;(have bh:∀q y,o[q]?=some y->y.role<n/\(y.before<q\/q=0):=λq y K=>⟨(v.o.found.walk q y K).2.1,(v.o.found.walk q y K).2.2.2.1⟩);have b7:t=s:=an;clear an;obtain⟨az,b8⟩:∃az,az=wr:=⟨_,rfl⟩;subst b8;subst b7;rcases aZ with⟨_,_,h⟩|⟨rfl,rfl,_⟩|⟨rfl,_⟩;·cases h
     all_goals
      go_wp2_with fail
      first|(obtain⟨a,ae⟩:∃a,az.alloc (.cells #[t,true] 199)=a:=⟨_,rfl⟩;rw[ae])|(obtain⟨a,ae⟩:∃a,az.alloc (.cells #[t,c] 199)=a:=⟨_,rfl⟩;rw[ae])
      have b9:G w a:=(by rw[<-ae];exact L_ v.o.below _)
      have b':a.ownsRow (w.heap.size+1) 203 4 (.slice (some ⟨ak,0,none⟩) o.length aB) o.length (o.flatMap Zu):=(by rw[<-ae];exact gB v.o.own bA)
      go_loopw [6,9] (λap bP wr=>∃(q:Nat)(ll:List Int),q<=p/\bP=.int .i64 (q:Int)/\ll.length+q<=p/\a.heap.size<=wr.heap.size/\ Hid (wr.ownsRow a.heap.size 3 1 ap ll.length (ll.map iV)/\G a wr/\∀x∈ll,0<=x/\x<(n:Int))) (λ_ q _=>(intOf q).toNat)
      exact⟨p,[],fU _,rfl,S,by rw[<-ae];exact fU _,O ⟨Ba _ _ _ _,by rw[<-ae];exact fD _ _,λ_ h=>(by cases h)⟩⟩
      obtain⟨q,ll,cA,rfl,cM,cT,H⟩:=hrel
      obtain⟨a0,c4,rfl⟩:=o_ H.o.1
      by_cases cN:0<q
      ·obtain⟨⟨al,cB,aA,cC⟩,K⟩:∃y,o[q]?=some y:=⟨_,qY U⟩
       obtain⟨cD,_,aL,_⟩:=JA (gB b' H.o.2.1) K;have cO:al<n:=(bh q _ K).1;(have cP:aA<q:=by rcases(bh q _ K).2 with h|h;(·exact h);·omega);have bi:N wr ak (q*4+2) aA:=aL;(have bj:ak<a.heap.size:=by rw[<-ae];simp;omega);have cE:(0:Int)<=(q:Int):=U;have v2:(q:Int)<(o.length:Int):=U;clear K aL;go_wp2_with (at_builtin;refine Ih _ rfl _ _ 25 rfl a.heap.size 3 aT (.int .i64 0) 1 8 underlying25 a1 bq br bs rfl D (.slice a0 ll.length c4) ll.length (ll.map iV) rfl (gB H.o.1 bA) ⟨wr.heap.size,0,none⟩ 1 1 [.int .i64 al] rfl rfl (yV _ _ rfl _ _) (by first|rfl|(intro u ad;simp at ad;subst ad;rfl)) (by simp only[maxLen];omega) U (by first|omega|(simp;omega)) ?_);intro v' aa af ac _ _;have ao:G a aa:=(L_ H.o.2.1 _).grown ac (by have:=H.o.2.1.size;simp;omega) (λg ar=>(H.o.1.lt g ar).1);have aL:N aa ak (q*4+2) aA:=(ao.cell (p:=⟨ak,q*4+2,none⟩) bj).trans (((H.o.2.1.cell (p:=⟨ak,q*4+2,none⟩) bj).symm).trans bi)
       have ca:Hid (aa.ownsRow a.heap.size 3 1 v' (ll++[(al:Int)]).length ((ll++[(al:Int)]).map iV)/\G a aa/\∀x∈ll++[(al:Int)],0<=x/\x<(n:Int)):=O ⟨by rw[lG,sJ];exact af,ao,λx f=>by
        rcases gH.1 f with f|f;·exact H.o.2.2 x f
        ·have:=gy.1 f;omega⟩
       have aS:=ao.size;clear af ac bi;go_wp2;go_roundw;exact⟨aA,ll++[(al:Int)],U,rfl,by rw[lG];simp;omega,aS,ca⟩;exact M
      ·(obtain rfl:q=0:=by omega);go_wp2_with (at_builtin;refine Ih _ rfl _ _ 25 rfl a.heap.size 3 aT (.int .i64 0) 1 8 underlying25 a1 bq br bs rfl D (.slice a0 ll.length c4) ll.length (ll.map iV) rfl (gB H.o.1 bA) ⟨wr.heap.size,0,none⟩ 1 1 [.int .i64 t] rfl rfl (yV _ _ rfl _ _) (by first|rfl|(intro u ad;simp at ad;subst ad;rfl)) (by simp only[maxLen];omega) U (by first|omega|(simp;omega)) ?_);intro v' aa af ac _ _;have ao:G a aa:=(L_ H.o.2.1 _).grown ac (by have:=H.o.2.1.size;simp;omega) (λg ar=>(H.o.1.lt g ar).1);have bk:aa.ownsRow a.heap.size 3 1 v' (ll++[(t:Int)]).length ((ll++[(t:Int)]).map iV):=(by rw[lG,sJ];exact af);clear af ac;go_wp2_with fail;refine(NW _ _ (ll++[(t:Int)]) _ bk).mono ?_;rintro e bl ⟨rfl,bt,bm⟩;have bu:G a bl:=ao.grown bm ao.size (λg ar=>(bk.lt g ar).1);have cm:=(b_ b9 bu);have cb:SI bl v' (ll++[(t:Int)]).reverse:=(iL (by rw[List.length_reverse];exact bt));(have cc:∀x∈(ll++[(t:Int)]).reverse,0<=x/\x<(n:Int):=λx f=>by rcases gH.1 (List.mem_reverse.1 f) with f|f;(·exact H.o.2.2 x f);·have:=gy.1 f;omega);clear bt bm bu;go_wp2_with fail;(try rw[it_]);go_ret;exact⟨_,rfl,cm,.inr ⟨_,S,cb,cc,by simp;omega,b5⟩⟩
    ·have bn:=O hf;obtain⟨sb,aR⟩:=e_ (ab t d);(have bQ:sb=true->q8 w wr (Ef E) n s #[.slice B n C,.slice (some ⟨ag,aj,none⟩) n A] (.slice aJ o.length aB) o ab p (l.take (j+1)):=λh=>by rw[be];exact v.o.skip T.o.2.1 (by rw[show(_||c)=d from aD.o];exact hf) (by rw[show(_||c)=d from aD.o];exact aR.trans h));clear hf;(rcases aZ with⟨rfl,rfl,rfl⟩|⟨rfl,rfl,rfl⟩|⟨rfl,rfl⟩<;>by_cases an:t=s<;>first|exact(bn.o ⟨an,rfl⟩).elim|(have bg:((t:Int)==(s:Int))=true:=by(simp;omega))|(have bg:((t:Int)==(s:Int))=false:=by(simp;omega)));all_goals clear an;simp only[aR]at z0 bM;cases sb;(·go_wp2_with (at_builtin;refine Ih _ rfl _ _ 204 rfl (w.heap.size+1) 203 bx (.agg #[V 0,false,V 0,V 0]) 4 32 underlying204 bR cf cg ch rfl D (.slice aJ o.length aB) o.length (o.flatMap Zu) rfl (v.o.afA (u:= .bool true) rfl (L_ bA _)) ⟨wr.heap.size+1,0,none⟩ 1 1 [.int .i64 t,.bool _,.int .i64 p,.int .i64 ((ma:Int)+1)] rfl rfl (yV _ _ S _ _) (by first|exact⟨rfl,rfl,rfl,rfl⟩|(intro u ad;simp at ad;rcases ad with rfl|rfl|rfl|rfl<;>rfl)) (by simp only[maxLen];omega) U (by first|omega|(simp;omega)) ?_);intro v' aa af ac _ bo;have aE:=v.o.new T.o U bf aC aD.o (Q bn.o) aR (u:= .bool true) rfl (by first|exact v.o.seen.set0 aC|exact v.o.seen.set1 aC) (L_ bA _) af rfl rfl ac (Q bo);rw[<-be]at aE;have cd:=O aE.1;have ce:=O aE.2;(have aS:L.heap.size+1<=aa.heap.size:=by have:=ac.size;simp at this;omega);clear af ac bo aE;go_wp2;go_roundw;exact⟨j+1,_,_,U,R,rfl,rfl,aS,cd,ce⟩;exact M);·go_wp2;go_roundw;exact⟨j+1,o,ab,U,R,rfl,rfl,by simp;omega,O ((bQ rfl).up bA),O ⟨T.o.1.alloc _,T.o.2⟩⟩;exact M
   ·(obtain rfl:j=l.length:=by omega);have aM:Hid (q8 w wr (Ef E) n s #[.slice B n C,.slice (some ⟨ag,aj,none⟩) n A] (.slice aJ o.length aB) o ab (p+1) []):=O (v.o.next T.o.2.1 (by rw[jh];intro y K;rw[<-bc];exact K));have b6:p<o.length:=(iR.1 T.o.2.1).1;have cQ:=aM.o.found.len;go_wp2;go_roundw;exact⟨p+1,o,ab,U,R,rfl,aM.o.size,aM⟩;exact M
 ·(have bp:p=Z.length:=by omega);(have aX:decide ((p:Int)<(Z.length:Int))=false:=by simp;omega);(have aH:∀k,k<most->¬nX (Ef E) s s true k:=λk aI=>F.o.found.none (most:=most) (λx f=>by rw[bp]at f;simp at f) aU aI);clear bp;go_wp2_with fail;(try rw[it_]);go_ret;exact⟨_,rfl,F.o.below,.inl ⟨rfl,aH⟩⟩
end
section
open Go.RowKit Tryz
def gI:List Ax->Int
 |[]=>0
 |x::l=>if X_ x≠0 then X_ x else gI l
def Ab{L:List Ax}{k:Nat}{x:Ax}(h:L[k]?=some x):gI (L.drop k)=if X_ x≠0 then X_ x else gI (L.drop (k+1)):=by have a:=(iR.1 h).1;rw[Hq a,(iR.1 h).2];rfl
def QS(L:List Ax)(v:Value)(w:World)(h:lC w v L)(C:zQ w)(E:∀x∈L,qR x)(hl:L.length<=1000000):z 78 #[v] w λe w'=>e=.returned (gI L)/\G w w':=by obtain⟨A,c,rfl,hc,F,H⟩:=h.form;go_in;go_wp2;go_loopw [8] (λi wr=>∃k:Nat,k<=L.length/\i=.int .i64 (k:Int)/\Hid (gI L=gI (L.drop k))/\Hid (G w wr)) (λi _=>L.length-(intOf i).toNat);exact⟨0,gL _,rfl,O S,O (fD _ _)⟩;obtain⟨k,al,rfl,j,d⟩:=hrel;by_cases aj:k<L.length;(·obtain⟨b,an,rfl,ak,B⟩:=H U;obtain⟨x,m⟩:=g_ aj;obtain⟨q,s,t⟩:=B k x m;obtain⟨I,K,P,T,W,X,f,a0,a1,a2,a3,a4,a5,Z,aa,ac,a9,ad,ab,ae,af,ag,ah⟩:=adE s t ak d.o;(have n:Hid (∀o,z 65 #[.agg (gV x I K P T W X)] (wr.alloc o) λe w'=>e=.returned (X_ x)/\Below (wr.alloc o).heap.size (wr.alloc o) w'):=O λo=>jG x _ _ (C.up (L_ d.o o)) (E x (gM m)) ⟨_,rfl,⟨_,_,_,rfl,by obtain⟨q,e,h⟩:=(f.up (L_ (fD _ _) o)).l;injection e with e;have:=qQ Array.toList e;simp at this;subst this;exact h,by obtain⟨q,e,h⟩:=(f.up (L_ (fD _ _) o)).r;injection e with e;have:=qQ Array.toList e;simp at this;subst this;exact h,(f.up (L_ (fD _ _) o)).rs⟩⟩);have g:=Ab m;have r1:(0:Int)<=(k:Int):=U;have am:(k:Int)<(L.length:Int):=U;unfold gV at n;go_wp2_with fail;refine(n.o _).mono ?_;rintro e ai ⟨rfl,u⟩;have y:Hid (G w ai):=O (b_ (L_ d.o _) u);by_cases a:X_ x=0;(·have p:Hid (gI L=gI (L.drop (k+1))):=O (by rw[j.o,g,a];simp);rw[a];go_wp2;go_roundw;exact⟨k+1,U,R,p,y⟩;exact M);·have p:Hid (gI L=X_ x):=O (by rw[j.o,g,A_ a]);have ao:(X_ x !=0)=true:=Q a;go_wp2;go_ret;exact⟨by rw[p.o];rfl,y.o⟩);·(obtain rfl:k=L.length:=by omega);go_wp2;go_ret;exact⟨by have:=j.o;rw[Qb]at this;rw[this];rfl,d.o⟩
end
section
open Go.Maps Go.RowKit Go.Sort Tryz
def qA.len{L:List Ax}(d:∀x∈L,qR x){r s:St}{b:Bool}(h:qA L r s b):r.length<=maxLen:=by rcases h with⟨_,x,c,_,rfl,_⟩|⟨_,x,c,_,_,i,hi,_⟩;(·cases e:x.roles with|nil=>simp|cons a l=>have:=(d x c).rs a (by rw[e];simp);simp;unfold maxLen;omega);·have:=(d x c).rs r (gM hi);unfold maxLen;omega
def N7{T:List Stp}{r s:St}{t:Bool}(h:(r,s,t)∈T):∃c,rG T r s=some c/\(t=true->c=true):=by by_cases a:(r,s,true)∈T;(·exact⟨true,(uG T r s true).2 ⟨⟨t,h⟩,by simp[a]⟩,λ_=>rfl⟩);·refine⟨false,(uG T r s false).2 ⟨⟨t,h⟩,by simp[a]⟩,λe=>?_⟩;subst e;exact absurd h a
def Z7{L:List Ax}{R:St->Option Nat}{w wr:World}{V:List St}{E:List (List (Nat×Bool))}(h:FB w wr R (tr L))(o:∀x∈L,qR x)(e:NT (Fa R) V)(v:E.length=V.length)(k:∀(i:Nat)(r:St)(l:List (Nat×Bool)),V[i]?=some r->E[i]?=some l->Jz V (rG (tr L) r) l):uJ L V (Ef E) where
 keys r:=by
  constructor
  ·intro d
   have:=(e.mem r (e.len r d)).1 d;unfold Fa at this
   cases f:R r with
   |none=>rw[f]at this;cases this
   |some b=>
    obtain⟨s,_,a⟩:=h.full r b f
    cases hf:rG (tr L) r s with
    |none=>rw[hf]at a;cases a
    |some c=>
     obtain⟨⟨t,g⟩,_⟩:=(uG _ r s c).1 hf;exact⟨s,t,E9.1 g⟩
  ·rintro⟨s,b,a⟩
   refine(e.mem r (a.len o)).2 ?_;obtain⟨c,hc,_⟩:=N7 (E9.2 a);unfold Fa
   cases f:R r with
   |none=>rw[h.m.non r f s]at hc;cases hc
   |some b=>rfl
 nodup i j r hi hj:=by obtain⟨y,p⟩:=iR.1 hi;obtain⟨A,q⟩:=iR.1 hj;exact(cv_ e.nodup).1 (p.trans q.symm)
 sound i t c hm:=by
  (have hi:i<E.length:=by rcases PX i E.length with h|h;(·exact h);·unfold Ef at hm;rw[KH,KI h]at hm;cases hm);rw[QN (qY hi)]at hm;have d:=qY (l:=V) (i:=i) U;obtain⟨s,a,hf⟩:=(k i _ _ d (qY hi) t c).1 hm;refine⟨_,s,d,a,?_⟩;obtain⟨⟨u,n⟩,hc⟩:=(uG _ _ s c).1 hf
  cases c with
  |true=>exact E9.1 (hc.1 rfl)
  |false=>
   cases u with
   |true=>exact absurd (hc.2 n) S
   |false=>exact E9.1 n
 full i t r s b hi g a:=by obtain⟨c,hc,hb⟩:=N7 (E9.2 a);refine⟨c,hb,?_⟩;(have hl:i<E.length:=by have:=(iR.1 hi).1;omega);rw[QN (qY hl)];exact(k i r _ hi (qY hl) t c).2 ⟨s,g,hc⟩
def pV:∀{L:List Ax},gI L=0->∀x∈L,X_ x=0
 |y::l,h,x,b=>by
  unfold gI at h;by_cases a:X_ y=0;(·rw[u_ (Q a)]at h;rcases jU.1 b with rfl|b;(·exact a);·exact pV h x b);·rw[A_ a]at h;exact absurd h a
def uL{x:Ax}(h:X_ x=0):jX x.kind<=x.roles.length/\x.roles.length<=mZ x.kind:=by unfold X_ at h;by_cases a:iM x=false;(·rw[A_ a]at h;cases h);·have:iM x=true:=Q a;unfold iM at this;simp only[KJ,I5]at this;exact this.2
def oI:(prog.info? 9).map (λi=>(i.zero,i.size,i.bytes))=some (some (.string ⟨#[]⟩),1,16):=by kernel_rfl
noncomputable def qF (L:List Ax):Int:=open Classical in if gI L≠0 then gI L else if uF L then 60 else 0
def abT(L:List Ax)(E:List (List (Nat×Bool)))(n:Nat)(wr:World)(k:Nat)(lv:Value)(most:Nat):Prop:=
 (lv=.slice none 0 0/\most=n+1/\∀s,s<k->∀j,j<n+1->¬nX (Ef E) s s true j)\/
 (∃l:List Int,l≠[]/\SI wr lv l/\(∀x∈l,0<=x/\x<(n:Int))/\most=l.length/\most<=2*n+1/\uF L)
def FC(L:List Ax)(v:Value)(w:World)(h:lC w v L)(au:zQ w)(C:∀x∈L,qR x)(hl:L.length<=100000):z 45 #[v] w λe w'=>(∃u,e=.returned (.tuple #[u,(qF L)]))/\G w w':=by
 obtain⟨bl,c0,rfl,_⟩:=h.form;have bm:=O C;have ao:=O (QS L _ w h au C U);by_cases r:gI L=0
 ·have aP:=O r
  (have aY:Hid (∀W,G w W->z 80 #[.slice bl L.length c0] W λe w'=>e=.returned (.map (some W.heap.size))/\∃R,FB W w' R (tr L)):=O λW av=>UU L _ W (h.up av) U C λx o aw=>by have:=(uL (pV r x o)).1;rw[aw]at this;unfold jX at this;simp at this;omega);have aZ:Hid (2*(tr L).length<=200000000000):=O (by have:=Qv (L:=L) λx o=>(C x o).rn;omega);rw[r]at ao;clear h au C r;(have bX:=λ(a:Option Addr)(n c:Nat) W=>run_neq_slice_nil_any (P:=prog) W 25 3 a n c 0 0 underlying25);(have bY:=λ(a:Option Addr)(n c:Nat) W=>Lib.run_eql_slice_nil (P:=prog) W 25 3 a n c 0 0 underlying25);go_in;go_wp2_with (go_at_call 78;with_reducible refine ao.o.mono ?_;rintro e X ⟨rfl,ap⟩);have aN:G w X:=ap;refine(aY.o X aN).mono ?_;rintro e aQ ⟨rfl,R,ah⟩;have a0:Hid (G w aQ):=O (b_ aN ah.below);have aR:=O ah;have a1:=O (LA aQ X.heap.size X.heap.size (2*(tr L).length) R (rG (tr L)) ah.m (by have:=aZ.o;omega));clear ah ap aN ao aY;go_wp2_with fail;refine a1.o.mono ?_;rintro e b ⟨bO,vs,V,E,rfl,a2,aC,a3,aD,a4,aE,a5⟩;have aS:Hid (uJ L V (Ef E)):=O (Z7 aR.o bm.o a2 aC aD);have bQ:V.length<=200000000000:=gT a3 aZ.o;obtain⟨F,A,rfl,_,_,ae⟩:=S1.form a4;obtain⟨Z,aa,rfl,_,_,_⟩:=Zp.form aE;have bt:Hid (G w b):=O (b_ a0.o a5);have a6:=O aE;have bu:=O ae;have a7:=O aC;(have a8:Hid (∀(i:Nat)(l:List (Nat×Bool))(t:Nat)(c:Bool),E[i]?=some l->(t,c)∈l->t<V.length):=O λi l t c hl ai=>by have hi:=(iR.1 hl).1;obtain⟨x,o,_⟩:=(aD i _ l (qY U) hl t c).1 ai;exact(iR.1 o).1);clear a2 aC a3 aD a4 aE a5 ae a1 aR a0;obtain⟨f,aF⟩:∃f,b.alloc (.cells #[.slice F V.length A,.slice Z E.length aa] 135)=f:=⟨_,rfl⟩;(have aG:f_ f b.heap.size 135 #[.slice F V.length A,.slice Z E.length aa]:=by rw[<-aF];exact f_.new _ _ _);(have a9:G b f:=by rw[<-aF];exact L_ (fD _ _) _);have c0:N f b 0 (.slice F V.length A):=aG.cell 0;have aH:=O aG;have aI:=O a9;clear aG a9;(have bv:Hid (∀(W:World)(k most:Nat),G b W->k<V.length->most<=2*V.length+1->z 81 #[.agg #[.slice F V.length A,.slice Z E.length aa],.int .i64 k,.int .i64 most] W (NZ W E V.length k most)):=O λW k most av aT ai=>by have:=a6.o.up av;rw[a7.o]at this ⊢;exact QO E V.length k most W F Z A aa this a7.o a8.o aT U ai);have bI:=O (b_ bt.o aI.o);clear a6 a8;go_wp2_with (rw[aF]);clear c0;go_loopw [6,7,27] (λbn bo ax wr=>∃(k most:Nat)(aj:Value),k<=V.length/\ax=.int .i64 (k:Int)/\bn=.int .i64 (most:Int)/\aj=bo/\most<=2*V.length+1/\f.heap.size<=wr.heap.size/\Hid (abT L E V.length wr k aj most)/\Hid (G f wr)) (λ_ _ i _=>V.length-(intOf i).toNat);exact⟨0,V.length+1,_,gL _,rfl,R_,rfl,U,fU _,O (.inl ⟨rfl,rfl,λ_ h=>absurd h (em_ _)⟩),O (fD _ _)⟩;obtain⟨k,most,aj,aT,rfl,rfl,bw,a',bR,I,B⟩:=hrel;subst bw;by_cases bx:k<V.length
  ·have ak:N wr b 0 (.slice F V.length A):=(bk B.o aH.o).cell 0
   have aU:N wr b 1 (.slice Z E.length aa):=(bk B.o aH.o).cell 1;have aJ:=O (bv.o wr k most (b_ aI.o B.o) bx a');have r1:(0:Int)<=(k:Int):=U;have bP:(k:Int)<(V.length:Int):=U;go_wp2_with fail;refine aJ.o.mono ?_;rintro e w5 ⟨v5,rfl,aq,ar⟩;have aK:Hid (G f w5):=O (b_ B.o aq);have bf:f.heap.size<=w5.heap.size:=aK.o.size;rcases ar with⟨rfl,bi⟩|⟨al,K,T,af,bg,ba⟩
   ·have aL:Hid (abT L E V.length w5 (k+1) aj most):=O (by
     rcases I.o with⟨ay,ab,H⟩|⟨l,ay,ab,H⟩;·refine .inl ⟨ay,ab,λs az j ac=>?_⟩;by_cases e:s=k;(·subst e;exact bi j U);·exact H s U j ac
     ·exact .inr ⟨l,ay,S1.up ab aq,H⟩)
    clear bi aq aJ ak aU I;go_wp2;go_roundw;exact⟨k+1,most,_,U,R_,rfl,rfl,a',bf,aL,aK⟩;exact M
   ·obtain⟨A5,c5,rfl,_,_,ag⟩:=S1.form T;obtain⟨am,an,rfl,_,_⟩:=ag (en_.2 K);have aL:Hid (abT L E V.length w5 (k+1) (.slice (some ⟨am,an,none⟩) al.length c5) al.length):=O (.inr ⟨al,K,T,af,rfl,bg,by obtain⟨j,ac⟩:=ba;exact UC aS.o ac⟩);clear aq aJ ak aU I ag K T af ba;go_wp2;go_roundw;exact⟨k+1,al.length,_,U,R_,rfl,rfl,bg,bf,aL,aK⟩;exact M
  ·obtain rfl:k=V.length:=by omega
   have bb:=O (b_ bI.o B.o);rcases I.out with⟨rfl,ab,H⟩|⟨l,K,T,af,bp,aw,bc⟩
   ·have ad:Hid (qF L=0):=O (by
     unfold qF;rw[u_ (Q aP.o),u_];intro hc;obtain⟨i,j,hi,ac,aA⟩:=Lp aS.o hc
     exact H i hi j ac aA)
    clear ab H I;go_wp2;go_ret2;exact⟨⟨.slice none 0 0,by rw[ad.o];rfl⟩,bb.o⟩
   ·have ad:Hid (qF L=60):=O (by unfold qF;rw[u_ (Q aP.o),A_ bc]);obtain⟨A5,c5,rfl,_,_,ag⟩:=S1.form T;obtain⟨am,an,rfl,bz,ar⟩:=ag (en_.2 K);have bB:=O ar;have bC:=O af;have bS:l.length<=400000000001:=U;obtain⟨is,bD,bJ,bK,bL⟩:=qV oI;clear ag K T af bp aw bc ar I;obtain⟨d,bE⟩:∃d,d=wr:=⟨_,rfl⟩;subst bE;go_wp2;go_loopw [2,44] (λbq ax wr=>∃(m:Nat)(ss:List St),m<=l.length/\ax=.int .i64 (m:Int)/\ss.length<=m/\d.heap.size<=wr.heap.size/\Hid (wr.ownsRow d.heap.size 9 1 bq ss.length (ss.map d_)/\G d wr)) (λ_ i _=>l.length-(intOf i).toNat);exact⟨0,[],gL _,rfl,fU _,fU _,O ⟨Ba _ _ _ _,fD _ _⟩⟩;obtain⟨m,ss,ai,rfl,bT,bZ,q⟩:=hrel;obtain⟨aV,aW,rfl⟩:=o_ q.out.1;by_cases bM:m<l.length;(·obtain⟨x,o⟩:=g_ bM;obtain⟨bd,bU⟩:=bC.o x (gM o);obtain⟨y,rfl⟩:=Int.eq_ofNat_of_zero_le bd;have br:wr.cell? ⟨am,an+m,none⟩=some (.int .i64 (y:Int)):=(q.o.2.cell (p:=⟨am,an+m,none⟩) bz).trans (bB.o m _ o);have bF:y<V.length:=U;obtain⟨bV,aB,rfl,bG,ae⟩:=bu.out U;obtain⟨s,az⟩:=g_ bF;have be:Below b.heap.size b wr:=b_ (b_ aI.out B.out) q.out.2;have bs:wr.cell? ⟨bV,aB+y,none⟩=some (.string ⟨s.toArray⟩):=(be.cell (p:=⟨bV,aB+y,none⟩) bG).trans (ae y s az);have ak:wr.cell? ⟨b.heap.size,0,none⟩=some (.slice (some ⟨bV,aB,none⟩) V.length A):=(bk (b_ B.o q.o.2) aH.o).cell 0;have q1:(0:Int)<=(m:Int):=U;have q2:(m:Int)<(l.length:Int):=U;clear o bd az ae be;go_wp2_with (at_builtin;refine Ih _ rfl _ _ 41 rfl d.heap.size 9 is (.string ⟨#[]⟩) 1 16 underlying41 bD bJ bK bL rfl D (.slice aV ss.length aW) ss.length (ss.map d_) rfl (gB q.out.1 (L_ (fD _ _) _)) ⟨wr.heap.size,0,none⟩ 1 1 [.string ⟨s.toArray⟩] rfl rfl ?c1 ?c2 ?c3 ?c4 ?c5 ?_);(case c1=>exact yV _ _ rfl _ _);(case c2=>first|rfl|(intro u aX;simp at aX;subst aX;rfl));(case c3=>simp only[maxLen];omega);(case c4=>omega);(case c5=>first|omega|(simp;omega));intro v' aM bh bj _ _;have aO:G d aM:=(L_ q.o.2 _).grown bj (by have:=q.o.2.size;simp;omega) (λg aA=>(q.o.1.lt g aA).1);have bH:Hid (aM.ownsRow d.heap.size 9 1 v' (ss++[s]).length ((ss++[s]).map d_)/\G d aM):=O ⟨by rw[lG,sJ];exact bh,aO⟩;have bN:=aO.size;clear bh bj aO br bs ak;go_wp2;go_roundw;exact⟨m+1,ss++[s],U,R_,by rw[lG];simp;omega,bN,bH⟩;exact M);·(obtain rfl:m=l.length:=by omega);go_wp2;go_ret2;exact⟨⟨.slice aV ss.length aW,by rw[ad.o];rfl⟩,b_ bb.o q.o.2⟩
 ·have ad:Hid (qF L=gI L):=O (by unfold qF;rw[A_ r]);have bW:(gI L !=0)=true:=Q r;clear h au C r;go_in;go_wp2_with (go_at_call 78;with_reducible refine ao.o.mono ?_;rintro e X ⟨rfl,ap⟩);go_ret2;exact⟨⟨.slice none 0 0,by rw[ad.o];rfl⟩,ap⟩
section
variable{w w':World}{base:Nat}{v:Value}{xs:List Value}
end
end
end Go.Proofs.YtjmbkfjklemmpaaGreatDoor
