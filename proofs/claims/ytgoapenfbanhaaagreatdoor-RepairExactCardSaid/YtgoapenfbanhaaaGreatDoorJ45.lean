import Derived.Test.YtgoapenfbanhaaaGreatDoorJ28
set_option linter.all false
set_option maxRecDepth 100000
set_option maxHeartbeats 32000000
open List renaming length->l_
open Go.Maps Go.RowKit Go.Proofs.Tryz
open Go renaming World->W_,Value->V_,maxLen->m_,TypeId->T_
namespace Go.Proofs.YtgoapenfbanhaaaGreatDoor
variable{x:Ax}{c:Cn}{F:Fc}{L:List Ax}{P:List Pc}{l:List St}{g n:Nat}{p:Pc}{a b r s t:St}{e:T_}{w:W_}
def aaM(x:Ax):Prop:=∀(w:W_)(a:J_)(c:Nat)(A:J_)(C:Nat)(s:J_)(b:Nat),Z_ x=0->kH w x a c A C s b->JR w->oZ x-> z 124 #[.agg (fZ x a c A C s b)] w (uQ w x)
def ow(h:u_ c=0):l_ (w_ c)<=20002:=by have:=xV h;unfold w_;split;(.simp;omega);.omega
def Ib{a:A_}(h:f_ w g e a)(b:a.size=1*n):w.ownsRow g e n (.slice g 1 1) 1 a.toList:=⟨Q b,.inr ⟨g,1,a,rfl,gH _,h,gH _,by simp[m_],b,J9 (by simp;omega)⟩⟩
section
variable{s:List UInt8}
variable{W:W_}{b:Nat}{x:Ax}{Al:J_}{cl:Nat}{Ar:J_}{cr:Nat}{As:J_}{cs:Nat}{w0 q0 q q':W_}{kp mb pk pl pr k:Nat}{fM:Int}{v0 v v':V_}{acc P p:List Pc}{c:Cn}{u:V_}
def wU.up(h:wU w0 q0 kp mb pk pl pr b fM x Al cl Ar cr As cs v0 acc q v P k)(a:G q W):wU w0 q0 kp mb pk pl pr b fM x Al cl Ar cr As cs v0 acc W v P k:=⟨h.hf,h.tp,h.n0,h.C.up a,h.T.then a,h.B.trans (a.mono h.B.size),h.D.to (.of a),bk a h.X,h.nx,h.l⟩
def wU.base(h:wU w0 q0 kp mb pk pl pr b fM x Al cl Ar cr As cs v0 acc q v P k)(a:l_ (gU fM acc P)<=10000):wU w0 q kp mb pk pl pr b fM x Al cl Ar cr As cs v (gU fM acc P) q v [] 0:=⟨h.hf,h.tp,a,h.C,.refl _ _ _ _,h.B,h.D,h.X,h.nx,S⟩
def wU.mention(h:wU w0 q0 kp mb pk pl pr b fM x Al cl Ar cr As cs v0 acc q v P k)(a:k<=8)(s t:St)(d:l_ s<=100000)(f:l_ t<=100000)(g:G q W):z 186 #[.pointer kp,.slice W 2 2] (W.alloc (.cells #[s,t] 9)) λe q'=>e=.returned (.tuple #[])/\∃v',wU w0 q0 kp mb pk pl pr b fM x Al cl Ar cr As cs v0 acc q' v' (P++[fE s,fE t]) (k+1):=(QW h.C g s t d f h.hf (by have:=h.small a;omega)).mono λ_ _ ⟨e,_,i,j⟩=>⟨e,_,h.to i j S⟩
def wU.ind(h:wU w0 q0 kp mb pk pl pr b fM x Al cl Ar cr As cs v0 acc q v P k)(a:l_ s<=24)(d:G q W):z 189 #[(s:List UInt8)] W λe w'=>e=.returned (j5 s)/\G q w':=Hy a d
def wU.oper(h:wU w0 q0 kp mb pk pl pr b fM x Al cl Ar cr As cs v0 acc q v P k)(H:CV w0 u c)(d:u_ c=0)(a:G q W):z 187 #[u] W λe w'=>e=.returned (w_ c)/\G q w':=(NI c u W (H.up (h.B.trans (a.mono h.B.size))) (Uv d) (h.tp.up (h.B.trans (a.mono h.B.size))) d).mono λ_ _ ⟨e,f⟩=>⟨e,a.trans (f.mono a.size)⟩
def wU.sub(h:wU w0 q0 kp mb pk pl pr b fM x Al cl Ar cr As cs v0 acc q v P k){s:St}(a:G q W):z 184 #[s,t] W λe w'=>∃F,t_ s t=F/\e=.returned (.agg (mH F))/\G q w'/\∀d,w'.alloc (.cells (mH F) 152)=d->f_ d w' 152 (mH F)/\¬Xc kp mb v w'.heap.size/\wU w0 q0 kp mb pk pl pr b fM x Al cl Ar cr As cs v0 acc d v P k:=(QV s t W).mono λ_ w' ⟨e,f⟩=>⟨_,rfl,e,a.trans (f.mono a.size),λd e=>e ▸ ⟨f_.new _ _ _,h.C.fresh (a.trans (f.mono a.size)).size,h.up (X_ (a.trans (f.mono a.size)) _)⟩⟩
def wU.fin(h:wU w0 q0 kp mb pk pl pr b (-1) x Al cl Ar cr As cs v0 [] q v P k)(H:G w w0)(a:oP x=0)(d:ng x=P)(e:lM x=[F])(hb:f_ q g 152 (mH F)):uQ w x (.returned (.tuple #[v,.slice g 1 1,V 0])) q:=⟨H.trans (h.B.mono H.size),_,_,by rw[a],λf=>absurd a f,λ_=>⟨by rw[LU,d];exact nD mM U h.C.row,by rw[e];exact nD (l:=[F]) nO U (Ib (n:=6) hb rfl)⟩⟩
end
def aeD(x:Ax)(aX:x.K=1\/x.K=2\/x.K=3\/x.K=4\/x.K=8\/x.K=9):aaM x:=by
 intro w Al cl Ar cr As cs aD aJ aM a3;have ar:=QG aD;have aN:G w (w.alloc (.cells (fZ x Al cl Ar cr As cs) 30)):=bA;have aF:=O (jq x _ (w.alloc (.cells (fZ x Al cl Ar cr As cs) 30)) (aM.up aN).s a3 (aJ.up aN).av);rw[aD]at aF;have aG:Hid (oP x=0):=O (by unfold oP;rw[aD,C_ D,C_ U]);have aO:=O aJ;have a4:=O aM;have aE:=O ar.a;have aP:=O ar.b;have a5:=O ar.U;have B:=O ar.l;have s:=O ar.r;obtain⟨n,aH⟩:=e_ x.K;(have b:∀m:Int,(x.K==m)=(n==m):=λm=>by rw[aH]);rw[aH]at B s aX;have J:=O aH;have au:=O trivial;clear aJ aM ar aD a3 aN aH;(try unfold d_ at aF);rcases aX with rfl|rfl|rfl|rfl|rfl|rfl;(all_goals (try replace B:=O (B.o rfl));try replace s:=O (s.o rfl));(case' inl=>have Y:Hid (ng x=[fE (r_ x.L),fE (r_ x.R)]++gL x.L++iO x.R):=O (by unfold ng;rw[J.o];simp);have al:Hid (lM x=[t_ (r_ x.L) (r_ x.R)]):=O (by unfold lM;rw[J.o];simp);have X:Hid (l_ ((r_ x.L))<=100000/\l_ ((r_ x.R))<=100000):=O ⟨by have:=ig B.o;omega,by have:=ig s.o;omega⟩);(case' inr.inl=>have Y:Hid (ng x=[fE (r_ x.L),fE (r_ x.R)]++gL x.L++iO x.R++gL x.R++iO x.L):=O (by unfold ng;rw[J.o];simp);have al:Hid (lM x=[t_ (r_ x.L) (r_ x.R),t_ (r_ x.R) (r_ x.L)]):=O (by unfold lM;rw[J.o];simp);have X:Hid (l_ ((r_ x.L))<=100000/\l_ ((r_ x.R))<=100000):=O ⟨by have:=ig B.o;omega,by have:=ig s.o;omega⟩);(case' inr.inr.inl=>obtain⟨y,R⟩:∃y,60::w_ x.L++[32,97,110,100,32]++w_ x.R++[62]=y:=⟨_,rfl⟩;have Y:Hid (ng x=[fE y,fE [33]]++[kF y (r_ x.L)]++gL x.L++[kF y (r_ x.R)]++gL x.R):=O (by subst R;unfold ng;rw[J.o];simp[iR]);have al:Hid (lM x=[t_ y [33]]):=O (by subst R;unfold lM;rw[J.o];simp[iR]);(have aw:l_ y<=100000:=by have:=ow B.o;have:=ow s.o;rw[<-R];simp;omega);have hl1:=ow B.o;have hl2:=ow s.o;have bj:¬9223372036854775807<1+l_ (w_ x.L):=U;have bl:¬9223372036854775807<1+l_ (w_ x.L)+5:=U;have bE:¬9223372036854775807<1+l_ (w_ x.L)+5+l_ (w_ x.R):=U;have bF:¬9223372036854775807<1+l_ (w_ x.L)+5+l_ (w_ x.R)+1:=U;(have bo:(((((⟨#[60]⟩:ByteArray)++⟨(w_ x.L).toArray⟩)++⟨#[32,97,110,100,32]⟩)++⟨(w_ x.R).toArray⟩)++⟨#[62]⟩)=⟨y.toArray⟩:=by rw[<-R];show(((((⟨[60].toArray⟩:ByteArray)++⟨(w_ x.L).toArray⟩)++⟨[32,97,110,100,32].toArray⟩)++⟨(w_ x.R).toArray⟩)++⟨[62].toArray⟩)=_;rw[jO,jO,jO,jO];simp);have a6:=O (Ep aw (show(r_ x.L).length<=100000 by have:=ig B.o;omega));have a7:=O (Ep aw (show(r_ x.R).length<=100000 by have:=ig s.o;omega));clear hl1 hl2;have X:Hid (l_ y<=100000/\l_ ([33])<=100000):=O ⟨by exact aw,D⟩);(case' inr.inr.inr.inl=>obtain⟨y,R⟩:∃y,[60,115,111,109,101,32]++x.U++[32,101,118,101,114,121,116,104,105,110,103,62]=y:=⟨_,rfl⟩;have Y:Hid (ng x=[fE y,fE (r_ x.R)]++[mE y x.U jI]++iO x.R):=O (by subst R;unfold ng;rw[J.o];simp);have al:Hid (lM x=[t_ y (r_ x.R)]):=O (by subst R;unfold lM;rw[J.o];simp);(have aw:l_ y<=100000:=by have:=a5.o;rw[<-R];simp;omega);have bp:=a5.o;have bj:¬9223372036854775807<6+l_ x.U:=U;have bl:¬9223372036854775807<6+l_ x.U+12:=U;(have bo:(((⟨#[60,115,111,109,101,32]⟩:ByteArray)++⟨x.U.toArray⟩)++⟨#[32,101,118,101,114,121,116,104,105,110,103,62]⟩)=⟨y.toArray⟩:=by rw[<-R];show(((⟨[60,115,111,109,101,32].toArray⟩:ByteArray)++⟨x.U.toArray⟩)++⟨[32,101,118,101,114,121,116,104,105,110,103,62].toArray⟩)=_;rw[jO,jO]);have a8:=O (Uu aw (show l_ x.U<=100000 by omega) (show l_ jI<=100000 by decide));clear bp;have X:Hid (l_ y<=100000/\l_ ((r_ x.R))<=100000):=O ⟨by exact aw,by have:=ig s.o;omega⟩);(case' inr.inr.inr.inr.inl=>have Y:Hid (ng x=[fE (j5 x.a),fE (r_ x.R)]++iO x.R):=O (by unfold ng;rw[J.o];simp);have al:Hid (lM x=[t_ (j5 x.a) (r_ x.R)]):=O (by unfold lM;rw[J.o];simp);have X:Hid (l_ ((j5 x.a))<=100000/\l_ ((r_ x.R))<=100000):=O ⟨by have:=aE.o;simp[j5];omega,by have:=ig s.o;omega⟩);(case' inr.inr.inr.inr.inr=>have Y:Hid (ng x=[fE (j5 x.a),fE (j5 x.b)]):=O (by unfold ng;rw[J.o];simp);have al:Hid (lM x=[fC (j5 x.a) x.U (j5 x.b)]):=O (by unfold lM;rw[J.o];simp);have X:Hid (l_ ((j5 x.a))<=100000/\l_ ((j5 x.b))<=100000):=O ⟨by have:=aE.o;simp[j5];omega,by have:=aP.o;simp[j5];omega⟩);(all_goals go_in;go_wp2_with (go_at_call 42;with_reducible refine aF.o.mono ?_;rintro e w0 ⟨rfl,aQ⟩);have aR:=O (bk aQ (f_.new w 30 (fZ x Al cl Ar cr As cs)));have am:Hid (G w w0):=O (b_ bA aQ);have bq:=O (a4.o.up am.o).p;have M:=O (aO.o.up am.o).l;have P:=O (aO.o.up am.o).r;unfold d_ at M P;obtain⟨C,mb,bK,a9⟩:=LQ (-1) w0;have a':=O a9;have br:(w:Nat)<w0:=aR.o.lt;clear aQ a9 aF;go_wp2_with (go_at_call 138;(with_reducible refine a'.o.mono ?_);rintro e qn ⟨rfl,aA,aB⟩);obtain⟨v0,hv⟩:∃u,u=Value.slice none 0 0:=⟨_,rfl⟩;rw[<-hv]at aA;obtain⟨pk,pl,pr,ba⟩:=BI qn _ C mb v0 (-1) [] aA;(have bb:¬Xc C mb v0 w.heap.size:=λh=>by have:=(aA.lt h).1;omega);(have bc:Hid (∀q0,G qn q0->qj q0 C mb v0 pk pl pr->wU w0 q0 C mb pk pl pr w (-1) x Al cl Ar cr As cs v0 [] q0 v0 [] 0):=O λq0 aK aY=>⟨U,bq.o,S,aA.up aK,.refl _ _ _ _,aB.trans (aK.mono aB.size),aY,bk (aB.trans (aK.mono aB.size)) aR.o,bb,S⟩);have bd:=O ba;clear aA ba bb hv aB a' br;go_wp2_with (go_at_call 183;(with_reducible refine bd.o.mono ?_);rintro e q0 ⟨rfl,be,bf⟩;have d:=O (bc.o q0 bf be);obtain⟨z,j,c,k,o,p,t,A,E,r,H,I,K,L,Z,a⟩:=N_ d.o.X;clear be bf);have f:=O d.o.X;have s4:=N_ f.o;clear bd bc a4 aO aR);(iterate 4 all_goals (try go_wp2_with (first|(go_at_call 185;(with_reducible first|refine(d.o.atom M.o B.o (by first|exact i.o|exact .refl _ _|exact(fu _ _).drew)).mono ?_|refine(d.o.atom P.o s.o (by first|exact i.o|exact .refl _ _|exact(fu _ _).drew)).mono ?_);rintro e T ⟨rfl,h⟩;have f:=O (bk h d.o.X);have s2:=N_ f.o;have i:=O h;clear h)|(go_at_call 187;(with_reducible first|refine(d.o.oper M.o B.o (by first|exact i.o|exact .refl _ _|exact(fu _ _).drew)).mono ?_|refine(d.o.oper P.o s.o (by first|exact i.o|exact .refl _ _|exact(fu _ _).drew)).mono ?_);rintro e T ⟨rfl,h⟩;have f:=O (bk h d.o.X);have s2:=N_ f.o;have i:=O h;clear h)|(go_at_call 189;(with_reducible first|refine(d.o.ind aE.o (by first|exact i.o|exact .refl _ _|exact(fu _ _).drew)).mono ?_|refine(d.o.ind aP.o (by first|exact i.o|exact .refl _ _|exact(fu _ _).drew)).mono ?_);rintro e T ⟨rfl,h⟩;have f:=O (bk h d.o.X);have s2:=N_ f.o;have i:=O h;clear h;have ax:N T C 1 _:=(d.o.C.up i.o).blk.cell 1;have aZ:C<T:=(d.o.C.up i.o).blk.lt)|(go_at_call 186;(with_reducible first|refine(d.o.mention D _ _ X.o.1 X.o.2 (by first|exact i.o|exact .refl _ _|exact(fu _ _).drew)).mono ?_);rintro e q ⟨rfl,v,h⟩;replace d:=O h;clear h z j c k o p t A E r H I K L Z a;have f:=O d.o.X;have s4:=N_ f.o;obtain⟨z,j,c,k,o,p,t,A,E,r,H,I,K,L,Z,a⟩:=N_ f.o)|(go_at_call 188;(with_reducible first|refine(d.o.add D (kF y (r_ x.L)) a6.o #[V 1,y,x_,(r_ x.L),x_,x_,x_,V 0,V 0,V 0] rfl _ (by first|exact i.o|exact .refl _ _|exact(fu _ _).drew)).mono ?_|refine(d.o.add D (kF y (r_ x.R)) a7.o #[V 1,y,x_,(r_ x.R),x_,x_,x_,V 0,V 0,V 0] rfl _ (by first|exact i.o|exact .refl _ _|exact(fu _ _).drew)).mono ?_|refine(d.o.add D (mE y x.U jI) a8.o #[V 3,y,x_,.string ⟨#[42]⟩,x.U,x_,x_,V 0,V 0,V 0] rfl _ (by first|exact i.o|exact .refl _ _|exact(fu _ _).drew)).mono ?_);rintro e q ⟨rfl,v,h⟩;replace d:=O h;clear h z j c k o p t A E r H I K L Z a;have f:=O d.o.X;have s4:=N_ f.o;obtain⟨z,j,c,k,o,p,t,A,E,r,H,I,K,L,Z,a⟩:=N_ f.o)|(go_at_call 240;have _n:=au;clear _n;(with_reducible first|refine(d.o.L D M.o B.o).mono ?_|refine(d.o.L D P.o s.o).mono ?_);rintro e q ⟨rfl,v,h⟩;replace d:=O h;clear h z j c k o p t A E r H I K L Z a;have f:=O d.o.X;have s4:=N_ f.o;obtain⟨z,j,c,k,o,p,t,A,E,r,H,I,K,L,Z,a⟩:=N_ f.o)|(go_at_call 241;have _n:=au;clear _n;(with_reducible first|refine(d.o.R D M.o B.o).mono ?_|refine(d.o.R D P.o s.o).mono ?_);rintro e q ⟨rfl,v,h⟩;replace d:=O h;clear h z j c k o p t A E r H I K L Z a;have f:=O d.o.X;have s4:=N_ f.o;obtain⟨z,j,c,k,o,p,t,A,E,r,H,I,K,L,Z,a⟩:=N_ f.o)|(go_at_call 184;(with_reducible first|refine(d.o.sub (by first|exact i.o|exact .refl _ _|exact(fu _ _).drew)).mono ?_);rintro e ap ⟨F,ay,rfl,an,h⟩;clear au;have s2:=N_ (bk an d.o.X);have bi:=d.o.B.size;obtain⟨aL,aS⟩:=e_ (ap.alloc (.cells (mH F) 152));obtain⟨ao,aC,az⟩:=h _ aS;have ao:=O ao;have bg:=O aC;replace d:=O az;have aT:=O ay;have a0:=O an;clear ay aC az h an z j c k o p t A E r H I K L Z a;have ax:N aL C 1 _:=d.o.C.blk.cell 1;have f:=O d.o.X;have s4:=N_ f.o;obtain⟨z,j,c,k,o,p,t,A,E,r,H,I,K,L,Z,a⟩:=N_ f.o)|fail));try (go_region_held3 (λW=>A16 W w x Al cl Ar cr As cs) (first|with_reducible exact s4|with_reducible exact s2|with_reducible exact N_ (f.o.alloc _)|exact s4|exact N_ (f.o.alloc _).drew) (first|(go_at_call 185;(with_reducible first|refine(d.o.atom M.o B.o (by first|exact i.o|exact .refl _ _|exact(fu _ _).drew)).mono ?_|refine(d.o.atom P.o s.o (by first|exact i.o|exact .refl _ _|exact(fu _ _).drew)).mono ?_);rintro e T ⟨rfl,h⟩;have f:=O (bk h d.o.X);have s2:=N_ f.o;have i:=O h;clear h)|(go_at_call 187;(with_reducible first|refine(d.o.oper M.o B.o (by first|exact i.o|exact .refl _ _|exact(fu _ _).drew)).mono ?_|refine(d.o.oper P.o s.o (by first|exact i.o|exact .refl _ _|exact(fu _ _).drew)).mono ?_);rintro e T ⟨rfl,h⟩;have f:=O (bk h d.o.X);have s2:=N_ f.o;have i:=O h;clear h)|(go_at_call 189;(with_reducible first|refine(d.o.ind aE.o (by first|exact i.o|exact .refl _ _|exact(fu _ _).drew)).mono ?_|refine(d.o.ind aP.o (by first|exact i.o|exact .refl _ _|exact(fu _ _).drew)).mono ?_);rintro e T ⟨rfl,h⟩;have f:=O (bk h d.o.X);have s2:=N_ f.o;have i:=O h;clear h;have ax:N T C 1 _:=(d.o.C.up i.o).blk.cell 1;have aZ:C<T:=(d.o.C.up i.o).blk.lt)|(go_at_call 186;(with_reducible first|refine(d.o.mention D _ _ X.o.1 X.o.2 (by first|exact i.o|exact .refl _ _|exact(fu _ _).drew)).mono ?_);rintro e q ⟨rfl,v,h⟩;replace d:=O h;clear h z j c k o p t A E r H I K L Z a;have f:=O d.o.X;have s4:=N_ f.o;obtain⟨z,j,c,k,o,p,t,A,E,r,H,I,K,L,Z,a⟩:=N_ f.o)|(go_at_call 188;(with_reducible first|refine(d.o.add D (kF y (r_ x.L)) a6.o #[V 1,y,x_,(r_ x.L),x_,x_,x_,V 0,V 0,V 0] rfl _ (by first|exact i.o|exact .refl _ _|exact(fu _ _).drew)).mono ?_|refine(d.o.add D (kF y (r_ x.R)) a7.o #[V 1,y,x_,(r_ x.R),x_,x_,x_,V 0,V 0,V 0] rfl _ (by first|exact i.o|exact .refl _ _|exact(fu _ _).drew)).mono ?_|refine(d.o.add D (mE y x.U jI) a8.o #[V 3,y,x_,.string ⟨#[42]⟩,x.U,x_,x_,V 0,V 0,V 0] rfl _ (by first|exact i.o|exact .refl _ _|exact(fu _ _).drew)).mono ?_);rintro e q ⟨rfl,v,h⟩;replace d:=O h;clear h z j c k o p t A E r H I K L Z a;have f:=O d.o.X;have s4:=N_ f.o;obtain⟨z,j,c,k,o,p,t,A,E,r,H,I,K,L,Z,a⟩:=N_ f.o)|(go_at_call 240;have _n:=au;clear _n;(with_reducible first|refine(d.o.L D M.o B.o).mono ?_|refine(d.o.L D P.o s.o).mono ?_);rintro e q ⟨rfl,v,h⟩;replace d:=O h;clear h z j c k o p t A E r H I K L Z a;have f:=O d.o.X;have s4:=N_ f.o;obtain⟨z,j,c,k,o,p,t,A,E,r,H,I,K,L,Z,a⟩:=N_ f.o)|(go_at_call 241;have _n:=au;clear _n;(with_reducible first|refine(d.o.R D M.o B.o).mono ?_|refine(d.o.R D P.o s.o).mono ?_);rintro e q ⟨rfl,v,h⟩;replace d:=O h;clear h z j c k o p t A E r H I K L Z a;have f:=O d.o.X;have s4:=N_ f.o;obtain⟨z,j,c,k,o,p,t,A,E,r,H,I,K,L,Z,a⟩:=N_ f.o)|(go_at_call 184;(with_reducible first|refine(d.o.sub (by first|exact i.o|exact .refl _ _|exact(fu _ _).drew)).mono ?_);rintro e ap ⟨F,ay,rfl,an,h⟩;clear au;have s2:=N_ (bk an d.o.X);have bi:=d.o.B.size;obtain⟨aL,aS⟩:=e_ (ap.alloc (.cells (mH F) 152));obtain⟨ao,aC,az⟩:=h _ aS;have ao:=O ao;have bg:=O aC;replace d:=O az;have aT:=O ay;have a0:=O an;clear ay aC az h an z j c k o p t A E r H I K L Z a;have ax:N aL C 1 _:=d.o.C.blk.cell 1;have f:=O d.o.X;have s4:=N_ f.o;obtain⟨z,j,c,k,o,p,t,A,E,r,H,I,K,L,Z,a⟩:=N_ f.o)|fail)));(any_goals go_wp2;go_ret3;first|exact d.o.fin am.o aG.o (Y.o.trans S) (al.o.trans (by rw[aT.o])) ao.o|exact(d.o.up (X_ i.o _)).fin am.o aG.o (Y.o.trans S) al.o (f_.new _ _ _));(have a1:l_ (gU (-1) [] ([]++[fE (r_ x.L),fE (r_ x.R)]++gL x.L++iO x.R))<=10000:=by have:=(mK (-1) [] ([]++[fE (r_ x.L),fE (r_ x.R)]++gL x.L++iO x.R)).2;have aY:=d.o.l;have bG:l_ ([]:List Pc)=0:=rfl;omega);replace d:=O (d.o.base a1);obtain⟨bs,bt,bu,bv,bw⟩:=qw NT;have aU:=O ao.o;have aV:=O bg.o;have bL:=O (d.o.B.mono am.o.size);have bx:(w0:Nat)<=ap:=gY bi a0.o.size;clear a1;go_wp2_with (first|(go_at_call 240;(with_reducible refine(d.o.L D M.o B.o).mono ?_);rintro e q ⟨rfl,v,h⟩;replace d:=O h;clear h z j c k o p t A E r H I K L Z a;have f:=O d.o.X;have s4:=N_ f.o;obtain⟨z,j,c,k,o,p,t,A,E,r,H,I,K,L,Z,a⟩:=N_ f.o)|(go_at_call 241;(with_reducible refine(d.o.R D P.o s.o).mono ?_);rintro e q ⟨rfl,v,h⟩;replace d:=O h;clear h z j c k o p t A E r H I K L Z a;have f:=O d.o.X;have s4:=N_ f.o;obtain⟨z,j,c,k,o,p,t,A,E,r,H,I,K,L,Z,a⟩:=N_ f.o)|(go_at_call 184;(with_reducible refine(QV _ _ _).mono ?_);rintro e aq ⟨rfl,Q⟩;clear z j c k o p t A E r H I K L Z a;have ax:N aq C 1 _:=(d.o.C.up Q).blk.cell 1;have aZ:C<aq:=(d.o.C.up Q).blk.lt;have g1:(w:Nat)<aq:=(bk Q d.o.X).lt;have z:aq.cell? w=_:=(bk Q d.o.X).cell 0;have bM:=(d.o.T.blk aU.o aV.o).lt;have bz:=O (gJ (Ib (n:=6) (bk Q (d.o.T.blk aU.o aV.o)) rfl) (X_ (fu _ _) (.cells (mH (t_ (r_ x.R) (r_ x.L))) 152))))|(at_builtin;refine gQ _ kX rfl _ _ 90 rfl ap 152 bs (.agg (mH ⟨0,[],[],[],0,0⟩)) 6 72 underlying90 bt bu bv bw rfl D _ _ _ rfl bz.o _ _ [t_ (r_ x.R) (r_ x.L)] nO rfl (acU aq _) (λx _ u bm=>xR x u bm) ?c1 ?c2 ?c3 ?_));(case c1=>simp[m_]);(case c2=>simp);(case c3=>have:=Q.size;simp;omega);intro vf a2 aW aI bD;have bB:=O (((fu _ _).alloc (by have:=Q.size;omega) _).grown aI (by have:=Q.size;simp;omega) (λg bn=>Nat.le_of_eq (Ch bn)):Below ap aq a2);have bh:=O ((d.o.C.up (X_ Q _)).grown aI (d.o.T.nx aU.o.lt aV.o));have bH:N a2 C 1 _:=bh.o.blk.cell 1;have g3:=aI.size;have bC:=O aW;obtain⟨bI,bJ,rfl⟩:=n_ aW;clear ax z aW aI bD;go_wp2;go_ret3
 exact⟨am.o.trans (((d.o.B.trans (Q.mono d.o.B.size)).trans (bB.o.mono bx)).mono am.o.size),_,_,by rw[aG.o];rfl,λh=>absurd aG.o h,λ_=>⟨by
  have h:=nD mM U bh.o.row;rw[<-mJ]at h;rw[LU,Y.o];simp only[Y8,Kg]at h ⊢
  exact h,by rw[al.o,aT.o];exact nD (l:=[_,_]) nO U bC.o⟩⟩
def Yj(x:Ax)(a:x.K=5\/x.K=6\/x.K=7):aaM x:=by intro w b k c p s q d n j o;have F:=QG d;have l:G w (w.alloc (.cells (fZ x b k c p s q) 30)):=bA;have f:=O (jq x _ (w.alloc (.cells (fZ x b k c p s q) 30)) (j.up l).s o (n.up l).av);rw[d]at f;have r:Hid (oP x=22):=O (by unfold oP;rw[d,C_ D,P_ a]);have N:=O j;(have b1:(x.K==1)=false:=by rcases a with h|h|h<;>rw[h]<;>decide);(have b2:(x.K==2)=false:=by rcases a with h|h|h<;>rw[h]<;>decide);(have b3:(x.K==3)=false:=by rcases a with h|h|h<;>rw[h]<;>decide);(have L:(x.K==4)=false:=by rcases a with h|h|h<;>rw[h]<;>decide);(have T:(x.K==8)=false:=by rcases a with h|h|h<;>rw[h]<;>decide);(have X:(x.K==9)=false:=by rcases a with h|h|h<;>rw[h]<;>decide);clear n j F d a o l;(try unfold d_ at f);go_in;go_wp2_with (go_at_call 42;with_reducible refine f.o.mono ?_;rintro e w0 ⟨rfl,m⟩);have g:=bk m (f_.new w 30 (fZ x b k c p s q));have K:=O g;have t:Hid (G w w0):=O (b_ bA m);obtain⟨u,M,P,y⟩:=LQ (-1) w0;have H:=O y;clear g m y f;go_wp2_with (first|(go_at_call 138;(with_reducible refine H.o.mono ?_);rintro e Q ⟨rfl,A,B⟩;obtain⟨pk,pl,pr,C⟩:=BI Q _ u M _ _ _ A;have I:=O C;have i:=O B;clear C A B)|(go_at_call 183;(with_reducible refine I.o.mono ?_);rintro e q0 ⟨rfl,R,E⟩;have g:=bk (i.o.trans (E.mono i.o.size)) K.o;obtain⟨z0,Z,z2,z3,z4,z5,v,z,J,z9,S,U,V,W,Y,al⟩:=N_ g));go_ret3;exact⟨t.o.trans ((i.o.trans (E.mono i.o.size)).mono t.o.size),_,_,by rw[r.o];rfl,λ_=>⟨rfl,rfl⟩,λh=>by rw[r.o]at h;cases h⟩
def aaN(x:Ax)(w:W_)(A:J_)(c:Nat)(r:J_)(C:Nat)(s:J_)(b:Nat)(a:Z_ x≠0)(f:kH w x A c r C s b)(g:JR w)(i:oZ x):z 124 #[.agg (fZ x A c r C s b)] w (uQ w x):=by have d:G w (w.alloc (.cells (fZ x A c r C s b) 30)):=bA;have j:=O (jq x _ (w.alloc (.cells (fZ x A c r C s b) 30)) (g.up d).s i (f.up d).av);have l:oP x=Z_ x:=(by unfold oP;rw[P_ a]);have n:(Z_ x !=0)=true:=Q a;clear f g i d;(try unfold d_ at j);go_in;go_wp2_with (go_at_call 42;with_reducible refine j.o.mono ?_;rintro e w0 ⟨rfl,m⟩);go_ret3;exact⟨b_ bA m,_,_,by rw[l];rfl,λ_=>⟨rfl,rfl⟩,λh=>absurd (l.symm.trans h) a⟩
def aaO(x:Ax)(w:W_)(A:J_)(c:Nat)(r:J_)(C:Nat)(s:J_)(b:Nat)(d:kH w x A c r C s b)(e:JR w)(f:oZ x):z 124 #[.agg (fZ x A c r C s b)] w (uQ w x):=by by_cases a:Z_ x=0;(.have g:=sS a;by_cases h:x.K=5\/x.K=6\/x.K=7;(.exact Yj x h w A c r C s b a d e f);.exact aeD x U w A c r C s b a d e f);.exact aaN x w A c r C s b a d e f
def fJ:St->List St
 |[]=>[[]]
 |c::s=>if c=46 then[]::fJ s else match fJ s with
  |[]=>[[c]]
  |h::t=>(c::h)::t
def uR(s:St):fJ s≠[]:=by
 cases s with
 |nil=>simp[fJ]
 |cons c s=>
  unfold fJ;split;(.simp);.split<;>simp
def qU:∀{s:St},(46:UInt8)∉s->fJ s=[s]
 |[],_=>rfl
 |c::s,h=>by
  (have a:¬c=46:=λe=>h (by simp[e]));have b:=qU (s:=s) (λe=>h (by simp[e]));rw[fJ,C_ a,b]
def Ac:∀(a b:St),fJ (a++46::b)=fJ a++fJ b
 |[],b=>by simp[fJ]
 |c::a,b=>by
  have d:=Ac a b;by_cases h:c=46;.simp only[Ka,fJ,P_ h,d]
  .rw[Ka,fJ,C_ h,d,fJ,C_ h]
   cases e:fJ a with
   |nil=>exact absurd e (uR a)
   |cons x l=>rfl
theorem Ie:∀(k:Nat)(s:St),s.count 46=k->Lib.splitK [46] 0 k s=fJ s
 |0,s,h=>by
  rw[qU (List.count_eq_zero.1 h)];rfl
 |k+1,s,h=>by
  have f:(46:UInt8)∈s:=List.count_pos_iff.1 U;(have hi:¬Lib.indexByte s 46= -1:=λe=>by obtain⟨j,a⟩:=WE f;exact Lib.indexByte_none e j a);have q:=Lib.indexByte_ge s 46;obtain⟨i,d⟩:∃i:Nat,Lib.indexByte s 46=i:=⟨(Lib.indexByte s 46).toNat,U⟩;obtain⟨g,l⟩:=Lib.indexByte_some d;obtain⟨o,p⟩:=jv.1 g;(have b:s=s.take i++46::s.drop (i+1):=by conv=>lhs;rw[<-dw_ i s,Jd o,p]);(have c:(46:UInt8)∉s.take i:=λe=>by obtain⟨j,a⟩:=WE e;grind);(have H:(s.drop (i+1)).count 46=k:=by grind);rw[Lib.splitK,Lib.index_one,d,C_ S];have m:((i:Int).toNat+0)=i:=U;have n:((i:Int).toNat+l_ ([46]:St))=i+1:=S;rw[m,n,Ie k _ H];(conv=>rhs;rw[b,Ac,qU c]);rfl
def NU(h:nP s=true){c:UInt8}(H:(jA c||c==95||(48<=c&&c<=57))=false):c∉s:=λa=>by have:=Vo.1 h c a;rw[H]at this;cases this
theorem Ad(h:kr s=true):nP s=true/\∃c t,s=c::t/\jA c=true:=by unfold kr at h;grind
def NV:∀(s:St),(pE s).2=none/\s=(pE s).1\/∃b,(pE s).2=some b/\s=(pE s).1++58::b
 |[]=> .inl ⟨rfl,rfl⟩
 |c::s=>by
  by_cases h:c=58;(.subst h;exact .inr ⟨s,by simp[pE],by simp[pE]⟩);.rcases NV s with⟨a,d⟩|⟨b,a,d⟩;(.exact .inl ⟨by simp[pE,h,a],by simp[pE,h,<-d]⟩);.exact .inr ⟨b,by simp[pE,h,a],by simp only[pE,C_ h,Ka];rw[<-d]⟩
theorem Ig(h:fK s=true):kr (pE s).1=true/\∀b,(pE s).2=some b->kr b=true:=by unfold fK at h;grind
theorem Ae(h:Y_ s=true):(46:UInt8)∉s:=by unfold Y_ at h;rcases WB _ _ ▸ h with h|h;(.obtain⟨e,f⟩:=Ig h;have t1:=NU (Ad e).1 (c:=46) D;rcases NV s with⟨d,a⟩|⟨b,d,a⟩;(.grind);.have t2:=NU (Ad (f b d)).1 (c:=46) D;grind);.unfold iP at h;split at h;(.simp only[OB]at h;exact NU h.1.2 D);grind
theorem Yk(h:Y_ s=true):∃c t,s=c::t/\c≠123/\c≠60:=by unfold Y_ at h;rcases WB _ _ ▸ h with h|h;(.obtain⟨d,g⟩:=Ig h;obtain⟨_,c,t,e,hl⟩:=Ad d;have H:c≠123/\c≠60:=⟨λe=>by subst e;revert hl;decide,λe=>by subst e;revert hl;decide⟩;rcases NV s with⟨f,a⟩|⟨b,f,a⟩;(.grind);grind);.unfold iP at h;grind
def mR(s:St):Prop:=l_ (fJ s)<=4/\∀r∈fJ s,Y_ r=true
def jJ(s:St):Prop:=s=jI\/s=iR\/(∃n,Y_ n=true/\s=j5 n)\/(∃t:St,t≠[]/\l_ t<=90000/\s=60::t++[62])\/Y_ s=true
def VX(k:Int):Bool:=decide (k=1\/k=2\/k=3\/k=4\/k=8)
def VY(k:Int):Bool:=decide (k=2)
def VZ(k:Int):Bool:=decide (k=1\/k=2\/k=3\/k=4\/k=9)
def UE(k:Int):Bool:=decide (k=3\/k=4\/k=5\/k=6\/k=7\/k=8\/k=9)
def V3(k:Int):Bool:=decide (k=6)
def V4(k:Int):Bool:=decide (k=5\/k=6)
def LV(k:Int):Bool:=decide (k=8\/k=9)
structure Eu(p:Pc):Prop where
 k:1<=p.K/\p.K<=9
 n:(LV p.K=true-> -maxNum<=p.lo/\p.lo<=p.hi/\p.hi<=maxNum)/\(LV p.K=false->p.lo=0/\p.hi=0)
 a:(VX p.K=true->jJ p.A)/\(VX p.K=false->p.A=[])
 b:(VY p.K=true->jJ p.B)/\(VY p.K=false->p.B=[])
 c:(VZ p.K=true->jJ p.C)/\(VZ p.K=false->p.C=[])
 r:(UE p.K=true->mR p.R/\(LV p.K=true->Y_ p.R=true))/\(UE p.K=false->p.R=[])
 s:(V3 p.K=true->mR p.S)/\(V3 p.K=false->p.S=[])
 t:(V4 p.K=true->mR p.T)/\(V4 p.K=false->p.T=[])
theorem Ih(h:jJ s):l_ s<=100000:=by rcases h with rfl|rfl|⟨n,a,rfl⟩|⟨t,_,b,rfl⟩|h;(.decide);(.decide);(.have:=uO a;simp[j5];omega);(.grind);.have:=uO h;omega
theorem Ii:∀(s:St)(m:Nat),(∀r∈fJ s,l_ r<=m)->l_ s+1<=(m+1)*l_ (fJ s)
 |[],m,_=>by simp[fJ]
 |c::s,m,h=>by
  by_cases H:c=46;.rw[fJ,P_ H]at h ⊢;(have:=Ii s m λr g=>h r (by simp[g]));simp only[p8,Nat.mul_add]at this ⊢;omega
  .rw[fJ,C_ H]at h ⊢
   cases j:fJ s with
   |nil=>exact absurd j (uR s)
   |cons a l=>
    rw[j]at h;have p:=h (c::a) S;simp only[p8]at p
    have K:∀(s:St)(a:St)(l:List St),fJ s=a::l->(∀r∈l,l_ r<=m)->l_ s<=l_ a+(m+1)*l_ l:=by
     intro s
     induction s with
     |nil=>intro a l e _;simp[fJ]at e;simp[e.1.symm]
     |cons d s o=>
      intro a l e hl;by_cases t:d=46
      .rw[fJ,P_ t]at e
       injection e with n i
       cases f:fJ s with
       |nil=>exact absurd f (uR s)
       |cons b k=>
        have hb:=o b k f (λr g=>hl r (by grind));have q:=hl b (by grind);rw[<-n,<-i,f];simp only[p8,Mv,Nat.mul_add]at hb ⊢;omega
      .rw[fJ,C_ t]at e
       cases f:fJ s with
       |nil=>exact absurd f (uR s)
       |cons b k=>
        rw[f]at e;injection e with n i;have hb:=o b k f (λr g=>hl r (by grind));rw[<-n,<-i];simp only[p8]at hb ⊢;omega
    (have:=K s a l j λr g=>h r (by simp[g]));simp only[p8,Nat.mul_add]at this ⊢;omega
theorem Ij(h:mR s):l_ s<=100000:=by(have:=Ii s 24 λr a=>uO (h.2 r a));have b:=h.1;grind
def pY(h:mR s):s≠[]:=λe=>by have:=h.2 [] (by rw[e];simp[fJ]);revert this;decide
theorem lI(h:Y_ s=true):mR s:=by unfold mR;rw[qU (Ae h)];grind
def QX{c:St}(b:jJ a)(h:jJ c):Eu (kF a c):=by constructor<;>simp[kF,LV,VX,VY,VZ,UE,V3,V4]<;>assumption
def agr{c:St}(d:jJ a)(hb:jJ b)(h:jJ c):Eu (wP a b c):=by constructor<;>simp[wP,LV,VX,VY,VZ,UE,V3,V4]<;>assumption
def aaR{c:St}(d:jJ a)(b:Y_ r=true)(h:jJ c):Eu (mE a r c):=by have:=lI b;constructor<;>simp[mE,LV,VX,VY,VZ,UE,V3,V4]<;>assumption
def adI{c:St}(b:Y_ r=true)(d:jJ a)(h:jJ c):Eu (og r a c):=by have:=lI b;constructor<;>simp[og,LV,VX,VY,VZ,UE,V3,V4]<;>assumption
def ags(a:mR r)(b:mR t):Eu (sK r t):=by constructor<;>simp[sK,LV,VX,VY,VZ,UE,V3,V4]<;>assumption
def aaS(a:mR r)(b:mR s)(c:mR t):Eu (jV r s t):=by constructor<;>simp[jV,LV,VX,VY,VZ,UE,V3,V4]<;>assumption
def agt(a:mR r):Eu (qc r):=by constructor<;>simp[qc,LV,VX,VY,VZ,UE,V3,V4]<;>assumption
def vIn{lo hi:Int}(c:jJ a)(b:Y_ r=true)(d: -maxNum<=lo/\lo<=hi/\hi<=maxNum):Eu (Vy a r lo hi):=by have:=lI b;constructor<;>simp[Vy,LV,VX,VY,VZ,UE,V3,V4]<;>first|assumption|exact⟨this,b⟩
def aie{c:St}{lo hi:Int}(a:Y_ r=true)(h:jJ c)(b: -maxNum<=lo/\lo<=hi/\hi<=maxNum):Eu (AQ r lo hi c):=by have:=lI a;constructor<;>simp[AQ,LV,VX,VY,VZ,UE,V3,V4]<;>first|assumption|exact⟨this,a⟩
theorem Ik(h:u_ c=0):(c.K=3\/c.K=6\/c.K=7->Y_ c.N=true)/\(c.K=4->Y_ c.N=true)/\(c.K=7-> -maxNum<=c.lo/\c.lo<=c.hi/\c.hi<=maxNum):=by have b:=(kM h).own;unfold fU at b;split at b;(.cases b);split at b;(.cases b);split at b;(.cases b);rename_i f;split at b;(.rename_i a;refine⟨λd=>?_,λd=>?_,λd=>?_⟩;(·(have e:iH c.K=1:=by unfold iH;rw[P_ d]);rw[e]at a;rcases a with a|a|a;(.cases a);(.unfold Y_;grind);grind);(·(have e:iH c.K=2:=by unfold iH;grind);rw[e]at a;unfold Y_;grind);grind);grind
def aaT{c:St}(h:c≠[]):jM c (a::b::l)≠[]:=by simp[jM,h]
def aaU(h:u_ c=0)(g:5<=c.K):iX c≠[]:=by
 have d:=iB (kM h).own;obtain⟨k,n,lo,hi,ps⟩:=c;simp only[Cn.K,Cn.J]at *;unfold iX;rw[C_ U,C_ U,C_ U,C_ U];split
 .rename_i e
  have f:=(d.2.2.2.1 e).1
  match ps,f with
  |a::b::l,_=>simp only[Sn];exact aaT S
 split<;>simp
theorem gX(h:u_ c=0):jJ (r_ c):=by have a:=Ik h;have b:=iB (kM h).own;unfold r_ jJ;split;(.exact .inl rfl);split;(.exact .inr (.inl rfl));split;(.rename_i e;exact .inr (.inr (.inr (.inr (a.1 (.inl e))))));split;(.grind);.exact .inr (.inr (.inr (.inl ⟨_,aaU h U,by have:=xV h;omega,rfl⟩)))
def UF:jJ jI:= .inl rfl
def aaV:jJ iR:= .inr (.inl rfl)
def Dw{n:St}(h:Y_ n=true):jJ (j5 n):= .inr (.inr (.inl ⟨n,h,rfl⟩))
def NW(h:u_ c=0)(hl:0<l_ c.J):jJ (headA c.J):=by obtain⟨p,a⟩:=g_ hl;rw[Du a];exact gX (iU h (gV a))
def V5(h:u_ c=0)(b:c.K=5):∀(k:Nat),k+1<=l_ c.J->∀p∈wS c.J k,Eu p
 |0,_=>λp a=>by simp[wS]at a
 |k+1,e=>λp a=>by
  obtain⟨q,d⟩:∃q,c.J[k+1]?=some q:=⟨_,r9 U⟩;rw[LG d]at a;rcases iq.1 a with a|a;(.exact V5 h b k U p a);.rw[gW.1 a];refine agr ?_ (gX (iU h (gV d))) (gX (nS h b U U));unfold nG;split;(.exact NW h U);.exact gX (nS h b U U)
theorem QY(c:Cn)(h:u_ c=0):∀p∈iO c,Eu p:=by
 induction c using Cn.ind with
 |h c k=>
  have m:∀ps:List Cn,(∀q∈ps,q∈c.J)->∀p∈iT ps,Eu p:=by
   intro ps
   induction ps with
   |nil=>intro _ q d;simp[iT]at d
   |cons a l n=>
    intro b q d;simp only[iT,iq]at d;rcases d with d|d;(.exact k a (b a S) (iU h (b a S)) q d);.exact n (λp e=>b p (by simp[e])) q d
  (have hl:=m c.J λ_ h=>h);have e:=iB (kM h).own;have j:=Ik h;intro p b;by_cases f:c.K=5;(.have:=(e.2.2.2.1 f).1;rw[LH f U]at b;rcases iq.1 b with b|b;(.grind);.exact V5 h f _ U p b);by_cases g:c.K=6;(.rw[Hu g]at b;rcases iq.1 b with b|b;(.grind);.rw[gW.1 b];exact adI (j.1 (.inr (.inl g))) (NW h (by grind)) (gX h));by_cases i:c.K=7;(.rw[Er i]at b;rw[gW.1 b];exact aie (j.1 (.inr (.inr i))) (gX h) (j.2.2 i));.rw[QE f g i]at b;cases b
theorem LW(c:Cn)(h:u_ c=0):∀p∈gL c,Eu p:=by
 induction c using Cn.ind with
 |h c m=>
  have r:∀(ps:List Cn)(a:St),jJ a->(∀q∈ps,q∈c.J)->∀p∈iQ a ps,Eu p:=by
   intro ps a o
   induction ps with
   |nil=>intro _ q e;simp[iQ]at e
   |cons d l k=>
    intro b q e;have H:=iU h (b d S);simp only[iQ,jL,iq]at e;rcases e with e|e|e;(.rw[e];exact QX o (gX H));(.grind);.exact k (λp f=>b p (by simp[f])) q e
  have s:∀(ps:List Cn),(∀q∈ps,q∈c.J)->∀p∈mU ps,Eu p:=by
   intro ps
   induction ps with
   |nil=>intro _ q e;simp[mU]at e
   |cons d l k=>
    intro b q e;have H:=iU h (b d S);simp only[mU,iq]at e;rcases e with e|e;(.grind);.exact k (λp f=>b p (by simp[f])) q e
  have f:=iB (kM h).own;have j:=Ik h;intro p b;by_cases n:c.K=5;(.rw[Hw n]at b;exact r _ _ (gX h) (λ_ h=>h) p b);by_cases g:c.K=6;(.rw[Es g]at b;rcases jL.1 b with b|b;(.rw[b];exact aaR (gX h) (j.1 (.inr (.inl g))) (NW h (by grind)));grind);by_cases i:c.K=7;(.rw[BD i]at b;rw[gW.1 b];exact vIn (gX h) (j.1 (.inr (.inr i))) (j.2.2 i));.rw[LJ n g i]at b;cases b
structure aif(x:Ax):Prop where
 U:nJ x.K=true->Y_ x.U=true
 a:uA x.K=true->Y_ x.a=true
 b:uB x.K=true->Y_ x.b=true
 rs:∀s∈x.H,Y_ s=true
theorem Il(h:fK s=true):Y_ s=true:=by unfold Y_;grind
theorem agu(h:Z_ x=0):aif x:=by unfold Z_ at h;by_cases a:iN x=false;(.rw[P_ a]at h;cases h);rw[C_ a]at h;by_cases c:nU x=false;(.rw[P_ c]at h;cases h);have b:nU x=true:=Q c;unfold nU at b;simp only[OB,WB,ev_]at b;obtain⟨⟨⟨M,f⟩,d⟩,e⟩:=b;refine⟨λu=>?_,λu=>?_,λu=>?_,λs a=>Il (Vo.1 e s a)⟩;(.rcases M with m|m;(.rw[u]at m;cases m);.exact Il m);(.grind);grind
theorem LX(d:Y_ t=true):∀(l:List St)(f:St),mR f->l_ (fJ f)+l_ l<=4->(∀s∈l,Y_ s=true)->∀p∈pG f t l,Eu p
 |[],f,_,_,_=>λp a=>by simp[pG]at a
 |[s],f,h,_,hl=>λp a=>by
  simp only[pG,gW]at a;rw[a];exact aaS h (lI (hl s S)) (lI d)
 |s::r::l,f,h,hn,hl=>λp a=>by
  have c:=hl s S;(have e:fJ (f++46::s)=fJ f++[s]:=by rw[Ac,qU (Ae c)]);(have g:mR (f++46::s):=by unfold mR;rw[e];refine⟨by simp at hn ⊢;omega,λx b=>?_⟩;rcases iq.1 b with b|b;(.exact h.2 x b);grind);simp only[pG,jL]at a;rcases a with a|a;(.rw[a];exact aaS h (lI c) g);.exact LX d (r::l) _ g (by grind) (λx b=>hl x (by grind)) p a
theorem aeE(h:Z_ x=0):∀p∈Ci x,Eu p:=by
 have m:=QG h;have i:=agu h;(have L:=λc H p d=>QY c H p d);(have R:=λc H p d=>LW c H p d);intro p d;unfold Ci at d;have g:jB x.K=true->u_ x.L=0:=m.l;have f:jk x.K=true->u_ x.R=0:=m.r;split at d;(.rename_i e;have g:=g (by rw[e];rfl);have f:=f (by rw[e];rfl);simp only[iq,gW,Y0]at d;rcases d with d|d|d;(.exact L _ g p d);(.grind);.rw[d];exact QX (gX g) (gX f));split at d;(.rename_i e;have g:=g (by rw[e];rfl);have f:=f (by rw[e];rfl);simp only[iq,gW,Y0]at d;rcases d with d|d|d|d|d|d;(.exact L _ g p d);(.exact R _ f p d);(.rw[d];exact QX (gX g) (gX f));(.exact L _ f p d);(.grind);.rw[d];exact QX (gX f) (gX g));split at d;(.rename_i e;have g:=g (by rw[e];rfl);have f:=f (by rw[e];rfl);simp only[iq,gW,Y0]at d;rcases d with d|d|d;(.exact L _ g p d);(.grind);.rw[d];exact agr (gX g) (gX f) aaV);split at d;(.rename_i e;have f:=f (by rw[e];rfl);simp only[iq,gW]at d;rcases d with d|d;(.grind);.rw[d];exact adI (i.U (by rw[e];rfl)) UF (gX f));split at d
 .rename_i e
  rw[gW.1 d];refine ags (lI ?_) (lI (i.U (by rw[e];rfl)));have j:=m.n.1;rw[e]at j
  cases k:x.H with
  |nil=>rw[k]at j;simp[kE]at j
  |cons a l=>exact i.rs a (by grind)
 split at d
 .rename_i e
  have j:=m.n;rw[e]at j
  cases k:x.H with
  |nil=>rw[k]at j;simp[kE]at j
  |cons a l=>
   rw[k]at d j;have o:=i.rs a (by grind);refine LX (i.U (by rw[e];rfl)) _ _ (lI o) ?_ (λs q=>i.rs s (by grind)) p d;show(fJ a).length+l_ l<=4;rw[qU (Ae o)];have:=j.2;simp[nZ]at this ⊢;omega
 split at d;(.rename_i e;rw[gW.1 d];exact agt (lI (i.U (by rw[e];rfl))));split at d;(.rename_i e;have f:=f (by rw[e];rfl);simp only[iq,gW]at d;rcases d with d|d;(.grind);.rw[d];exact QX (Dw (i.a (by rw[e];rfl))) (gX f));split at d;(.rename_i e;rw[gW.1 d];exact aaR (Dw (i.a (by rw[e];rfl))) (i.U (by rw[e];rfl)) (Dw (i.b (by rw[e];rfl))));.cases d
theorem aaW(h:Z_ x=0):∀p∈ng x,Eu p:=by have k:=QG h;have j:=agu h;(have L:=λc H p d=>QY c H p d);(have R:=λc H p d=>LW c H p d);intro p d;(have M:∀a,jJ a->Eu (fE a):=λa m=>QX m UF);have g:jB x.K=true->u_ x.L=0:=k.l;have f:jk x.K=true->u_ x.R=0:=k.r;unfold ng at d;split at d;(.rename_i e;have g:=g (by rw[e];rfl);have f:=f (by rw[e];rfl);simp only[iq,jL,Vp,Vq,Y0]at d;rcases d with d|d|d|d;(.rw[d];exact M _ (gX g));(.rw[d];exact M _ (gX f));(.grind);grind);split at d;(.rename_i e;have g:=g (by rw[e];rfl);have f:=f (by rw[e];rfl);simp only[iq,jL,Vp,Vq,Y0]at d;rcases d with d|d|d|d|d|d;(.rw[d];exact M _ (gX g));(.rw[d];exact M _ (gX f));(.exact R _ g p d);(.exact L _ f p d);(.grind);grind);split at d;(.rename_i e;have g:=g (by rw[e];rfl);have f:=f (by rw[e];rfl);have i:jJ (60::w_ x.L++[32,97,110,100,32]++w_ x.R++[62]):= .inr (.inr (.inr (.inl ⟨w_ x.L++[32,97,110,100,32]++w_ x.R,S,by have o:=ow g;have q:=ow f;simp;omega,S⟩)));simp only[iq,jL,Vp,Vq,Y0]at d;rcases d with d|d|d|d|d|d;(.rw[d];exact M _ (Q i));(.rw[d];exact M _ aaV);(.rw[d];exact QX (Q i) (gX g));(.grind);(.rw[d];exact QX (Q i) (gX f));grind);split at d;(.rename_i e;have f:=f (by rw[e];rfl);have n:=j.U (by rw[e];rfl);have i:jJ ([60,115,111,109,101,32]++x.U++[32,101,118,101,114,121,116,104,105,110,103,62]):= .inr (.inr (.inr (.inl ⟨[115,111,109,101,32]++x.U++[32,101,118,101,114,121,116,104,105,110,103],S,by have:=k.U;simp;omega,S⟩)));simp only[iq,jL,Vp,Vq,Y0]at d;rcases d with d|d|d|d;(.grind);(.rw[d];exact M _ (gX f));(.rw[d];exact aaR (Q i) n UF);grind);split at d;(.rename_i e;have f:=f (by rw[e];rfl);simp only[iq,jL,Vp,Vq,Y0]at d;rcases d with d|d|d;(.rw[d];exact M _ (Dw (j.a (by rw[e];rfl))));(.rw[d];exact M _ (gX f));grind);split at d;(.rename_i e;simp only[jL,Vp,Vq]at d;rcases d with d|d;(.rw[d];exact M _ (Dw (j.a (by rw[e];rfl))));.rw[d];exact M _ (Dw (j.b (by rw[e];rfl))));grind
theorem Eu.small(h:Eu p):SmQ p:=by(have d:∀{s:St},s=[]->l_ s<=100000:=λe=>by grind);refine⟨?_,?_,?_,?_,?_,?_,?_,?_⟩;(.cases e:VX p.K;(.exact d (h.a.2 e));.exact Ih (h.a.1 e));(.cases e:VY p.K;(.exact d (h.b.2 e));.exact Ih (h.b.1 e));(.cases e:VZ p.K;(.exact d (h.c.2 e));.exact Ih (h.c.1 e));(.cases e:UE p.K;(.exact d (h.r.2 e));.exact Ij (h.r.1 e).1);(.cases e:V3 p.K;(.exact d (h.s.2 e));.exact Ij (h.s.1 e));(.cases e:V4 p.K;(.exact d (h.t.2 e));.exact Ij (h.t.1 e));(.cases e:LV p.K;(.have:=h.n.2 e;grind);.have:=h.n.1 e;rw[jT]at this;omega);.cases e:LV p.K;(.have:=h.n.2 e;grind);.have:=h.n.1 e;rw[jT]at this;omega
def Eu.canon(h:Eu p):Canon (o_ 0 p):=by obtain⟨k,A,B,C,R,S,T,lo,hi,f⟩:=p;obtain⟨d,n,a,b,c,r,s,t⟩:=h;simp only at d n a b c r s t;rcases(show k=1\/k=2\/k=3\/k=4\/k=5\/k=6\/k=7\/k=8\/k=9 by omega) with rfl|rfl|rfl|rfl|rfl|rfl|rfl|rfl|rfl;(all_goals simp[LV,VX,VY,VZ,UE,V3,V4]at n a b c r s t);(.exact .inl ⟨rfl,by simp[kF,o_,n,b,r,s,t]⟩);(.exact .inr (.inl ⟨rfl,by simp[wP,o_,n,r,s,t]⟩));(.exact .inr (.inr (.inl ⟨rfl,by simp[mE,o_,n,b,s,t],pY r⟩)));(.exact .inr (.inr (.inr (.inl ⟨rfl,by simp[og,o_,n,b,s,t],pY r⟩))));(.exact .inr (.inr (.inr (.inr (.inl ⟨rfl,by simp[sK,o_,n,a,b,c,s],pY r,pY t⟩)))));(.exact .inr (.inr (.inr (.inr (.inr (.inl ⟨rfl,by simp[jV,o_,n,a,b,c],pY r,pY s,pY t⟩))))));(.exact .inr (.inr (.inr (.inr (.inr (.inr (.inl ⟨rfl,by simp[qc,o_,n,a,b,c,s,t],pY r⟩)))))));(.exact .inr (.inr (.inr (.inr (.inr (.inr (.inr (.inl ⟨rfl,by simp[Vy,o_,b,c,s,t],pY r.1⟩))))))));.exact .inr (.inr (.inr (.inr (.inr (.inr (.inr (.inr ⟨rfl,by simp[AQ,o_,a,b,s,t],pY r.1⟩)))))))
structure JV(p:Pc):Prop where
 v:Eu p
 f: -1<=p.fM/\p.fM<1024
def Eu.fM(h:Eu p){n:Int}(d: -1<=n/\n<1024):JV (o_ n p):=⟨⟨h.k,h.n,h.a,h.b,h.c,h.r,h.s,h.t⟩,d⟩
def aii(h:∀p∈P,JV p):wR P:=by refine⟨λx ⟨y,f,e⟩=>by rw[<-e];exact(h y f).v.canon,λx ⟨y,f,e⟩=>?_,λx ⟨y,f,e⟩ g=>?_⟩;(.have d:=(h y f).v.small;rw[<-e];exact⟨d.a,d.b,d.c,d.r,d.s,d.t,d.lo,d.hi⟩);.have i:=(h y f).v.n.1;rw[<-e]at g ⊢;have:=i (by unfold LV;exact y7 g);show y.lo<=y.hi;omega
theorem Im{l:List Pc}(h:p∈rz l):p∈l:=by
 unfold rz at h
 have k:∀(l b:List Pc),p∈l.foldl (λb p=>if p∈b then b else b++[p]) b->p∈b\/p∈l:=by
  intro l
  induction l with
  |nil=>intro b h;exact .inl h
  |cons a l c=>
   intro b h;rw[fe_]at h;rcases c _ h with h|h;(.grind);.exact .inr (by simp[h])
 rcases k l [] h with h|h;(.cases h);.exact h
def Yl(h:∀x∈L,Z_ x=0)(hl:l_ L<=1024):∀p∈fH L,JV p:=λp b=>by obtain⟨i,x,a,z,c,rfl⟩:=oK.1 b;have:=(jv.1 a).1;exact(aeE (h x (gV a)) z (Im c)).fM U
def Ym(h:Z_ x=0):∀p∈nA x,JV p:=λp a=>by unfold nA at a;obtain⟨z,b,rfl⟩:=pq.1 a;exact(aaW h z (Im b)).fM U
def Yp(s:St):(Lib.splitB ⟨#[46]⟩ 0 (Lib.countB ⟨s.toArray⟩ ⟨#[46]⟩) ⟨s.toArray⟩).map Value.string=(fJ s).map d_:=by have a:=Lib.splitB_data ⟨#[46]⟩ 0 (Lib.countB ⟨s.toArray⟩ ⟨#[46]⟩) ⟨s.toArray⟩;(have b:Lib.countB ⟨s.toArray⟩ ⟨#[46]⟩=s.count 46:=by show Lib.count s.toArray.toList [46]=_;rw[Lib.count_one]);have c:=Ie (s.count 46) s rfl;rw[b]at a ⊢;(have d:(Lib.splitB ⟨#[46]⟩ 0 (s.count 46) ⟨s.toArray⟩).map (·.data.toList)=fJ s:=by rw[a];exact c);rw[<-d,Vr];apply List.map_congr_left;intro x _;show Value.string x=Value.string ⟨x.data.toList.toArray⟩;simp
def N7(s:St)(w:W_)(g:l_ s<4294967281):z 317 #[s,.string ⟨#[46]⟩,V 0,V (-1)] w λe w'=>e=.returned (.slice w (l_ (fJ s)) (l_ (fJ s)))/\w'=w.alloc (.cells ((fJ s).map d_).toArray 9):=by
 have L:=Tryz.ME;have d:=Lib.splitB_all ⟨#[46]⟩ D 0 _ ⟨s.toArray⟩ rfl;have f:=Yp s;(have hl2:l_ (fJ s)=Lib.countB ⟨s.toArray⟩ ⟨#[46]⟩+1:=by have:=iM l_ f;simp only[qm]at this;rw[<-this,d]);have j:=Lib.countB_le ⟨#[46]⟩ D _ ⟨s.toArray⟩ (gH _)
 have c:=Any.strings_genSplit_core L k_ ⟨s.toArray⟩ ⟨#[46]⟩ 0 (-1) (Lib.countB ⟨s.toArray⟩ ⟨#[46]⟩+1) w (show s.toArray.size<4294967281 by rw[bc_];exact g) D (gZ _)
  (λx c i=>by
   (refine(Any.strings_Index_one {L with} x 46 _).mono λe w' ⟨a,b⟩=>⟨?_,b⟩);rw[a];show _=Ending.returned (Value.int .i64 (Lib.index x.data.toList [46]))
   rw[Lib.index_one])
  (by
   (refine(Any.strings_Count_one {L with} ⟨s.toArray⟩ 46 w).mono λe w' ⟨a,b⟩=>⟨?_,b⟩);rw[a];show _=Ending.returned (Value.int .i64 ((Lib.count s.toArray.toList [46]:Nat):Int));rw[Lib.count_one]
   rfl)
  D D (by rw[P_ D];omega)
 rw[Nat.add_sub_cancel,d]at c;(have h:Lib.cellsOf (Lib.splitB ⟨#[46]⟩ 0 (Lib.countB ⟨s.toArray⟩ ⟨#[46]⟩) ⟨s.toArray⟩) (Lib.countB ⟨s.toArray⟩ ⟨#[46]⟩+1)=((fJ s).map d_).toArray:=by rw[<-f];(conv=>lhs;rw[<-d]);exact Lib.cellsOf_full _);rw[h]at c;rw[hl2];exact c
def Yq(s:St)(w:W_)(a:l_ s<4294967281):z 294 #[s,.string ⟨#[46]⟩] w λe w'=>e=.returned (.slice w (l_ (fJ s)) (l_ (fJ s)))/\w'=w.alloc (.cells ((fJ s).map d_).toArray 9):=by have b:=(N7 s w a);clear a;go_in;go_wp2_with (go_at_call 317;refine b.mono ?_;rintro e c ⟨rfl,rfl⟩);go_ret;exact⟨rfl,rfl⟩
def vU(s:St)(w:W_)(c:l_ s<=4611686018427387904):Y 261 #[s] w (Y_ s):=by
 have a:=O (pV s w c);clear c
 cases h:Y_ s with
 |true=>
  rw[h]at a;simp only[ds_]at a;clear h;go_in;go_wp2_with (go_at_call 115;with_reducible refine a.o.mono ?_;rintro e d ⟨rfl,b⟩);go_ret;exact⟨rfl,b⟩
 |false=>
  rw[h]at a;simp only[du_,dv_]at a;clear h;go_in;go_wp2_with (go_at_call 115;with_reducible refine a.o.mono ?_;rintro e d ⟨rfl,b⟩);go_ret;exact⟨rfl,b⟩
def Q5(s:St)(w:W_)(a:l_ s<=4611686018427387904):Y 296 #[s] w (.bool (!Y_ s)):=by have c:=(vU s w a);clear a;generalize Y_ s=b at *;go_in;go_wp2_with (go_at_call 261;with_reducible refine c.mono ?_;rintro e f ⟨rfl,d⟩);go_ret;exact⟨rfl,d⟩
def JW(l:List St)(m:∀s∈l,Y_ s=true)(v:V_)(w:W_)(h:jQ w v l)(hl:∀s∈l,l_ s<=1000000):Y 318 #[v,.func (.func 296) #[] #[]] w (V (-1)):=by obtain⟨A,c,rfl,H,g,_⟩:=S1.form h;have p:=gY H g;simp only[m_]at p;clear H g;go_in;go_wp2;go_loopw [8] (λi wr=>∃k:Nat,k<=l_ l/\i=.int .i64 (k:Int)/\Hid (G w wr)) (λi _=>l_ l-(intOf i).toNat);exact⟨0,gZ _,rfl,O (fu _ _)⟩;obtain⟨k,t,rfl,f⟩:=hrel;by_cases q:k<l_ l;(.obtain⟨s,a⟩:=g_ q;obtain⟨b,x,rfl,y,n⟩:=Ev (S1.up h f.o) a;have d:=O (Q5 s wr (by have:=hl s (gV a);omega));rw[m s (gV a)]at d;simp only[Bool.not_true]at d;have z:0<=(k:Int):=U;have u:(k:Int)<l_ l:=U;clear a;go_wp2_with fail;refine d.o.mono ?_;rintro e o ⟨rfl,j⟩;have r:Hid (G w o):=O (b_ f.o j);clear j n d;go_wp2;go_roundw;exact⟨k+1,U,R,r⟩;exact M);·(obtain rfl:k=l_ l:=by omega);go_wp2;go_ret;exact⟨rfl,f.o⟩
def Dx(l:List St)(a:∀s∈l,Y_ s=true)(v:V_)(w:W_)(h:jQ w v l)(hl:∀s∈l,l_ s<=1000000):Y 295 #[v,.func (.func 296) #[] #[]] w false:=by have b:=(JW l a v w h hl);clear h a hl;go_in;go_wp2_with fail;refine b.mono ?_;rintro e d ⟨rfl,c⟩;go_wp2;go_ret;exact⟨rfl,c⟩
def Yr(s:St):∀r∈fJ s,l_ r<=l_ s:=by
 induction s with
 |nil=>intro r b;simp[fJ]at b;simp[b]
 |cons c s d=>
  intro r b;by_cases h:c=46;.rw[fJ,P_ h]at b;rcases jL.1 b with b|b;(.rw[b];simp);.have:=d r b;simp;omega
  .rw[fJ,C_ h]at b
   cases e:fJ s with
   |nil=>exact absurd e (uR s)
   |cons a l=>
    rw[e]at b d;rcases jL.1 b with b|b;(.have:=d a S;rw[b];simp;omega);.have:=d r (by simp[b]);simp;omega
def yh(s:St)(w:W_)(a:mR s)(d:l_ s<=1000000):Y 260 #[s] w true:=by have⟨b,c⟩:=e_ (w.alloc (.cells ((fJ s).map d_).toArray 9));have h:Hid (z 294 #[s,.string ⟨#[46]⟩] w λe w'=>e=.returned (.slice w (l_ (fJ s)) (l_ (fJ s)))/\w'=b):=O (by rw[<-c];exact Yq s w U);(have H:G w b:=by rw[<-c];exact bA);(have i:jQ b (.slice w (l_ (fJ s)) (l_ (fJ s))) (fJ s):=by have:=S1.lit w w rfl 9 ((fJ s).map d_).toArray d_ (fJ s) (l_ (fJ s)) S S (by have:=a.1;simp only[m_];omega);rw[c]at this;exact this);have f:=O (Dx (fJ s) a.2 _ b i (λr j=>gY (Yr s r j) d));have⟨n,g⟩:=e_ (l_ (fJ s));have o:decide ((n:Int)<=4)=true:=y7 (by have:=a.1;omega);rw[g]at h f;clear c i a d g;go_in;go_wp2_with (first|(go_at_call 294;refine h.o.mono ?_;rintro e l ⟨rfl,rfl⟩)|(go_at_call 295;refine f.o.mono ?_;rintro e m ⟨rfl,k⟩));go_ret;exact⟨rfl,b_ H k⟩
def UK(w:W_):Y 262 #[.string ⟨#[42]⟩] w true:=by go_in;go_wp2;go_ret;exact⟨rfl,fu _ _⟩
def UL(w:W_):Y 262 #[.string ⟨#[33]⟩] w true:=by go_in;go_wp2;go_ret;exact⟨rfl,fu _ _⟩
def UM(n:St)(w:W_)(c:Y_ n=true)(hl:l_ n<=1000000):Y 262 #[(j5 n)] w true:=by obtain⟨s,a⟩:=e_ (j5 n);(have b:l_ s=l_ n+2:=by rw[<-a];simp[j5]);(have g:∀h,(ByteArray.mk s.toArray)[0]'h=123:=by subst a;intro h;rfl);(have i:∀h,(ByteArray.mk s.toArray)[l_ n+1]'h=125:=by subst a;intro h;show((j5 n).toArray)[l_ n+1]'h=125;simp[j5]);(have q1:(s==[42])=false:=by rw[Mw];intro e;rw[e]at b;simp at b);(have q2:(s==[33])=false:=by rw[Mw];intro e;rw[e]at b;simp at b);(have j:(ByteArray.mk s.toArray).extract 1 (l_ n+1)=⟨n.toArray⟩:=by subst a;rw[Lib.extract_eq];simp[j5]);rw[a];(have d:=O λW=>vU n W U);rw[c]at d;(have l:(ByteArray.mk s.toArray).size=l_ n+2:=by rw[<-b];simp[ByteArray.size]);clear c a;go_in;go_wp2_with (go_at_call 261;with_reducible refine(d.o _).mono ?_;rintro e k ⟨rfl,f⟩);go_ret;exact⟨rfl,f⟩
def Yt(t:St)(w:W_)(c:t≠[])(hl:l_ t<=1000000):Y 262 #[.string ⟨(60::t++[62]).toArray⟩] w true:=by obtain⟨s,a⟩:=e_ (60::t++[62]);have g:0<l_ t:=ei_.2 c;(have b:l_ s=l_ t+2:=by rw[<-a];simp);(have d:∀h,(ByteArray.mk s.toArray)[0]'h=60:=by subst a;intro h;rfl);(have f:∀h,(ByteArray.mk s.toArray)[l_ t+1]'h=62:=by subst a;intro h;show((60::t++[62]).toArray)[l_ t+1]'h=62;simp);(have q1:(s==[42])=false:=by rw[Mw];intro e;rw[e]at b;simp at b);(have q2:(s==[33])=false:=by rw[Mw];intro e;rw[e]at b;simp at b);rw[a];(have i:(ByteArray.mk s.toArray).size=l_ t+2:=by rw[<-b];simp[ByteArray.size]);clear c a;go_in;go_wp2;go_ret;exact⟨rfl,fu _ _⟩
def Q6(s:St)(w:W_)(d:Y_ s=true)(hl:l_ s<=1000000)(q1:(s==[42])=false)(q2:(s==[33])=false):Y 262 #[s] w true:=by obtain⟨c,t,f,k,l⟩:=Yk d;(have n:∀h,(ByteArray.mk s.toArray)[0]'h=c:=by subst f;intro h;rfl);(have m:l_ s=l_ t+1:=by rw[f];simp);(have u:(ByteArray.mk s.toArray).size=l_ t+1:=by rw[<-m];simp[ByteArray.size]);(have o:((c.toNat:Int)==123)=false:=by rw[Mw];intro e;exact k (gm_.1 (by have:(123:UInt8).toNat=123:=rfl;omega)));(have p:((c.toNat:Int)==60)=false:=by rw[Mw];intro e;exact l (gm_.1 (by have:(60:UInt8).toNat=60:=rfl;omega)));(have b:=O λW=>vU s W U);rw[d]at b;clear d f k l;by_cases q:2<=l_ t+1;(.by_cases r:3<=l_ t+1;(.have g:decide ((2:Int)<=((l_ t+1:Nat):Int))=true:=y7 U;have i:decide ((3:Int)<=((l_ t+1:Nat):Int))=true:=y7 U;go_in;go_wp2_with (go_at_call 261;with_reducible refine(b.o _).mono ?_;rintro e j ⟨rfl,a⟩);go_ret;exact⟨rfl,a⟩);.have g:decide ((2:Int)<=((l_ t+1:Nat):Int))=true:=y7 U;have i:decide ((3:Int)<=((l_ t+1:Nat):Int))=false:=sj U;go_in;go_wp2_with (go_at_call 261;with_reducible refine(b.o _).mono ?_;rintro e j ⟨rfl,a⟩);go_ret;exact⟨rfl,a⟩);.have g:decide ((2:Int)<=((l_ t+1:Nat):Int))=false:=sj U;have i:decide ((3:Int)<=((l_ t+1:Nat):Int))=false:=sj U;go_in;go_wp2_with (go_at_call 261;with_reducible refine(b.o _).mono ?_;rintro e j ⟨rfl,a⟩);go_ret;exact⟨rfl,a⟩
theorem yj(s:St)(w:W_)(c:jJ s)(hl:l_ s<=1000000):Y 262 #[s] w true:=by by_cases a:s=jI;(.rw[a];exact UK w);by_cases b:s=iR;(.rw[b];exact UL w);rcases c with h|h|⟨n,d,rfl⟩|⟨t,f,_,rfl⟩|h;(.exact absurd h a);(.grind);(.exact UM n w d (by simp[j5]at hl;omega));(.exact Yt t w f (by grind));.exact Q6 s w h hl (by rw[Mw];exact a) (by rw[Mw];exact b)



