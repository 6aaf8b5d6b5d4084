import Derived.Deep.Matrix
import Derived.LaidMore
import Derived.Lay
import Derived.Lib.SmallJoins
import Derived.Stop.Joined
import Derived.Stop.LaidErr
import Derived.Test.YtgoapenfbanhaaaGreatDoorRows
import Derived.Test.YtgoapenfbanhaaaGreatDoorJ23
import Derived.Test.YtgoapenfbanhaaaGreatDoorJ35
set_option linter.all false
set_option maxRecDepth 100000
set_option maxHeartbeats 32000000
open List renaming length->l_
open Go.ChangeAt Go.ChangeShapes Go.Deep Go.Joins Go.RowKit Go.WideShapes Go.Proofs.Tryz
namespace Go.Proofs.YtgoapenfbanhaaaGreatDoor
variable{H:Type}{zs:I_}{A:J_}{p:List MemPlace}{e g:Nat}{r:Reach}{v:Value}{W w:World}
def adR{a b:Bool}(h:a=true)(g:b=true):(a&&b)=true:=by rw[h,g];rfl
def own:ownKnob prog.godebug=none:=k_
abbrev wN:List (String×DataW Unit):=Rows.repairExactRow.laid
def Cc(h:laidMetH prog wN W):l8 W:=by rw[MakeChecks.laidMetH_plain _ _ _ k_]at h;have t:Tab W:=Lib.tabIs_of_head (g:=4) (t:=407) (n:=20) (e:=248) k_ k_ k_ k_ k_ k_ (show laidMet prog (("internal/strconv.uint64pow10",Lib.tabData .u64 Lib.pow10Tab)::_) W from h.tail.tail);have n:=CK (g:=2) (t:=254) (e:=253) (n:=8) (k:=4) k_ k_ underlying254 underlying253 k_ k_ rfl h.tail.tail.tail.tail;have u:=CK (g:=0) (t:=81) (e:=80) (n:=10) (k:=7) k_ k_ underlying81 underlying80 k_ k_ rfl h.tail.tail.tail.tail.tail;have m:=CK (g:=3) (t:=322) (e:=321) (n:=10) (k:=7) k_ k_ underlying322 underlying321 k_ k_ rfl h.tail.tail.tail.tail.tail.tail;have d:∀k:Nat,1<=k->k<=7->k=1\/k=2\/k=3\/k=4\/k=5\/k=6\/k=7:=U;have c:∀k:Nat,1<=k->k<=9->k=1\/k=2\/k=3\/k=4\/k=5\/k=6\/k=7\/k=8\/k=9:=U;refine⟨⟨⟨λk a b=>?_,λk a b=>?_⟩,t⟩,λk a b=>?_⟩;(.have z:=n k;rcases d k a b with rfl|rfl|rfl|rfl|rfl|rfl|rfl<;>exact⟨z 0 _ _ rfl k_,z 1 _ _ rfl k_,z 2 _ _ rfl k_,z 3 _ _ rfl k_⟩);(.have z:=u k;rcases c k a b with rfl|rfl|rfl|rfl|rfl|rfl|rfl|rfl|rfl<;>exact⟨z 0 _ _ rfl k_,z 1 _ _ rfl k_,z 2 _ _ rfl k_,z 3 _ _ rfl k_,z 4 _ _ rfl k_,z 5 _ _ rfl k_,z 6 _ _ rfl k_⟩);.have z:=m k;rcases c k a b with rfl|rfl|rfl|rfl|rfl|rfl|rfl|rfl|rfl<;>exact⟨z 0 _ _ rfl k_,z 1 _ _ rfl k_,z 2 _ _ rfl k_,z 3 _ _ rfl k_,z 4 _ _ rfl k_,z 5 _ _ rfl k_,z 6 _ _ rfl k_⟩
def RI(os:Os)(args:A_):laidMetH prog wN ((World.laidAll prog os wN).forCall (λ_ _=>0) ⟨#[],args,[]⟩).memory:=by rw[MakeChecks.laidMetH_plain _ _ _ k_];exact laidMet_laidAll _ k_ k_
def I9(os:Os):(World.laidAll prog os wN).Shaped prog:=World.shaped_of_ZipB k_ k_
section
variable{H:Type}{enc:TypeId×Value->H}{w:World}{base:Nat}
def RJ{n c:Nat}(r:n<=c)(k:c<=maxLen)(s:n<=l_ zs)(m:A=none->c=0)(t:∀a,A=some a->∀i,i<n->w.cell? (a.add i)=some (.int .i64 (zs.getD i 0))):SI w (.slice A n c) (zs.take n):=by
 have hl:l_ (zs.take n)=n:=by rw[wE];omega
 have:=S1.mk (w:=w) (f:=iV) (A:=A) (c:=c) (l:=zs.take n) U k (λd=>by
  rw[hl]at d
  cases A with
  |none=>have:=m rfl;omega
  |some a=>
   obtain⟨b,h,p⟩:=a;have e:=t _ rfl 0 d;(have q:p=none:=by simpa[Addr.add]using World.cell?_spot e);subst q;(have o:N w b h (zs.getD 0 0):=by simpa[Addr.add]using e);refine⟨b,h,rfl,zK w _ o,λi x hi=>?_⟩;(have j:i<n:=by have:=(jv.1 hi).1;omega);have g:=t _ rfl i j;rw[add_lit]at g;rw[g,YW,P_ j]at *;rw[R3,hi]
   rfl)
 rwa[hl]at this
def Ow{d:DataW H}(t:Value.okWide prog w r g 31 v)(h:DataW.Trod enc prog w base (λ_=>true) true 31 v d p):∃l:I_,SI w v l/\∀x∈l,qD x:=by obtain⟨A,m,n,rfl⟩:=okWide_slice underlying31 t;obtain⟨o,s⟩:=h;rcases open_ints underlying31 underlying3 cells3 s with⟨b,_⟩|⟨a,L,cap,zs,f,hb,hl,j,c,_,q,hw⟩;(.simp[Value.cells]at b;obtain⟨rfl,rfl,rfl⟩:=b;exact⟨[],S1.nil _ _,λ_ h=>by cases h⟩);.simp[Value.cells]at f;obtain⟨rfl,rfl,rfl⟩:=f;simp only[ds_]at c;refine⟨zs.take m,RJ hl j U (λe=>by cases e) (λa e i hi=>?_),λx k=>hw x (R4 k)⟩;cases e;exact q i (by rw[c];omega)
def Wq:∃F,Q.Fp prog 30 27 9 28 4 F:=⟨_,{sA:=underlying30,cA:=k_,n:=k_,f:=k_,k3:=underlying3,kB:=underlying4,kS:=underlying9,kL:=underlying28,c3:=k_,cB:=k_,cC:=k_,cS:=k_,cL:=k_,bS:=Cg k_,bA:=Cg k_}⟩
def Mr{d:DataW H}(t:Value.okWide prog w r e 24 v)(h:DataW.Trod enc prog w base (λ_=>true) true 24 v d p)(hw:Q.Wt prog 24 d):∃u L,v=.agg #[u]/\lT w u L/\∀x∈L,vN x:=by
 obtain⟨a,rfl,_⟩:=okWide_struct underlying24 t;obtain⟨o,s⟩:=h;obtain⟨xs,n,rfl,f,hl,l,hi⟩:=gv_ underlying24 s;have hl1:l_ a.toList=1:=hl.trans k_;have q:l_ xs=1:=l;obtain⟨y,b⟩:∃y,xs[0]?=some y:=⟨_,r9 U⟩;have c:=hi 0 _ rfl;rw[b]at c
 obtain⟨u,g⟩:∃u,a.toList=[u]:=by
  match h:a.toList,hl1 with
  |[u],_=>exact⟨u,rfl⟩
 (have m:a= #[u]:=by rw[<-fn_];simpa using g);subst m;obtain⟨L,j,k⟩:=Q.QD Wq.choose_spec underlying22 (Q.VR underlying27 k_ k_ (Cg k_) underlying3 underlying9 underlying3 underlying3 underlying25) (show DataW.trod enc prog w base (λ_=>true) true n 22 [u]=some y from c) (hw.field underlying24 (i:=0) f S b);exact⟨u,L,rfl,j,k⟩
end
def Ws{enc:TypeId×Value->H}{base l:Nat}{d:DataW H}(t:Value.okWide prog w r l 30 v)(h:DataW.Trod enc prog w base (λ_=>true) true 30 v d p)(hw:Q.Wt prog 30 d):∃x b f g i j k,v=.agg (fZ x b f g i j k)/\kH w x b f g i j k/\vN x:=by obtain⟨k,rfl,_⟩:=okWide_struct underlying30 t;obtain⟨q,s⟩:=h;obtain⟨a,m,n⟩:=Q.Ht Wq.choose_spec (Q.VR underlying27 k_ k_ (Cg k_) underlying3 underlying9 underlying3 underlying3 underlying25) (show DataW.trod enc prog w base (λ_=>true) true q 30 k.toList=some (d,p) from s) hw;obtain⟨b,f,g,i,j,c,e,o⟩:=axR m;obtain rfl:k=fZ a b f g i j c:=fn_.1 e;exact⟨a,b,f,g,i,j,c,rfl,o,n⟩



