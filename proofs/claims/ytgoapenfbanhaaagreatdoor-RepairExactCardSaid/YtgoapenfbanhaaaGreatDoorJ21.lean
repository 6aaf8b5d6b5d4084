import Derived.Test.YtgoapenfbanhaaaGreatDoorJ44
set_option linter.all false
set_option maxRecDepth 100000
set_option maxHeartbeats 32000000
open List renaming length->l_
open Go.RowKit Go.Proofs.Tryz
namespace Go.Proofs.YtgoapenfbanhaaaGreatDoor
def gG:List Ax->Int
 |[]=>0
 |x::l=>if Z_ x≠0 then Z_ x else gG l
def Br{L:List Ax}{k:Nat}{x:Ax}(h:L[k]?=some x):gG (L.drop k)=if Z_ x≠0 then Z_ x else gG (L.drop (k+1)):=by have a:=(jv.1 h).1;rw[Jd a,(jv.1 h).2];rfl
def G6(L:List Ax)(v:Value)(w:World)(h:lT w v L)(B:xP w)(C:∀x∈L,oZ x)(hl:l_ L<=1000000):Y 66 #[v] w (gG L):=by obtain⟨A,c,rfl,hc,E,F⟩:=h.form;go_in;go_wp2;go_loopw [8] (λi wr=>∃k:Nat,k<=l_ L/\i=.int .i64 (k:Int)/\Hid (gG L=gG (L.drop k))/\Hid (G w wr)) (λi _=>l_ L-(intOf i).toNat);exact⟨0,gZ _,rfl,O S,O (fu _ _)⟩;obtain⟨k,ak,rfl,g,d⟩:=hrel;by_cases z:k<l_ L;(.obtain⟨b,am,rfl,D,y⟩:=F U;obtain⟨x,j⟩:=g_ z;obtain⟨p,q,s⟩:=y k x j;obtain⟨H,I,K,P,T,W,f,J,a1,a2,a3,a4,a5,X,Z,V,N,ac,ab,ad,ae,af,ag⟩:=af7 q s D d.o;(have m:Hid (∀o,Y 42 #[.agg (fZ x H I K P T W)] (wr.alloc o) (Z_ x)):=O λo=>jq x _ _ (B.up (X_ d.o o)) (C x (gV j)) ⟨_,rfl,⟨_,_,_,rfl,by obtain⟨p,e,h⟩:=(f.up (X_ (fu _ _) o)).l;injection e with e;have:=iM Array.toList e;simp at this;subst this;exact h,by obtain⟨p,e,h⟩:=(f.up (X_ (fu _ _) o)).r;injection e with e;have:=iM Array.toList e;simp at this;subst this;exact h,(f.up (X_ (fu _ _) o)).rs⟩⟩);have l:=Br j;have r1:0<=(k:Int):=U;have al:(k:Int)<l_ L:=U;unfold fZ at m;go_wp2_with fail;refine(m.o _).mono ?_;rintro e r ⟨rfl,t⟩;have u:Hid (G w r):=O (b_ (X_ d.o _) t);by_cases a:Z_ x=0;(.have n:Hid (gG L=gG (L.drop (k+1))):=O (by rw[g.o,l,a];simp);rw[a];go_wp2;go_roundw;exact⟨k+1,U,R,n,u⟩;exact M);.have n:Hid (gG L=Z_ x):=O (by rw[g.o,l,P_ a]);have an:(Z_ x !=0)=true:=Q a;go_wp2;go_ret;exact⟨by rw[n.o];rfl,u.o⟩);·(obtain rfl:k=l_ L:=by omega);go_wp2;go_ret;exact⟨by have:=g.o;rw[R9]at this;rw[this];rfl,d.o⟩


