import Derived.Below
import Derived.BigQuiet
import Derived.Deep.AppendLies
import Derived.Deep.Draws
import Derived.Deep.Fields
import Derived.Deep.QuietTactic
import Derived.Deep.Slices
import Derived.Laws.OwnMore
import Derived.Lib.Hide
import Derived.Maps.AppendAt
import Derived.Maps.OwnSet
import Derived.OwnWalk
import Derived.RegionTactic
import Derived.Test.YtjmbkfjklemmpaaGreatDoorProg
import Derived.WalkKit
set_option linter.all false
set_option maxRecDepth 100000
set_option maxHeartbeats 32000000
open Go renaming World->W_,Value->V_,maxLen->m_,TypeId->T_,Ending->E_
namespace Go.Proofs
abbrev A_:=@if_pos
abbrev u_:=@if_neg
abbrev ac_:=@List.foldl_append
abbrev ad_:=@List.getElem_of_mem
abbrev qg:=@List.length_take
abbrev iR:=@List.getElem?_eq_some_iff
abbrev Zx:=@List.getElem_take
abbrev SV:=@List.pairwise_iff_getElem
abbrev fU:=@Nat.le_refl
abbrev P7:=@List.mem_append_left
abbrev gH:=@List.mem_append
abbrev gy:=@List.mem_singleton
abbrev am_:=@List.pairwise_append
abbrev Wy:=@List.pairwise_singleton
abbrev qV:=@Go.info_parts
abbrev pY:=@List.mem_map
abbrev gL:=@Nat.zero_le
abbrev fD:=@Go.RowKit.Below.refl
abbrev gM:=@List.mem_of_getElem?
abbrev Cx:=@List.getElem?_map
abbrev jh:=@List.take_length
abbrev sJ:=@List.map_append
abbrev gT:=@Nat.le_trans
abbrev MU:=@List.take_of_length_le
abbrev Zy:=@Go.Oper.semAt_some
abbrev He:=@Go.World.cell?_of_block
abbrev Zg:=@List.size_toArray
abbrev p8:=@List.length_cons
abbrev MV:=@List.length_nil
abbrev bi_:=@Array.replicate_succ
abbrev bj_:=@Array.replicate_zero
abbrev bk_:=@List.push_toArray
abbrev bl_:=@List.append_toArray
abbrev Zh:=@List.nil_append
abbrev IY:=@List.cons_append
abbrev qW:=@Go.bodyPost_ret
abbrev x9:=@Go.callsIn_wide
abbrev Ba:=@Go.World.ownsRow_nil
abbrev bt_:=@Go.results_tmp
abbrev Hl:=@List.eq_nil_of_length_eq_zero
abbrev P8:=@Go.World.grownBy.refl
abbrev vR:=@Array.getElem?_eq_some_iff
abbrev by_:=@List.length_mergeSort
abbrev sK:=@Nat.lt_of_lt_of_le
abbrev WI:=@List.any_eq_true
abbrev Zz:=@List.pairwise_map
abbrev ce_:=@List.mem_flatten
abbrev IZ:=@Nat.zero_add
abbrev cg_:=@List.any_append
abbrev zy:=@Go.World.block_lt_of_cell?
abbrev KG:=@beq_eq_false_iff_ne
abbrev KH:=@List.getD_eq_getElem?_getD
abbrev Zi:=@List.ext_getElem?
abbrev PX:=@Nat.lt_or_ge
abbrev KI:=@List.getElem?_eq_none
abbrev P9:=@List.filter_append
abbrev lG:=@List.length_append
abbrev PY:=@List.length_filter_le
abbrev qX:=@List.mem_filter
abbrev I4:=@of_decide_eq_true
abbrev Zj:=@List.mem_range
abbrev Dx:=@decide_eq_true
abbrev cu_:=@List.Pairwise.filter
abbrev cv_:=@List.getElem_inj
abbrev oD:=@List.length_map
abbrev D8:=@Go.RowKit.Below.heap_setCell
abbrev qQ:=@congrArg
abbrev Zk:=@List.take_take
abbrev Zl:=@Ne.symm
abbrev Uf:=@Go.RowKit.Below.heap_alloc
abbrev dc_:=@Go.IntWalk.i64_in
abbrev zC:=@List.length_singleton
abbrev Qa:=@List.getElem?_append_left
abbrev MW:=@List.getElem?_take
abbrev WJ:=@List.getElem?_append_right
abbrev dh_:=@Go.cell_of_row
abbrev di_:=@Array.getElem?_toList
abbrev dj_:=@Go.heap_alloc_new
abbrev dk_:=@Array.getElem?_append_left
abbrev dl_:=@Go.grownCap_le_maxLen
abbrev dm_:=@Array.size_append
abbrev dn_:=@Go.World.cell?_setCells_out
abbrev dp_:=@Array.getElem?_setIfInBounds_self_of_lt
abbrev ZA:=@Array.getElem?_eq_getElem
abbrev dr_:=@List.range_succ
abbrev WK:=@List.flatMap_append
abbrev Ho:=@List.append_assoc
abbrev du_:=@List.nodup_cons
abbrev ZB:=@List.map_cons
abbrev dw_:=@decide_true
abbrev ZC:=@if_true
abbrev dy_:=@decide_false
abbrev dz_:=@Bool.false_eq_true
abbrev ZE:=@if_false
abbrev eb_:=@List.take_append_drop
abbrev ec_:=@Nat.succ_mul
abbrev ed_:=@Go.World.grownBy_alloc
abbrev ee_:=@Nat.mul_one
abbrev Dy:=@Option.some.inj
abbrev Hq:=@List.drop_eq_getElem_cons
abbrev Qb:=@List.drop_length
abbrev qY:=@List.getElem?_eq_getElem
abbrev jU:=@List.mem_cons
abbrev KJ:=@Bool.and_eq_true
abbrev I5:=@decide_eq_true_eq
abbrev em_:=@Nat.not_lt_zero
abbrev en_:=@List.length_pos_iff
abbrev eo_:=@Nat.add_zero
abbrev Zm:=@Array.getElem?_setIfInBounds
abbrev er_:=@List.foldr_cons
abbrev SX:=@List.take_succ_cons
abbrev ZF:=@List.take_zero
abbrev Zn:=@List.drop_succ_cons
abbrev ZG:=@List.drop_zero
abbrev ex_:=@Go.wpStill_nil
abbrev Ug:=@Bool.or_eq_true
abbrev Hr:=@Classical.byContradiction
abbrev fa_:=@List.all_eq_true
abbrev fb_:=@List.drop_of_length_le
abbrev yR:=@decide_eq_false
abbrev ZH:=@List.not_mem_nil
abbrev ZI:=@or_false
abbrev Ht:=@List.take_succ_eq_append_getElem
abbrev fg_:=@Nat.min_eq_left
abbrev fh_:=@Nat.le_of_lt
abbrev fi_:=@List.foldl_cons
abbrev SY:=@List.map_map
abbrev M0:=@Option.map_eq_some_iff
abbrev fl_:=@List.filter_sublist
abbrev fm_:=@List.mk_mem_zipIdx_iff_getElem?
abbrev fo_:=@List.filterMap_append
abbrev fp_:=@List.length_filterMap_le
abbrev fq_:=@List.nodup_append
abbrev Wz:=@List.getElem?_of_mem
abbrev fs_:=@Array.toList_inj
abbrev ft_:=@Decidable.not_not
abbrev Qc:=@List.mem_of_mem_take
abbrev Zo:=@List.append_nil
abbrev fw_:=@Nat.lt_irrefl
abbrev fx_:=@List.length_drop
abbrev fy_:=@Nat.pow_le_pow_right
abbrev fz_:=@List.eq_nil_iff_forall_not_mem
abbrev Uh:=@beq_iff_eq
abbrev gb_:=@Iff.rfl
abbrev gc_:=@beq_false_of_ne
abbrev Dz:=@List.pairwise_cons
abbrev ge_:=@List.filter_eq_self
abbrev gf_:=@List.drop_sublist
abbrev DC:=@List.take_add_one
abbrev ZJ:=@List.mem_cons_of_mem
abbrev gj_:=@Bool.false_and
abbrev gk_:=@Bool.or_false
abbrev gm_:=@Int.lt_irrefl
abbrev gn_:=@List.mem_cons_self
abbrev PZ:=@getElem!_pos
abbrev gp_:=@List.mem_flatMap
abbrev gq_:=@List.mem_mergeSort
abbrev gr_:=@not_true_eq_false
abbrev gs_:=@or_assoc
abbrev gt_:=@UInt8.toNat_inj
abbrev gu_:=@Nat.mul_le_mul_right
abbrev WA:=@Bool.eq_iff_iff
abbrev M4:=@Nat.mul_comm
abbrev gx_:=@Nat.add_assoc
abbrev gy_:=@Array.getElem?_modify
abbrev M5:=@List.flatMap_cons
abbrev ha_:=@Nat.eq_zero_or_pos
abbrev hb_:=@Go.wpList_plain
abbrev hc_:=@Go.DataW.trod_struct
abbrev hd_:=@Go.DataW.trod_int
abbrev he_:=@Go.DataW.trod_string
abbrev hf_:=@Array.length_toList
abbrev hg_:=@Option.bind_eq_some_iff
abbrev hi_:=@List.drop_eq_nil_of_le
abbrev hj_:=@Int.lt_trichotomy
abbrev hk_:=@List.nodup_nil
abbrev hl_:=@List.mem_erase_of_ne
abbrev hm_:=@List.length_erase_of_mem
abbrev hn_:=@List.length_pos_of_mem
abbrev hp_:=@decide_eq_true_iff
abbrev hq_:=@decide_eq_false_iff_not
abbrev hr_:=@List.Perm.refl
abbrev ht_:=@List.attach_map_subtype_val
abbrev hu_:=@of_decide_eq_false
abbrev hv_:=@Array.getElem_toList
abbrev hw_:=@List.take_length_add_append
abbrev hx_:=@List.mem_or_eq_of_mem_set
abbrev hy_:=@List.getElem_mem
abbrev hz_:=@List.getElem?_drop
abbrev ia_:=@Bool.true_and
abbrev ib_:=@List.length_filter_lt_length_iff_exists
abbrev id_:=@List.mergeSort_perm
abbrev ie_:=@List.pairwise_mergeSort
abbrev ih_:=@Option.map_some
abbrev ik_:=@Bool.and_true
abbrev il_:=@Bool.and_false
abbrev im_:=@List.take_subset_take_left
abbrev in_:=@List.flatMap_def
abbrev io_:=@Nat.lt_of_le_of_lt
abbrev ip_:=@List.take_append_of_le_length
abbrev iq_:=@List.map_take
abbrev ir_:=@List.length_eq_one_iff
abbrev is_:=@Bool.false_or
abbrev it_:=@Go.Exit.noGoto_ret
abbrev iu_:=@Go.size_zeroCells
abbrev iv_:=@List.length_eq_zero_iff
abbrev iz_:=@Classical.not_forall
abbrev ja_:=@Classical.not_imp
abbrev jb_:=@List.filter_sublist
abbrev jc_:=@List.filter_cons_of_pos
abbrev jd_:=@List.filter_cons_of_neg
abbrev je_:=@List.nodup_iff_pairwise_ne
abbrev jf_:=@List.Pairwise.imp_of_mem
abbrev jg_:=@decide_eq_decide
abbrev jh_:=@List.getLastD_eq_getLast?
abbrev ji_:=@Go.Oper.upon_value
abbrev jj_:=@UInt8.toNat_ofNat'
abbrev jk_:=@UInt8.le_iff_toNat_le
abbrev jl_:=@Int.ofNat_le
end Go.Proofs
namespace Go.Proofs.YtjmbkfjklemmpaaGreatDoor
section
open Go.RowKit Tryz
def O{p:Prop}(h:p):Hid p:=h
def _root_.Go.RowKit.Hid.o{p:Prop}(h:Hid p):p:=h
def U{p:Prop}(h:p:=by omega):p:=h
def S{p:Prop}(h:p:=by simp):p:=h
def D{p:Prop}(h:p:=by decide):p:=h
def Q{p q:Prop}(h:p)(k:p->q:=by intro h;simpa using h):q:=k h
def M{p:Prop}(h:p:=by simp[intOf];omega):p:=h
def R{p:Prop}(h:p:=by go_num):p:=h
def U_{p:Prop}(h:p:=by omega):p:=h
def S_{p:Prop}(h:p:=by simp):p:=h
def D_{p:Prop}(h:p:=by decide):p:=h
def Q_{p q:Prop}(h:p)(k:p->q:=by intro h;simpa using h):q:=k h
def M_{p:Prop}(h:p:=by simp[intOf];omega):p:=h
def R_{p:Prop}(h:p:=by go_num):p:=h
def e_{α:Type}(a:α):∃q,a=q:=⟨_,rfl⟩
def g_{α:Type}{l:List α}{k:Nat}(h:k<l.length):∃x,l[k]?=some x:=⟨l[k],qY h⟩
def bA{w:W_}{o:Obj}:Below w.heap.size w (w.alloc o):=(fD _ _).alloc (fU _) o
structure Ca(w:W_)(b o:Nat)(v:V_)
def N(w:W_)(b o:Nat)(v:V_):Ca w b o v:=⟨⟩
instance{w:W_}{b o:Nat}{v:V_}:CoeSort (Ca w b o v) Prop:=⟨λ_=>w.cell? ⟨b,o,none⟩=some v⟩
instance{w:W_}{b o:Nat}{v:V_}:CoeOut (Ca w b o v) Prop:=⟨λ_=>w.cell? ⟨b,o,none⟩=some v⟩
structure Cb(w w':W_)
def G(w w':W_):Cb w w':=⟨⟩
instance{w w':W_}:CoeSort (Cb w w') Prop:=⟨λ_=>Below w.heap.size w w'⟩
instance{w w':W_}:CoeOut (Cb w w') Prop:=⟨λ_=>Below w.heap.size w w'⟩
structure Cz(k:FuncId)(a:Array V_)(w:W_)(Q:E_->W_->Prop)
def z(k:FuncId)(a:Array V_)(w:W_)(Q:E_->W_->Prop):Cz k a w Q:=⟨⟩
instance{k:FuncId}{a:Array V_}{w:W_}{Q:E_->W_->Prop}:CoeSort (Cz k a w Q) Prop:=⟨λ_=>Calls prog k a w Q⟩
instance{k:FuncId}{a:Array V_}{w:W_}{Q:E_->W_->Prop}:CoeOut (Cz k a w Q) Prop:=⟨λ_=>Calls prog k a w Q⟩
structure Cy(k:FuncId)(a:Array V_)(w:W_)(v:V_)
def Y(k:FuncId)(a:Array V_)(w:W_)(v:V_):Cy k a w v:=⟨⟩
instance{k:FuncId}{a:Array V_}{w:W_}{v:V_}:CoeSort (Cy k a w v) Prop:=⟨λ_=>Calls prog k a w λe w'=>e=.returned v/\Below w.heap.size w w'⟩
instance{k:FuncId}{a:Array V_}{w:W_}{v:V_}:CoeOut (Cy k a w v) Prop:=⟨λ_=>Calls prog k a w λe w'=>e=.returned v/\Below w.heap.size w w'⟩
structure Cv(n:Int)
def V(n:Int):Cv n:=⟨⟩
instance{n:Int}:CoeOut (Cv n) V_:=⟨λ_=> .int .i64 n⟩
instance:Coe Int V_:=⟨λn=> .int .i64 n⟩
instance:Coe Nat V_:=⟨λn=> .int .i64 (n:Int)⟩
instance:Coe Bool V_:=⟨λn=> .bool n⟩
instance:Coe (List UInt8) V_:=⟨λn=> .string ⟨n.toArray⟩⟩
instance:Coe W_ Nat:=⟨λw=>w.heap.size⟩
def lu{k:IntKind}{a b:Int}(h:a=b):Ending.returned (.int k a)=.returned (.int k b):=by rw[h]
def fG{a b:Bool}(h:a=b):Ending.returned a=.returned b:=by rw[h]
def add_lit(b o i:Nat):(⟨b,o,none⟩:Addr).add i=⟨b,o+i,none⟩:=by unfold Addr.add;split<;>simp_all
def L_{w W:W_}(h:G w W)(o:Obj):G w (W.alloc o):=h.alloc h.size o
def b_{w W a:W_}(h:G w W)(k:G W a):G w a:=h.trans (k.mono h.size)
def P5{w W:W_}(h:G w W){p:Addr}(a:w.heap.size<=p.block)(u:V_):G w (W.setCell p u):=h.setCell a u
def nJ{B:Nat}{a w:W_}(h:Below B a w)(n:Nat):Below B a (w.drewN n):=⟨h.os,h.tape,h.output,h.size,h.block⟩
def Ez{W a:W_}(hb:G W a):(∀b o,b<W.heap.size->a.cell? ⟨b,o,none⟩=W.cell? ⟨b,o,none⟩)/\(∀b o,b<W.heap.size->a.frozen? ⟨b,o,none⟩=W.frozen? ⟨b,o,none⟩):=⟨λb o h=>hb.cell (p:=⟨b,o,none⟩) h,λb o h=>hb.frozen (p:=⟨b,o,none⟩) h⟩
def ji(w:W_)(a:Array V_)(t:T_)(o:Nat):(w.alloc (.cells a t)).cell? ⟨w.heap.size,o,none⟩=a[o]? :=by have:=dj_ w (.cells a t);simp only[World.cell?,this];simp
def f_(w:W_)(g:Nat)(t:T_)(cs:Array V_):Prop:=w.heap[g]?=some (.cells cs t (0,0))
section
variable{w w':W_}{g:Nat}{t:T_}{cs:Array V_}
def f_.lt(h:f_ w g t cs):g<w.heap.size:=by rcases PX g w.heap.size with a|b;(·exact a);·unfold f_ at h;rw[Array.getElem?_eq_none b]at h;cases h
def f_.cell(h:f_ w g t cs)(i:Nat):w.cell? ⟨g,i,none⟩=cs[i]? :=dh_ w g i cs t (0,0) h
def f_.frozen(h:f_ w g t cs)(i:Nat):w.frozen? ⟨g,i,none⟩=false:=by unfold f_ at h;simp[World.frozen?,h]
def f_.new(w:W_)(t:T_)(cs:Array V_):f_ (w.alloc (.cells cs t)) w.heap.size t cs:=dj_ w _
def f_.newAt(w:W_)(t:T_)(cs:Array V_){n:Nat}(h:n=w.heap.size):f_ (w.alloc (.cells cs t)) n t cs:=by subst h;exact dj_ w _
def f_.drew(h:f_ w g t cs):f_ w.drew g t cs:=h
def f_.drewN(h:f_ w g t cs)(n:Nat):f_ (w.drewN n) g t cs:=h
def f_.alloc(h:f_ w g t cs)(o:Obj):f_ (w.alloc o) g t cs:=(Uf w o g h.lt).trans h
def f_.iK(h:f_ w g t cs)(i:Nat)(u:V_):f_ (w.setCell ⟨g,i,none⟩ u) g t (cs.setIfInBounds i u):=by unfold f_ at h ⊢;simp[World.setCell,gy_,h]
def f_.far(h:f_ w g t cs){p:Addr}(a:g≠p.block)(u:V_):f_ (w.setCell p u) g t cs:=(D8 w p u g a).trans h
def f_.below(h:f_ w g t cs)(hb:G w w'):f_ w' g t cs:=(hb.block g h.lt).trans h
def bk(hb:G w w')(h:f_ w g t cs):f_ w' g t cs:=(hb.block g h.lt).trans h
def f_.grown{row:Option Nat}(h:f_ w g t cs)(hb:w.grownBy w' row)(a:some g≠row):f_ w' g t cs:=(hb.block g h.lt a).trans h
end
def zD{α:Type}(w:W_)(enc:α->List V_)(k b off:Nat)(l:List α):Prop:=∀i x,l[i]?=some x->∀j u,(enc x)[j]?=some u->N w b (off+i*k+j) u
def Sl{α:Type}(w:W_)(B:Nat)(enc:α->List V_)(k:Nat)(v:V_)(l:List α):Prop:=∃A c,v=.slice A l.length c/\l.length<=c/\c<=m_/\(0<l.length->∃b off,A=some ⟨b,off,none⟩/\b<B/\zD w enc k b off l)
section
variable{α:Type}{w w':W_}{B B':Nat}{enc:α->List V_}{k:Nat}{v:V_}{l:List α}
def zD.keep{b a:Nat}(h:zD w enc k b a l)(c:∀o,w'.cell? ⟨b,o,none⟩=w.cell? ⟨b,o,none⟩):zD w' enc k b a l:=λi x hi j u d=>(c _).trans (h i x hi j u d)
def Sl.keep(h:Sl w B enc k v l)(a:∀p:Addr,p.block<B->w'.cell? p=w.cell? p):Sl w' B enc k v l:=by obtain⟨A,c,hv,hc,d,f⟩:=h;refine⟨A,c,hv,hc,d,λhl=>?_⟩;obtain⟨b,i,e,hb,j⟩:=f hl;exact⟨b,i,e,hb,j.keep λo=>a _ hb⟩
def Sl.more(h:Sl w B enc k v l)(j:B<=B'):Sl w B' enc k v l:=by obtain⟨A,c,hv,hc,a,d⟩:=h;refine⟨A,c,hv,hc,a,λhl=>?_⟩;obtain⟨b,f,e,hb,i⟩:=d hl;exact⟨b,f,e,U,i⟩
def Sl.below(h:Sl w B enc k v l)(hb:Below B w w'):Sl w' B enc k v l:=h.keep λ_ a=>hb.cell a
def Sl.nil(w:W_)(B:Nat)(enc:α->List V_)(k:Nat):Sl w B enc k (.slice none 0 0) []:=⟨none,0,rfl,fU _,by simp[m_],λh=>by simp at h⟩
def Sl.jw(h:Sl w B enc k v l):l.length<=m_:=by obtain⟨A,c,_,a,b,_⟩:=h;omega
end
def Later(w:W_):Type:={W:W_ // G w W}
def Later.at{w:W_}(s:Later w):W_:=s.1
def Later.below{w:W_}(s:Later w):G w s.at:=s.2
instance Later.nonempty(w:W_):Nonempty (Later w):=⟨⟨w,fD _ _⟩⟩
def gN{P:Program}{b:Nat}{Q:Exit->Act->W_->Prop}{a:Act}{w:W_}{l:List Oper}(c:P.follows .mixedOrders=true)(d:Region.lexB .any l.toArray=true)(h:wpQuiet P l.toArray (λw'=>∃s:Later w,w'=s.at) (λe=>∀w',(∃s:Later w,w'=s.at)->Q .normal e w') l a):(Code.region b l.toArray true).wp P Q a w:=wp_region_quiet (C:=λw'=>∃s:Later w,w'=s.at) c d ⟨⟨_,(fD _ w).drew⟩,rfl⟩ (Q_ h)
def nL{P:Program}{f:FuncId}{args:Array V_}{w:W_}{s:Later w}{v:V_}(h:Calls P f args s.at λe w'=>e=.returned v/\Below s.at.heap.size s.at w'):Calls P f args s.at λe c=>e=.returned v/\∃a:Later w,c=a.at:=h.mono λ_ w' ⟨b,hb⟩=>⟨b,⟨w',b_ s.2 hb⟩,rfl⟩
def C_{w:W_}{g:Nat}{t:T_}{cs:Array V_}(h:f_ w g t cs)(i:Nat){u:V_}(hi:cs[i]?=some u):∀s:Later w,N s.at g i u:=λs=>((bk s.2 h).cell i).trans hi
def G_{w:W_}{p:Addr}{u:V_}(h:w.cell? p=some u):∀s:Later w,s.at.cell? p=some u:=λs=>(s.below.cell (zy w p h)).trans h
section
variable{α:Type}
def vT(enc:α->List V_)(k:Nat)(a:∀x,(enc x).length=k)(l:List α):(l.flatMap enc).length=l.length*k:=by
 induction l with
 |nil=>simp
 |cons x l b=>simp[M5,a,b,ec_];omega
def oL(enc:α->List V_)(k:Nat)(a:∀x,(enc x).length=k)(l:List α)(i j:Nat)(x:α)(hi:l[i]?=some x)(c:j<k):(l.flatMap enc)[i*k+j]?=(enc x)[j]? :=by
 induction l generalizing i with
 |nil=>simp at hi
 |cons y l b=>
  rw[M5]
  cases i with
  |zero=>
   simp at hi;subst hi;rw[Qa (by rw[a];omega)];simp
  |succ i=>
   rw[WJ (by rw[a,ec_];omega),a];(have:(i+1)*k+j-k=i*k+j:=by rw[ec_];omega);rw[this];exact b i (Q hi)
end
section
variable{P:Program}(w:W_)
def zF(base:Nat)(t b e:T_)(i:TypeInfo)(size:Nat)(a:P.underlying t=some (.slice e))(hi:P.info? e=some i)(v:V_)(n:Nat)(d:List V_)(h:w.ownsRow base e size v n d)(c:Nat):(Builtin.append_ #[t,t] b #[v,.slice none 0 c]).run P w=.ok v w:=by rcases h.2 with⟨rfl,rfl⟩|⟨g,cap,j,rfl,_,_,f,_⟩;(·simp[Builtin.append_,run_underlying a,sizeOf,typeInfo,hi,Builtin.lenOf,Builtin.firstCells]);·simp[Builtin.append_,run_underlying a,sizeOf,typeInfo,hi,Builtin.lenOf,Builtin.firstCells,f,storeCells]
def Hu{α:Type}(enc:α->List V_)(base:Nat)(t m e:T_)(i:TypeInfo)(z:V_)(size bytes:Nat)(s:P.underlying t=some (.slice e))(hi:P.info? e=some i)(I:i.zero=some z)(al:i.size=size)(aa:i.bytes=bytes)(ab:z.cells.size=size)(q:0<size)(v:V_)(n:Nat)(f:List V_)(r:w.ownsRow base e size v n f)(B:Nat)(u:V_)(l:List α)(y:∀x,(enc x).length=size)(K:Sl w B enc size u l)(L:∀x∈l,∀u∈enc x,u.oneCell'=true)(ac:n+l.length<=m_)(ao:(n+l.length)*bytes<=140737488355328)(am:base<=w.heap.size):∃v' w',(Builtin.append_ #[t,t] m #[v,u]).run P w=.ok v' w'/\w'.ownsRow base e size v' (n+l.length) (f++l.flatMap enc)/\w.grownBy w' v.ownBlock/\ (v'.ownBlock=v.ownBlock\/v'.ownBlock=some w.heap.size):=by obtain⟨A,c,rfl,hc,aq,C⟩:=K;have hl:(l.flatMap enc).length=l.length*size:=vT enc size y l;(have ah:∀u∈l.flatMap enc,u.oneCell'=true:=by intro u d;obtain⟨x,ad,T⟩:=gp_.1 d;exact L x ad u T);rcases A with _|E;(·(have ae:l.length=0:=by rcases ha_ l.length with a|a;(·exact a);·obtain⟨_,_,h,_⟩:=C a;cases h);have af:l=[]:=Hl ae;subst af;exact⟨v,w,zF w base t m e i size s hi v n f r c,Q r,P8 w _,.inl rfl⟩);·(have ap:∀j u,(l.flatMap enc)[j]?=some u->w.cell? (E.add j)=some u:=by intro j u d;(have o:j<l.length*size:=by rcases PX j (l.length*size) with h|h;(·exact h);·rw[KI U]at d;cases d);(have ai:0<l.length:=by rcases ha_ l.length with a|a;(·rw[a]at o;simp at o);·exact a);obtain⟨b,ar,p,hb,an⟩:=C ai;injection p with p;subst p;have F:j / size<l.length:=(Nat.div_lt_iff_lt_mul q).2 o;have aj:j % size<size:=Nat.mod_lt _ q;have H:=oL enc size y l (j / size) (j % size) l[j / size] (by simp[F]) aj;(have ag:j / size*size+j % size=j:=by rw[M4];exact Nat.div_add_mod j size);rw[ag,d]at H;have:=an (j / size) l[j / size] (by simp[F]) (j % size) u H.symm;rw[add_lit];rw[<-this];congr 2;omega);obtain⟨v',w',ak,W,X,_,Z⟩:=run_append_own_at (P:=P) w base t m e i z size bytes s hi I al aa ab q v n f r E l.length c (l.flatMap enc) hl ap ah ac ao am;exact⟨v',w',ak,W,X,Z⟩
def zG{α:Type}(enc:α->List V_){o:Oper}{a:Act}{K:Act->W_->Prop}{Q:Exit->Act->W_->Prop}(s x:Operand)(t:T_)(c:o.op=.call {callee:= .builtin .append,args:= #[s,x],argTypes:= #[t,t]})(base:Nat)(e:T_)(i:TypeInfo)(z:V_)(size bytes:Nat)(d:P.underlying t=some (.slice e))(hi:P.info? e=some i)(f:i.zero=some z)(W:i.size=size)(E:i.bytes=bytes)(F:z.cells.size=size)(H:0<size)(v:V_)(n:Nat)(b:List V_)(j:a.eval s=v)(L:w.ownsRow base e size v n b)(B:Nat)(u:V_)(l:List α)(m:∀x,(enc x).length=size)(p:a.eval x=u)(q:Sl w B enc size u l)(r:∀x∈l,∀u∈enc x,u.oneCell'=true)(I:n+l.length<=m_)(Z:(n+l.length)*bytes<=140737488355328)(X:base<=w.heap.size)(h:∀v' w',w'.ownsRow base e size v' (n+l.length) (b++l.flatMap enc)->w.grownBy w' v.ownBlock->(v'.ownBlock=v.ownBlock\/v'.ownBlock=some w.heap.size)->K (a.put o.dst v') w'):o.wp P a w K Q:=by obtain⟨v',w',T,y,A,C⟩:=Hu (P:=P) w enc base t o.type e i z size bytes d hi f W E F H v n b L B u l m q r I Z X;unfold Oper.wp execOp;simp only[c,resolve,invoke,builtin,Sem.run_bind,Sem.run_pure,Result.andThen_ok,List.map_toArray,ZB,List.map_nil,j,p,T];exact h v' w' y A C
def gP{α:Type}(enc:α->List V_){c:Array Oper}{rest:List Oper}{o:Oper}{a:Act}{Q:Exit->Act->W_->Prop}(H:o.guard=none)(s x:Operand)(t:T_)(d:o.op=.call {callee:= .builtin .append,args:= #[s,x],argTypes:= #[t,t]})(base:Nat)(e:T_)(i:TypeInfo)(z:V_)(size bytes:Nat)(f:P.underlying t=some (.slice e))(hi:P.info? e=some i)(j:i.zero=some z)(X:i.size=size)(I:i.bytes=bytes)(K:z.cells.size=size)(L:0<size)(v:V_)(n:Nat)(b:List V_)(m:a.eval s=v)(W:w.ownsRow base e size v n b)(B:Nat)(u:V_)(l:List α)(p:∀x,(enc x).length=size)(q:a.eval x=u)(r:Sl w B enc size u l)(y:∀x∈l,∀u∈enc x,u.oneCell'=true)(T:n+l.length<=m_)(aa:(n+l.length)*bytes<=140737488355328)(Z:base<=w.heap.size)(h:∀v' w',w'.ownsRow base e size v' (n+l.length) (b++l.flatMap enc)->w.grownBy w' v.ownBlock->(v'.ownBlock=v.ownBlock\/v'.ownBlock=some w.heap.size)->wpList P c Q rest (a.put o.dst v') w'):wpList P c Q (o::rest) a w:=hb_ H λ_ A=>zG w enc s x t d base e i z size bytes f hi j X I K L v n b m W B u l p q r y T aa Z λv' w' C E F=>A _ _ (h v' w' C E F)
def gX{α:Type}(enc:α->List V_){c:Array Oper}{o:Oper}{a:Act}{K:Act->W_->Prop}{Q:Exit->Act->W_->Prop}{E:Prop}(A:o.guard=none)(s x:Operand)(t:T_)(d:o.op=.call {callee:= .builtin .append,args:= #[s,x],argTypes:= #[t,t]})(base:Nat)(e:T_)(i:TypeInfo)(z:V_)(size bytes:Nat)(f:P.underlying t=some (.slice e))(hi:P.info? e=some i)(j:i.zero=some z)(T:i.size=size)(C:i.bytes=bytes)(F:z.cells.size=size)(H:0<size)(v:V_)(n:Nat)(b:List V_)(m:a.eval s=v)(L:w.ownsRow base e size v n b)(B:Nat)(u:V_)(l:List α)(p:∀x,(enc x).length=size)(q:a.eval x=u)(r:Sl w B enc size u l)(y:∀x∈l,∀u∈enc x,u.oneCell'=true)(I:n+l.length<=m_)(X:(n+l.length)*bytes<=140737488355328)(W:base<=w.heap.size)(h:∀v' w',w'.ownsRow base e size v' (n+l.length) (b++l.flatMap enc)->w.grownBy w' v.ownBlock->(v'.ownBlock=v.ownBlock\/v'.ownBlock=some w.heap.size)->K (a.put o.dst v') w'):if Region.wanted o (yielded c a.tmps)=true then Oper.wp P o a w K Q else E:=by(have hw:Region.wanted o (yielded c a.tmps)=true:=by simp[Region.wanted,A]);rw[A_ hw];exact zG w enc s x t d base e i z size bytes f hi j T C F H v n b m L B u l p q r y I X W h
end
section
variable{α:Type}{w w':W_}{B:Nat}{f:α->V_}{v:V_}{l:List α}
def enc1(f:α->V_)(x:α):List V_:=[f x]
def S9(f:α->V_):∀l:List α,l.flatMap (enc1 f)=l.map f
 |[]=>rfl
 |x::l=>by rw[M5,S9 f l];rfl
def S1(w:W_)(f:α->V_)(v:V_)(l:List α):Prop:=Sl w w.heap.size (enc1 f) 1 v l
def S1.up(h:S1 w f v l)(hb:G w w'):S1 w' f v l:=(Sl.below h hb).more hb.size
def S1.al(h:S1 w f v l)(o:Obj):S1 (w.alloc o) f v l:=h.up ((fD _ _).alloc (fU _) _)
def S1.nil(w:W_)(f:α->V_):S1 w f (.slice none 0 0) []:=Sl.nil _ _ _ _
def S1.jw(h:S1 w f v l):l.length<=m_:=Sl.jw h
def S1.form(h:S1 w f v l):∃A c,v=.slice A l.length c/\l.length<=c/\c<=m_/\(0<l.length->∃b a,A=some ⟨b,a,none⟩/\b<w.heap.size/\∀i x,l[i]?=some x->N w b (a+i) (f x)):=by obtain⟨A,c,hv,hc,d,j⟩:=h;refine⟨A,c,hv,hc,d,λm=>?_⟩;obtain⟨b,a,e,hb,n⟩:=j m;refine⟨b,a,e,hb,λi x hi=>?_⟩;have:=n i x hi 0 _ rfl;simpa using this
def S1.mk{A:Option Addr}{c:Nat}(hc:l.length<=c)(h:c<=m_)(m:0<l.length->∃b d,A=some ⟨b,d,none⟩/\b<w.heap.size/\∀i x,l[i]?=some x->N w b (d+i) (f x)):S1 w f (.slice A l.length c) l:=by
 refine⟨A,c,rfl,hc,h,λn=>?_⟩;obtain⟨b,d,e,hb,o⟩:=m n;refine⟨b,d,e,hb,λi x hi j u a=>?_⟩
 match j,a with
 |0,a=>simp[enc1]at a;subst a;simpa using o i x hi
 |j+1,a=>simp[enc1]at a
def S1.lit(w:W_)(n:Nat)(a:n=w.heap.size)(t:T_)(cs:Array V_)(f:α->V_)(l:List α)(m:Nat)(b:m=l.length)(h:cs=(l.map f).toArray)(hl:l.length<=m_):S1 (w.alloc (.cells cs t)) f (.slice (some ⟨n,0,none⟩) m m) l:=by subst a b h;(refine S1.mk (fU _) hl λ_=>⟨w.heap.size,0,rfl,S,λi x hi=>?_⟩);rw[ji];simp[hi]
def iL{base:Nat}{e:T_}(h:w.ownsRow base e 1 v l.length (l.map f)):S1 w f v l:=by rcases h.2 with⟨rfl,a⟩|⟨g,cap,n,rfl,hb,b,d,c,j,m⟩;(·have:l=[]:=Hl a;subst this;exact S1.nil _ _);·(refine S1.mk d c λ_=>⟨g,0,rfl,(vR.1 b).1,λi x hi=>?_⟩);have:=h.cells (g:=g) rfl i (f x) (by simp[hi]);rw[add_lit]at this;exact this
def o_{base:Nat}{e:T_}{size n:Nat}{a:List V_}(h:w.ownsRow base e size v n a):∃A c,v=.slice A n c:=by rcases h.2 with⟨rfl,rfl⟩|⟨_,_,_,rfl,_⟩<;>exact⟨_,_,rfl⟩
def gB{W a:W_}{B e size n:Nat}{v:V_}{b:List V_}(h:W.ownsRow B e size v n b)(hb:Below W.heap.size W a):a.ownsRow B e size v n b:=h.kept (row:=none) ⟨hb.os,hb.tape,hb.output,hb.size,λk c _=>hb.block k c⟩ (by rcases h.2 with⟨rfl,_⟩|⟨g,cap,d,rfl,_⟩<;>simp[Value.ownBlock])
def jf{W:W_}{B B' e size n:Nat}{v:V_}{a:List V_}(h:W.ownsRow B e size v n a)(b:B'<=B):W.ownsRow B' e size v n a:=by refine⟨h.1,?_⟩;rcases h.2 with c|⟨g,cap,d,hv,hb,r⟩;(·exact .inl c);·exact .inr ⟨g,cap,d,hv,gT b hb,r⟩
def rz{p:Addr}{u:V_}(h:w.cell? p=some u)(o:Obj):(w.alloc o).cell? p=some u:=(((fD w.heap.size w).alloc (fU _) o).cell (zy w p h)).trans h
def rA{W a:W_}{r:Option Nat}(hb:G w W)(b:W.grownBy a r)(c:∀k,r=some k->w.heap.size<=k):G w a:=hb.grown b hb.size c
end
abbrev iV(x:Int):V_:= .int .i64 x
abbrev SI(w:W_)(v:V_)(l:List Int):Prop:=S1 w iV v l
def SP(w:W_)(v:V_)(ps:List (V_×List Int)):Prop:=S1 w (·.1) v ps/\∀p∈ps,SI w p.1 p.2
def SS(w:W_)(v:V_)(L:List (List Int)):Prop:=∃ps:List (V_×List Int),ps.map (·.2)=L/\SP w v ps
def SP.up{w w':W_}{v:V_}{ps:List (V_×List Int)}(h:SP w v ps)(hb:G w w'):SP w' v ps:=⟨h.1.up hb,λp a=>(h.2 p a).up hb⟩
def SS.up{w w':W_}{v:V_}{L:List (List Int)}(h:SS w v L)(hb:G w w'):SS w' v L:=by obtain⟨ps,e,h⟩:=h;exact⟨ps,e,h.up hb⟩
def SS.nil(w:W_):SS w (.slice none 0 0) []:=⟨[],rfl,S1.nil _ _,λ_ h=>by cases h⟩
def SS.form{w:W_}{v:V_}{L:List (List Int)}(h:SS w v L):∃A c,v=.slice A L.length c/\L.length<=c/\c<=m_/\ (0<L.length->∃b a,A=some ⟨b,a,none⟩/\b<w.heap.size/\∀i x,L[i]?=some x->∃u,N w b (a+i) u/\SI w u x):=by obtain⟨ps,rfl,j,m⟩:=h;obtain⟨A,c,rfl,hc,n,o⟩:=j.form;refine⟨A,c,S,Q hc,n,λq=>?_⟩;obtain⟨b,a,e,hb,r⟩:=o (Q q);refine⟨b,a,e,hb,λi x hi=>?_⟩;rw[Cx]at hi;obtain⟨p,d,rfl⟩:=M0.1 hi;exact⟨p.1,r i p d,m p (gM d)⟩
def SI.slice_form{w:W_}{v:V_}{l:List Int}(h:SI w v l):∃A c,v=.slice A l.length c:=by obtain⟨A,c,e,_⟩:=h;exact⟨A,c,e⟩
structure PP where
 p:W_->Prop
 up:∀w w':W_,p w->G w w'->p w'
section
variable{w w':W_}
end
end
section
open Tryz
abbrev St:=List UInt8
inductive Cn where
 |mk (kind:Int) (name:St) (lo hi:Int) (parts:List Cn)
namespace Cn
def kind:Cn->Int| .mk k _ _ _ _=>k
def name:Cn->St| .mk _ n _ _ _=>n
def lo:Cn->Int| .mk _ _ l _ _=>l
def hi:Cn->Int| .mk _ _ _ h _=>h
def parts:Cn->List Cn| .mk _ _ _ _ p=>p
def nil:Cn:= .mk 0 [] 0 0 []
mutual
def size:Cn->Nat| .mk _ _ _ _ ps=>sizes ps+1
def sizes:List Cn->Nat|[]=>0|c::l=>size c+sizes l
end
mutual
def deep:Cn->Nat| .mk _ _ _ _ ps=>CB ps
def CB:List Cn->Nat|[]=>0|c::l=>max (deep c+1) (CB l)
end
mutual
def pre:Cn->List Cn| .mk k n l h ps=> .mk k n l h ps::jV ps
def jV:List Cn->List Cn|[]=>[]|c::l=>pre c++jV l
end
def Ui{P:Cn->Prop}(h:∀k n l g ps,(∀p∈ps,P p)->P (.mk k n l g ps))(c:Cn):P c:=Cn.rec (motive_1:=P) (motive_2:=λps=>∀p∈ps,P p) (λk n l g ps d=>h k n l g ps d) (λ_ b=>by cases b) (λa l e f p b=>by
  rcases jU.1 b with rfl|b;·exact e
  ·exact f p b) c
def ind{P:Cn->Prop}(h:∀c:Cn,(∀p∈c.parts,P p)->P c):∀c,P c:=Ui λk n l g ps a=>h (.mk k n l g ps) a
def size_pos(c:Cn):0<c.size:=by cases c;simp[size]
def kr{c p:Cn}(h:p∈c.parts):p.size<c.size:=by
 obtain⟨k,n,l,g,ps⟩:=c;simp only[parts]at h;simp only[size]
 induction ps with
 |nil=>cases h
 |cons a l b=>
  simp only[sizes];rcases jU.1 h with rfl|h;(·omega);·have:=b h;omega
def ZK:∀c:Cn,c.pre.length=c.size:=by
 intro c
 induction c using ind with
 |h c b=>
  obtain⟨k,n,l,g,ps⟩:=c;simp only[pre,size,p8];congr 1;simp only[parts]at b
  induction ps with
  |nil=>rfl
  |cons a r e=>
   simp only[jV,sizes,lG];rw[b a S,e λp d=>b p (by simp[d])]
end Cn
def iY(c:UInt8):Bool:=(97<=c&&c<=122)||(65<=c&&c<=90)
def mM(s:St):Bool:=s.all λc=>iY c||c==95||(48<=c&&c<=57)
def kM(a b:Int):Int:=if a=0 then b else a
def gK(a b:Int):Int:=if a<b then-1 else if b<a then 1 else 0
def oW(a b:Nat):Int:=gK a b
def fJ:St->St->Int
 |[],[]=>0
 |[],_::_=> -1
 |_::_,[]=>1
 |a::l,b::m=>if a<b then-1 else if b<a then 1 else fJ l m
def EA(x y z:Int):Prop:=(x<0->y<0->z<0)/\(x=0->z=y)/\(y=0->z=x)
def EA.or{x y z e f g:Int}(h:EA x y z)(d:x=0->y=0->EA e f g):EA (kM x e) (kM y f) (kM z g):=by unfold EA kM at *;obtain⟨i,j,k⟩:=h;by_cases b:x=0;(·have c:=j b;by_cases a:y=0;(·have d:=d b a;rw[A_ b,A_ a,A_ (c.trans a)];exact d);·rw[A_ b,u_ a,u_ (by rw[c];exact a),c];refine⟨λ_ h=>h,λ_=>rfl,λh=>absurd h a⟩);·by_cases a:y=0;(·have c:=k a;rw[u_ b,A_ a,u_ (by rw[c];exact b),c];exact⟨λh _=>h,λh=>absurd h b,λ_=>rfl⟩);·rw[u_ b,u_ a];refine⟨λl m=>?_,λh=>absurd h b,λh=>absurd h a⟩;have:=i l m;rw[u_ U];exact this
def zH{a b:Int}:kM a b=0↔a=0/\b=0:=by unfold kM;by_cases h:a=0;(·rw[A_ h];simp[h]);·rw[u_ h];simp[h]
def D9{a b:Int}: -kM a b=kM (-a) (-b):=by unfold kM;by_cases h:a=0;(·rw[A_ h,A_ U]);·rw[u_ h,u_ U]
def kN{a b:Int}(c:a= -1\/a=0\/a=1)(hb:b= -1\/b=0\/b=1):kM a b= -1\/kM a b=0\/kM a b=1:=by unfold kM;split<;>assumption
def Bc{a b:Int}:gK a b=0↔a=b:=by unfold gK;split<;>(try split)<;>omega
def EB(a b:Int):gK b a= -gK a b:=by unfold gK;split<;>(try split)<;>(try split)<;>omega
def mq(a b c:Int):EA (gK a b) (gK b c) (gK a c):=by unfold EA gK;refine⟨?_,?_,?_⟩<;>split<;>(try split)<;>(try split)<;>(try split)<;>(try split)<;>(try split)<;>omega
def qh(a b:Int):gK a b= -1\/gK a b=0\/gK a b=1:=by unfold gK;split<;>(try split)<;>simp
def nZ(a b:UInt8)(l m:St):fJ (a::l) (b::m)=kM (oW a.toNat b.toNat) (fJ l m):=by(have e:oW a.toNat b.toNat=if a<b then-1 else if b<a then 1 else 0:=by unfold oW gK;simp only[UInt8.lt_iff_toNat_lt,Int.ofNat_lt]);rw[fJ,e];unfold kM;by_cases c:a<b;(·simp[c]);·by_cases d:b<a;(·simp[c,d]);·simp[c,d]
def xD:∀{a b:St},fJ a b=0↔a=b
 |[],[]=>by simp[fJ]
 |[],_::_=>by simp[fJ]
 |_::_,[]=>by simp[fJ]
 |a::l,b::m=>by
  rw[nZ,zH,xD];unfold oW;rw[Bc,List.cons.injEq];refine and_congr_left λ_=>⟨λh=>gt_.1 U,λh=>by rw[h]⟩
def EC:∀(a b:St),fJ b a= -fJ a b
 |[],[]=>by simp[fJ]
 |[],_::_=>by simp[fJ]
 |_::_,[]=>by simp[fJ]
 |a::l,b::m=>by
  rw[nZ,nZ,D9,EC l m];unfold oW;rw[EB]
def nM:∀(a b c:St),EA (fJ a b) (fJ b c) (fJ a c)
 |[],b,c=>by cases b<;>cases c<;>simp[fJ,EA]
 |a::l,[],c=>by cases c<;>simp[fJ,EA]
 |a::l,b::m,[]=>by simp[fJ,EA]
 |a::l,b::m,c::r=>by
  rw[nZ,nZ,nZ];exact(mq _ _ _).or λ_ _=>nM l m r
def qj:∀(a b:St),fJ a b= -1\/fJ a b=0\/fJ a b=1
 |[],[]=>by simp[fJ]
 |[],_::_=>by simp[fJ]
 |_::_,[]=>by simp[fJ]
 |a::l,b::m=>by rw[nZ];exact kN (qh _ _) (qj l m)
mutual
def fO:Cn->Cn->Int
 | .mk k n l h ps,.mk k' n' l' h' qs=>kM (oW (Cn.sizes ps+1) (Cn.sizes qs+1)) (kM (gK k k') (kM (fJ n n') (kM (gK l l') (kM (gK h h') (gU ps qs)))))
def gU:List Cn->List Cn->Int
 |[],[]=>0
 |[],_::_=> -1
 |_::_,[]=>1
 |a::l,b::m=>kM (fO a b) (gU l m)
end
def ED:∀(ps c:List Cn),(∀p∈ps,∀q,fO p q=0↔p=q)->(gU ps c=0↔ps=c)
 |[],[],_=>by simp[gU]
 |[],_::_,_=>by simp[gU]
 |_::_,[],_=>by simp[gU]
 |a::l,b::m,h=>by rw[gU,zH,h a S,ED l m λp d=>h p (by simp[d]),List.cons.injEq]
def sM{a b:Cn}:fO a b=0↔a=b:=by
 revert b
 induction a using Cn.Ui with
 |h k n l g ps j=>
  intro b;obtain⟨r,n',s,t,m⟩:=b;(have:=ED ps m λp o q=>j p o);simp only[fO,zH,Bc,xD,this,oW,Cn.mk.injEq];constructor;(·rintro⟨_,d,e,f,i,c⟩;exact⟨d,e,f,i,c⟩);·rintro⟨d,e,f,i,c⟩;exact⟨by rw[c],d,e,f,i,c⟩
def I6:∀(ps c:List Cn),(∀p∈ps,∀q,fO q p= -fO p q)->gU c ps= -gU ps c
 |[],[],_=>by simp[gU]
 |[],_::_,_=>by simp[gU]
 |_::_,[],_=>by simp[gU]
 |a::l,b::m,h=>by rw[gU,gU,D9,h a S,I6 l m λp d=>h p (by simp[d])]
def WL(a b:Cn):fO b a= -fO a b:=by
 revert b
 induction a using Cn.Ui with
 |h k n l g ps c=>
  intro b;obtain⟨f,n',i,j,d⟩:=b;(have:=I6 ps d λp e q=>c p e q);simp only[fO,D9,<-EB,<-EC,<-this,oW]
def I7:∀(ps d rs:List Cn),(∀p∈ps,∀q r,EA (fO p q) (fO q r) (fO p r))->EA (gU ps d) (gU d rs) (gU ps rs)
 |[],b,c,_=>by cases b<;>cases c<;>simp[gU,EA]
 |_::_,[],c,_=>by cases c<;>simp[gU,EA]
 |_::_,_::_,[],_=>by simp[gU,EA]
 |a::l,b::m,c::r,h=>by
  rw[gU,gU,gU];exact(h a S b c).or λ_ _=>I7 l m r λp e=>h p (by simp[e])
def EF(a b c:Cn):EA (fO a b) (fO b c) (fO a c):=by
 revert b c
 induction a using Cn.Ui with
 |h k n l g ps d=>
  intro b c;obtain⟨f,n',i,j,e⟩:=b;obtain⟨m,o,p,q,rs⟩:=c;simp only[fO,oW];exact(mq _ _ _).or λ_ _=>(mq _ _ _).or λ_ _=>(nM _ _ _).or λ_ _=>(mq _ _ _).or λ_ _=>(mq _ _ _).or λ_ _=>I7 ps e rs d
def I8:∀(ps c:List Cn),(∀p∈ps,∀q,fO p q= -1\/fO p q=0\/fO p q=1)->gU ps c= -1\/gU ps c=0\/gU ps c=1
 |[],[],_=>by simp[gU]
 |[],_::_,_=>by simp[gU]
 |_::_,[],_=>by simp[gU]
 |a::l,b::m,h=>by rw[gU];exact kN (h a S b) (I8 l m λp d=>h p (by simp[d]))
def M6(a b:Cn):fO a b= -1\/fO a b=0\/fO a b=1:=by
 revert b
 induction a using Cn.Ui with
 |h k n l g ps c=>
  intro b;obtain⟨f,n',i,j,d⟩:=b;simp only[fO,oW];exact kN (qh _ _) (kN (qh _ _) (kN (qj _ _) (kN (qh _ _) (kN (qh _ _) (I8 ps d λp e q=>c p e q)))))
structure Ax where
 kind:Int
 op:Bool
 left:Cn
 right:Cn
 roles:List St
 role:St
 a:St
 b:St
def ig:List St->List St->Int
 |[],[]=>0
 |[],_::_=> -1
 |_::_,[]=>1
 |a::l,b::m=>kM (fJ a b) (ig l m)
def I9:∀(a b c:List St),EA (ig a b) (ig b c) (ig a c)
 |[],b,c=>by cases b<;>cases c<;>simp[ig,EA]
 |a::l,[],c=>by cases c<;>simp[ig,EA]
 |a::l,b::m,[]=>by simp[ig,EA]
 |a::l,b::m,c::r=>by rw[ig,ig,ig];exact(nM _ _ _).or λ_ _=>I9 l m r
def Ja:∀(a b:List St),ig a b= -1\/ig a b=0\/ig a b=1
 |[],[]=>by simp[ig]
 |[],_::_=>by simp[ig]
 |_::_,[]=>by simp[ig]
 |a::l,b::m=>by rw[ig];exact kN (qj _ _) (Ja l m)
def uq(c:Cn):Nat:=if c.kind=0 then 0 else c.size
def EG(s:St):Nat:=if s=[] then 0 else 1
def weight(x:Ax):Nat:=uq x.left+uq x.right+x.roles.length+EG x.role+EG x.a+EG x.b
def j5(x y:Ax):Int:=kM (oW (weight x) (weight y)) (kM (gK x.kind y.kind) (kM (fO x.left y.left) (kM (fO x.right y.right) (kM (ig x.roles y.roles) (kM (fJ x.role y.role) (kM (fJ x.a y.a) (fJ x.b y.b)))))))
def WM(x y z:Ax):EA (j5 x y) (j5 y z) (j5 x z):=by unfold j5 oW;exact(mq _ _ _).or λ_ _=>(mq _ _ _).or λ_ _=>(EF _ _ _).or λ_ _=>(EF _ _ _).or λ_ _=>(I9 _ _ _).or λ_ _=>(nM _ _ _).or λ_ _=>(nM _ _ _).or λ_ _=>nM _ _ _
def WO(x y:Ax):j5 x y= -1\/j5 x y=0\/j5 x y=1:=by unfold j5 oW;exact kN (qh _ _) (kN (qh _ _) (kN (M6 _ _) (kN (M6 _ _) (kN (Ja _ _) (kN (qj _ _) (kN (qj _ _) (qj _ _)))))))
def EH(x:Cn):List Cn->List Cn
 |[]=>[x]
 |y::l=>if fO x y<0 then x::y::l else if fO x y=0 then y::l else y::EH x l
def o9(l:List Cn):List Cn:=l.foldr EH []
abbrev DF(a b:Cn):Prop:=fO a b<0
def sN{a b c:Cn}(d:DF a b)(e:DF b c):DF a c:=(EF a b c).1 d e
def uw(a:Cn):¬DF a a:=by unfold DF;rw[sM.2 rfl];decide
def yS{a b:Cn}(c:¬fO a b<0)(d:fO a b≠0):DF b a:=by unfold DF;rw[WL];omega
def EI(x z:Cn):∀l:List Cn,z∈EH x l↔z=x\/z∈l
 |[]=>by simp[EH]
 |y::l=>by
  unfold EH;by_cases a:fO x y<0;(·rw[A_ a];simp);·by_cases b:fO x y=0;(·rw[u_ a,A_ b,sM.1 b];simp);·rw[u_ a,u_ b,jU,EI x z l,jU];constructor;(·rintro(h|h|h);(·exact .inr (.inl h));(·exact .inl h);·exact .inr (.inr h));·rintro(h|h|h);(·exact .inr (.inl h));(·exact .inl h);·exact .inr (.inr h)
def CF(x:Cn):∀{l:List Cn},l.Pairwise DF->(EH x l).Pairwise DF
 |[],_=>by simp[EH]
 |y::l,h=>by
  obtain⟨c,d⟩:=Dz.1 h;unfold EH;by_cases g1:fO x y<0;(·rw[A_ g1];refine Dz.2 ⟨λz a=>?_,h⟩;rcases jU.1 a with rfl|a;(·exact g1);·exact sN g1 (c z a));·by_cases b:fO x y=0;(·rw[u_ g1,A_ b];exact h);·rw[u_ g1,u_ b];refine Dz.2 ⟨λz a=>?_,CF x d⟩;rcases(EI x z l).1 a with rfl|a;(·exact yS g1 b);·exact c z a
def Jb(z:Cn):∀l:List Cn,z∈o9 l↔z∈l
 |[]=>by simp[o9]
 |y::l=>by
  have:=Jb z l;unfold o9 at *;rw[er_,EI,this,jU]
def zI:∀l:List Cn,(o9 l).Pairwise DF
 |[]=>by simp[o9]
 |y::l=>by
  have:=zI l;unfold o9 at *;rw[er_];exact CF y this
def vU:∀{a b:List Cn},a.Pairwise DF->b.Pairwise DF->(∀x,x∈a↔x∈b)->a=b
 |[],[],_,_,_=>rfl
 |[],y::b,_,_,h=>by have:=(h y).2 S;cases this
 |x::a,[],_,_,h=>by have:=(h x).1 S;cases this
 |x::a,y::b,ha,hb,h=>by
  have d:=Dz.1 ha;have f:=Dz.1 hb;(have m:∀{u v:Cn},DF u v->DF v u->False:=λi j=>uw _ (sN i j));(have e:x=y:=by rcases jU.1 ((h x).1 S) with e|k;(·exact e);·rcases jU.1 ((h y).2 S) with e|l;(·exact e.symm);·exact(m (d.1 y l) (f.1 x k)).elim);subst e;congr 1;(refine vU d.2 f.2 λz=>⟨λc=>?_,λc=>?_⟩);(·rcases jU.1 ((h z).1 (by simp[c])) with e|g;(·subst e;exact absurd (d.1 z c) (uw z));·exact g);·rcases jU.1 ((h z).2 (by simp[c])) with e|g;(·subst e;exact absurd (f.1 z c) (uw z));·exact g
def zJ(l:List Cn):Cn×Int:=
 match l.find? λc=>decide (c.kind=2) with
 |some c=>(c,0)
 |none=>match l with
  |[]=>(.mk 1 [] 0 0 [],0)
  |[c]=>(c,0)
  |l=>if 8<l.length then(Cn.nil,2) else(.mk 5 [] 0 0 l,0)
mutual
def Z_:Cn->Cn×Int
 | .mk k n l h ps=>if k=6 then Ta n ps else if k=5 then match meets ps with
  |(x,e)=>if e=0 then zJ (o9 x) else(Cn.nil,e)
   else(.mk k n l h ps,0)
def Ta(n:St):List Cn->Cn×Int
 |[]=>(Cn.nil,0)
 |p::_=>match Z_ p with
  |(q,e)=>if e≠0\/q.kind=2 then(q,e) else(.mk 6 n 0 0 [q],0)
def meets:List Cn->List Cn×Int
 |[]=>([],0)
 |p::ps=>match Z_ p with
  |(q,e)=>if e≠0 then([],e) else match meets ps with
   |(l,f)=>if f≠0 then([],f) else((if q.kind=1 then[] else if q.kind=5 then q.parts else[q])++l,0)
end
def kws:List St:=[[97,110,100],[115,111,109,101],[105,110],[116,111],[110,111,116,104,105,110,103],[101,118,101,114,121,116,104,105,110,103],[111,110,101],[111,102],[111,112,101,110],[112,114,105,118,97,116,101],[115,117,98],[115,97,109,101],[100,105,115,106,111,105,110,116],[100,111,109,97,105,110],[114,111,108,101],[99,104,97,105,110],[114,101,102,108,101,120,105,118,101],[116,121,112,101],[108,105,110,107],[115,101,108,101,99,116],[119,104,101,114,101],[111,114]]
def jJ(s:St):Bool:=match s with|[]=>false|c::_=>iY c&&mM s&& !kws.contains s
def og:St->St×Option St
 |[]=>([],none)
 |c::s=>if c=58 then([],some s) else match og s with
  |(a,r)=>(c::a,r)
def fE(s:St):Bool:=if 24<s.length then false else match og s with|(a,none)=>jJ a|(a,some b)=>jJ a&&jJ b
def iy(s:St):Bool:=match s with|c::_::_=>c==95&&mM s&&decide (s.length<=24)|_=>false
def fq(s:St):Bool:=fE s||iy s
def gY(k:Int):Nat:=if k=3\/k=6\/k=7 then 1 else if k=4 then 2 else 0
def jW(k:Int):Nat:=if k=5 then 2 else if k=6 then 1 else 0
def mD(k:Int):Nat:=if k=5 then 8 else if k=6 then 1 else 0
def maxNum:Int:=1099511627776
def fI(c:Cn):Int:=
 if c.kind<1\/7<c.kind then 21
 else if c.parts.length<jW c.kind\/mD c.kind<c.parts.length\/(gY c.kind=0/\c.name≠[]) then 21
 else if(c.kind=7/\(c.lo< -maxNum\/c.hi<c.lo\/maxNum<c.hi))\/(c.kind≠7/\(c.lo≠0\/c.hi≠0)) then 21
 else if gY c.kind=0\/fE c.name=true\/(gY c.kind=2/\iy c.name=true) then 0 else 20
def jF:List Cn->Int
 |[]=>0
 |c::l=>if fI c≠0 then fI c else jF l
def Jc(c:Cn):Prop:=c.deep<=8/\c.size<=64
instance(c:Cn):Decidable (Jc c):=inferInstanceAs (Decidable (_/\_))
def r_(c:Cn):Int:=if Jc c then jF c.pre else 21
mutual
def oM:Cn->Bool| .mk k _ _ _ ps=>if k=4 then true else if k=5 then iI ps else false
def iI:List Cn->Bool|[]=>false|c::l=>oM c||iI l
end
def ql(c:Cn):Bool:=decide (c.kind=0)&&decide (c.name=[])&&decide (c.lo=0)&&decide (c.hi=0)&&c.parts.isEmpty
def jP(k:Int):Bool:=decide (k=1\/k=2\/k=3)
def jN(k:Int):Bool:=decide (k=1\/k=2\/k=3\/k=4\/k=8)
def mY(k:Int):Bool:=decide (k=4\/k=5\/k=6\/k=7\/k=9)
def uA(k:Int):Bool:=decide (k=8\/k=9)
def uB(k:Int):Bool:=decide (k=9)
def jX(k:Int):Nat:=if k=5 then 1 else if k=6 then 2 else 0
def mZ(k:Int):Nat:=if k=5 then 1 else if k=6 then 4 else 0
def iM(x:Ax):Bool:=decide (1<=x.kind/\x.kind<=9)&&(jP x.kind||ql x.left)&&(jN x.kind||ql x.right)&&(mY x.kind||decide (x.role=[]))&&(uA x.kind||decide (x.a=[]))&&(uB x.kind||decide (x.b=[]))&&
 decide (jX x.kind<=x.roles.length/\x.roles.length<=mZ x.kind)
def oZ(x:Ax):Bool:=(!mY x.kind||fE x.role)&&(!uA x.kind||fq x.a)&&(!uB x.kind||fq x.b)&&x.roles.all fE
def X_(x:Ax):Int:=
 if iM x=false then 22 else if oZ x=false then 20
 else if jP x.kind=true/\r_ x.left≠0 then r_ x.left
 else if jN x.kind=true/\r_ x.right≠0 then r_ x.right
 else if(x.kind=2/\(oM x.left=true\/oM x.right=true))\/((x.kind=1\/x.kind=4\/x.kind=8)/\oM x.right=true) then 22 else 0
def EJ:Ax:=⟨0,false,Cn.nil,Cn.nil,[],[],[],[]⟩
def gF(x:Ax):Ax×Int:=
 if X_ x≠0 then(EJ,X_ x) else
 let l:=if jP x.kind then Z_ x.left else(x.left,0)
 if l.2≠0 then(EJ,l.2) else
 let r:=if jN x.kind then Z_ x.right else(x.right,0)
 if r.2≠0 then(EJ,r.2) else
 if(x.kind=2\/x.kind=3)/\0<fO l.1 r.1 then({x with left:=r.1,right:=l.1},0) else({x with left:=l.1,right:=r.1},0)
end
section
open Go.RowKit Tryz
abbrev d_(s:St):V_:= .string ⟨s.toArray⟩
mutual
def mU(w:W_):Cn->List V_->Prop
 | .mk k n l h ps,cs=>∃A cap,cs=[.int .i64 k,d_ n,.int .i64 l,.int .i64 h,.slice A ps.length cap]/\ps.length<=cap/\cap<=m_/\ (0<ps.length->∃b off,A=some ⟨b,off,none⟩/\b<w.heap.size/\pK w ps b off)
def pK(w:W_):List Cn->Nat->Nat->Prop
 |[],_,_=>True
 |c::l,b,off=>(∃cs,(∀(j:Nat) u,cs[j]?=some u->N w b (off+j) u)/\mU w c cs)/\pK w l b (off+5)
end
section
variable{w w':W_}
def mU.up{c:Cn}{a:List V_}(h:mU w c a)(hb:G w w'):mU w' c a:=by suffices q:∀a,mU w c a->mU w' c a from q a h;clear h;refine Cn.rec (motive_1:=λc=>∀a,mU w c a->mU w' c a) (motive_2:=λps=>∀b d,b<w.heap.size->pK w ps b d->pK w' ps b d) ?_ ?_ ?_ c;(·intro k n l g ps r a h;unfold mU at h ⊢;obtain⟨A,cap,e,i,m,s⟩:=h;refine⟨A,cap,e,i,m,λt=>?_⟩;obtain⟨b,d,v,f,o⟩:=s t;exact⟨b,d,v,sK f hb.size,r b d f o⟩);(·intro b d _ _;unfold pK;trivial);·intro c l i m b d f h;unfold pK at h ⊢;obtain⟨⟨a,hc,o⟩,h⟩:=h;exact⟨⟨a,λj u x=>(hb.cell (p:=⟨b,d+j,none⟩) f).trans (hc j u x),i a o⟩,m b _ f h⟩
def pK.get:∀{ps:List Cn}{b d:Nat},pK w ps b d->∀{i:Nat}{p:Cn},ps[i]?=some p->∃a,(∀(j:Nat) u,a[j]?=some u->N w b (d+5*i+j) u)/\mU w p a
 |[],_,_,_,_,_,hi=>by simp at hi
 |c::l,b,d,h,0,p,hi=>by
  simp at hi;subst hi;unfold pK at h;simpa using h.1
 |c::l,b,d,h,i+1,p,hi=>by
  unfold pK at h;obtain⟨a,e,f⟩:=pK.get h.2 (i:=i) (p:=p) (Q hi);exact⟨a,λj u g=>by rw[<-e j u g];congr 2;omega,f⟩
def pK.of:∀{ps:List Cn}{b g:Nat},(∀i p,ps[i]?=some p->∃a,(∀(j:Nat) u,a[j]?=some u->N w b (g+5*i+j) u)/\mU w p a)->pK w ps b g
 |[],_,_,_=>by unfold pK;trivial
 |c::l,b,g,h=>by
  unfold pK;obtain⟨a,d,e⟩:=h 0 c rfl;refine⟨⟨a,λj u f=>by have:=d j u f;simpa using this,e⟩,pK.of λi p k=>?_⟩;obtain⟨a,d,e⟩:=h (i+1) p (Q k);exact⟨a,λj u f=>by rw[<-d j u f];congr 2;omega,e⟩
def CV(w:W_)(v:V_)(c:Cn):Prop:=∃cs,v=.agg cs.toArray/\mU w c cs
def CV.up{v:V_}{c:Cn}(h:CV w v c)(hb:G w w'):CV w' v c:=by obtain⟨a,e,h⟩:=h;exact⟨a,e,h.up hb⟩
def CV.form{v:V_}{c:Cn}(h:CV w v c):∃A cap,v=.agg #[c.kind,d_ c.name,c.lo,c.hi,.slice A c.parts.length cap]/\c.parts.length<=cap/\cap<=m_/\ (0<c.parts.length->∃b a,A=some ⟨b,a,none⟩/\b<w.heap.size/\∀i p,c.parts[i]?=some p->∃d,(∀(j:Nat) u,d[j]?=some u->N w b (a+5*i+j) u)/\mU w p d):=by obtain⟨d,rfl,h⟩:=h;obtain⟨k,n,l,g,ps⟩:=c;unfold mU at h;obtain⟨A,cap,rfl,e,f,m⟩:=h;refine⟨A,cap,rfl,e,f,λo=>?_⟩;obtain⟨b,a,q,t,r⟩:=m o;exact⟨b,a,q,t,λi p s=>r.get s⟩
def mU.cells{c:Cn}{a:List V_}(h:mU w c a):∃A cap,a=[.int .i64 c.kind,d_ c.name,.int .i64 c.lo,.int .i64 c.hi,.slice A c.parts.length cap]:=by obtain⟨k,n,l,g,ps⟩:=c;unfold mU at h;obtain⟨A,cap,rfl,_⟩:=h;exact⟨A,cap,rfl⟩
def mU.cv{c:Cn}{a:List V_}(h:mU w c a):CV w (.agg a.toArray) c:=⟨a,rfl,h⟩
end
abbrev lg(w:W_)(v:V_)(l:List St):Prop:=S1 w d_ v l
def Hw(w:W_)(x:Ax)(cs:List V_):Prop:=∃cl cr vr,cs=[.int .i64 x.kind,.bool x.op]++cl++cr++[vr,d_ x.role,d_ x.a,d_ x.b]/\mU w x.left cl/\mU w x.right cr/\lg w vr x.roles
def Hw.up{w w':W_}{x:Ax}{a:List V_}(h:Hw w x a)(hb:G w w'):Hw w' x a:=by obtain⟨b,c,d,e,f,g,i⟩:=h;exact⟨b,c,d,e,f.up hb,g.up hb,S1.up i hb⟩
def AV(w:W_)(v:V_)(x:Ax):Prop:=∃cs,v=.agg cs.toArray/\Hw w x cs
end
section
open Go.Deep Go.RowKit Tryz
section
variable{H:Type}{enc:T_×V_->H}{P:Program}{w:W_}{base:Nat}{spare:Nat->Bool}{held:Bool}
end
section
variable{w w':W_}
def Hw.form{x:Ax}{i:List V_}(h:Hw w x i):∃c f d g e,i=[.int .i64 x.kind,.bool x.op,.int .i64 x.left.kind,d_ x.left.name,.int .i64 x.left.lo,.int .i64 x.left.hi,.slice c x.left.parts.length f,.int .i64 x.right.kind,d_ x.right.name,.int .i64 x.right.lo,.int .i64 x.right.hi,.slice d x.right.parts.length g,e,d_ x.role,d_ x.a,d_ x.b]/\ CV w (.agg #[x.left.kind,d_ x.left.name,x.left.lo,x.left.hi,.slice c x.left.parts.length f]) x.left/\ CV w (.agg #[x.right.kind,d_ x.right.name,x.right.lo,x.right.hi,.slice d x.right.parts.length g]) x.right/\lg w e x.roles:=by obtain⟨f,g,e,rfl,j,k,l⟩:=h;obtain⟨c,kl,rfl⟩:=j.cells;obtain⟨d,m,rfl⟩:=k.cells;exact⟨c,kl,d,m,e,rfl,⟨_,rfl,j⟩,⟨_,rfl,k⟩,l⟩
def SPA(w:W_)(v:V_)(ps:List (List V_×Ax)):Prop:=Sl w w.heap.size (λp:List V_×Ax=>p.1) 16 v ps/\∀p∈ps,Hw w p.2 p.1
def lC(w:W_)(v:V_)(L:List Ax):Prop:=∃ps:List (List V_×Ax),ps.map (·.2)=L/\SPA w v ps
def SPA.up{v:V_}{ps:List (List V_×Ax)}(h:SPA w v ps)(hb:G w w'):SPA w' v ps:=⟨(Sl.below h.1 hb).more hb.size,λp a=>(h.2 p a).up hb⟩
def lC.up{v:V_}{L:List Ax}(h:lC w v L)(hb:G w w'):lC w' v L:=by obtain⟨ps,e,h⟩:=h;exact⟨ps,e,h.up hb⟩
def lC.nil(w:W_):lC w (.slice none 0 0) []:=⟨[],rfl,Sl.nil _ _ _ _,λ_ h=>(by cases h)⟩
def lC.form{v:V_}{L:List Ax}(h:lC w v L):∃A c,v=.slice A L.length c/\L.length<=c/\c<=m_/\ (0<L.length->∃b a,A=some ⟨b,a,none⟩/\b<w.heap.size/\∀i x,L[i]?=some x->∃d,(∀(j:Nat) u,d[j]?=some u->N w b (a+i*16+j) u)/\Hw w x d):=by obtain⟨ps,rfl,⟨A,c,rfl,hc,g,k⟩,l⟩:=h;refine⟨A,c,S,Q hc,g,λm=>?_⟩;obtain⟨b,a,e,hb,o⟩:=k (Q m);refine⟨b,a,e,hb,λi x hi=>?_⟩;rw[Cx]at hi;obtain⟨p,f,rfl⟩:=M0.1 hi;exact⟨p.1,λj u n=>o i p f j u n,l p (gM f)⟩
end
section
variable{H:Type}{enc:T_×V_->H}{P:Program}{w:W_}{base:Nat}{spare:Nat->Bool}{held:Bool}
structure Ea(P:Program)(tA tC tS tL tB:T_)(fs:Array Field):Prop where
 sA:P.underlying tA=some (.struct fs)
 cA:P.cellsOf tA=16
 n:fs.size=8
 f:(fs.map λf:Field=>(f.offset,f.type))= #[(0,3),(1,tB),(2,tC),(7,tC),(12,tL),(13,tS),(14,tS),(15,tS)]
 k3:P.underlying 3=some (.int .i64)
 kB:P.underlying tB=some .bool
 kS:P.underlying tS=some .string
 kL:P.underlying tL=some (.slice tS)
 c3:P.cellsOf 3=1
 cB:P.cellsOf tB=1
 cC:P.cellsOf tC=5
 cS:P.cellsOf tS=1
 cL:P.cellsOf tL=1
end
end
section
open Go.RowKit Tryz
structure Tc(c:Cn)(A:Option Addr)(m:Nat)
def Cs(c:Cn)(A:Option Addr)(m:Nat):Tc c A m:=⟨⟩
structure Tq(c:Cn)(A:Option Addr)(m:Nat)
def Ct(c:Cn)(A:Option Addr)(m:Nat):Tq c A m:=⟨⟩
structure Td(k:Int)(x:Ax)(p:Cn)(A:Option Addr)(m:Nat)(q:Cn)(B:Option Addr)(n:Nat)(C:Option Addr)(l:Nat)
def Ds(k:Int)(x:Ax)(p:Cn)(A:Option Addr)(m:Nat)(q:Cn)(B:Option Addr)(n:Nat)(C:Option Addr)(l:Nat):Td k x p A m q B n C l:=⟨⟩
section
variable{k:Int}{x:Ax}{c p q:Cn}{A B C:Option Addr}{m n l:Nat}
instance:CoeOut (Tc c A m) (Array V_):=⟨λ_=> #[.int .i64 c.kind,d_ c.name,.int .i64 c.lo,.int .i64 c.hi,.slice A c.parts.length m]⟩
instance:CoeOut (Tc c A m) (List V_):=⟨λ_=>[.int .i64 c.kind,d_ c.name,.int .i64 c.lo,.int .i64 c.hi,.slice A c.parts.length m]⟩
instance:CoeOut (Tq c A m) (Array V_):=⟨λ_=> #[c.kind,c.name,c.lo,c.hi,.slice A c.parts.length m]⟩
instance:CoeOut (Tq c A m) (List V_):=⟨λ_=>[.int .i64 c.kind,.string ⟨c.name.toArray⟩,.int .i64 c.lo,.int .i64 c.hi,.slice A c.parts.length m]⟩
instance:CoeOut (Td k x p A m q B n C l) (Array V_):=⟨λ_=> #[.int .i64 k,.bool x.op,.int .i64 p.kind,d_ p.name,.int .i64 p.lo,.int .i64 p.hi,.slice A p.parts.length m,.int .i64 q.kind,d_ q.name,.int .i64 q.lo,.int .i64 q.hi,.slice B q.parts.length n,.slice C x.roles.length l,d_ x.role,d_ x.a,d_ x.b]⟩
instance:CoeOut (Td k x p A m q B n C l) (List V_):=⟨λ_=>[.int .i64 k,.bool x.op,.int .i64 p.kind,d_ p.name,.int .i64 p.lo,.int .i64 p.hi,.slice A p.parts.length m,.int .i64 q.kind,d_ q.name,.int .i64 q.lo,.int .i64 q.hi,.slice B q.parts.length n,.slice C x.roles.length l,d_ x.role,d_ x.a,d_ x.b]⟩
end
abbrev bV(c:UInt8):V_:= .int .u8 (c.toNat:Int)
def adz(c:UInt8):(0:Int)<=c.toNat/\(c.toNat:Int)<=255:=⟨U,by have:=c.toNat_lt;omega⟩
def KL(c:UInt8):iY c=((decide ((97:Int)<=c.toNat)&&decide ((c.toNat:Int)<=122))||(decide ((65:Int)<=c.toNat)&&decide ((c.toNat:Int)<=90))):=by unfold iY;have a:(decide (97<=c):Bool)=decide ((97:Int)<=c.toNat):=jg_.2 (by rw[jk_];exact jl_.symm);have b:(decide (c<=122):Bool)=decide ((c.toNat:Int)<=122):=jg_.2 (by rw[jk_];exact jl_.symm);have d:(decide (65<=c):Bool)=decide ((65:Int)<=c.toNat):=jg_.2 (by rw[jk_];exact jl_.symm);have e:(decide (c<=90):Bool)=decide ((c.toNat:Int)<=90):=jg_.2 (by rw[jk_];exact jl_.symm);rw[a,b,d,e]
def ku{a b:Bool}(h:a=b):Ending.returned a=.returned b:=by rw[h]
def KM(c:UInt8)(w:W_):z 270 #[bV c] w λe w'=>e=.returned (iY c)/\w=w':=by
 rw[KL];unfold bV;generalize (c.toNat:Int)=z
 by_cases a:97<=z<;>by_cases b:z<=122<;>by_cases d:65<=z<;>by_cases f:z<=90<;>
 ·simp only[a,b,d,f];go_in;go_wp2;go_ret;exact⟨rfl,rfl⟩
def vV(c:UInt8)(w:W_){b:Bool}(hb:iY c=b):z 270 #[bV c] w λe w'=>e=.returned b/\w=w':=by subst hb;exact KM c w
end
end Go.Proofs.YtjmbkfjklemmpaaGreatDoor
