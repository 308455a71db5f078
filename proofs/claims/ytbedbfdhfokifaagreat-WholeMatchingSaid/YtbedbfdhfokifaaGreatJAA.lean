/- Part of the proof of WholeMatching. -/
import Derived.WalkKit
import Derived.WalkSpells
import Derived.WalkLawsBesides
import Derived.Lib.Hide
import Derived.Test.YtbedbfdhfokifaaGreatProg
import Derived.Deep.Draws
import Derived.Laws.OwnMore
import Derived.Maps.Own
import Derived.Maps.OwnSet
import Derived.Maps.Views
import Derived.Maps.AppendAt
import Derived.Deep.QuietTactic
import Derived.BigQuiet
import Derived.Deep.RegionHeld3
namespace Go.Proofs.YtbedbfdhfokifaaGreat
set_option maxRecDepth 100000
set_option maxHeartbeats 16000000
set_option linter.unusedVariables false
set_option linter.unusedSimpArgs false
set_option linter.defProp false
open _root_.Bool renaming true->ae,false->ag
open Go renaming World->Z,Calls->aF,Addr->aG,undef->aV,Value->aj,maxLen->bK,Oper->dC,Program->dH,Ending->eG,Operand->lU
open Go.Ending renaming returned->bM
open Go.Instr renaming index->yx
open Go.IntKind renaming i64->F
open Go.Lit renaming int->jQ
open Go.Obj renaming cells->U
open Go.Proofs.Tryz renaming prog->ak
open Go.Value renaming int->G,slice->T,bool->aA,agg->az,tuple->bG,ownBlock->yz
open _root_.List renaming range->kJ
open _root_.Option renaming none->J,some->N
open Go.RowKit
def Qi:=@Array.getElem?_append_left
def P5:=@Array.getElem?_eq_none
def nM:=@Array.getElem?_eq_some_iff
def L9:=@Array.getElem?_modify
def PZ:=@Array.getElem?_setIfInBounds_ne
def FV:=@Array.getElem?_setIfInBounds_self_of_lt
def q9:=@Array.getElem?_toList
def Iy:=@Array.getElem_setIfInBounds
def VI:=@Array.getInternal_eq_getElem
def oq:=@Array.length_toList
def qy:=@Array.replicate_succ
def qz:=@Array.replicate_zero
def bR:=@Bool.and_eq_true
def qm:=@Bool.eq_iff_iff
def zI:=@Bool.false_eq_true
def qo:=@Bool.not_eq_true
def Dv:=@Bool.not_eq_true'
def ou:=@Bool.or_eq_true
def qC:=@Bool.true_and
def Vy:=@Classical.byContradiction
def P8:=@Go.ByteArray.toList_eq
def rF:=@Go.IntKind.wrap_i64
def iL:=@Go.IntWalk.i64_in
def Vr:=@Go.IntWalk.wrap64_in
def VH:=@Go.Lib.cell?_alloc_some
def ME:=@Go.Lib.run_eql_slice_nil
def Mq:=@Go.Maps.Keyed.of_law
def Mc:=@Go.Maps.atKey_put_other
def Ma:=@Go.Maps.atKey_put_same
def Qa:=@Go.Maps.has_put_other
def P9:=@Go.Maps.has_put_same
def Fz:=@Go.Maps.int_keyed
def H9:=@Go.Maps.isMap_empty
def Ia:=@Go.Maps.keyOf_int_mk
def FO:=@Go.Proofs.Tryz.func122
def Mx:=@Go.Proofs.Tryz.func159
def Dw:=@Go.Proofs.Tryz.func21
def qw:=@Go.Proofs.Tryz.func229
def wT:=@Go.Proofs.Tryz.func243
def Iq:=@Go.Proofs.Tryz.func273
def FJ:=@Go.Proofs.Tryz.func277
def FH:=@Go.Proofs.Tryz.func45
def DD:=@Go.Proofs.Tryz.func52
def FR:=@Go.Proofs.Tryz.func76
def FP:=@Go.Proofs.Tryz.ntmps122
def MB:=@Go.Proofs.Tryz.ntmps159
def Dx:=@Go.Proofs.Tryz.ntmps21
def qx:=@Go.Proofs.Tryz.ntmps229
def wU:=@Go.Proofs.Tryz.ntmps243
def Ir:=@Go.Proofs.Tryz.ntmps273
def FK:=@Go.Proofs.Tryz.ntmps277
def FI:=@Go.Proofs.Tryz.ntmps45
def DF:=@Go.Proofs.Tryz.ntmps52
def FT:=@Go.Proofs.Tryz.ntmps76
def MJ:=@Go.Proofs.Tryz.ntmps89
def IB:=@Go.Proofs.Tryz.results79
def PW:=@Go.Proofs.Tryz.underlying105
def mH:=@Go.Proofs.Tryz.underlying107
def sW:=@Go.Proofs.Tryz.underlying108
def Bo:=@Go.Proofs.Tryz.underlying122
def MM:=@Go.Proofs.Tryz.underlying162
def PV:=@Go.Proofs.Tryz.underlying177
def P7:=@Go.Proofs.Tryz.underlying196
def Iz:=@Go.Proofs.Tryz.underlying236
def PU:=@Go.Proofs.Tryz.underlying24
def Mj:=@Go.Proofs.Tryz.underlying250
def bQ:=@Go.Proofs.Tryz.underlying29
def dh:=@Go.Proofs.Tryz.underlying3
def PY:=@Go.Proofs.Tryz.underlying30
def jB:=@Go.Proofs.Tryz.underlying36
def iX:=@Go.Proofs.Tryz.underlying4
def FD:=@Go.Proofs.Tryz.underlying54
def Bj:=@Go.Proofs.Tryz.underlying60
def PT:=@Go.Proofs.Tryz.underlying70
def PX:=@Go.Proofs.Tryz.underlying79
def DC:=@Go.Proofs.Tryz.underlying83
def zF:=@Go.Proofs.Tryz.underlying9
def wR:=@Go.Proofs.Tryz.underlying98
def Bn:=@Go.Proofs.Tryz.underlying99
def wX:=@Go.Proofs.Tryz.zeroValue256
def Vu:=@Go.Region.noSelect_spec
def Mg:=@Go.Result.andThen_ok
def ni:=@Go.RowKit.Below.grown
def L8:=@Go.RowKit.Below.heap_alloc
def uZ:=@Go.RowKit.Below.heap_setCell
def aD:=@Go.RowKit.Below.refl
def MF:=@Go.RowKit.ownsRow_setCell_below
def rC:=@Go.RowKit.run_makeMap
def yA:=@Go.Sem.run_bind
def Mf:=@Go.Sem.run_pure
def LZ:=@Go.World.cell?_alloc_lt
def Ig:=@Go.World.grownBy.refl
def zB:=@Go.World.grownBy_alloc
def H8:=@Go.World.ownsMap_made
def jZ:=@Go.World.ownsRow_nil
def fG:=@Go.World.size_alloc
def iq:=@Go.bodyPost_ret
def Bl:=@Go.callsIn_of_wp
def jM:=@Go.callsIn_wide
def jh:=@Go.info_parts
def FB:=@Go.plainElem_bool
def Ij:=@Go.ready_mono
def FL:=@Go.results_cell_row
def Il:=@Go.results_none
def Mm:=@Go.run_loadVar_row
def kY:=@Go.run_underlying
def FE:=@Go.setRow_other
def Vs:=@Go.wpList_append_own
def PN:=@Go.wpList_mapUpdate_own
def oQ:=@Go.wpList_store_row
def IA:=@Int.mul_nonneg
def Ik:=@Int.tdiv_eq_ediv_of_nonneg
def VF:=@Int.toNat_natCast
def oz:=@List.Perm.refl
def PR:=@List.all_eq_false
def ng:=@List.all_eq_true
def uy:=@List.any_eq_false
def vG:=@List.any_eq_true
def Qm:=@List.append_assoc
def FU:=@List.append_nil
def qB:=@List.append_toArray
def oV:=@List.cons_append
def zC:=@List.eq_nil_of_length_eq_zero
def MC:=@List.ext_getElem
def zH:=@List.filter_append
def Qd:=@List.find?_append
def Qe:=@List.find?_cons
def Ii:=@List.find?_eq_none
def Vt:=@List.find?_eq_some_iff_getElem
def Io:=@List.findIdx?_eq_none_iff
def Im:=@List.findIdx?_eq_some_iff_getElem
def Ms:=@List.flatMap_append
def Qb:=@List.flatMap_cons
def Qc:=@List.flatMap_map
def Vv:=@List.foldl_append
def Mr:=@List.foldl_cons
def Mv:=@List.getD_eq_getElem?_getD
def Ic:=@List.getElem?_append_left
def PO:=@List.getElem?_append_right
def rq:=@List.getElem?_eq_getElem
def MH:=@List.getElem?_eq_none
def vg:=@List.getElem?_eq_some_iff
def VA:=@List.getElem?_map
def VD:=@List.getElem?_take_of_lt
def yE:=@List.getElem?_toArray
def Bh:=@List.getElem_cons_succ
def Du:=@List.getElem_cons_zero
def Ip:=@List.getElem_inj
def vw:=@List.getElem_map
def bP:=@List.getElem_mem
def zG:=@List.getElem_of_mem
def Mh:=@List.getElem_range
def Vz:=@List.getElem_set
def yD:=@List.getElem_take
def MG:=@List.getElem_toArray
def fK:=@List.length_append
def gX:=@List.length_cons
def Vw:=@List.length_drop
def FM:=@List.length_filter_le
def pM:=@List.length_map
def mI:=@List.length_nil
def PS:=@List.length_pos_of_mem
def ow:=@List.length_singleton
def jR:=@List.length_take
def mJ:=@List.map_append
def Qf:=@List.map_congr_left
def vv:=@List.map_cons
def Iu:=@List.map_map
def Ih:=@List.map_nil
def VC:=@List.map_singleton
def il:=@List.mem_append
def fT:=@List.mem_cons
def vF:=@List.mem_filter
def FN:=@List.mem_flatMap
def iK:=@List.mem_iff_getElem
def iW:=@List.mem_map
def Mi:=@List.mem_of_find?_eq_some
def FQ:=@List.mem_of_mem_take
def zD:=@List.mem_range
def iJ:=@List.mem_singleton
def Dy:=@List.mem_take_iff_getElem
def Vx:=@List.mergeSort_perm
def oU:=@List.nil_append
def vz:=@List.nodup_append
def wQ:=@List.nodup_cons
def lV:=@List.not_mem_nil
def Iw:=@List.pairwise_cons
def qA:=@List.push_toArray
def Qk:=@List.set_append_right
def nk:=@List.size_toArray
def Ml:=@List.take_append_drop
def FC:=@List.take_length
def kS:=@List.take_of_length_le
def gY:=@List.take_succ_eq_append_getElem
def Ql:=@List.take_zero
def MI:=@List.toArray_replicate
def VB:=@Nat.add_sub_cancel
def ML:=@Nat.add_sub_cancel_left
def Ib:=@Nat.add_zero
def PQ:=@Nat.div_add_mod
def Qh:=@Nat.div_lt_iff_lt_mul
def ry:=@Nat.eq_zero_or_pos
def Qj:=@Nat.le_of_eq
def aC:=@Nat.le_refl
def zK:=@Nat.le_succ
def iT:=@Nat.le_trans
def Qg:=@Nat.lt_irrefl
def ji:=@Nat.lt_of_lt_of_le
def Bi:=@Nat.lt_or_ge
def Ie:=@Nat.mod_lt
def Me:=@Nat.mul_comm
def uA:=@Nat.pow_le_pow_right
def acp:=@Nat.testBit_eq_decide_div_mod_eq
def nN:=@Nat.zero_add
def lq:=@Nat.zero_le
def Md:=@Nat.zero_mul
def pK:=@Ne.symm
def VG:=@Option.bind_eq_some_iff
def Dz:=@Option.getD_none
def rz:=@Option.getD_some
def wV:=@Option.isSome_none
def rD:=@Option.isSome_some
def P6:=@Option.map_eq_some_iff
def uz:=@Option.some.inj
def Fy:=@Option.some.injEq
def MK:=@Prod.mk.injEq
def VE:=@beq_eq_false_iff_ne
def vH:=@beq_false_of_ne
def vD:=@beq_iff_eq
def Mw:=@bne_iff_ne
def iw:=@decide_eq_false
def Mo:=@decide_eq_false_iff_not
def kK:=@decide_eq_true
def dm:=@decide_eq_true_eq
def gG:=@getElem!_pos
def zJ:=@if_false
def bE:=@if_neg
def bB:=@if_pos
def sV:=@if_true
def j3:=@of_decide_eq_false
def iY:=@of_decide_eq_true
def lW:=@or_false
theorem I {p:Prop} (h:p):Hid p:=Lib.hid h
theorem Zi {α:Type} (l:List α) (i:Nat) (a:α):l.toArray.setIfInBounds i a=(l.set i a).toArray:=by simp
theorem Zz {α:Type} (x:α) (l:List α) (a:α):(x::l).set 0 a=a::l:=rfl
theorem Zs {α:Type} (x:α) (l:List α) (n:Nat) (a:α):(x::l).set (n+1) a=x::l.set n a:=rfl
def Zx:=And.intro Act.put.eq_1 (And.intro @Zi (And.intro @Zz @Zs))
theorem O {p:Prop} (h:p:=by omega):p:=h
theorem ai {p:Prop} (h:p:=by kernel_rfl):p:=h
theorem aL {p:Prop} (h:p:=by simp):p:=h
theorem aJ {p:Prop} (h:p:=by decide):p:=h
theorem bL {p:Prop} (h:p:=by simp;omega):p:=h
theorem fQ {p:Prop} (h:p:=by unfold Go.maxLen;omega):p:=h
theorem aQ {p:Prop} (h:p:=by rw[HG.out];rfl):p:=h
theorem bC {p:Prop} (h:p:=by (repeat (first|exact hb|refine Below.alloc ?_ (by have hbs:=hb.size;first|omega|(simp;done)|(simp;omega)) _|refine Below.drew ?_|refine iC ?_ _|refine Below.setCell ?_ (by simp) _))):p:=h
theorem gz {a b:Bool} (h:a=b):bM (aA a)= bM (aA b):=by rw[h]
theorem jg {k:IntKind} {a b:Int} (h:a=b):bM (G k a)= bM (G k b):=by rw[h]
theorem abA {k q:IntKind} {a b c d:Int} (h:a=b/\c=d):bM (bG #[G k a,G q c])= bM (bG #[G k b,G q d]):=by rw[h.1,h.2]
theorem anG {P:dH} {t e:TypeId} {n:Nat} {k q:IntKind} {j:TypeInfo} (ht:P.underlying t=N (.array n e)) (he:P.underlying e=N (.int k)) (hi:P.info? e=N j) (hs:j.size=1)
 (cs:Array aj) (i:Int) (v:aj) (h0:0<=i) (hn:i<n) (hv:cs[i.toNat]? =N v) (w:Z):(yx t (az cs) (G q i)).run P w= .ok v w:=by
 simp[yx,part,isAgg,kY ht,kY he,sizeOf,typeInfo,hi,hs,h0,hn,hv,asIntOf]
theorem Pn {fn:Func} {t u v x:Tmp} (h:fn.results= #[.tmp t,.tmp u,.tmp v,.tmp x]) (tmps:Array aj) (P:dH) (w:Z):
 (results fn tmps).run P w= .ok (.tuple #[tmps.getD t aV,tmps.getD u aV,tmps.getD v aV,tmps.getD x aV]) w:=by simp[results,h]
theorem Ae (b j:Nat):((⟨b,0,J⟩:aG).add j)=⟨b,j,J⟩:=by unfold Addr.add;split<;>simp_all
theorem Cf (w:Z) (cs:Array aj) (t:TypeId) (l:List aj) (hl:cs.toList=l):
 ∀ (j:Nat) (u:aj),l[j]? =N u->(w.alloc (U cs t)).cell? ((⟨w.heap.size,0,J⟩:aG).add j)=N u:=by
 intro j u hu;subst hl;rw[Ae,cell_of_row (w.alloc (U cs t)) w.heap.size j cs t (0,0) (heap_alloc_new w _)]
 simpa using hu
theorem aa6 {w:Z} {base:Nat} {e:TypeId} {size:Nat} {v:aj} {n:Nat} {xs:List aj} (h:w.ownsRow base e size v n xs) (hn:0<n):
 ∃ g cap,v= T (N ⟨g,0,J⟩) n cap/\base<=g/\g<w.heap.size/\n<=cap:=by
 rcases h.2 with ⟨_,h0⟩|⟨g,cap,cur,hv,hb,hg,hnc,_⟩
 ·omega
 ·exact⟨g,cap,hv,hb,(nM.1 hg).1,hnc⟩
theorem iI {w w1 w2:Z} {base:Nat} {e:TypeId} {size:Nat} {v:aj} {n:Nat} {xs:List aj} (h:Below base w w1) (hB:base<=w1.heap.size) (hown:w1.ownsRow base e size v n xs) (hg:w1.grownBy w2 v.ownBlock):Below base w w2:=
 h.grown hg hB (λk hk=>(hown.lt k hk).1)
theorem gq {W w1:Z} (hb:Below W.heap.size W w1):(∀ b o,b<W.heap.size->w1.cell? ⟨b,o,J⟩=W.cell? ⟨b,o,J⟩)/\(∀ b o,b<W.heap.size->w1.frozen? ⟨b,o,J⟩=W.frozen? ⟨b,o,J⟩):=
 ⟨λb o h=>hb.cell (p:=⟨b,o,J⟩) h,λb o h=>hb.frozen (p:=⟨b,o,J⟩) h⟩
theorem iC {B:Nat} {a w:Z} (h:Below B a w) (n:Nat):Below B a (w.drewN n):=⟨h.os,h.tape,h.output,h.size,h.block⟩
theorem ay {w w1 w2:Z} (h:Below w.heap.size w w1) (k:Below w1.heap.size w1 w2):Below w.heap.size w w2:=h.trans (k.mono h.size)
theorem fM {w w1 w2:Z} (k:Below w1.heap.size w1 w2) (h:Below w.heap.size w w1):Below w.heap.size w w2:=ay h k
def Rd (w:Z) (B sz:Nat) (A:Option aG) (n:Nat) (xs:List aj):Prop:=
 xs.length=n*sz/\(0<n-> ∃ b o,A=N ⟨b,o,J⟩/\b<B/\ ∀ j u,xs[j]? =N u->w.cell? ⟨b,o+j,J⟩=N u)
section
variable {w w':Z} {B B' sz n:Nat} {A:Option aG} {xs:List aj}
theorem Rd.none_:Rd w B sz A 0 []:=⟨by simp,λh=>absurd h O⟩
theorem Rd.keep (h:Rd w B sz A n xs) (hk: ∀ b o,b<B->w'.cell? ⟨b,o,J⟩=w.cell? ⟨b,o,J⟩):Rd w' B sz A n xs:=
 ⟨h.1,λhn=>by
  obtain⟨b,o,e,hb,hc⟩:=h.2 hn;exact⟨b,o,e,hb,λj u hu=>(hk _ _ hb).trans (hc j u hu)⟩⟩
theorem Rd.more (h:Rd w B sz A n xs) (hB:B<=B'):Rd w B' sz A n xs:=
 ⟨h.1,λhn=>by
  obtain⟨b,o,e,hb,hc⟩:=h.2 hn;exact⟨b,o,e,O,hc⟩⟩
theorem Rd.below (h:Rd w B sz A n xs) {C:Nat} (hb:Below C w w') (hC:B<=C):Rd w' B sz A n xs:=h.keep λb o hp=>hb.cell (p:=⟨b,o,J⟩) (by show b<C;omega)
theorem Rd.now {w W:Z} {sz n:Nat} {A:Option aG} {xs:List aj} (h:Rd w w.heap.size sz A n xs) (hb:Below w.heap.size w W):Rd W W.heap.size sz A n xs:=(h.below hb (aC _)).more hb.size
theorem Rd.alloc (h:Rd w B sz A n xs) (hB:B<=w.heap.size) (o:Obj):Rd (w.alloc o) B sz A n xs:=
 h.keep λb q hp=>LZ w o ⟨b,q,J⟩ (by show b<_;omega)
theorem Rd.drew (h:Rd w B sz A n xs):Rd w.drew B sz A n xs:=h
theorem Rd.dE {base:Nat} {e:TypeId} {v:aj} (h:w.ownsRow base e sz v n xs): ∃ A c,v= .slice A n c/\Rd w w.heap.size sz A n xs:=by
 rcases h.2 with ⟨rfl,h0⟩|⟨g,cap,cur,rfl,hb,hg,hnc,hcm,hcs,ht⟩
 ·subst h0;exact⟨J,0,rfl,⟨h.1,λhn=>absurd hn O⟩⟩
 ·refine⟨N ⟨g,0,J⟩,cap,rfl,h.1,λ_=>⟨g,0,rfl,(nM.1 hg).1,λj u hu=> ?_⟩⟩;have:=h.cells (g:=g) rfl j u hu
  rwa [Ae,<- nN j]at this
end
theorem ae8 (w:Z) (o:Obj) (cs:Array aj) (t:TypeId) (l:List aj) (hl:cs.toList=l):
 ∀ (j:Nat) (u:aj),l[j]? =N u->((w.alloc o).alloc (U cs t)).cell? ((⟨w.heap.size+1,0,J⟩:aG).add j)=N u:=by
 have:=Cf (w.alloc o) cs t l hl
 simpa using this
def au (w:Z) (g:Nat) (t:TypeId) (cs:Array aj):Prop:=w.heap[g]? =N (.cells cs t (0,0))
section
variable {w w':Z} {g:Nat} {t:TypeId} {cs:Array aj}
theorem au.lt (h:au w g t cs):g<w.heap.size:=(nM.1 h).1
theorem au.cell (h:au w g t cs) (i:Nat):w.cell? ⟨g,i,J⟩=cs[i]? :=cell_of_row w g i cs t (0,0) h
theorem au.frozen (h:au w g t cs) (i:Nat):w.frozen? ⟨g,i,J⟩=ag:=by unfold au at h;simp[World.frozen?,h]
theorem au.new (w:Z) (t:TypeId) (cs:Array aj):au (w.alloc (U cs t)) w.heap.size t cs:=heap_alloc_new w _
theorem au.drew (h:au w g t cs):au w.drew g t cs:=h
theorem au.drewN (h:au w g t cs) (n:Nat):au (w.drewN n) g t cs:=h
theorem au.alloc (h:au w g t cs) (o:Obj):au (w.alloc o) g t cs:=(L8 w o g h.lt).trans h
theorem au.far (h:au w g t cs) {p:aG} (hp:g≠p.block) (u:aj):au (w.setCell p u) g t cs:=(uZ w p u g hp).trans h
theorem au.grown {row:Option Nat} (h:au w g t cs) (hg:w.grownBy w' row) (hne:N g≠row):au w' g t cs:=(hg.block g h.lt hne).trans h
theorem au.below {B:Nat} (h:au w g t cs) (hb:Below B w w') (hg:g<B):au w' g t cs:=(hb.block g hg).trans h
theorem au.step (h:au w g t cs) (hb:Below w.heap.size w w'):au w' g t cs:=h.below hb h.lt
theorem au.bZ (h:au w g t cs) (i:Nat) (u:aj):au (w.setCell ⟨g,i,J⟩ u) g t (cs.setIfInBounds i u):=by
 unfold au at h |-;simp[World.setCell,L9,h]
theorem Sj (w:Z) (g i j:Nat) (u:aj) (h:i≠j):(w.setCell ⟨g,i,J⟩ u).cell? ⟨g,j,J⟩=w.cell? ⟨g,j,J⟩:=
 World.cell?_setCell_other w ⟨g,i,J⟩ ⟨g,j,J⟩ u (λe=>h (congrArg Addr.off e))
end
def intCells (l:List Int):List aj:=l.map λc=>G .i64 c
theorem Un (a b:List Int):intCells (a++b)=intCells a++intCells b:=by unfold intCells;simp
theorem ai1 {w:Z} {B:Nat} {A:Option aG} {l:List Int} (h:Rd w B 1 A l.length (intCells l)) {k:Nat} (hk:k<l.length):
 ∃ b o,A=N ⟨b,o,J⟩/\b<B/\w.cell? ⟨b,o+k,J⟩=N (G F l[k]):=by
 obtain⟨b,o,e,hb,hc⟩:=h.2 O;exact⟨b,o,e,hb,hc k _ (by unfold intCells;simp[hk])⟩
def sliceLen:aj->Nat
 | T _ n _=>n
 |_=>0
theorem alz {w:Z} {base:Nat} {e:TypeId} {sz:Nat} {v:aj} {n:Nat} {xs:List aj} (h:w.ownsRow base e sz v n xs):sliceLen v=n:=by
 obtain⟨A,c,rfl,_⟩:=Rd.dE h
 rfl
structure Acc where
 code:Int
 kind:Int
 basis:Int
 parent:Int
namespace Ch
def zero:Acc:=⟨0,0,0,0⟩
def Cc (a:Acc):List aj:= [G F a.code,G F a.kind,G F a.basis,G F a.parent]
def val (a:Acc):aj:= az #[G F a.code,G F a.kind,G F a.basis,G F a.parent]
def cells:List Acc->List aj
 | []=> []
 |a::l=>Cc a++cells l
theorem NV (l:List Acc) (k j:Nat) (hk:k<l.length) (hj:j<4):(cells l)[k*4+j]? =(Cc l[k])[j]? :=by
 induction l generalizing k with
 |nil=>simp at hk
 |cons a l ih=>
  cases k with
  |zero=>
   simp only[cells,Md,nN,Du];rw[Ic (by simp[Cc];omega)]
  |succ k=>
   simp only[cells,Bh];rw[PO (by simp[Cc];omega),<- ih k (by simpa using hk)]
   congr 1
   simp[Cc];omega
theorem at_ {w:Z} {B:Nat} {A:Option aG} {l:List Acc} (h:Rd w B 4 A l.length (cells l)) {k:Nat} (hk:k<l.length):
 ∃ b o,A=N ⟨b,o,J⟩/\b<B/\w.cell? ⟨b,o+k*4,J⟩=N (G F l[k].code)/\w.cell? ⟨b,o+k*4+1,J⟩=N (G F l[k].kind)/\
  w.cell? ⟨b,o+k*4+2,J⟩=N (G F l[k].basis)/\w.cell? ⟨b,o+k*4+3,J⟩=N (G F l[k].parent):=by
 obtain⟨b,o,e,hb,hc⟩:=h.2 O;have c0:=hc (k*4+0) (G F l[k].code) (by rw[NV l k 0 hk O];rfl);have c1:=hc (k*4+1) (G F l[k].kind) (by rw[NV l k 1 hk O];rfl);have c2:=hc (k*4+2) (G F l[k].basis) (by rw[NV l k 2 hk O];rfl);have c3:=hc (k*4+3) (G F l[k].parent) (by rw[NV l k 3 hk O];rfl);exact⟨b,o,e,hb,c0,c1,c2,c3⟩
def find (l:List Acc) (c:Int):Option Acc:=l.find? λa=>a.code==c
def bU (l:List Acc) (c:Int):Acc:=(find l c).getD zero
def eO (l:List Acc) (c:Int):Bool:=(find l c).isSome
theorem SB (l:List Acc) (c:Int) (k:Nat) (hk:k<l.length) (hc:l[k].code=c) (hn: ∀ j (h:j<k),(l[j]'O).code≠c):find l c=N l[k]:=by
 unfold find;rw[Vt];refine⟨by simpa using hc,k,hk,rfl,λj hj=> ?_⟩
 simpa using hn j hj
theorem Oe (l:List Acc) (c:Int) (hn: ∀ j (h:j<l.length),l[j].code≠c):find l c=J:=by
 unfold find;rw[Ii];intro a ha;obtain⟨j,hj,rfl⟩:=iK.1 ha
 simpa using hn j hj
theorem GA (l:List Acc) (c:Int) (a:Acc) (h:find l c=N a):a∈l/\a.code=c:=by
 unfold find at h;exact⟨Mi h,by simpa using List.find?_some h⟩
theorem Od (l:List Acc) (c:Int) (a:Acc) (h:find l c=N a):c∈l.map Acc.code:=by
 obtain⟨h1,h2⟩:=GA l c a h;exact iW.2 ⟨a,h1,h2⟩
def up (l:List Acc):Nat->List Int->Int->List Int
 |0,s,_=>s
 |n+1,s,c=>match find l c with
  |none=>s
  |some a=>if c∈s then s else up l n (s++ [c]) a.parent
def iQ (l:List Acc) (c:Int):List Int:=up l (l.length+1) [] c
theorem PI (l:List Acc) (n:Nat) (s:List Int) (c:Int) (h:find l c=J):up l (n+1) s c=s:=by unfold up;rw[h]
theorem Vh (l:List Acc) (n:Nat) (s:List Int) (c:Int) (h:c∈s):up l (n+1) s c=s:=by
 unfold up
 cases find l c
 ·rfl
 ·simp[h]
theorem LP (l:List Acc) (n:Nat) (s:List Int) (c:Int) (a:Acc) (h:find l c=N a) (hs:c ∉ s):up l (n+1) s c=up l n (s++ [c]) a.parent:=by
 rw[up];simp[h,hs]
theorem akJ (s t:List Int) (hd:s.Nodup) (hs: ∀ x∈s,x∈t):s.length<=t.length:=by
 induction s generalizing t with
 |nil=>simp
 |cons a s ih=>
  have ha:=hs a aL;have hn:=wQ.1 hd;have:=ih (t.erase a) hn.2 (λx hx=>by
   refine(List.mem_erase_of_ne ?_).2 (hs x (by simp[hx]));rintro rfl;exact hn.1 hx)
  rw[List.length_erase_of_mem ha]at this;have:=PS ha;simp only[gX];omega
def way (l:List Acc) (s:List Int):Prop:=s.Nodup/\ ∀ x∈s,x∈l.map Acc.code
theorem Vl (l:List Acc):way l []:=⟨List.nodup_nil,aL⟩
theorem LU {l:List Acc} {s:List Int} (h:way l s):s.length<=l.length:=by
 have:=akJ s _ h.1 h.2
 simpa using this
theorem Vm {l:List Acc} {s:List Int} {c:Int} {a:Acc} (h:way l s) (hf:find l c=N a) (hs:c ∉ s):way l (s++ [c]):=by
 refine⟨?_,λx hx=> ?_⟩
 ·rw[vz];refine⟨h.1,aL,?_⟩;intro a ha b hb;simp only[iJ]at hb;subst hb;rintro rfl;exact hs ha
 ·rcases il.1 hx with hx|hx
  ·exact h.2 x hx
  ·simp only[iJ]at hx;subst hx;exact Od l _ a hf
def ru (l:List Acc):Nat->List Int->Int->List Int
 |0,s,_=>s
 |n+1,s,c=>match find l c with
  |none=>s
  |some a=>ru l n (s++ [c]) a.parent
def sP (l:List Acc) (c:Int):List Int:=ru l (l.length+1) [] c
theorem abO (l:List Acc) (n:Nat) (s:List Int) (c:Int) (h:find l c=J):ru l n s c=s:=by
 cases n with
 |zero=>rfl
 |succ n=>unfold ru;rw[h]
theorem UZ (l:List Acc) (n:Nat) (s:List Int) (c:Int) (a:Acc) (h:find l c=N a):ru l (n+1) s c=ru l n (s++ [c]) a.parent:=by
 rw[ru];simp[h]
theorem aoR (l:List Acc) (n:Nat) (s:List Int) (c:Int) (h:way l s):way l (up l n s c):=by
 induction n generalizing s c with
 |zero=>exact h
 |succ n ih=>
  cases hf:find l c with
  |none=>rw[PI l n s c hf];exact h
  |some a=>
   by_cases hs:c∈s
   ·rw[Vh l n s c hs];exact h
   ·rw[LP l n s c a hf hs];exact ih _ _ (Vm h hf hs)
theorem alL (l:List Acc) (c:Int):(iQ l c).length<=l.length:=LU (aoR l _ _ c (Vl l))
def top (l:List Acc) (c:Int):Int:=(bU l ((iQ l c).getLast?.getD 0)).parent
def wC (a:Acc) (g:Bool):Bool:=decide (1<=a.code)&&decide (a.code<=99999)&&decide (1<=a.kind)&&decide (a.kind<=5)&&(if g then decide (1<=a.basis)&&decide (a.basis<=3) else a.basis==0)
def sQ (l:List Acc) (a:Acc):Bool:=match find l a.parent with
 |none=>ag
 |some p=>p.code !=a.code&&p.kind==a.kind&&top l a.code==0
def Dh (l:List Acc) (a:Acc) (g:Bool):Bool:=wC a g&&(a.parent==0||sQ l a)
def uu (l:List Acc) (a:Acc):Bool:=match find l a.parent with
 |none=>ag
 |some p=>p.code !=a.code&&p.kind==a.kind
def yo (l:List Acc) (a:Acc) (g:Bool):Bool:=wC a g&&(a.parent==0||uu l a)
def uV (l:List Acc) (g:Bool) (j:Nat):Bool:=yo l (l.getD j zero) g&&(j==0||decide ((l.getD (j - 1) zero).code<(l.getD j zero).code))&&decide ((sP l (l.getD j zero).code).length<=l.length)
def ql (l:List Acc) (g:Bool):Bool:=decide (l.length<=200)&&(kJ l.length).all (uV l g)
def lN (l:List Acc) (g:Bool) (j:Nat):Bool:=(j==0||decide ((l.getD (j - 1) zero).code<(l.getD j zero).code))&&Dh l (l.getD j zero) g
def mG (l:List Acc) (g:Bool):Bool:=(kJ l.length).all (lN l g)&&decide (l.length<=200)
theorem Vi (l:List Acc) (g:Bool) (k:Nat) (hk:k<l.length) (h:lN l g k=ag):mG l g=ag:=by
 unfold mG;have:(kJ l.length).all (lN l g)=ag:=by
  rw[PR];exact⟨k,by simpa using hk,by simp[h]⟩
 rw[this];rfl
theorem aci (l:List Acc) (g:Bool) (h: ∀ j,j<l.length->lN l g j=ae):mG l g=decide (l.length<=200):=by
 unfold mG;have:(kJ l.length).all (lN l g)=ae:=by
  rw[ng];intro j hj;exact h j (by simpa using hj)
 rw[this];rfl
theorem getD_at (l:List Acc) (k:Nat) (hk:k<l.length):l.getD k zero=l[k]:=by simp[List.getD,hk]
theorem alM (l:List Acc) (k:Nat) (hk:k<l.length):iQ l l[k].code≠ []:=by
 have: ∃ a,find l l[k].code=N a:=by
  cases h:find l l[k].code with
  |some a=>exact⟨a,rfl⟩
  |none=>
   unfold find at h;rw[Ii]at h;exact absurd aL (h l[k] (bP hk))
 obtain⟨a,ha⟩:=this;unfold iQ;rw[LP l l.length [] l[k].code a ha aL];have hkeep: ∀ (n:Nat) (s:List Int) (c:Int),s≠ []->up l n s c≠ []:=by
  intro n
  induction n with
  |zero=>intro s c hs;exact hs
  |succ n ih=>
   intro s c hs;unfold up
   cases find l c with
   |none=>exact hs
   |some x=>
    show (if c∈s then s else up l n (s++ [c]) x.parent)≠ []
    split
    ·exact hs
    ·exact ih _ _ aL
 exact hkeep _ _ _ aL
end Ch
def MS (l:List Acc) (c:Int) (w:Z) (e:eG) (w':Z):Prop:=
 e= .returned (.tuple #[Ch.val (Ch.bU l c),aA (Ch.eO l c)])/\Below w.heap.size w w'
theorem JU (l:List Acc) (c:Int) (A:Option aG) (cap:Nat) (w:Z) (hr:Rd w w.heap.size 4 A l.length (Ch.cells l)) (hn:l.length<=300000):
 aF ak 114 #[T A l.length cap,G F c] w (MS l c w):=by
 have hb:=aD w.heap.size w;have HR:=I hr;clear hr;go_enter Tryz.func114,Tryz.ntmps114;go_wp2_with fail;go_loopw [10] (λt wr=> ∃ k:Nat,k<=l.length/\(∀ j (h:j<k) (h2:j<l.length),(l[j]'h2).code≠c)/\t= G F k/\Below w.heap.size w wr/\au wr w.heap.size 212 #[G F 0,G F 0,G F 0,G F 0]) (λt _=>l.length - (intOf t).toNat)
 case atStart=>exact⟨0,O,λj h=>O,rfl,bC,au.new w _ _⟩
 case round=>
  clear hb;obtain⟨k,hk,hno,rfl,hb,hB⟩:=hrel;have HN:=I hno;have hz:=hb.size;have ain:=hB.lt;clear hno
  by_cases hlt:k<l.length
  ·obtain⟨b,o,hA,aX,f0,f1,f2,f3⟩:=Ch.at_ (HR.out.below hb (aC _)) hlt;subst hA
   by_cases hc:l[k].code=c
   ·have hc':(l[k].code==c)=ae:=by simpa using hc
    have HF:=I (Ch.SB l c k hlt hc (λj h=>HN.out j h O));have q0:wr.cell? ⟨w.heap.size,0,J⟩=N (G F 0):=hB.cell 0;have q1:wr.cell? ⟨w.heap.size,1,J⟩=N (G F 0):=hB.cell 1;have q2:wr.cell? ⟨w.heap.size,2,J⟩=N (G F 0):=hB.cell 2;have q3:wr.cell? ⟨w.heap.size,3,J⟩=N (G F 0):=hB.cell 3;have z0:=hB.frozen 0;have z1:=hB.frozen 1;have z2:=hB.frozen 2;have z3:=hB.frozen 3;clear hc;go_wp2_with fail;have hB2:=((((hB.bZ 0 (G F l[k].code)).bZ 1 (G F l[k].kind)).bZ 2 (G F l[k].basis)).bZ 3 (G F l[k].parent)).alloc (U #[G F l[k].code,G F l[k].kind,G F l[k].basis,G F l[k].parent] 212);have p0:=hB2.cell 0;have p1:=hB2.cell 1;have p2:=hB2.cell 2;have p3:=hB2.cell 3;simp only[Array.setIfInBounds]at p0 p1 p2 p3;refine iq (v:= .tuple #[Ch.val l[k],aA ae]) (by simp[results,Tryz.results114,go_sem,Ch.val,p0,p1,p2,p3]) rfl ?_;refine⟨by rw[show Ch.bU l c=l[k] from by unfold Ch.bU;rw[HF.out];rfl,show Ch.eO l c=ae from by unfold Ch.eO;rw[HF.out];rfl],bC⟩
   ·have hc':(l[k].code==c)=ag:=by simpa using hc
    have HC:=I hc;clear hc;go_wp2_with fail;go_roundw
    case rel=>
     refine⟨k+1,O,λj h h2=> ?_,by go_num,bC,hB.alloc _⟩
     by_cases hj:j=k
     ·subst hj;exact HC.out
     ·exact HN.out j O h2
    case measure=>simp[intOf];omega
  ·have HF:=I (Ch.Oe l c (λj h=>HN.out j O h));have q0:wr.cell? ⟨w.heap.size,0,J⟩=N (G F 0):=hB.cell 0;have q1:wr.cell? ⟨w.heap.size,1,J⟩=N (G F 0):=hB.cell 1;have q2:wr.cell? ⟨w.heap.size,2,J⟩=N (G F 0):=hB.cell 2;have q3:wr.cell? ⟨w.heap.size,3,J⟩=N (G F 0):=hB.cell 3;have z0:=hB.frozen 0;have z1:=hB.frozen 1;have z2:=hB.frozen 2;have z3:=hB.frozen 3;go_wp2_with fail;refine iq (v:= .tuple #[Ch.val Ch.zero,aA ag]) (by simp[results,Tryz.results114,go_sem,Ch.val,Ch.zero,Sj,q0,q1,q2,q3]) rfl ?_;refine⟨by rw[show Ch.bU l c=Ch.zero from by unfold Ch.bU;rw[HF.out];rfl,show Ch.eO l c=ag from by unfold Ch.eO;rw[HF.out];rfl],bC⟩
section
open Go.Maps (Keyed)
theorem LV {c:Int} (h0: -9223372036854775808<=c) (h1:c<=9223372036854775807):(jQ .i64 c).wf=ae:=by
 have:=Vr c ⟨h0,h1⟩;rw[<- this];exact wrap64_wf _
theorem sF {w w':Z} (h:Below w.heap.size w w') (row:Option Nat):w.grownBy w' row:=⟨h.os,h.tape,h.output,h.size,λj hj _=>h.block j hj⟩
theorem OZ (n:Int): ∀ u∈ [G .i64 n],u.oneCell'=ae:=by
 intro u hu;simp at hu;subst hu
 rfl
theorem dF {w w':Z} {base:Nat} {e:TypeId} {sz:Nat} {v:aj} {n:Nat} {xs:List aj} (h:w.ownsRow base e sz v n xs) (hb:Below w.heap.size w w'):w'.ownsRow base e sz v n xs:=h.kept (sF hb J) (Classical.em _)
def iH (P:dH) (k e:TypeId) (w:Z) (b n:Nat) (S:List Int):Prop:=
 ∃ D:DataW Unit,w.ownsMap P k (plainElem P e) b n D/\Maps.IsMap D/\ ∀ c,D.atKey (.int .i64 c) (.lit (.bool ag))= .lit (.bool (decide (c∈S)))
section
variable {P:dH} {k e t:TypeId} {w w':Z} {b n:Nat} {S:List Int} {f:Int->Int}
theorem iH.made (w:Z):iH P k e (w.alloc (.map #[] 0)) w.heap.size 0 []:=⟨.map [],H8 _ _ _ _,H9,λ_=>by simp[DataW.atKey]⟩
theorem iH.lt (h:iH P k e w b n S):b<w.heap.size:=by obtain⟨D,h,_⟩:=h;exact h.lt
theorem iH.kept {row:Option Nat} (h:iH P k e w b n S) (hg:w.grownBy w' row) (hne:N b≠row):iH P k e w' b n S:=by obtain⟨D,h,r⟩:=h;exact⟨D,h.kept hg hne,r⟩
theorem iH.step (h:iH P k e w b n S) (hb:Below w.heap.size w w'):iH P k e w' b n S:=h.kept (sF hb J) aL
theorem iH.alloc (h:iH P k e w b n S) (o:Obj):iH P k e (w.alloc o) b n S:=h.kept (zB w o J) aL
theorem aaH {R:aj->Option (DataW Unit×List MemPlace)} {D:DataW Unit} {base:Nat} {E:TypeId} {sz:Nat} {v:aj} {m:Nat} {xs:List aj} (h:w.ownsMap P k R b n D) (hr:w.ownsRow base E sz v m xs):N b≠v.ownBlock:=by
 obtain⟨es,cl,hb,_⟩:=h
 rcases hr.2 with ⟨rfl,_⟩|⟨g,cap,cur,rfl,_,hg,_⟩
 ·simp[yz]
 ·simp only[yz,ne_eq,Fy];rintro rfl;rw[hb]at hg;simp at hg
theorem iH.ne {base:Nat} {E:TypeId} {sz:Nat} {v:aj} {m:Nat} {xs:List aj} (h:iH P k e w b n S) (hr:w.ownsRow base E sz v m xs):N b≠v.ownBlock:=by
 obtain⟨D,h,_⟩:=h;exact aaH h hr
theorem iH.lI {g:Nat} {E:TypeId} {cs:Array aj} (h:iH P k e w b n S) (hr:au w g E cs):b≠g:=by
 obtain⟨D,⟨es,cl,hb,_⟩,_⟩:=h;rintro rfl;unfold au at hr;rw[hb]at hr;simp at hr
theorem O5 {e:TypeId} (he:P.underlying e=N .bool) {v:aj} {z:DataW Unit×List MemPlace} (h:plainElem P e v=N z): ∃ x,v= .bool x/\z=(.lit (.bool x),[]):=by
 unfold plainElem at h;rw[he]at h
 cases v<;>simp at h
 exact⟨_,rfl,h.symm⟩
theorem iH.look (h:iH P k e w b n S) (hk:P.underlying k=N (.int .i64)) (he:P.underlying e=N .bool) (ht:P.underlying t=N (.map k e)) (hz:(zeroValue e).run P w= .ok (aA ag) w)
 {c:Int} (hc:(jQ .i64 c).wf=ae):(Instr.lookup t (.map (N b)) (.int .i64 c) ag).run P w= .ok (.bool (decide (c∈S))) w:=by
 obtain⟨D,h,_,hD⟩:=h;obtain⟨v,ps,hrun,hv⟩:=h.lookup (Fz hk) ht hz (FB he ag) (Ia hk hc);obtain⟨x,rfl,e2⟩:=O5 he hv;rw[hD c]at e2;injection e2 with e2 _
 injection e2 with e2
 injection e2 with e2
 rw[hrun,e2]
theorem int_ne {c d:Int} (h:c≠d):jQ .i64 c≠jQ .i64 d:=λe=>h (by injection e)
theorem iH.put {D:DataW Unit} {c:Int} (hm:Maps.IsMap D) (hD: ∀ c,D.atKey (.int .i64 c) (.lit (.bool ag))= .lit (.bool (decide (c∈S))))
 (h2:w'.ownsMap P k (plainElem P e) b (n+1) (D.put (.int .i64 c) (.lit (.bool ae)))):iH P k e w' b (n+1) (S++ [c]):=by
 refine⟨_,h2,hm.put _ _,λd=> ?_⟩
 by_cases hd:d=c
 ·subst hd;rw[Ma hm (show WideAt.IsKeyLit (.int .i64 d) from trivial)];simp
 ·rw[Mc (int_ne hd),hD d];simp[hd]
theorem Vo {ops:Array dC} {rest:List dC} {o:dC} {a:Act} {Q:Exit->Act->Z->Prop} (hg:o.guard=J) (m x v:lU) (t:TypeId) (hop:o.op=Op.mapUpdate t m x v)
 (hk:P.underlying k=N (.int .i64)) (he:P.underlying e=N .bool) (ht:P.underlying t=N (.map k e)) (h:iH P k e w b n S) (hn:n<bK) (c:Int) (hc:(jQ .i64 c).wf=ae)
 (hm:a.eval m= .map (N b)) (hx:a.eval x= G F c) (hv:a.eval v= aA ae)
 (hK: ∀ w',iH P k e w' b (n+1) (S++ [c])->w.grownBy w' (N b)->wpList P ops Q rest (a.put o.dst aV) w'):wpList P ops Q (o::rest) a w:=by
 obtain⟨D,h,hM,hD⟩:=h;exact PN w hg m x v t hop k e (Fz hk) ht _ b n D hm h hn _ _ _ hx hv (Ia hk hc) _ [] (FB he ae) λw' h2 g2=>hK w' (iH.put hM hD h2) g2
end
end
section
open Go.Maps (Keyed)
theorem CY:(ak.info? 3).map (λi=>(i.zero,i.size,i.bytes))=N (N (G F 0),1,8):=ai
theorem Vq (w:Z):(zeroValue 3).run ak w= .ok (G F 0) w:=ai
theorem uY (w:Z):(zeroValue 4).run ak w= .ok (aA ag) w:=ai
theorem OM:Keyed ak 3:=Fz dh
end
theorem SC (l:List Acc) (c:Int) (A:Option aG) (cap:Nat) (w:Z) (hr:Rd w w.heap.size 4 A l.length (Ch.cells l)) (hn:l.length<=300000) (hf:Ch.find l c=J):
 aF ak 114 #[T A l.length cap,G F c] w (λe w'=>e= .returned (bG #[az #[G F 0,G F 0,G F 0,G F 0],aA ag])/\Below w.heap.size w w'):=
 (JU l c A cap w hr hn).mono (λe w' h=>⟨by rw[h.1];unfold Ch.bU Ch.eO;rw[hf];rfl,h.2⟩)
theorem Cw (l:List Acc) (c:Int) (a:Acc) (A:Option aG) (cap:Nat) (w:Z) (hr:Rd w w.heap.size 4 A l.length (Ch.cells l)) (hn:l.length<=300000) (hf:Ch.find l c=N a):
 aF ak 114 #[T A l.length cap,G F c] w (λe w'=>e= .returned (bG #[az #[G F a.code,G F a.kind,G F a.basis,G F a.parent],aA ae])/\Below w.heap.size w w'):=
 (JU l c A cap w hr hn).mono (λe w' h=>⟨by rw[h.1];unfold Ch.bU Ch.eO;rw[hf];rfl,h.2⟩)
def XL (base:Nat) (l:List Int) (w:Z) (e:eG) (w':Z):Prop:=
 ∃ v,e= .returned v/\w'.ownsRow base 3 1 v l.length (intCells l)/\Below w.heap.size w w'
theorem Yl (l:List Acc) (c:Int) (A:Option aG) (cap:Nat) (w:Z) (hr:Rd w w.heap.size 4 A l.length (Ch.cells l)) (hn:l.length<=300000) (hwf: ∀ a∈l,(jQ .i64 a.code).wf=ae):
 aF ak 263 #[T A l.length cap,G F c] w (XL w.heap.size (Ch.iQ l c) w):=by
 have hb:=aD w.heap.size w;have HR:=I hr;have HW:=I hwf;have hmm:= @rC ak;obtain⟨i0,hi,hz0,hz1,hz2⟩:=jh CY;clear hr hwf;go_enter Tryz.func263,Tryz.ntmps263;go_wp2_with fail;go_step3;go_wp2_with fail;go_step3;go_wp2_with fail;go_loopw [1,5] (λt v wr=> ∃ (s:List Int) (d:Int),Ch.way l s/\Ch.up l (l.length+1 - s.length) s d=Ch.iQ l c/\t= G F d/\wr.ownsRow w.heap.size 3 1 v s.length (intCells s)/\iH ak 3 4 wr w.heap.size s.length s/\Below w.heap.size w wr) (λ_ v _=>l.length+1 - sliceLen v)
 case atStart=>exact⟨[],c,Ch.Vl l,rfl,rfl,jZ _ _ _ _,iH.made w,bC⟩
 case round=>
  clear hb;obtain⟨s,d,hs,hu,rfl,ho,hS,hb⟩:=hrel;have hl:=Ch.LU hs;obtain⟨A1,c1,rfl,-⟩:=Rd.dE ho;have hne:=hS.ne ho;have hlt:=hS.lt;have HO:=I ho.lt;have HU:=I hu;have hz:=hb.size;have HR2:=I ((HR.out.below hb (aC _)).more hz);clear hu
  cases hf:Ch.find l d with
  |none=>
   have HE:Hid (s=Ch.iQ l c):=I (by rw[<- HU.out,show l.length+1 - s.length=l.length - s.length+1 from O,Ch.PI _ _ _ _ hf]);go_wp2_with (go_at_call 114;refine(SC l d A cap _ HR2.out hn hf).mono ?_;rintro e w2 ⟨rfl,hb2⟩;replace hb:=ay hb hb2);rw[Exit.noGoto_ret];go_ret;exact⟨_,rfl,by rw[<- HE.out];exact(dF ho hb2).alloc _,bC⟩
  |some a=>
   have hwd:(jQ .i64 d).wf=ae:=by
    obtain⟨m1,m2⟩:=Ch.GA l d a hf;rw[<- m2];exact HW.out a m1
   by_cases hds:d∈s
   ·have HE:Hid (s=Ch.iQ l c):=I (by rw[<- HU.out,show l.length+1 - s.length=l.length - s.length+1 from O,Ch.Vh _ _ _ _ hds]);have hL: ∀ (W:Z),iH ak 3 4 W w.heap.size s.length s->(Instr.lookup 98 (.map (N w.heap.size)) (G F d) ag).run ak W= .ok (aA ae) W:=λW h=>by
     have:=h.look (t:=98) dh iX wR (uY _) hwd
     rwa [show decide (d∈s)=ae from by simpa using hds]at this
    go_wp2_with (go_at_call 114;refine(Cw l d a A cap _ HR2.out hn hf).mono ?_;rintro e w2 ⟨rfl,hb2⟩;replace hb:=ay hb hb2;have iO:=hL _ ((hS.step hb2).alloc (U #[G F a.code,G F a.kind,G F a.basis,G F a.parent] 212)));rw[Exit.noGoto_ret];go_ret;exact⟨_,rfl,by rw[<- HE.out];exact(dF ho hb2).alloc _,bC⟩
   ·have HE:Hid (Ch.up l (l.length+1 - (s++ [d]).length) (s++ [d]) a.parent=Ch.iQ l c):=I (by
     rw[<- HU.out,show l.length+1 - s.length=l.length - s.length+1 from O,Ch.LP _ _ _ _ _ hf hds];simp)
    have hs2:=Ch.Vm hs hf hds;have hl2:=Ch.LU hs2;simp only[fK,ow]at hl2;have hL: ∀ (W:Z),iH ak 3 4 W w.heap.size s.length s->(Instr.lookup 98 (.map (N w.heap.size)) (G F d) ag).run ak W= .ok (aA ag) W:=λW h=>by
     have:=h.look (t:=98) dh iX wR (uY _) hwd
     rwa [show decide (d∈s)=ag from by simpa using hds]at this
    go_wp2_with (first
     |(go_at_call 114;refine(Cw l d a A cap _ HR2.out hn hf).mono ?_;rintro e w2 ⟨rfl,hb2⟩;replace hb:=ay hb hb2;have iO:=hL _ ((hS.step hb2).alloc (U #[G F a.code,G F a.kind,G F a.basis,G F a.parent] 212)))
     |(at_mapUpdate;refine Vo rfl _ _ _ 98 rfl dh iX wR ((hS.step hb2).alloc _) fQ d hwd rfl rfl rfl ?_;intro w3 xW hg3;have ho3:=((dF ho hb2).alloc (U #[G F a.code,G F a.kind,G F a.basis,G F a.parent] 212)).kept hg3 (.inr hne.symm))
     |(at_builtin;refine Vs _ rfl (.tmp 25) (.tmp 27) 60 rfl w.heap.size 3 i0 (G F 0) 1 8 Bj hi hz0 hz1 hz2 rfl aJ _ s.length (intCells s) rfl (ho3.alloc _) ⟨w3.heap.size,0,J⟩ 1 1 [G F d] rfl rfl ?c1 (OZ d) ?c3 ?c4 ?c5 ?_))
    case c1=>exact Cf _ _ _ _ rfl
    case c3=>simp only[bK];omega
    case c4=>omega
    case c5=>
     have z2:=hb2.size;have z3:=hg3.size;simp at z3 |-;omega
    intro v4 w4 lL hg4 _;have z2:=hb2.size;have z3:=hg3.size;simp at z3;have hb3:Below w.heap.size w w3:=ni ((hb.alloc hb.size _)) hg3 bL (λk hk=>by injection hk with hk;omega);have hb4:=iI (hb3.alloc hb3.size _) bL (ho3.alloc _) hg4;have hB4:=(((au.new w2 212 #[G F a.code,G F a.kind,G F a.basis,G F a.parent]).grown hg3 bL).alloc (U #[G F d] 3)).grown hg4 (λe=>by have:=(HO.out _ e.symm).2;omega);have q3:w4.cell? ⟨w2.heap.size,3,J⟩=N (G F a.parent):=hB4.cell 3;have Ox:=(xW.alloc (U #[G F d] 3)).kept hg4 hne;have hl4:=alz lL;clear hg4 hg3 iO hB4 ho3 xW;go_wp2_with fail;go_roundw
    case rel=>
     refine⟨s++ [d],a.parent,hs2,HE.out,rfl,?_,?_,hb4⟩
     ·rw[Un,fK];exact lL
     ·rw[fK];exact Ox
    case measure=>
     show l.length+1 - sliceLen v4<l.length+1 - s.length;omega
theorem LG (l:List Acc) (c:Int) (A:Option aG) (cap:Nat) (w:Z) (hr:Rd w w.heap.size 4 A l.length (Ch.cells l)) (hn:l.length<=300000):
 aF ak 200 #[T A l.length cap,G F c] w (MS l c w):=by
 have hb:=aD w.heap.size w;have HR:=I hr;clear hr;go_enter Tryz.func200,Tryz.ntmps200;go_wp2_with fail;go_loopw [6] (λt wr=> ∃ k:Nat,k<=l.length/\(∀ j (h:j<k) (h2:j<l.length),(l[j]'h2).code≠c)/\t= G F k/\Below w.heap.size w wr/\au wr w.heap.size 212 #[G F 0,G F 0,G F 0,G F 0]) (λt _=>l.length - (intOf t).toNat)
 case atStart=>exact⟨0,O,λj h=>O,rfl,bC,au.new w _ _⟩
 case round=>
  clear hb;obtain⟨k,hk,hno,rfl,hb,hB⟩:=hrel;have HN:=I hno;have hz:=hb.size;have ain:=hB.lt;have q0:wr.cell? ⟨w.heap.size,0,J⟩=N (G F 0):=hB.cell 0;have q1:wr.cell? ⟨w.heap.size,1,J⟩=N (G F 0):=hB.cell 1;have q2:wr.cell? ⟨w.heap.size,2,J⟩=N (G F 0):=hB.cell 2;have q3:wr.cell? ⟨w.heap.size,3,J⟩=N (G F 0):=hB.cell 3;have z0:=hB.frozen 0;have z1:=hB.frozen 1;have z2:=hB.frozen 2;have z3:=hB.frozen 3;clear hno
  by_cases hlt:k<l.length
  ·obtain⟨b,o,hA,aX,f0,f1,f2,f3⟩:=Ch.at_ (HR.out.below hb (aC _)) hlt;subst hA
   by_cases hc:l[k].code=c
   ·have hc':(l[k].code==c)=ae:=by simpa using hc
    have HF:=I (Ch.SB l c k hlt hc (λj h=>HN.out j h O));clear hc;go_wp2_with fail;have hB2:=(((hB.bZ 0 (G F l[k].code)).bZ 1 (G F l[k].kind)).bZ 2 (G F l[k].basis)).bZ 3 (G F l[k].parent);have p0:=hB2.cell 0;have p1:=hB2.cell 1;have p2:=hB2.cell 2;have p3:=hB2.cell 3;simp only[Array.setIfInBounds]at p0 p1 p2 p3;refine iq (v:= .tuple #[Ch.val l[k],aA ae]) (by simp[results,Tryz.results200,go_sem,Ch.val,p0,p1,p2,p3]) rfl ?_;refine⟨by rw[show Ch.bU l c=l[k] from by unfold Ch.bU;rw[HF.out];rfl,show Ch.eO l c=ae from by unfold Ch.eO;rw[HF.out];rfl],bC⟩
   ·have hc':(l[k].code==c)=ag:=by simpa using hc
    have HC:=I hc;clear hc q0 q1 q2 q3 z0 z1 z2 z3;go_wp2_with fail;go_roundw
    case rel=>
     refine⟨k+1,O,λj h h2=> ?_,by go_num,bC,hB⟩
     by_cases hj:j=k
     ·subst hj;exact HC.out
     ·exact HN.out j O h2
    case measure=>simp[intOf];omega
  ·have HF:=I (Ch.Oe l c (λj h=>HN.out j O h));go_wp2_with fail;refine iq (v:= .tuple #[Ch.val Ch.zero,aA ag]) (by simp[results,Tryz.results200,go_sem,Ch.val,Ch.zero,Sj,q0,q1,q2,q3]) rfl ?_;refine⟨by rw[show Ch.bU l c=Ch.zero from by unfold Ch.bU;rw[HF.out];rfl,show Ch.eO l c=ag from by unfold Ch.eO;rw[HF.out];rfl],bC⟩
theorem abE (l:List Acc) (c:Int) (A:Option aG) (cap:Nat) (w:Z) (hr:Rd w w.heap.size 4 A l.length (Ch.cells l)) (hn:l.length<=300000) (hf:Ch.find l c=J):
 aF ak 200 #[T A l.length cap,G F c] w (λe w'=>e= .returned (bG #[az #[G F 0,G F 0,G F 0,G F 0],aA ag])/\Below w.heap.size w w'):=
 (LG l c A cap w hr hn).mono (λe w' h=>⟨by rw[h.1];unfold Ch.bU Ch.eO;rw[hf];rfl,h.2⟩)
theorem UW (l:List Acc) (c:Int) (a:Acc) (A:Option aG) (cap:Nat) (w:Z) (hr:Rd w w.heap.size 4 A l.length (Ch.cells l)) (hn:l.length<=300000) (hf:Ch.find l c=N a):
 aF ak 200 #[T A l.length cap,G F c] w (λe w'=>e= .returned (bG #[az #[G F a.code,G F a.kind,G F a.basis,G F a.parent],aA ae])/\Below w.heap.size w w'):=
 (LG l c A cap w hr hn).mono (λe w' h=>⟨by rw[h.1];unfold Ch.bU Ch.eO;rw[hf];rfl,h.2⟩)
theorem Ph (l:List Acc) (c:Int) (A:Option aG) (cap:Nat) (w:Z) (hr:Rd w w.heap.size 4 A l.length (Ch.cells l)) (hn:l.length<=300000):
 aF ak 244 #[T A l.length cap,G F c] w (XL w.heap.size (Ch.sP l c) w):=by
 have hb:=aD w.heap.size w;have HR:=I hr;obtain⟨i0,hi,hz0,hz1,hz2⟩:=jh CY;clear hr;go_enter Tryz.func244,Tryz.ntmps244;go_wp2_with fail;go_loopw [1,5,6] (λt v i wr=> ∃ (s:List Int) (d:Int),s.length<=l.length+1/\Ch.ru l (l.length+1 - s.length) s d=Ch.sP l c/\t= G F d/\i= G F s.length/\wr.ownsRow w.heap.size 3 1 v s.length (intCells s)/\Below w.heap.size w wr) (λ_ _ i _=>l.length+1 - (intOf i).toNat)
 case atStart=>exact⟨[],c,aL,rfl,rfl,rfl,jZ _ _ _ _,bC⟩
 case round=>
  clear hb;obtain⟨s,d,hs,hu,rfl,rfl,ho,hb⟩:=hrel;obtain⟨A1,c1,rfl,-⟩:=Rd.dE ho;have HO:=I ho.lt;have HU:=I hu;have hz:=hb.size;have HR2:=I ((HR.out.below hb (aC _)).more hz);clear hu
  by_cases hlt:s.length<=l.length
  ·cases hf:Ch.find l d with
   |none=>
    have HE:Hid (s=Ch.sP l c):=I (by rw[<- HU.out,Ch.abO _ _ _ _ hf]);go_wp2_with (go_at_call 200;refine(abE l d A cap _ HR2.out hn hf).mono ?_;rintro e w2 ⟨rfl,hb2⟩;replace hb:=ay hb hb2);go_ret;exact⟨_,rfl,by rw[<- HE.out];exact(dF ho hb2).alloc _,bC⟩
   |some a=>
    have HE:Hid (Ch.ru l (l.length+1 - (s++ [d]).length) (s++ [d]) a.parent=Ch.sP l c):=I (by
     rw[<- HU.out,show l.length+1 - s.length=l.length - s.length+1 from O,Ch.UZ _ _ _ _ _ hf];simp)
    go_wp2_with (first
     |(go_at_call 200;refine(UW l d a A cap _ HR2.out hn hf).mono ?_;rintro e w2 ⟨rfl,hb2⟩;replace hb:=ay hb hb2)
     |(at_builtin;refine Vs _ rfl (.tmp 23) (.tmp 25) 60 rfl w.heap.size 3 i0 (G F 0) 1 8 Bj hi hz0 hz1 hz2 rfl aJ _ (s).length (intCells (s)) rfl (((dF ho hb2).alloc (U #[G F a.code,G F a.kind,G F a.basis,G F a.parent] 212)).alloc _) ⟨w2.heap.size+1,0,J⟩ 1 1 [G F (d)] rfl rfl ?c1 (OZ _) ?c3 ?c4 ?c5 ?_))
    case c1=>exact ae8 _ _ _ _ _ rfl
    case c3=>simp only[bK];omega
    case c4=>omega
    case c5=>
     have z2:=hb2.size;simp;omega
    intro v4 w4 lL hg4 _;have z2:=hb2.size;have ho3:=((dF ho hb2).alloc (U #[G F a.code,G F a.kind,G F a.basis,G F a.parent] 212)).alloc (U #[G F d] 3);have hb3:Below w.heap.size w ((w2.alloc (U #[G F a.code,G F a.kind,G F a.basis,G F a.parent] 212)).alloc (U #[G F d] 3)):=bC;have hb4:=iI (w:=w) (base:=w.heap.size) hb3 bL ho3 hg4;have hB4:=((au.new w2 212 #[G F a.code,G F a.kind,G F a.basis,G F a.parent]).alloc (U #[G F d] 3)).grown hg4 (λe=>by have:=(HO.out _ e.symm).2;omega);have q3:w4.cell? ⟨w2.heap.size,3,J⟩=N (G F a.parent):=hB4.cell 3;clear hg4 hB4 ho3;go_wp2_with fail;go_roundw
    case rel=>
     refine⟨s++ [d],a.parent,bL,HE.out,rfl,?_,?_,hb4⟩
     ·rw[fK];go_num
     ·rw[Un,fK];exact lL
    case measure=>simp[intOf];omega
  ·have HE:Hid (s=Ch.sP l c):=I (by rw[<- HU.out,show l.length+1 - s.length=0 from O];rfl);go_wp2_with fail;go_ret;exact⟨_,rfl,by rw[<- HE.out];exact ho,bC⟩
def fD (b:Bool) (w:Z) (e:eG) (w':Z):Prop:=e= .returned (aA b)/\Below w.heap.size w w'
def fO (a b:Int):Int:=if a<b then -1 else if b<a then 1 else 0
theorem Uo (a:Int) (w:Z):aF ak 72 #[G F a] w (λe w'=>e= bM (aA ag)/\w=w'):=by
 have h:(a !=a)=ag:=aL;go_enter Tryz.func72,Tryz.ntmps72;go_wp2_with fail;go_ret;exact⟨rfl,rfl⟩
theorem Cj (a b:Int) (w:Z):aF ak 38 #[G F a,G F b] w (λe w'=>e= bM (G F (fO a b))/\w=w'):=by
 by_cases h1:a<b
 ·have HE:Hid (fO a b= -1):=I (by unfold fO;rw[bB h1]);go_enter Tryz.func38,Tryz.ntmps38;go_wp2_with (go_at_call 72;refine(Uo _ _).mono ?_;rintro e w2 ⟨rfl,rfl⟩);go_ret;exact⟨jg HE.out.symm,rfl⟩
 by_cases h2:b<a
 ·have HE:Hid (fO a b=1):=I (by unfold fO;rw[bE h1,bB h2]);go_enter Tryz.func38,Tryz.ntmps38;go_wp2_with (go_at_call 72;refine(Uo _ _).mono ?_;rintro e w2 ⟨rfl,rfl⟩);go_ret;exact⟨jg HE.out.symm,rfl⟩
 ·have HE:Hid (fO a b=0):=I (by unfold fO;rw[bE h1,bE h2]);go_enter Tryz.func38,Tryz.ntmps38;go_wp2_with (go_at_call 72;refine(Uo _ _).mono ?_;rintro e w2 ⟨rfl,rfl⟩);go_ret;exact⟨jg HE.out.symm,rfl⟩
theorem Gz (l:List Acc) (c:Int) (A:Option aG) (cap:Nat) (w:Z) (hr:Rd w w.heap.size 4 A l.length (Ch.cells l)) (hn:l.length<=300000):
 aF ak 114 #[T A l.length cap,G F c] w (λe w'=>e= .returned (bG #[az #[G F (Ch.bU l c).code,G F (Ch.bU l c).kind,G F (Ch.bU l c).basis,G F (Ch.bU l c).parent],aA (Ch.eO l c)])/\Below w.heap.size w w'):=
 (JU l c A cap w hr hn).mono (λ_ _ h=>h)
section
variable (l:List Acc) (a:Acc) (g:Bool) (A:Option aG) (cap:Nat) (w:Z)
theorem al0 (h:Ch.wC a g=ag):aF ak 229 #[T A l.length cap,az #[G F a.code,G F a.kind,G F a.basis,G F a.parent],aA g] w (fD ag w):=by
 have hb:=aD w.heap.size w;unfold Ch.wC at h
 by_cases h1:a.code<1
 ·clear h;go_enter qw,qx;go_wp2_with fail;go_ret;exact⟨rfl,bC⟩
 by_cases h2:99999<a.code
 ·clear h;go_enter qw,qx;go_wp2_with fail;go_ret;exact⟨rfl,bC⟩
 by_cases h3:a.kind<1
 ·clear h;go_enter qw,qx;go_wp2_with fail;go_ret;exact⟨rfl,bC⟩
 by_cases h4:5<a.kind
 ·clear h;go_enter qw,qx;go_wp2_with fail;go_ret;exact⟨rfl,bC⟩
 cases g
 ·have h5:(a.basis !=0)=ae:=by
   simp at h;have:=h O O O O
   simpa using this
  clear h;go_enter qw,qx;go_wp2_with fail;go_ret;exact⟨rfl,bC⟩
 ·by_cases h6:a.basis<1
  ·clear h;go_enter qw,qx;go_wp2_with fail;go_ret;exact⟨rfl,bC⟩
  ·have h7:3<a.basis:=by
    simp at h;have:=h O O O O;omega
   clear h;go_enter qw,qx;go_wp2_with fail;go_ret;exact⟨rfl,bC⟩
theorem al3 (h1: ¬ a.code<1) (h2: ¬ 99999<a.code) (h3: ¬ a.kind<1) (h4: ¬ 5<a.kind) (h0:a.parent=0) (hg:(g=ae/\ ¬ a.basis<1/\ ¬ 3<a.basis)\/(g=ag/\(a.basis !=0)=ag)):
 aF ak 229 #[T A l.length cap,az #[G F a.code,G F a.kind,G F a.basis,G F a.parent],aA g] w (fD ae w):=by
 have hb:=aD w.heap.size w;have hp:(a.parent==0)=ae:=by simpa using h0
 clear h0
 rcases hg with ⟨rfl,h5,h6⟩|⟨rfl,h5⟩
 ·go_enter qw,qx;go_wp2_with fail;go_ret;exact⟨rfl,bC⟩
 ·go_enter qw,qx;go_wp2_with fail;go_ret;exact⟨rfl,bC⟩
theorem al2 (h1: ¬ a.code<1) (h2: ¬ 99999<a.code) (h3: ¬ a.kind<1) (h4: ¬ 5<a.kind) (h0:a.parent≠0) (hg:(g=ae/\ ¬ a.basis<1/\ ¬ 3<a.basis)\/(g=ag/\(a.basis !=0)=ag))
 (hr:Rd w w.heap.size 4 A l.length (Ch.cells l)) (hn:l.length<=300000) (hwf: ∀ a∈l,(jQ .i64 a.code).wf=ae) (hne:Ch.iQ l a.code≠ []):
 aF ak 229 #[T A l.length cap,az #[G F a.code,G F a.kind,G F a.basis,G F a.parent],aA g] w (fD (Ch.sQ l a) w):=by
 have hb:=aD w.heap.size w;have hp:(a.parent==0)=ag:=by simpa using h0
 have HR:=I hr;have HW:=I hwf;have oG:=I hne;clear h0 hr hwf hne
 cases hf:Ch.find l a.parent with
 |none=>
  have HE:Hid (Ch.sQ l a=ag):=I (by unfold Ch.sQ;rw[hf])
  rcases hg with ⟨rfl,h5,h6⟩|⟨rfl,h5⟩
  ·go_enter qw,qx;go_wp2_with (go_at_call 114;refine(SC l a.parent A cap _ (Rd.now HR.out bC) hn hf).mono ?_;rintro e w2 ⟨rfl,hb2⟩;obtain⟨hc2,-⟩:=gq hb2;have hz2:=hb2.size;(try simp at hz2);(try have hy2:w.heap.size<w2.heap.size:=by omega);replace hb:=fM (w:=w) hb2 bC;clear hb2);go_ret;exact⟨by rw[HE.out];rfl,bC⟩
  ·go_enter qw,qx;go_wp2_with (go_at_call 114;refine(SC l a.parent A cap _ (Rd.now HR.out bC) hn hf).mono ?_;rintro e w2 ⟨rfl,hb2⟩;obtain⟨hc2,-⟩:=gq hb2;have hz2:=hb2.size;(try simp at hz2);(try have hy2:w.heap.size<w2.heap.size:=by omega);replace hb:=fM (w:=w) hb2 bC;clear hb2);go_ret;exact⟨by rw[HE.out];rfl,bC⟩
 |some p=>
  by_cases h8:p.code=a.code
  ·have h8':(p.code==a.code)=ae:=by simpa using h8
   have HE:Hid (Ch.sQ l a=ag):=I (by unfold Ch.sQ;rw[hf];simp[h8]);clear h8
   rcases hg with ⟨rfl,h5,h6⟩|⟨rfl,h5⟩
   ·go_enter qw,qx;go_wp2_with (go_at_call 114;refine(Cw l a.parent p A cap _ (Rd.now HR.out bC) hn hf).mono ?_;rintro e w2 ⟨rfl,hb2⟩;obtain⟨hc2,-⟩:=gq hb2;have hz2:=hb2.size;(try simp at hz2);(try have hy2:w.heap.size<w2.heap.size:=by omega);replace hb:=fM (w:=w) hb2 bC;clear hb2);go_ret;exact⟨by rw[HE.out];rfl,bC⟩
   ·go_enter qw,qx;go_wp2_with (go_at_call 114;refine(Cw l a.parent p A cap _ (Rd.now HR.out bC) hn hf).mono ?_;rintro e w2 ⟨rfl,hb2⟩;obtain⟨hc2,-⟩:=gq hb2;have hz2:=hb2.size;(try simp at hz2);(try have hy2:w.heap.size<w2.heap.size:=by omega);replace hb:=fM (w:=w) hb2 bC;clear hb2);go_ret;exact⟨by rw[HE.out];rfl,bC⟩
  have h8':(p.code==a.code)=ag:=by simpa using h8
  by_cases h9:p.kind=a.kind
  ·have h9':(p.kind !=a.kind)=ag:=by simpa using h9
   have HE:Hid (Ch.sQ l a=(Ch.top l a.code==0)):=I (by unfold Ch.sQ;rw[hf];simp[h8,h9]);clear h8 h9;have hpl:0<(Ch.iQ l a.code).length:=List.length_pos_iff.2 oG.out;have ap5:(Ch.iQ l a.code).length<=300000:=iT (Ch.alL l a.code) hn;have HT:Hid (Ch.top l a.code=(Ch.bU l ((Ch.iQ l a.code)[(Ch.iQ l a.code).length - 1]'O)).parent):=I (by unfold Ch.top;rw[List.getLast?_eq_getElem?,rq O];rfl);have e1:F.wrap (((Ch.iQ l a.code).length:Int) - 1)=(((Ch.iQ l a.code).length - 1:Nat):Int):=by rw[iL _ O];omega
   have hidx:(Ch.iQ l a.code).length - 1<(Ch.iQ l a.code).length:=O
   rcases hg with ⟨rfl,h5,h6⟩|⟨rfl,h5⟩
   ·go_enter qw,qx;go_wp2_with (go_at_call 114;refine(Cw l a.parent p A cap _ (Rd.now HR.out bC) hn hf).mono ?_;rintro e w2 ⟨rfl,hb2⟩;obtain⟨hc2,-⟩:=gq hb2;have hz2:=hb2.size;(try simp at hz2);(try have hy2:w.heap.size<w2.heap.size:=by omega);replace hb:=fM (w:=w) hb2 bC;clear hb2);refine(Yl l a.code A cap _ (Rd.now HR.out bC) hn HW.out).mono ?_;rintro e w4 ⟨v4,rfl,lL,hb4⟩;replace hb:=fM (w:=w) hb4 bC;obtain⟨g,c4,rfl,hg4,hg5,-⟩:=aa6 lL hpl;have hl4:=lL.cells (g:=g) rfl ((Ch.iQ l a.code).length - 1) (G F ((Ch.iQ l a.code)[(Ch.iQ l a.code).length - 1]'hidx)) (by unfold intCells;simp[hidx]);rw[Ae]at hl4;clear hb4 hc2 hz2 hy2 lL hg4;go_wp2_with (go_at_call 114;refine(Gz l ((Ch.iQ l a.code)[(Ch.iQ l a.code).length - 1]'hidx) A cap _ (Rd.now HR.out bC) hn).mono ?_;rintro e w2 ⟨rfl,hb2⟩;replace hb:=ay hb hb2;clear hb2);go_ret;exact⟨by rw[HE.out,HT.out];rfl,bC⟩
   ·go_enter qw,qx;go_wp2_with (go_at_call 114;refine(Cw l a.parent p A cap _ (Rd.now HR.out bC) hn hf).mono ?_;rintro e w2 ⟨rfl,hb2⟩;obtain⟨hc2,-⟩:=gq hb2;have hz2:=hb2.size;(try simp at hz2);(try have hy2:w.heap.size<w2.heap.size:=by omega);replace hb:=fM (w:=w) hb2 bC;clear hb2);refine(Yl l a.code A cap _ (Rd.now HR.out bC) hn HW.out).mono ?_;rintro e w4 ⟨v4,rfl,lL,hb4⟩;replace hb:=fM (w:=w) hb4 bC;obtain⟨g,c4,rfl,hg4,hg5,-⟩:=aa6 lL hpl;have hl4:=lL.cells (g:=g) rfl ((Ch.iQ l a.code).length - 1) (G F ((Ch.iQ l a.code)[(Ch.iQ l a.code).length - 1]'hidx)) (by unfold intCells;simp[hidx]);rw[Ae]at hl4;clear hb4 hc2 hz2 hy2 lL hg4;go_wp2_with (go_at_call 114;refine(Gz l ((Ch.iQ l a.code)[(Ch.iQ l a.code).length - 1]'hidx) A cap _ (Rd.now HR.out bC) hn).mono ?_;rintro e w2 ⟨rfl,hb2⟩;replace hb:=ay hb hb2;clear hb2);go_ret;exact⟨by rw[HE.out,HT.out];rfl,bC⟩
  ·have h9':(p.kind !=a.kind)=ae:=by simpa using h9
   have HE:Hid (Ch.sQ l a=ag):=I (by unfold Ch.sQ;rw[hf];simp[h9]);clear h8 h9
   rcases hg with ⟨rfl,h5,h6⟩|⟨rfl,h5⟩
   ·go_enter qw,qx;go_wp2_with (go_at_call 114;refine(Cw l a.parent p A cap _ (Rd.now HR.out bC) hn hf).mono ?_;rintro e w2 ⟨rfl,hb2⟩;obtain⟨hc2,-⟩:=gq hb2;have hz2:=hb2.size;(try simp at hz2);(try have hy2:w.heap.size<w2.heap.size:=by omega);replace hb:=fM (w:=w) hb2 bC;clear hb2);go_ret;exact⟨by rw[HE.out];rfl,bC⟩
   ·go_enter qw,qx;go_wp2_with (go_at_call 114;refine(Cw l a.parent p A cap _ (Rd.now HR.out bC) hn hf).mono ?_;rintro e w2 ⟨rfl,hb2⟩;obtain⟨hc2,-⟩:=gq hb2;have hz2:=hb2.size;(try simp at hz2);(try have hy2:w.heap.size<w2.heap.size:=by omega);replace hb:=fM (w:=w) hb2 bC;clear hb2);go_ret;exact⟨by rw[HE.out];rfl,bC⟩
theorem fields_of (h:Ch.wC a g=ae): ¬ a.code<1/\ ¬ 99999<a.code/\ ¬ a.kind<1/\ ¬ 5<a.kind/\((g=ae/\ ¬ a.basis<1/\ ¬ 3<a.basis)\/(g=ag/\(a.basis !=0)=ag)):=by
 unfold Ch.wC at h
 cases g
 ·simp at h;refine⟨by omega,O,O,O,.inr ⟨rfl,by simp[h.2]⟩⟩
 ·simp at h;exact⟨by omega,O,O,O,.inl ⟨rfl,O,O⟩⟩
theorem O9 (hr:Rd w w.heap.size 4 A l.length (Ch.cells l)) (hn:l.length<=300000) (hwf: ∀ a∈l,(jQ .i64 a.code).wf=ae) (hne:Ch.iQ l a.code≠ []):
 aF ak 229 #[T A l.length cap,az #[G F a.code,G F a.kind,G F a.basis,G F a.parent],aA g] w (fD (Ch.Dh l a g) w):=by
 unfold Ch.Dh
 cases hF:Ch.wC a g
 ·exact al0 l a g A cap w hF
 ·obtain⟨h1,h2,h3,h4,hg⟩:=fields_of a g hF
  by_cases h0:a.parent=0
  ·rw[show (ae&&(a.parent==0||Ch.sQ l a))=ae from by simp[h0]];exact al3 l a g A cap w h1 h2 h3 h4 h0 hg
  ·rw[show (ae&&(a.parent==0||Ch.sQ l a))=Ch.sQ l a from by simp[h0]];exact al2 l a g A cap w h1 h2 h3 h4 h0 hg hr hn hwf hne
end
namespace Dt
def jy (y:Int):Bool:=y % 4==0&&(!(y % 100==0)||y % 400==0)
def lp (y:Int):Int:=if jy y then 1 else 0
def lM (l m:Int):Int:=
 if m=1 then 31 else if m=2 then 28+l else if m=3 then 31 else if m=4 then 30 else if m=5 then 31 else if m=6 then 30
 else if m=7 then 31 else if m=8 then 31 else if m=9 then 30 else if m=10 then 31 else if m=11 then 30 else if m=12 then 31 else 0
def gM (l m:Int):Int:=
 if m=1 then 0 else if m=2 then 31 else if m=3 then 59+l else if m=4 then 90+l else if m=5 then 120+l else if m=6 then 151+l
 else if m=7 then 181+l else if m=8 then 212+l else if m=9 then 243+l else if m=10 then 273+l else if m=11 then 304+l else if m=12 then 334+l
 else if m=13 then 365+l else 0
def days (y m:Int):Int:=if y<1900\/2199<y\/m<1\/12<m then 0 else lM (lp y) m
def eD (y:Int):Int:=365*(y - 1)+(y - 1) / 4 - (y - 1) / 100+(y - 1) / 400 - 719162
theorem uo (y:Int):0<=lp y/\lp y<=1:=by unfold lp;split<;>omega
theorem aay (y:Int):jy y=ae↔(y % 4=0/\(y % 100≠0\/y % 400=0)):=by
 unfold jy;simp
theorem aj8 (y:Int):lp y=if (y % 4=0/\(y % 100≠0\/y % 400=0)) then 1 else 0:=by
 unfold lp;by_cases h:jy y=ae
 ·rw[bB h,bB ((aay y).1 h)]
 ·rw[bE h,bE (λk=>h ((aay y).2 k))]
theorem Cn (y:Int):eD (y+1)=eD y+365+lp y:=by
 rw[aj8];unfold eD
 split<;>omega
theorem N9 (y:Int) (h:1899<=y) (k:y<=2300): -30000<=eD y/\eD y<=200000:=by unfold eD;omega
theorem EB (a b:Int) (h:a<=b):eD a<=eD b:=by unfold eD;omega
theorem JN:eD 1900= -25567:=by unfold eD;omega
theorem Sr:eD 2200=84006:=by unfold eD;omega
theorem E9 (l m:Int) (h1:1<=m) (h2:m<=12):gM l (m+1)=gM l m+lM l m:=by
 have:m=1\/m=2\/m=3\/m=4\/m=5\/m=6\/m=7\/m=8\/m=9\/m=10\/m=11\/m=12:=O
 rcases this with rfl|rfl|rfl|rfl|rfl|rfl|rfl|rfl|rfl|rfl|rfl|rfl<;>simp[gM,lM]<;>omega
theorem Li (l m:Int) (h0:0<=l) (hl:l<=1) (h1:1<=m) (h2:m<=12):28<=lM l m/\lM l m<=31:=by
 have:m=1\/m=2\/m=3\/m=4\/m=5\/m=6\/m=7\/m=8\/m=9\/m=10\/m=11\/m=12:=O
 rcases this with rfl|rfl|rfl|rfl|rfl|rfl|rfl|rfl|rfl|rfl|rfl|rfl<;>simp[lM]<;>omega
theorem AP (l m:Int) (h0:0<=l) (hl:l<=1):0<=gM l m/\gM l m<=366:=by
 unfold gM;repeat' split
 all_goals omega
theorem Uy (l:Int):gM l 13=365+l:=by simp[gM]
theorem E8 (l:Int):gM l 1=0:=by simp[gM]
theorem zb (y m:Int):0<=days y m/\days y m<=31:=by
 unfold days;have:=uo y
 split
 ·omega
 ·have:=Li (lp y) m O O O O;omega
theorem qO (y m:Int) (h1:1900<=y) (h2:y<=2199) (h3:1<=m) (h4:m<=12):days y m=lM (lp y) m:=by
 unfold days;rw[bE O]
theorem Sq (y m:Int) (h:0<days y m):1900<=y/\y<=2199/\1<=m/\m<=12:=by
 unfold days at h;split at h<;>omega
theorem afO (y m:Int) (h:0<days y m):28<=days y m:=by
 obtain⟨h1,h2,h3,h4⟩:=Sq y m h;rw[qO y m h1 h2 h3 h4];have:=uo y;exact(Li (lp y) m O O h3 h4).1
def num (y m d:Int):Int:=eD y+gM (lp y) m+d - 1
def kG (y m d:Int):Bool:=decide (1<=d/\d<=days y m)
theorem uw (y m d:Int):kG y m d=ae↔1<=d/\d<=days y m:=by unfold kG;simp
theorem Hw (y m d:Int) (h:kG y m d=ae):1900<=y/\y<=2199/\1<=m/\m<=12/\1<=d/\d<=lM (lp y) m/\d<=31:=by
 rw[uw]at h;obtain⟨h1,h2,h3,h4⟩:=Sq y m O;have:=zb y m;rw[qO y m h1 h2 h3 h4]at h;rw[qO y m h1 h2 h3 h4]at this;omega
theorem Uz (l m:Int) (h0:0<=l) (hl:l<=1) (h1:1<=m) (h2:m<=12):gM l m+lM l m<=365+l:=by
 have:m=1\/m=2\/m=3\/m=4\/m=5\/m=6\/m=7\/m=8\/m=9\/m=10\/m=11\/m=12:=O
 rcases this with rfl|rfl|rfl|rfl|rfl|rfl|rfl|rfl|rfl|rfl|rfl|rfl<;>simp[gM,lM]<;>omega
theorem OT (l m k:Int) (h0:0<=l) (hl:l<=1) (h1:1<=m) (h2:m<k) (h3:k<=12):gM l m+lM l m<=gM l k:=by
 have:m=1\/m=2\/m=3\/m=4\/m=5\/m=6\/m=7\/m=8\/m=9\/m=10\/m=11\/m=12:=O;have hk:k=1\/k=2\/k=3\/k=4\/k=5\/k=6\/k=7\/k=8\/k=9\/k=10\/k=11\/k=12:=O
 rcases this with rfl|rfl|rfl|rfl|rfl|rfl|rfl|rfl|rfl|rfl|rfl|rfl<;>rcases hk with rfl|rfl|rfl|rfl|rfl|rfl|rfl|rfl|rfl|rfl|rfl|rfl<;>first|omega|(simp[gM,lM];try omega)
theorem OY (y m d:Int) (h:kG y m d=ae): -25567<=num y m d/\num y m d<=84005:=by
 obtain⟨h1,h2,h3,h4,h5,h6,h7⟩:=Hw y m d h;have l:=uo y;have c:=Uz (lp y) m O O h3 h4;have c0:=AP (lp y) m O O;have a:=EB 1900 y h1;have b:=EB (y+1) 2200 O;have s:=Cn y;rw[JN]at a;rw[Sr]at b;unfold num;omega
theorem akL (y m d y' m' d':Int) (h:kG y m d=ae) (h':kG y' m' d'=ae) (e:num y m d=num y' m' d'):y=y'/\m=m'/\d=d':=by
 obtain⟨a1,a2,a3,a4,a5,a6,a7⟩:=Hw y m d h;obtain⟨b1,b2,b3,b4,b5,b6,b7⟩:=Hw y' m' d' h';have l:=uo y;have l':=uo y';have c:=Uz (lp y) m O O a3 a4;have c':=Uz (lp y') m' O O b3 b4;have c0:=AP (lp y) m O O;have c0':=AP (lp y') m' O O;have s:=Cn y;have s':=Cn y';unfold num at e;have hy:y=y':=by
  rcases Int.lt_trichotomy y y' with q|q|q
  ·have:=EB (y+1) y' O;omega
  ·exact q
  ·have:=EB (y'+1) y O;omega
 subst hy;have hm:m=m':=by
  rcases Int.lt_trichotomy m m' with q|q|q
  ·have:=OT (lp y) m m' O O a3 q b4;omega
  ·exact q
  ·have:=OT (lp y) m' m O O b3 q a4;omega
 subst hm;exact⟨rfl,rfl,O⟩
def Cv:Nat->Int->Int->Int
 |0,y,_=>y
 |k+1,y,n=>if eD (y+1)<=n then Cv k (y+1) n else y
def Cu:Nat->Int->Int->Int->Int
 |0,_,m,_=>m
 |k+1,l,m,r=>if gM l (m+1)<=r then Cu k l (m+1) r else m
def cY (n:Int):Int:=Cv 299 1900 n
def cM (n:Int):Int:=Cu 11 (lp (cY n)) 1 (n - eD (cY n))
def cD (n:Int):Int:=n - eD (cY n) - gM (lp (cY n)) (cM n)+1
theorem YJ (k:Nat): ∀ (y n:Int),eD y<=n->n<eD (y+k+1)->y<=Cv k y n/\Cv k y n<=y+k/\eD (Cv k y n)<=n/\n<eD (Cv k y n+1):=by
 induction k with
 |zero=>intro y n h1 h2;simp[Cv]at *;exact⟨h1,h2⟩
 |succ k ih=>
  intro y n h1 h2;unfold Cv
  split
  ·rename_i h;have:=ih (y+1) n h (by rw[show y+1+(k:Int)+1=y+((k+1:Nat):Int)+1 from O];exact h2);omega
  ·exact⟨by omega,O,h1,O⟩
theorem YI (k:Nat): ∀ (l m r:Int),gM l m<=r->r<gM l (m+k+1)->m<=Cu k l m r/\Cu k l m r<=m+k/\gM l (Cu k l m r)<=r/\r<gM l (Cu k l m r+1):=by
 induction k with
 |zero=>intro l m r h1 h2;simp[Cu]at *;exact⟨h1,h2⟩
 |succ k ih=>
  intro l m r h1 h2;unfold Cu
  split
  ·rename_i h;have:=ih l (m+1) r h (by rw[show m+1+(k:Int)+1=m+((k+1:Nat):Int)+1 from O];exact h2);omega
  ·exact⟨by omega,O,h1,O⟩
theorem Yi (n:Int) (h1: -25567<=n) (h2:n<=84005):kG (cY n) (cM n) (cD n)=ae/\num (cY n) (cM n) (cD n)=n:=by
 have hy:=YJ 299 1900 n (by rw[JN];exact h1) (by show n<eD 2200;rw[Sr];omega)
 change 1900<=cY n/\cY n<=1900+299/\eD (cY n)<=n/\n<eD (cY n+1) at hy
 have s:=Cn (cY n);have hm:=YI 11 (lp (cY n)) 1 (n - eD (cY n)) (by rw[E8];omega) (by show _<gM _ 13;rw[Uy];omega)
 change 1<=cM n/\cM n<=1+11/\gM (lp (cY n)) (cM n)<=n - eD (cY n)/\n - eD (cY n)<gM (lp (cY n)) (cM n+1) at hm
 have ms:=E9 (lp (cY n)) (cM n) O O;refine⟨?_,by unfold num cD;omega⟩;rw[uw,qO _ _ O O O O];unfold cD;omega
theorem Sm (n y m d:Int) (h:kG y m d=ae) (e:num y m d=n):cY n=y/\cM n=m/\cD n=d:=by
 have r:=OY y m d h;obtain⟨a,b⟩:=Yi n O O;exact akL _ _ _ _ _ _ a h (b.trans e.symm)
end Dt
theorem oO {w:Z} {base base':Nat} {e:TypeId} {sz:Nat} {v:aj} {n:Nat} {xs:List aj} (h:w.ownsRow base e sz v n xs) (hB:base'<=base):w.ownsRow base' e sz v n xs:=
 ⟨h.1,h.2.imp id λ⟨g,cap,cur,h1,h2,h3⟩=>⟨g,cap,cur,h1,O,h3⟩⟩
theorem Be {p:Nat->Prop} {k:Nat} (h: ∀ j,j<k->p j) (hk:p k): ∀ j,j<k+1->p j:=λj hj=>by
 by_cases e:j=k
 ·subst e;exact hk
 ·exact h j O
structure Later (w:Z) where
 now:Z
 below:Below w.heap.size w now
instance aqt (w:Z):Nonempty (Later w):=⟨⟨w,aD _ _⟩⟩
namespace Later
variable {w:Z} {P:dH}
theorem cell (d:Later w) {b o:Nat} {v:aj} (hb:b<w.heap.size) (h:w.cell? ⟨b,o,J⟩=N v):d.now.cell? ⟨b,o,J⟩=N v:=(d.below.cell (p:=⟨b,o,J⟩) hb).trans h
theorem call {f:FuncId} {args:Array aj} {v:aj} (d:Later w) (h:aF P f args d.now λe w'=>e= .returned v/\Below d.now.heap.size d.now w'):
 aF P f args d.now λe w'=>e= .returned v/\ ∃ d':Later w,w'=d'.now:=
 h.mono λ_ _ ⟨he,hb⟩=>⟨he,⟨_,ay d.below hb⟩,rfl⟩
theorem same {f:FuncId} {args:Array aj} {v:aj} (d:Later w) (h:aF P f args d.now λe w'=>e= bM v/\d.now=w'):
 aF P f args d.now λe w'=>e= .returned v/\ ∃ d':Later w,w'=d'.now:=
 h.mono λ_ _ ⟨he,hb⟩=>⟨he,d,hb.symm⟩
end Later
theorem eX {P:dH} {id:Nat} {Q:Exit->Act->Z->Prop} {a:Act} {w:Z} {l:List dC} (hm:P.follows .mixedOrders=ae) (hB:Region.lexB .any l.toArray=ae)
 (h:wpQuiet P l.toArray (λw'=> ∃ d:Later w,w'=d.now) (λa'=> ∀ w',(∃ d:Later w,w'=d.now)->Q .normal a' w') l a):(Code.region id l.toArray ae).wp P Q a w:=
 wp_region_quiet (C:=λw'=> ∃ d:Later w,w'=d.now) hm hB ⟨⟨w.drew,(aD _ _).drew⟩,rfl⟩ (by simpa using h)
theorem zz (l:List Acc) (g:Bool) (A:Option aG) (cap:Nat) (w:Z) (hr:Rd w w.heap.size 4 A l.length (Ch.cells l)) (hn:l.length<=300000) (hwf: ∀ a∈l,(jQ .i64 a.code).wf=ae):
 aF ak 166 #[T A l.length cap,aA g] w (fD (Ch.mG l g) w):=by
 have hb:=aD w.heap.size w;have HR:=I hr;have HW:=I hwf;clear hr hwf;go_enter Tryz.func166,Tryz.ntmps166;go_wp2_with fail;go_loopw [9] (λt wr=> ∃ k:Nat,k<=l.length/\(∀ j,j<k->Ch.lN l g j=ae)/\t= G F k/\Below w.heap.size w wr) (λt _=>l.length - (intOf t).toNat)
 case atStart=>exact⟨0,O,λj h=>O,rfl,hb⟩
 case round=>
  clear hb;obtain⟨k,hk,hno,rfl,hb⟩:=hrel;have HN:=I hno;have hz:=hb.size;clear hno
  by_cases hlt:k<l.length
  ·obtain⟨b,o,hA,aX,f0,f1,f2,f3⟩:=Ch.at_ (HR.out.below hb (aC _)) hlt;subst hA;have HP:=I (Ch.alM l k hlt);have hB:=au.new wr 212 #[G F l[k].code,G F l[k].kind,G F l[k].basis,G F l[k].parent];have q0: ∀ d:Later (wr.alloc (U #[G F l[k].code,G F l[k].kind,G F l[k].basis,G F l[k].parent] 212)),d.now.cell? ⟨wr.heap.size,0,J⟩=N (G F l[k].code):=λd=>d.cell aL (hB.cell 0)
   have q1: ∀ d:Later (wr.alloc (U #[G F l[k].code,G F l[k].kind,G F l[k].basis,G F l[k].parent] 212)),d.now.cell? ⟨wr.heap.size,1,J⟩=N (G F l[k].kind):=λd=>d.cell aL (hB.cell 1)
   have q2: ∀ d:Later (wr.alloc (U #[G F l[k].code,G F l[k].kind,G F l[k].basis,G F l[k].parent] 212)),d.now.cell? ⟨wr.heap.size,2,J⟩=N (G F l[k].basis):=λd=>d.cell aL (hB.cell 2)
   have q3: ∀ d:Later (wr.alloc (U #[G F l[k].code,G F l[k].kind,G F l[k].basis,G F l[k].parent] 212)),d.now.cell? ⟨wr.heap.size,3,J⟩=N (G F l[k].parent):=λd=>d.cell aL (hB.cell 3)
   have hb2:Below w.heap.size w (wr.alloc (U #[G F l[k].code,G F l[k].kind,G F l[k].basis,G F l[k].parent] 212)):=bC;clear hB;have hk1:k - 1<l.length:=O;obtain⟨b',o',hA',-,f4,-,-,-⟩:=Ch.at_ (HR.out.below hb (aC _)) hk1;injection hA' with hA'
   injection hA' with hA1 hA2
   subst hA1 hA2;have q4: ∀ d:Later (wr.alloc (U #[G F l[k].code,G F l[k].kind,G F l[k].basis,G F l[k].parent] 212)),d.now.cell? ⟨b,o+(k - 1)*4,J⟩=N (G F (l[k - 1]'hk1).code):=λd=>d.cell bL ((LZ wr _ ⟨b,o+(k - 1)*4,J⟩ (by show b<_;omega)).trans f4)
   clear f4;have hcase:decide (0<k)=ag\/(decide (0<k)=ae/\decide (l[k].code<=(l[k - 1]'hk1).code)=ag)\/(decide (0<k)=ae/\decide (l[k].code<=(l[k - 1]'hk1).code)=ae):=by
    by_cases h0:0<k
    ·by_cases h1:l[k].code<=(l[k - 1]'hk1).code
     ·exact .inr (.inr ⟨by simp[h0],by simp[h1]⟩)
     ·exact .inr (.inl ⟨by simp[h0],by simpa using h1⟩)
    ·exact .inl (by simpa using h0)
   rcases hcase with hd|⟨hd,hg⟩|⟨hd,hg⟩
   ·cases hP:Ch.Dh l l[k] g
    ·have HE:Hid (Ch.mG l g=ag):=I (Ch.Vi l g k hlt (by unfold Ch.lN;rw[Ch.getD_at l k hlt,hP];simp));go_wp2_with fail;refine eX ai ai ?_;(repeat (go_big_quiet_step (((go_at_call 229;exact Later.call _ (O9 l l[k] g _ cap _ (Rd.now HR.out (ay hb2 (Later.below _))) hn HW.out HP.out))))));refine wpQuiet_nil ?_;rintro _ ⟨dq,rfl⟩;have hbe:=ay hb2 dq.below;go_wp2_with fail;go_ret;exact⟨by rw[HE.out];rfl,hbe⟩
    ·have HE:Hid (Ch.lN l g k=ae):=I (by unfold Ch.lN;rw[Ch.getD_at l k hlt,hP];simp at hd;simp[hd]);go_wp2_with fail;refine eX ai ai ?_;(repeat (go_big_quiet_step (((go_at_call 229;exact Later.call _ (O9 l l[k] g _ cap _ (Rd.now HR.out (ay hb2 (Later.below _))) hn HW.out HP.out))))));refine wpQuiet_nil ?_;rintro _ ⟨dq,rfl⟩;have hbe:=ay hb2 dq.below;go_wp2_with fail;go_roundw
     case rel=>exact⟨k+1,O,Be HN.out HE.out,by go_num,hbe⟩
     case measure=>simp[intOf];omega
   ·have e1:F.wrap ((k:Int) - 1)=((k - 1:Nat):Int):=by simp at hd;rw[iL _ O];omega
    cases hP:Ch.Dh l l[k] g
    ·have HE:Hid (Ch.mG l g=ag):=I (Ch.Vi l g k hlt (by unfold Ch.lN;rw[Ch.getD_at l k hlt,hP];simp));go_wp2_with fail;refine eX ai ai ?_;(repeat (go_big_quiet_step (((go_at_call 229;exact Later.call _ (O9 l l[k] g _ cap _ (Rd.now HR.out (ay hb2 (Later.below _))) hn HW.out HP.out))))));refine wpQuiet_nil ?_;rintro _ ⟨dq,rfl⟩;have hbe:=ay hb2 dq.below;go_wp2_with fail;go_ret;exact⟨by rw[HE.out];rfl,hbe⟩
    ·have HE:Hid (Ch.lN l g k=ae):=I (by unfold Ch.lN;rw[Ch.getD_at l k hlt,Ch.getD_at l (k - 1) hk1,hP];simp at hg;simp[hg]);go_wp2_with fail;refine eX ai ai ?_;(repeat (go_big_quiet_step (((go_at_call 229;exact Later.call _ (O9 l l[k] g _ cap _ (Rd.now HR.out (ay hb2 (Later.below _))) hn HW.out HP.out))))));refine wpQuiet_nil ?_;rintro _ ⟨dq,rfl⟩;have hbe:=ay hb2 dq.below;go_wp2_with fail;go_roundw
     case rel=>exact⟨k+1,O,Be HN.out HE.out,by go_num,hbe⟩
     case measure=>simp[intOf];omega
   ·have e1:F.wrap ((k:Int) - 1)=((k - 1:Nat):Int):=by simp at hd;rw[iL _ O];omega
    have HE:Hid (Ch.mG l g=ag):=I (Ch.Vi l g k hlt (by unfold Ch.lN;rw[Ch.getD_at l k hlt,Ch.getD_at l (k - 1) hk1];simp at hg hd;simp;intro h;omega));go_wp2_with fail;refine eX ai ai ?_;(repeat (go_big_quiet_step ((fail))));refine wpQuiet_nil ?_;rintro _ ⟨dq,rfl⟩;have hbe:=ay hb2 dq.below;go_wp2_with fail;go_ret;exact⟨by rw[HE.out];rfl,hbe⟩
  ·have HE:Hid (Ch.mG l g=decide (l.length<=200)):=I (Ch.aci l g (λj h=>HN.out j O));go_wp2_with fail;go_ret;exact⟨gz (by rw[HE.out];simp;omega),hb⟩
section
variable (l:List Acc) (a:Acc) (g:Bool) (A:Option aG) (cap:Nat) (w:Z)
theorem ann (h:Ch.wC a g=ag):aF ak 243 #[T A l.length cap,az #[G F a.code,G F a.kind,G F a.basis,G F a.parent],aA g] w (fD ag w):=by
 have hb:=aD w.heap.size w;unfold Ch.wC at h
 by_cases h1:a.code<1
 ·clear h;go_enter wT,wU;go_wp2_with fail;go_ret;exact⟨rfl,bC⟩
 by_cases h2:99999<a.code
 ·clear h;go_enter wT,wU;go_wp2_with fail;go_ret;exact⟨rfl,bC⟩
 by_cases h3:a.kind<1
 ·clear h;go_enter wT,wU;go_wp2_with fail;go_ret;exact⟨rfl,bC⟩
 by_cases h4:5<a.kind
 ·clear h;go_enter wT,wU;go_wp2_with fail;go_ret;exact⟨rfl,bC⟩
 cases g
 ·have h5:(a.basis !=0)=ae:=by
   simp at h;have:=h O O O O
   simpa using this
  clear h;go_enter wT,wU;go_wp2_with fail;go_ret;exact⟨rfl,bC⟩
 ·by_cases h6:a.basis<1
  ·clear h;go_enter wT,wU;go_wp2_with fail;go_ret;exact⟨rfl,bC⟩
  ·have h7:3<a.basis:=by
    simp at h;have:=h O O O O;omega
   clear h;go_enter wT,wU;go_wp2_with fail;go_ret;exact⟨rfl,bC⟩
theorem anp (h1: ¬ a.code<1) (h2: ¬ 99999<a.code) (h3: ¬ a.kind<1) (h4: ¬ 5<a.kind) (h0:a.parent=0) (hg:(g=ae/\ ¬ a.basis<1/\ ¬ 3<a.basis)\/(g=ag/\(a.basis !=0)=ag)):
 aF ak 243 #[T A l.length cap,az #[G F a.code,G F a.kind,G F a.basis,G F a.parent],aA g] w (fD ae w):=by
 have hb:=aD w.heap.size w;have hp:(a.parent==0)=ae:=by simpa using h0
 clear h0
 rcases hg with ⟨rfl,h5,h6⟩|⟨rfl,h5⟩
 ·go_enter wT,wU;go_wp2_with fail;go_ret;exact⟨rfl,bC⟩
 ·go_enter wT,wU;go_wp2_with fail;go_ret;exact⟨rfl,bC⟩
theorem ano (h1: ¬ a.code<1) (h2: ¬ 99999<a.code) (h3: ¬ a.kind<1) (h4: ¬ 5<a.kind) (h0:a.parent≠0) (hg:(g=ae/\ ¬ a.basis<1/\ ¬ 3<a.basis)\/(g=ag/\(a.basis !=0)=ag))
 (hr:Rd w w.heap.size 4 A l.length (Ch.cells l)) (hn:l.length<=300000):
 aF ak 243 #[T A l.length cap,az #[G F a.code,G F a.kind,G F a.basis,G F a.parent],aA g] w (fD (Ch.uu l a) w):=by
 have hb:=aD w.heap.size w;have hp:(a.parent==0)=ag:=by simpa using h0
 have HR:=I hr;clear h0 hr
 cases hf:Ch.find l a.parent with
 |none=>
  have HE:Hid (Ch.uu l a=ag):=I (by unfold Ch.uu;rw[hf])
  rcases hg with ⟨rfl,h5,h6⟩|⟨rfl,h5⟩
  all_goals
   go_enter wT,wU;go_wp2_with (go_at_call 200;refine(abE l a.parent A cap _ (Rd.now HR.out bC) hn hf).mono ?_;rintro e w2 ⟨rfl,hb2⟩;obtain⟨hc2,-⟩:=gq hb2;have hz2:=hb2.size;(try simp at hz2);(try have hy2:w.heap.size<w2.heap.size:=by omega);replace hb:=fM (w:=w) hb2 bC;clear hb2);go_ret;exact⟨by rw[HE.out];rfl,bC⟩
 |some p=>
  by_cases h8:p.code=a.code
  ·have h8':(p.code !=a.code)=ag:=by simpa using h8
   have HE:Hid (Ch.uu l a=ag):=I (by unfold Ch.uu;rw[hf];simp[h8]);clear h8
   rcases hg with ⟨rfl,h5,h6⟩|⟨rfl,h5⟩
   all_goals
    go_enter wT,wU;go_wp2_with (go_at_call 200;refine(UW l a.parent p A cap _ (Rd.now HR.out bC) hn hf).mono ?_;rintro e w2 ⟨rfl,hb2⟩;obtain⟨hc2,-⟩:=gq hb2;have hz2:=hb2.size;(try simp at hz2);(try have hy2:w.heap.size<w2.heap.size:=by omega);replace hb:=fM (w:=w) hb2 bC;clear hb2);go_ret;exact⟨by rw[HE.out];rfl,bC⟩
  ·have h8':(p.code !=a.code)=ae:=by simpa using h8
   have HE:Hid (Ch.uu l a=(p.kind==a.kind)):=I (by unfold Ch.uu;rw[hf];simp[h8]);clear h8
   rcases hg with ⟨rfl,h5,h6⟩|⟨rfl,h5⟩
   all_goals
    go_enter wT,wU;go_wp2_with (go_at_call 200;refine(UW l a.parent p A cap _ (Rd.now HR.out bC) hn hf).mono ?_;rintro e w2 ⟨rfl,hb2⟩;obtain⟨hc2,-⟩:=gq hb2;have hz2:=hb2.size;(try simp at hz2);(try have hy2:w.heap.size<w2.heap.size:=by omega);replace hb:=fM (w:=w) hb2 bC;clear hb2);go_ret;exact⟨by rw[HE.out];rfl,bC⟩
theorem Hq (hr:Rd w w.heap.size 4 A l.length (Ch.cells l)) (hn:l.length<=300000):
 aF ak 243 #[T A l.length cap,az #[G F a.code,G F a.kind,G F a.basis,G F a.parent],aA g] w (fD (Ch.yo l a g) w):=by
 unfold Ch.yo
 cases hF:Ch.wC a g
 ·exact ann l a g A cap w hF
 ·obtain⟨h1,h2,h3,h4,hg⟩:=fields_of a g hF
  by_cases h0:a.parent=0
  ·rw[show (ae&&(a.parent==0||Ch.uu l a))=ae from by simp[h0]];exact anp l a g A cap w h1 h2 h3 h4 h0 hg
  ·rw[show (ae&&(a.parent==0||Ch.uu l a))=Ch.uu l a from by simp[h0]];exact ano l a g A cap w h1 h2 h3 h4 h0 hg hr hn
end
end Go.Proofs.YtbedbfdhfokifaaGreat
