/- Part of the proof of WholeMatching. -/
import Derived.Test.YtbedbfdhfokifaaGreatJAM
namespace Go.Proofs.YtbedbfdhfokifaaGreat
set_option maxRecDepth 100000
set_option maxHeartbeats 16000000
set_option linter.unusedVariables false
set_option linter.unusedSimpArgs false
open _root_.And renaming intro->cz
open _root_.Bool renaming true->ae,false->ag
open Go renaming World->Z,Calls->aF,Addr->aG,Value->aj,Ending->eG
open Go.Ending renaming returned->bM
open Go.IntKind renaming i64->F
open Go.Obj renaming cells->U
open Go.Proofs.Tryz renaming prog->ak
open Go.Value renaming int->G,slice->T,bool->aA,pointer->aN,string->av,agg->az
open _root_.Option renaming none->J,some->N
open Go.RowKit
theorem ZM (b:Nat) (n k:Int) (w:Z) (hb:au w b 3 #[G F n]) (h0:0<=k) (h1:k<n):aF ak 175 #[G F k,aN (N ⟨b,0,J⟩)] w λe w'=>e= bM (aA ae)/\w=w':=by
 have c:w.cell? ⟨b,0,J⟩=N (G F n):=hb.cell 0;clear hb;go_enter Tryz.func175,Tryz.ntmps175;go_wp2_with fail;go_ret;exact⟨by simp[h0,h1],rfl⟩
theorem aiy (n:Int) (x:aM) (w:Z) (h:aT.yl n x=ae):aF ak 125 #[G F n,x.val] w λe w'=>e= .returned (aA ae)/\Below w.heap.size w w':=by
 simp only[aT.yl,bR,dm,Dv]at h;obtain⟨h1,h2,h3,h4,h5,h6,h7,h8⟩:=h;have K2:Hid (∀ W:Z,aF ak 84 #[G F x.date] W λe w'=>e= bM (aA (Gr.eZ x.date))/\W=w'):=I (λW=>Cm x.date W);rw[h6]at K2;clear h6;unfold aM.val;obtain⟨c,k,t,v⟩:=x;dsimp only at*;have h5':(c !=k)=ae:=by simpa [bne] using h5
 have hb:Below w.heap.size w ((w.alloc (U #[G F n] 3)).alloc (U #[G F c,G F k,G F t,G F v] 79)):=((aD _ w).alloc (aC _) _).alloc aL _;have HB:=I hb;have HN:=I ((au.new w 3 #[G F n]).alloc (U #[G F c,G F k,G F t,G F v] 79));clear hb;go_enter Tryz.func125,Tryz.ntmps125;go_wp2_with (first
  |(go_at_call 175;with_reducible refine(ZM _ n c _ HN.out h1 h2).mono ?_;rintro e w2 ⟨rfl,rfl⟩)
  |(go_at_call 175;with_reducible refine(ZM _ n k _ HN.out h3 h4).mono ?_;rintro e w2 ⟨rfl,rfl⟩)
  |(go_at_call 84;refine(K2.out _).mono ?_;rintro e w3 ⟨rfl,rfl⟩))
 go_ret;exact⟨by simp[h7,h8],HB.out⟩
def G6 (o:Option aW) (z:aW):Array aj:=match o with
 |none=> #[av z.cK,G F z.kind,G F z.eF,G F z.value,aA ag]
 |some r=> #[av r.cK,G F r.kind,G F r.eF,G F r.value,aA ae]
theorem zf {w w':Z} {h:Nat} (hg:w.grownBy w' (N h)) (o:Nat) (v:aj) (hb:h<w.heap.size):w.grownBy (w'.setCell ⟨h,o,J⟩ v) (N h):=
 ⟨hg.os,hg.tape,hg.output,by rw[World.size_setCell];exact hg.size,λi hi hne=>(uZ w' ⟨h,o,J⟩ v i (λe=>hne (by rw[e]))).trans (hg.block i hi hne)⟩
section
variable (w:Z)
theorem ame (h:Nat) (t:TypeId) (o:Option aW) (z r:aW) (hB:au w h t (G6 o z)):
 aF ak 262 #[aN (N ⟨h,0,J⟩),az #[av r.cK,G F r.kind,G F r.eF,G F r.value]] w
  (λe w'=>e= .returned (.tuple #[])/\au w' h t (G6 (Rt.newer o r) z)/\w.grownBy w' (N h)):=by
 obtain⟨r0,r1,r2,r3⟩:=r;obtain⟨z0,z1,z2,z3⟩:=z;have hl:=hB.lt;have hne:w.heap.size≠h:=O;have HB:=I (hB.alloc (U #[av r0,G F r1,G F r2,G F r3] 136));have hgr:w.grownBy (w.alloc (U #[av r0,G F r1,G F r2,G F r3] 136)) (N h):=zB w _ (N h);have HX:=I (au.new w 136 #[av r0,G F r1,G F r2,G F r3])
 cases o with
 |none=>
  have HN:Hid (Rt.newer J ⟨r0,r1,r2,r3⟩=N ⟨r0,r1,r2,r3⟩):=I rfl;generalize Rt.newer J ⟨r0,r1,r2,r3⟩=o2 at*;unfold G6 at HB;dsimp only at*;go_enter Tryz.func262,Tryz.ntmps262;go_upto_region 1 with fail
  generalize w.alloc (U #[av r0,G F r1,G F r2,G F r3] 136)=W at*;have c4:W.cell? ⟨h,4,J⟩=N (aA ag):=HB.out.cell 4;have CU:=HB.out.lt;go_quiet (fail);have HB2:Hid (au (W.drewN nq) h t #[av z0,G F z1,G F z2,G F z3,aA ag]):=HB;have dn:Hid (au (W.drewN nq) w.heap.size 136 #[av r0,G F r1,G F r2,G F r3]):=HX;have hg2:w.grownBy (W.drewN nq) (N h):=⟨hgr.os,hgr.tape,hgr.output,hgr.size,hgr.block⟩;have hl2:h<(W.drewN nq).heap.size:=CU;clear HB HX hgr c4 CU;generalize W.drewN nq=W2 at*;have p0:W2.cell? ⟨w.heap.size,0,J⟩=N (av r0):=dn.out.cell 0;have p1:W2.cell? ⟨w.heap.size,1,J⟩=N (G F r1):=dn.out.cell 1;have p2:W2.cell? ⟨w.heap.size,2,J⟩=N (G F r2):=dn.out.cell 2;have p3:W2.cell? ⟨w.heap.size,3,J⟩=N (G F r3):=dn.out.cell 3;have q0:=HB2.out.cell 0;have q1:=HB2.out.cell 1;have q2:=HB2.out.cell 2;have q3:=HB2.out.cell 3;have q4:=HB2.out.cell 4;have s0:=HB2.out.frozen 0;have s1:=HB2.out.frozen 1;have s2:=HB2.out.frozen 2;have s3:=HB2.out.frozen 3;have s4:=HB2.out.frozen 4;have HF:=I (((((HB2.out.bZ 0 (av r0)).bZ 1 (G F r1)).bZ 2 (G F r2)).bZ 3 (G F r3)).bZ 4 (aA ae));have TI:=I (zf (zf (zf (zf (zf hg2 0 (av r0) hl) 1 (G F r1) hl) 2 (G F r2) hl) 3 (G F r3) hl) 4 (aA ae) hl);go_wp2_with fail;go_end0;exact⟨rfl,by rw[HN.out];exact HF.out,TI.out⟩
 |some y=>
  obtain⟨y0,y1,y2,y3⟩:=y;unfold G6 at HB;dsimp only at*
  cases hc:decide (y2<r2)
  case false=>
   have HN:Hid (Rt.newer (N ⟨y0,y1,y2,y3⟩) ⟨r0,r1,r2,r3⟩=N ⟨y0,y1,y2,y3⟩):=I (by unfold Rt.newer;dsimp only;rw[bE (j3 hc)]);generalize Rt.newer (N ⟨y0,y1,y2,y3⟩) ⟨r0,r1,r2,r3⟩=o2 at*;go_enter Tryz.func262,Tryz.ntmps262;go_upto_region 1 with fail
   generalize w.alloc (U #[av r0,G F r1,G F r2,G F r3] 136)=W at*;have c4:W.cell? ⟨h,4,J⟩=N (aA ae):=HB.out.cell 4;have c2:W.cell? ⟨h,2,J⟩=N (G F y2):=HB.out.cell 2;have x2:W.cell? ⟨w.heap.size,2,J⟩=N (G F r2):=HX.out.cell 2;have CU:=HB.out.lt;have GX:=HX.out.lt;go_quiet (fail);have HB2:Hid (au (W.drewN nq) h t #[av y0,G F y1,G F y2,G F y3,aA ae]):=HB;have hg2:w.grownBy (W.drewN nq) (N h):=⟨hgr.os,hgr.tape,hgr.output,hgr.size,hgr.block⟩;clear HB HX hgr c4 c2 x2 CU GX;generalize W.drewN nq=W2 at*;go_wp2_with fail;go_end0;exact⟨rfl,by rw[HN.out];exact HB2.out,hg2⟩
  case true=>
   have HN:Hid (Rt.newer (N ⟨y0,y1,y2,y3⟩) ⟨r0,r1,r2,r3⟩=N ⟨r0,r1,r2,r3⟩):=I (by unfold Rt.newer;dsimp only;rw[bB (iY hc)]);generalize Rt.newer (N ⟨y0,y1,y2,y3⟩) ⟨r0,r1,r2,r3⟩=o2 at*;go_enter Tryz.func262,Tryz.ntmps262;go_upto_region 1 with fail
   generalize w.alloc (U #[av r0,G F r1,G F r2,G F r3] 136)=W at*;have c4:W.cell? ⟨h,4,J⟩=N (aA ae):=HB.out.cell 4;have c2:W.cell? ⟨h,2,J⟩=N (G F y2):=HB.out.cell 2;have x2:W.cell? ⟨w.heap.size,2,J⟩=N (G F r2):=HX.out.cell 2;have CU:=HB.out.lt;have GX:=HX.out.lt;go_quiet (fail);have HB2:Hid (au (W.drewN nq) h t #[av y0,G F y1,G F y2,G F y3,aA ae]):=HB;have dn:Hid (au (W.drewN nq) w.heap.size 136 #[av r0,G F r1,G F r2,G F r3]):=HX;have hg2:w.grownBy (W.drewN nq) (N h):=⟨hgr.os,hgr.tape,hgr.output,hgr.size,hgr.block⟩;have hl2:h<(W.drewN nq).heap.size:=CU;clear HB HX hgr c4 c2 x2 CU GX;generalize W.drewN nq=W2 at*;have p0:W2.cell? ⟨w.heap.size,0,J⟩=N (av r0):=dn.out.cell 0;have p1:W2.cell? ⟨w.heap.size,1,J⟩=N (G F r1):=dn.out.cell 1;have p2:W2.cell? ⟨w.heap.size,2,J⟩=N (G F r2):=dn.out.cell 2;have p3:W2.cell? ⟨w.heap.size,3,J⟩=N (G F r3):=dn.out.cell 3;have q0:=HB2.out.cell 0;have q1:=HB2.out.cell 1;have q2:=HB2.out.cell 2;have q3:=HB2.out.cell 3;have q4:=HB2.out.cell 4;have s0:=HB2.out.frozen 0;have s1:=HB2.out.frozen 1;have s2:=HB2.out.frozen 2;have s3:=HB2.out.frozen 3;have s4:=HB2.out.frozen 4;have HF:=I (((((HB2.out.bZ 0 (av r0)).bZ 1 (G F r1)).bZ 2 (G F r2)).bZ 3 (G F r3)).bZ 4 (aA ae));have TI:=I (zf (zf (zf (zf (zf hg2 0 (av r0) hl) 1 (G F r1) hl) 2 (G F r2) hl) 3 (G F r3) hl) 4 (aA ae) hl);go_wp2_with fail;go_end0;exact⟨rfl,by rw[HN.out];exact HF.out,TI.out⟩
end
section
variable (w:Z)
theorem alD (r:aO) (v:aj) (hv: ∃ A n c,v= T A n c):aF ak 28 #[az #[G F r.entry,G F r.line],v] w (λe w'=> ∃ b,e= .returned (az #[T (N ⟨b,0,J⟩) 1 1,v])/\au w' b 70 #[G F r.entry,G F r.line]/\w.heap.size<=b/\Below w.heap.size w w'):=by
 obtain⟨A,n,c,rfl⟩:=hv;obtain⟨r0,r1⟩:=r;dsimp only;have hb:=I ((((aD w.heap.size w).alloc (aC _) (U #[G F r0,G F r1] 70)).alloc aL (U #[T (N ⟨w.heap.size+1+1,0,J⟩) 1 1,T A n c] 56)).alloc bL (U #[G F r0,G F r1] 70));have HP:=I ((eT w (U #[G F r0,G F r1] 70) 56 #[T (N ⟨w.heap.size+1+1,0,J⟩) 1 1,T A n c]).alloc (U #[G F r0,G F r1] 70));have HR:=I (eT (w.alloc (U #[G F r0,G F r1] 70)) (U #[T (N ⟨w.heap.size+1+1,0,J⟩) 1 1,T A n c] 56) 70 #[G F r0,G F r1]);rw[fG]at HR;go_enter Tryz.func28,Tryz.ntmps28;go_wp2_with fail;refine iq (v:= az #[T (N ⟨w.heap.size+1+1,0,J⟩) 1 1,T A n c]) (FL Tryz.results28 _ _ (w.heap.size+1) 56 #[T (N ⟨w.heap.size+1+1,0,J⟩) 1 1,T A n c] (0,0) _ rfl HP.out Tryz.underlying56 rfl ai) rfl ?_;exact⟨w.heap.size+1+1,rfl,HR.out,O,hb.out⟩
theorem alF (r:aO) (v:aj) (hv: ∃ A n c,v= T A n c):aF ak 29 #[az #[G F r.entry,G F r.line],v] w (λe w'=> ∃ b,e= .returned (az #[v,T (N ⟨b,0,J⟩) 1 1])/\au w' b 70 #[G F r.entry,G F r.line]/\w.heap.size<=b/\Below w.heap.size w w'):=by
 obtain⟨A,n,c,rfl⟩:=hv;obtain⟨r0,r1⟩:=r;dsimp only;have hb:=I ((((aD w.heap.size w).alloc (aC _) (U #[G F r0,G F r1] 70)).alloc aL (U #[T A n c,T (N ⟨w.heap.size+1+1,0,J⟩) 1 1] 56)).alloc bL (U #[G F r0,G F r1] 70));have HP:=I ((eT w (U #[G F r0,G F r1] 70) 56 #[T A n c,T (N ⟨w.heap.size+1+1,0,J⟩) 1 1]).alloc (U #[G F r0,G F r1] 70));have HR:=I (eT (w.alloc (U #[G F r0,G F r1] 70)) (U #[T A n c,T (N ⟨w.heap.size+1+1,0,J⟩) 1 1] 56) 70 #[G F r0,G F r1]);rw[fG]at HR;go_enter Tryz.func29,Tryz.ntmps29;go_wp2_with fail;refine iq (v:= az #[T A n c,T (N ⟨w.heap.size+1+1,0,J⟩) 1 1]) (FL Tryz.results29 _ _ (w.heap.size+1) 56 #[T A n c,T (N ⟨w.heap.size+1+1,0,J⟩) 1 1] (0,0) _ rfl HP.out Tryz.underlying56 rfl ai) rfl ?_;exact⟨w.heap.size+1+1,rfl,HR.out,O,hb.out⟩
end
def uL (u:List Bool):Array aj:=(u.map aA).toArray
theorem X4 (u:List Bool) (k:Nat) (hk:k<u.length):(uL u)[k]? =N (aA u[k]):=by
 unfold uL;rw[yE,VA,rq hk]
 rfl
theorem aeU (u:List Bool) (k:Nat) (b:Bool):(uL u).setIfInBounds k (aA b)=uL (u.set k b):=by
 unfold uL;rw[Zi,List.map_set]
abbrev pE (w:Z) (B:Nat) (s:Sl aO):Prop:=LB 70 aO.cells w B s
structure fU (w:Z) (B h:Nat) (fa:Array aj) (gu gv:Nat) (u v:List Bool) (vo:aj) (out:List dK):Prop where
 blk:au w h 92 (fa.setIfInBounds 5 vo)
 hB:B<=h
 bu:au w gu 4 (uL u)
 uB:B<=gu
 bv:au w gv 4 (uL v)
 vB:B<=gv
 uv:gu≠gv
 row:w.ownsRow B 56 2 vo out.length (cellsOf dK.cells out)
 oM: ∀ p∈out,pE w B p.left/\pE w B p.right
section
variable {w w':Z} {B h:Nat} {fa:Array aj} {gu gv:Nat} {u v:List Bool} {vo:aj} {out:List dK}
theorem fU.swap (H:fU w B h fa gu gv u v vo out):fU w B h fa gv gu v u vo out:=⟨H.blk,H.hB,H.bv,H.vB,H.bu,H.uB,H.uv.symm,H.row,H.oM⟩
theorem fU.keep (H:fU w B h fa gu gv u v vo out) (hk: ∀ g t cs,au w g t cs->au w' g t cs):fU w' B h fa gu gv u v vo out:=
 ⟨hk _ _ _ H.blk,H.hB,hk _ _ _ H.bu,H.uB,hk _ _ _ H.bv,H.vB,H.uv,qf H.row λg cs=>hk g _ cs,λp hp=>⟨(H.oM p hp).1.keep λg cs=>hk g _ cs,(H.oM p hp).2.keep λg cs=>hk g _ cs⟩⟩
theorem fU.step (H:fU w B h fa gu gv u v vo out) (hb:Below w.heap.size w w'):fU w' B h fa gu gv u v vo out:=H.keep λ_ _ _ hB=>hB.step hb
theorem fU.alloc (H:fU w B h fa gu gv u v vo out) (o:Obj):fU (w.alloc o) B h fa gu gv u v vo out:=H.keep λ_ _ _ hB=>hB.alloc o
theorem fU.drew (H:fU w B h fa gu gv u v vo out):fU w.drew B h fa gu gv u v vo out:=H.keep λ_ _ _ hB=>hB
theorem fU.drewN (H:fU w B h fa gu gv u v vo out) (n:Nat):fU (w.drewN n) B h fa gu gv u v vo out:=H.keep λ_ _ _ hB=>hB
theorem fU.U3 (H:fU w B h fa gu gv u v vo out) (k:Nat):fU (w.setCell ⟨gu,k,J⟩ (aA ae)) B h fa gu gv (u.set k ae) v vo out:=by
 have far: ∀ g t cs,t≠4->au w g t cs->au (w.setCell ⟨gu,k,J⟩ (aA ae)) g t cs:=λg t cs ht hB=>hB.far (p:=⟨gu,k,J⟩) (hB.ne H.bu ht) _
 refine⟨far _ _ _ aJ H.blk,H.hB,by rw[<- aeU];exact H.bu.bZ k _,H.uB,H.bv.far (p:=⟨gu,k,J⟩) H.uv.symm _,H.vB,H.uv,qf H.row λg cs=>far g _ cs aJ,λp hp=>⟨(H.oM p hp).1.keep λg cs=>far g _ cs aJ,(H.oM p hp).2.keep λg cs=>far g _ cs aJ⟩⟩
theorem fU.abY (H:fU w B h fa gu gv u v vo out) (k:Nat):fU (w.setCell ⟨gv,k,J⟩ (aA ae)) B h fa gu gv u (v.set k ae) vo out:=(H.swap.U3 k).swap
theorem fU.more (H:fU w B h fa gu gv u v vo out) {p:dK} {vn:aj} (hg:w.grownBy w' vo.ownBlock) (ho:w'.ownsRow B 56 2 vn (out++ [p]).length (cellsOf dK.cells (out++ [p]))) (hp:pE w' B p.left/\pE w' B p.right):
 fU (w'.setCell ⟨h,5,J⟩ vn) B h fa gu gv u v vn (out++ [p]):=by
 have far: ∀ g t cs,t≠56->t≠92->au w g t cs->au (w'.setCell ⟨h,5,J⟩ vn) g t cs:=λg t cs ht ht2 hB=>
  (hB.grown hg (gF H.row hB ht)).far (p:=⟨h,5,J⟩) (hB.ne H.blk ht2) _
 have OC:au w' h 92 (fa.setIfInBounds 5 vo):=H.blk.grown hg (gF H.row H.blk aJ);refine⟨?_,H.hB,far _ _ _ aJ aJ H.bu,H.uB,far _ _ _ aJ aJ H.bv,H.vB,H.uv,qf ho λg cs hB=>hB.far (p:=⟨h,5,J⟩) (hB.ne OC aJ) _,λq hq=> ?_⟩
 ·have h1:=OC.bZ 5 vn;have h2:(fa.setIfInBounds 5 vo).setIfInBounds 5 vn=fa.setIfInBounds 5 vn:=aL
  rwa [h2]at h1
 ·rcases il.1 hq with h1|h1
  ·exact⟨(H.oM q h1).1.keep λg cs=>far g _ cs aJ aJ,(H.oM q h1).2.keep λg cs=>far g _ cs aJ aJ⟩
  ·rw[iJ.1 h1];exact⟨hp.1.keep λg cs hB=>hB.far (p:=⟨h,5,J⟩) (hB.ne OC aJ) _,hp.2.keep λg cs hB=>hB.far (p:=⟨h,5,J⟩) (hB.ne OC aJ) _⟩
theorem fU.su (H:fU w B h fa gu gv u v vo out) (i:Nat) (hi:i≠5) {x:aj} (hx:fa[i]? =N x):w.cell? ⟨h,i,J⟩=N x:=by
 rw[H.blk.cell i,PZ (pK hi)];exact hx
theorem fU.ag3 (H:fU w B h fa gu gv u v vo out) (hf:fa.size=6):w.cell? ⟨h,5,J⟩=N vo:=by
 rw[H.blk.cell 5,FV O]
theorem fU.Vd (H:fU w B h fa gu gv u v vo out) (k:Nat) (hk:k<u.length):w.cell? ⟨gu,k,J⟩=N (aA u[k]):=(H.bu.cell k).trans (X4 u k hk)
theorem fU.PL (H:fU w B h fa gu gv u v vo out) (k:Nat) (hk:k<v.length):w.cell? ⟨gv,k,J⟩=N (aA v[k]):=(H.bv.cell k).trans (X4 v k hk)
end
namespace Mt
def Ff (a b:Int):Bool:=decide (a<0) !=decide (b<0)
end Mt
section
variable (w:Z)
theorem OU (n:Int) (h: -1000000000000000000<=n/\n<=1000000000000000000):aF ak 62 #[G F n] w (λe w'=>e= bM (G F (max n (-n)))/\w'=w):=by
 obtain⟨h1,h2⟩:=h;have e1:F.wrap (-n)= -n:=iL _ O;go_enter Tryz.func62,Tryz.ntmps62;go_wp2
 all_goals go_ret
 all_goals refine⟨jg ?_,rfl⟩
 all_goals omega
theorem UC (a b:Int):aF ak 63 #[G F a,G F b] w (λe w'=>e= bM (aA (Mt.Ff a b))/\w'=w):=by
 unfold Mt.Ff;go_enter Tryz.func63,Tryz.ntmps63;go_wp2;go_ret;exact⟨rfl,rfl⟩
end
namespace Mt
def rest (a b:Int):Int:=max (a+b) (-(a+b))
def fit (aZ a b:Int):Bool:=Ff a b&&decide (rest a b<=aZ)
theorem agU {aZ a b:Int} (h:fit aZ a b=ae):a+b<=aZ/\ -(a+b)<=aZ:=by
 unfold fit rest at h;simp only[bR,dm]at h;omega
def JG (R:List bH) (aZ a:Int) (v:List Bool) (k:Nat) (b:Int):Prop:=
 (b= -1/\ ∀ j (hj:j<k) (h:j<R.length),v[j]? =N ag->fit aZ a (R[j]'h).amount=ag)\/ ∃ (bb:Nat) (h:bb<R.length),b=bb/\v[bb]? =N ag/\fit aZ a R[bb].amount=ae
theorem X0 {R:List bH} {aZ a:Int} {v:List Bool} {k:Nat} {b:Int} (hk:k<R.length) (h:JG R aZ a v k b) (hs:v[k]? =N ae\/fit aZ a R[k].amount=ag):JG R aZ a v (k+1) b:=by
 rcases h with ⟨rfl,hn⟩|h
 ·refine .inl ⟨rfl,λj hj hl hv=> ?_⟩
  by_cases e:j=k
  ·subst e
   rcases hs with h1|h1
   ·rw[hv]at h1;cases h1
   ·exact h1
  ·exact hn j O hl hv
 ·exact .inr h
theorem Inv.pair {L R:List bH} {aZ:Int} {u v:List Bool} {out:List (List aO×List aO)} (h:Inv L R aZ u v out) (hn:((L++R).map bH.ref).Nodup) (i b:Nat) (hi:i<L.length) (hb:b<R.length) (hu:u[i]? =N ag) (hv:v[b]? =N ag) (hf:fit aZ L[i].amount R[b].amount=ae):
 Inv L R aZ (u.set i ae) (v.set b ae) (out++ [([L[i].ref],[R[b].ref])]):=by
 rw[mJ,vz]at hn;have hs:=agU hf;have:=h.add hn.1 hn.2.1 [i] [b] (λj hj=>by rw[iJ.1 hj];exact hu) (λj hj=>by rw[iJ.1 hj];exact hv) aL aL aL aL
  (by simp only[iB];rw[gG L i hi,gG R b hb];omega)
 simp only[mY,refs,vv,Ih]at this
 rwa [gG L i hi,gG R b hb]at this
theorem nA.yZ {L R:List bH} (h:nA L R):(∀ x∈L,-1000000000000<=x.amount/\x.amount<=1000000000000)/\(∀ x∈R,-1000000000000<=x.amount/\x.amount<=1000000000000):=by
 have key: ∀ x∈L++R,-1000000000000<=x.amount/\x.amount<=1000000000000:=λx hx=>by
  obtain⟨k,hk,rfl⟩:=iK.1 hx;have:=h.2.2 k hk;omega
 exact⟨λx hx=>key x (by simp[hx]),λx hx=>key x (by simp[hx])⟩
end Mt
def XI (B h:Nat) (fa:Array aj) (gu gv:Nat) (L R:List bH) (aZ:Int) (w:Z) (e:eG) (w':Z):Prop:=
 e= .returned (.tuple #[])/\ ∃ u v vo out,fU w' B h fa gu gv u v vo out/\Mt.Inv L R aZ u v (Mt.nJ out)/\(∀ h0:0<L.length,(∃ k,∃ hk:k<R.length,Mt.fit aZ L[0].amount R[k].amount=ae)->out≠ [])/\Below B w w'
theorem akU (B h:Nat) (fa:Array aj) (gu gv:Nat) (A1 A2:Option aG) (c1 c2 cu cv:Nat) (L R:List bH) (aZ:Int) (w:Z) (hfs:fa.size=6)
 (f0:fa[0]? =N (T A1 L.length c1)) (f1:fa[1]? =N (T (N ⟨gu,0,J⟩) L.length cu)) (f2:fa[2]? =N (T A2 R.length c2)) (f3:fa[3]? =N (T (N ⟨gv,0,J⟩) R.length cv)) (f4:fa[4]? =N (G F aZ))
 (hL:Rd w B 3 A1 L.length (cellsOf bH.cells L)) (hR:Rd w B 3 A2 R.length (cellsOf bH.cells R)) (ok:Mt.nA L R) (ht:0<=aZ/\aZ<=1000000000000)
 (hF:fU w B h fa gu gv (List.replicate L.length ag) (List.replicate R.length ag) (T J 0 0) []):
 aF ak 26 #[aN (N ⟨h,0,J⟩)] w (XI B h fa gu gv L R aZ w):=by
 have HL:=I hL;have HR:=I hR;have HF:=I hF;have HBh:=hF.hB;have hlh:=hF.blk.lt;have hbs:B<=w.heap.size:=O;have hb:=aD B w;have HI0:=I (Mt.Inv.start L R aZ);have xD:=I ok.nodup;have j4:=I ok.yZ;have TP:=ok.1;have Ue:=ok.2.1;obtain⟨i0,hi,hz0,hz1,hz2⟩:=jh dK.info;clear hL hR hF ok;unfold XI;have k0:w.cell? ⟨h,0,J⟩=N (T A1 L.length c1):=HF.out.su 0 aJ f0;go_enter Tryz.func26,Tryz.ntmps26;go_wp2_with fail;clear k0;go_loopw [14] (λt wr=> ∃ (i:Nat) (u v:List Bool) (vo:aj) (out:List dK),i<=L.length/\t= G F i/\fU wr B h fa gu gv u v vo out/\Mt.Inv L R aZ u v (Mt.nJ out)/\(∀ j,i<=j->j<L.length->u[j]? =N ag)/\(i=0->v=List.replicate R.length ag)/\(0<i-> ∀ h0:0<L.length,(∃ k,∃ hk:k<R.length,Mt.fit aZ L[0].amount R[k].amount=ae)->out≠ [])/\Below B w wr) (λt _=>L.length - (intOf t).toNat)
 case atStart=>exact⟨0,_,_,_,[],O,rfl,HF.out,by simpa [Mt.nJ] using HI0.out,λj _ hj=>by simp[hj],λ_=>rfl,λh=>O,hb⟩
 case round=>
  clear hb HI0 HF;obtain⟨i,u,v,vo,out,hi1,rfl,tT,hI,hu,hv0,hone,hb⟩:=hrel;have HF:=I tT;have HI:=I hI;have HU:=I hu;have HV0:=I hv0;have qI:=I hone;have hz:=hb.size;have apW:=tT.blk.lt;have hout:out.length<=60:=by have:=hI.few;unfold Mt.nJ at this;rw[pM]at this;omega
  clear tT hI hu hv0 hone
  by_cases hlt:i<L.length
  ·obtain⟨b,o,hA,aX,g0,g1,g2⟩:=bH.at_ (HL.out.below hb (aC _)) hlt;subst hA;have hxa:=j4.out.1 _ (bP hlt);obtain⟨x,yf⟩: ∃ x,Hid (L[i]=x):=⟨_,I rfl⟩;rw[yf.out]at g0 g1 g2 hxa;obtain⟨⟨x0,x1⟩,xa⟩:=x;dsimp only at*;have iU:=I (HF.out.alloc (U #[G F x0,G F x1,G F xa] 74));have HX:=I (au.new wr 74 #[G F x0,G F x1,G F xa]);have hb1:=hb.alloc (by omega:B<=wr.heap.size) (U #[G F x0,G F x1,G F xa] 74);go_upto_region 4 with fail
   clear g0 g1 g2 hb HF;generalize wr.heap.size=xb at*;generalize wr.alloc (U #[G F x0,G F x1,G F xa] 74)=W at*;have k2:W.cell? ⟨h,2,J⟩=N (T A2 R.length c2):=iU.out.su 2 aJ f2;go_wp2_with fail;clear k2;go_loopw [4,25] (λs4 t wq=> ∃ (k:Nat) (b:Int),k<=R.length/\s4= G F b/\t= G F k/\Mt.JG R aZ xa v k b/\fU wq B h fa gu gv u v vo out/\au wq xb 74 #[G F x0,G F x1,G F xa]/\Below B w wq) (λ_ t _=>R.length - (intOf t).toNat)
   case atStart=>exact⟨0,-1,O,rfl,rfl,.inl ⟨rfl,λj hj=>O⟩,iU.out,HX.out,hb1⟩
   case round=>
    clear iU HX hb1;obtain⟨k,NU,hk1,rfl,rfl,EM,tT,hX,hb⟩:=hrel;have HF:=I tT;have HX:=I hX;have qF:=I EM;have CU:=hX.lt;have apV:=tT.blk.lt;clear tT hX EM
    by_cases hlk:k<R.length
    ·obtain⟨b2,o2,hA2,qR,r0,r1,r2⟩:=bH.at_ (HR.out.below hb (aC _)) hlk;subst hA2;have hya:=j4.out.2 _ (bP hlk);obtain⟨y,zl⟩: ∃ y,Hid (R[k]=y):=⟨_,I rfl⟩;rw[zl.out]at r0 r1 r2 hya;obtain⟨⟨y0,y1⟩,ya⟩:=y;dsimp only at*;have iU:=I (HF.out.alloc (U #[G F y0,G F y1,G F ya] 74));have df:=I (HX.out.alloc (U #[G F y0,G F y1,G F ya] 74));have HY:=I (au.new wr 74 #[G F y0,G F y1,G F ya]);have hb1:=hb.alloc (by omega:B<=wr.heap.size) (U #[G F y0,G F y1,G F ya] 74);go_upto_region 7 with fail
     clear r0 r1 r2 hb HF HX;generalize wr.heap.size=yb at*;generalize wr.alloc (U #[G F y0,G F y1,G F ya] 74)=W2 at*;have x2:W2.cell? ⟨xb,2,J⟩=N (G F xa):=df.out.cell 2;have y2:W2.cell? ⟨yb,2,J⟩=N (G F ya):=HY.out.cell 2;have e1:F.wrap (xa+ya)=xa+ya:=iL _ O;have KS:=I (OU W2 (xa+ya) O);have KO:=I (UC W2 xa ya);have IX:Hid (Mt.fit aZ xa ya=(Mt.Ff xa ya&&decide (max (xa+ya) (-(xa+ya))<=aZ))):=I rfl;have hmx: -1000000000000000000<=max (xa+ya) (-(xa+ya))/\max (xa+ya) (-(xa+ya))<=1000000000000000000:=O;go_upto_region 8 with (go_at_call 62;refine KS.out.mono ?_;rintro e w5 ⟨rfl,sH⟩;obtain rfl:=sH.symm)
     generalize max (xa+ya) (-(xa+ya))=rr at*;generalize Mt.Ff xa ya=ob at*;have hvl:v.length=R.length:=HI.out.lv;have k3:W2.cell? ⟨h,3,J⟩=N (T (N ⟨gv,0,J⟩) R.length cv):=iU.out.su 3 aJ f3;have k4:W2.cell? ⟨h,4,J⟩=N (G F aZ):=iU.out.su 4 aJ f4;have kv:W2.cell? ⟨gv,k,J⟩=N (aA (v[k]'O)):=iU.out.PL k O;have Jp:Hid (v[k]? =N (v[k]'O)):=I (rq _);generalize v[k]'O=vk at*
     cases vk
     case true=>
      go_wp2_with fail;go_roundw
      case rel=>exact⟨k+1,NU,O,rfl,by go_num,Mt.X0 hlk qF.out (.inl Jp.out),iU.out,df.out,hb1⟩
      case measure=>simp[intOf];omega
     case false=>
      have WY:Hid (Mt.fit aZ xa ya=ag->Mt.JG R aZ xa v (k+1) NU):=I (λhq=>Mt.X0 hlk qF.out (.inr (by rw[zl.out];exact hq)))
      cases ob
      case false=>
       have HQ:=I (WY.out (by rw[IX.out];rfl));go_wp2_with (go_at_call 63;refine KO.out.mono ?_;rintro e w5 ⟨rfl,sH⟩;obtain rfl:=sH.symm);go_roundw
       case rel=>exact⟨k+1,NU,O,rfl,by go_num,HQ.out,iU.out,df.out,hb1⟩
       case measure=>simp[intOf];omega
      case true=>
       cases dt:decide (aZ<rr)
       case true=>
        have HQ:=I (WY.out (by rw[IX.out];have:=iY dt;simp;omega));go_wp2_with (go_at_call 63;refine KO.out.mono ?_;rintro e w5 ⟨rfl,sH⟩;obtain rfl:=sH.symm);go_roundw
        case rel=>exact⟨k+1,NU,O,rfl,by go_num,HQ.out,iU.out,df.out,hb1⟩
        case measure=>simp[intOf];omega
       case false=>
        have M0:Hid (Mt.fit aZ xa R[k].amount=ae):=I (by rw[zl.out];show Mt.fit aZ xa ya=ae;rw[IX.out];have:=j3 dt;simp;omega)
        rcases qF.out with ⟨hb1',hno⟩|⟨bb,hbb,hbe,hvb,qd⟩
        ·clear hno;subst hb1';go_wp2_with (go_at_call 63;refine KO.out.mono ?_;rintro e w5 ⟨rfl,sH⟩;obtain rfl:=sH.symm);go_quiet (fail);have tq:=I (iU.out.drewN nq);have dn:Hid (au (W2.drewN nq) xb 74 #[G F x0,G F x1,G F xa]):=df;have hb2:=iC hb1 nq;clear x2 y2 k3 k4 kv iU df HY KO KS hb1;generalize W2.drewN nq=W3 at*;go_wp2_with fail;go_roundw
         case rel=>exact⟨k+1,k,O,rfl,by go_num,.inr ⟨k,hlk,rfl,Jp.out,M0.out⟩,tq.out,dn.out,hb2⟩
         case measure=>simp[intOf];omega
        ·subst hbe;obtain⟨b3,o3,hA3,ahZ,t0,t1,t2⟩:=bH.at_ (HR.out.below hb1 (aC _)) hbb;have hza:=j4.out.2 _ (bP hbb);obtain⟨z,hzz⟩: ∃ z,Hid (R[bb]=z):=⟨_,I rfl⟩;rw[hzz.out]at t2 hza;obtain⟨⟨z0,z1⟩,za⟩:=z;injection hA3 with hA3
         injection hA3 with hA3 Aq
         subst hA3 Aq;have k2:W2.cell? ⟨h,2,J⟩=N (T (N ⟨b2,o2,J⟩) R.length c2):=iU.out.su 2 aJ f2;have e2:F.wrap (xa+za)=xa+za:=iL _ (by dsimp only at hza;omega);have Xy:=I (λW=>OU W (xa+za) (by dsimp only at hza;omega));have hb0:decide ((bb:Int)<0)=ag:=iw O;have acy:Hid (Mt.JG R aZ xa v (k+1) bb):=I (.inr ⟨bb,hbb,rfl,hvb,qd⟩);clear hvb qd t0 t1;dsimp only at t2 hza;go_wp2_with (go_at_call 63;refine KO.out.mono ?_;rintro e w5 ⟨rfl,sH⟩;obtain rfl:=sH.symm);go_quiet ((go_at_call 62;exact Calls.quiet_of_same (Xy.out _)));generalize max (xa+za) (-(xa+za))=r2 at*;have tq:=I (iU.out.drewN nq);have dn:Hid (au (W2.drewN nq) xb 74 #[G F x0,G F x1,G F xa]):=df;have hb2:=iC hb1 nq;clear x2 y2 k2 k3 k4 kv t2 iU df HY KO KS Xy hb1 e2 hb0;generalize W2.drewN nq=W3 at*
         cases dr:decide (rr<r2)
         ·go_wp2_with fail;go_roundw
          case rel=>exact⟨k+1,bb,O,rfl,by go_num,acy.out,tq.out,dn.out,hb2⟩
          case measure=>simp[intOf];omega
         ·go_wp2_with fail;go_roundw
          case rel=>exact⟨k+1,k,O,rfl,by go_num,.inr ⟨k,hlk,rfl,Jp.out,M0.out⟩,tq.out,dn.out,hb2⟩
          case measure=>simp[intOf];omega
    ·have hke:k=R.length:=O;subst hke
     rcases qF.out with ⟨hb1',hno⟩|⟨bb,hbb,hbe,hvb,qd⟩
     ·subst hb1';have adp:Hid (∀ h0:0<L.length,(∃ k,∃ hk:k<R.length,Mt.fit aZ L[0].amount R[k].amount=ae)->out≠ []):=I (λh0 hk=>by
       by_cases hi0:i=0
       ·subst hi0;obtain⟨k,hk,hf⟩:=hk;rw[yf.out]at hf;have h2:=hno k hk hk (by rw[HV0.out rfl];simp[hk]);rw[h2]at hf
        cases hf
       ·exact qI.out O h0 hk)
      clear hno;go_wp2_with fail;go_roundw
      case rel=>exact⟨i+1,u,v,vo,out,O,by go_num,HF.out,HI.out,λj h1 h2=>HU.out j O h2,λh=>O,λ_=>adp.out,hb⟩
      case measure=>simp[intOf];omega
     ·subst hbe;obtain⟨b3,o3,hA3,ahZ,t0,t1,t2⟩:=bH.at_ (HR.out.below hb (aC _)) hbb;subst hA3;obtain⟨z,hzz⟩: ∃ z,Hid (R[bb]=z):=⟨_,I rfl⟩;rw[hzz.out]at t0 t1 t2;have xy:=I (HI.out.pair xD.out i bb hlt hbb (HU.out i O hlt) hvb (by rw[yf.out];exact qd));rw[yf.out,hzz.out]at xy;obtain⟨⟨z0,z1⟩,za⟩:=z;dsimp only at*;clear t0 t1 t2 qd;have hul:u.length=L.length:=HI.out.lu;have hvl:v.length=R.length:=HI.out.lv;have k1:wr.cell? ⟨h,1,J⟩=N (T (N ⟨gu,0,J⟩) L.length cu):=HF.out.su 1 aJ f1;have k3:wr.cell? ⟨h,3,J⟩=N (T (N ⟨gv,0,J⟩) R.length cv):=HF.out.su 3 aJ f3;have ku:wr.cell? ⟨gu,i,J⟩=N (aA (u[i]'O)):=HF.out.Vd i O;have kv:wr.cell? ⟨gv,bb,J⟩=N (aA (v[bb]'O)):=HF.out.PL bb O;have zu:wr.frozen? ⟨gu,i,J⟩=ag:=HF.out.bu.frozen i;have zv:wr.frozen? ⟨gv,bb,J⟩=ag:=HF.out.bv.frozen bb;have nuv: ¬ gu=gv:=HF.out.uv;have nvu: ¬ gv=gu:=λe=>HF.out.uv e.symm
      have hgB:=HF.out.uB;have ZH:=HF.out.vB;have iU:=I (((HF.out.U3 i).abY bb).drew);have hb1:=((hb.setCell (p:=⟨gu,i,J⟩) hgB (aA ae)).setCell (p:=⟨gv,bb,J⟩) ZH (aA ae)).drew;have df:Hid (au ((wr.setCell ⟨gu,i,J⟩ (aA ae)).setCell ⟨gv,bb,J⟩ (aA ae)).drew xb 74 #[G F x0,G F x1,G F xa]):=I (((HX.out.far (p:=⟨gu,i,J⟩) (HX.out.ne HF.out.bu aJ) (aA ae)).far (p:=⟨gv,bb,J⟩) (HX.out.ne HF.out.bv aJ) (aA ae)).drew);go_upto_region 13 with fail
      go_region;have Na:=I (cz xy.out iU.out.hB);clear k1 k3 ku kv zu zv nuv nvu hgB ZH HF HX hb;generalize ((wr.setCell ⟨gu,i,J⟩ (aA ae)).setCell ⟨gv,bb,J⟩ (aA ae)).drew=W5 at*;go_upto_region 14 with fail
      obtain⟨S,hS⟩: ∃ S:Z->Prop,S=λw'=>au w' h 92 (fa.setIfInBounds 5 vo)/\(au w' xb 74 #[G F x0,G F x1,G F xa]/\Below B w w'):=⟨_,rfl⟩
      have aR:Hid (∀ w':Z,(au w' h 92 (fa.setIfInBounds 5 vo)/\(au w' xb 74 #[G F x0,G F x1,G F xa]/\Below B w w'))↔S w'):=I (λw'=>by rw[hS]);clear hS;have hfo:(fa.setIfInBounds 5 vo)[5]? =N vo:=FV O;have hf2:(fa.setIfInBounds 5 vo)[2]? =N (T (N ⟨b3,o3,J⟩) R.length c2):=by rw[PZ aJ];exact f2
      have hC: ∃ d:aK S,W5.drew=d.now:=aK.of ((aR.out _).1 ⟨iU.out.blk,df.out.drew,hb1.drew⟩);haveI:Nonempty (aK S):=by obtain⟨d,_⟩:=hC;exact⟨d⟩
      have q5: ∀ d:aK S,d.now.cell? ⟨h,5,J⟩=N vo:=λd=>(((aR.out _).2 d.is).1.cell 5).trans hfo
      have q2: ∀ d:aK S,d.now.cell? ⟨h,2,J⟩=N (T (N ⟨b3,o3,J⟩) R.length c2):=λd=>(((aR.out _).2 d.is).1.cell 2).trans hf2
      have p0: ∀ d:aK S,d.now.cell? ⟨xb,0,J⟩=N (G F x0):=λd=>((aR.out _).2 d.is).2.1.cell 0
      have p1: ∀ d:aK S,d.now.cell? ⟨xb,1,J⟩=N (G F x1):=λd=>((aR.out _).2 d.is).2.1.cell 1
      have r0: ∀ d:aK S,d.now.cell? ⟨b3,o3+bb*3,J⟩=N (G F z0):=λd=>by
       obtain⟨b4,o4,Aq,ah0,t0,t1,t2⟩:=bH.at_ (HR.out.below ((aR.out _).2 d.is).2.2 (aC _)) hbb;injection Aq with Aq;injection Aq with e1 e2;subst e1 e2
       rw[hzz.out]at t0;exact t0
      have r1: ∀ d:aK S,d.now.cell? ⟨b3,o3+bb*3+1,J⟩=N (G F z1):=λd=>by
       obtain⟨b4,o4,Aq,ah0,t0,t1,t2⟩:=bH.at_ (HR.out.below ((aR.out _).2 d.is).2.2 (aC _)) hbb;injection Aq with Aq;injection Aq with e1 e2;subst e1 e2
       rw[hzz.out]at t1;exact t1
      refine nK (n:=24) S 23 ai rfl ?_;have hT:=tg 0;(iterate 7 refine aab hT hC ?_;clear hT;intro hT K hK;go_big_quiet_op;go_big_quiet_on);clear hT;have hT:=tg 8;(iterate 9 refine aab hT hC ?_;clear hT;intro hT K hK;go_big_quiet_op;go_big_quiet_on);clear hT;have HD:=I (cz iU.out.drew (cz df.out.drew hb1.drew));have hBW:B<=W5.drew.heap.size:=by have:=hb1.size;show B<=W5.heap.size;omega
      generalize W5.drew=W6 at*;clear q5 q2 p0 p1 r0 r1 hb1 iU df hfo hf2;refine abu (is:= [7,17]) ai aL ?_;intro j hj;simp only[fT,lV,lW]at hj
      rcases hj with rfl|rfl
      ·refine⟨_,rfl,rfl,?_⟩;intro K hK;go_simp;refine hK _ _ (.inr (.inr (aK.of ((aR.out _).1 ⟨HD.out.1.blk.alloc _,HD.out.2.1.alloc _,HD.out.2.2.alloc hBW _⟩)))) ?_;clear hK K
       (try simp only[Zx])
       refine dw (i:=17) ai rfl rfl ?_;intro K hK;go_simp;have HXB:=I ((au.new W6 70 #[G F x0,G F x1]).alloc (U #[G F z0,G F z1] 70));have Ej:=I (eT W6 (U #[G F x0,G F x1] 70) 70 #[G F z0,G F z1]);have fu:Below B w ((W6.alloc (U #[G F x0,G F x1] 70)).alloc (U #[G F z0,G F z1] 70)):=(HD.out.2.2.alloc hBW _).alloc bL _;have HD7:=I (cz ((HD.out.1.alloc (U #[G F x0,G F x1] 70)).alloc (U #[G F z0,G F z1] 70)) (cz ((HD.out.2.1.alloc (U #[G F x0,G F x1] 70)).alloc (U #[G F z0,G F z1] 70)) fu));have hbx:B<=W6.heap.size:=O;have hby:B<=(W6.heap.size+1):=O;have j6:B<=((W6.alloc (U #[G F x0,G F x1] 70)).alloc (U #[G F z0,G F z1] 70)).heap.size:=bL;have zh: ∃ d:aK S,((W6.alloc (U #[G F x0,G F x1] 70)).alloc (U #[G F z0,G F z1] 70))=d.now:=aK.of ((aR.out _).1 ⟨HD7.out.1.blk,HD7.out.2.1,HD7.out.2.2⟩);refine hK _ _ (.inr (.inr zh)) ?_;clear hK K fu HD;generalize ((W6.alloc (U #[G F x0,G F x1] 70)).alloc (U #[G F z0,G F z1] 70))=W7 at*;generalize TD:W6.heap.size+1=bY at*;generalize TC:W6.heap.size=bx at*;clear TC TD
       (try simp only[Zx])
       refine dw (i:=18) ai rfl rfl ?_;intro K hK;go_simp;refine hK _ _ (.inr (.inr zh)) ?_;clear hK K
       (try simp only[Zx])
       refine dw (i:=19) ai rfl rfl ?_;intro K hK;go_simp;have mM:=I (au.new W7 56 #[T (N ⟨bx,0,J⟩) 1 1,T (N ⟨bY,0,J⟩) 1 1]);have fH:=I (cz (HD7.out.1.alloc (U #[T (N ⟨bx,0,J⟩) 1 1,T (N ⟨bY,0,J⟩) 1 1] 56)) (cz (HD7.out.2.1.alloc (U #[T (N ⟨bx,0,J⟩) 1 1,T (N ⟨bY,0,J⟩) 1 1] 56)) (HD7.out.2.2.alloc j6 (U #[T (N ⟨bx,0,J⟩) 1 1,T (N ⟨bY,0,J⟩) 1 1] 56))));have jN:=I (cz (HXB.out.alloc (U #[T (N ⟨bx,0,J⟩) 1 1,T (N ⟨bY,0,J⟩) 1 1] 56)) (Ej.out.alloc (U #[T (N ⟨bx,0,J⟩) 1 1,T (N ⟨bY,0,J⟩) 1 1] 56)));have J5:B<=(W7.alloc (U #[T (N ⟨bx,0,J⟩) 1 1,T (N ⟨bY,0,J⟩) 1 1] 56)).heap.size:=bL;refine hK _ _ (.inr (.inr (aK.of ((aR.out _).1 ⟨fH.out.1.blk,fH.out.2.1,fH.out.2.2⟩)))) ?_;clear hK K HD7 HXB Ej zh;generalize W7.heap.size=n8 at*;generalize W7.alloc (U #[T (N ⟨bx,0,J⟩) 1 1,T (N ⟨bY,0,J⟩) 1 1] 56)=w9 at*
       (try simp only[Zx])
       refine dw (i:=20) ai rfl rfl ?_;intro K hK;refine H6 w9 dK.cells 2 dK.len dK.one (.tmp 101) (.tmp 116) 45 rfl B 56 i0 (az #[T J 0 0,T J 0 0]) 48 Tryz.underlying45 hi hz0 hz1 hz2 rfl aJ vo out rfl fH.out.1.row n8 1 ⟨⟨[⟨x0,x1⟩],N ⟨bx,0,J⟩,1⟩,⟨[⟨z0,z1⟩],N ⟨bY,0,J⟩,1⟩⟩ #[T (N ⟨bx,0,J⟩) 1 1,T (N ⟨bY,0,J⟩) 1 1] rfl mM.out rfl fQ O J5 ?_;intro v10 iG mo iD;obtain⟨qD,c10,ug,-⟩:=Rd.dE mo;rw[fK,ow]at ug;subst ug;have CG:pE iG B ⟨[⟨x0,x1⟩],N ⟨bx,0,J⟩,1⟩/\pE iG B ⟨[⟨z0,z1⟩],N ⟨bY,0,J⟩,1⟩:=⟨LB.uT (jN.out.1.grown iD (gF fH.out.1.row jN.out.1 aJ)) rfl hbx,LB.uT (jN.out.2.grown iD (gF fH.out.1.row jN.out.2 aJ)) rfl hby⟩;have xq:=I (fH.out.1.more iD mo CG);have hjb:=fH.out.1.blk.grown iD (gF fH.out.1.row fH.out.1.blk aJ);have hxb:=fH.out.2.1.grown iD (gF fH.out.1.row fH.out.2.1 aJ);have nH:Below B w iG:=iI fH.out.2.2 J5 fH.out.1.row iD;have BD:=I hjb;have hC: ∃ d:aK S,iG=d.now:=aK.of ((aR.out _).1 ⟨hjb,hxb,nH⟩);refine hK _ _ (.inr (.inr hC)) ?_;clear hK K iD mo CG hjb hxb jN mM fH
       (try simp only[Zx])
       refine dw (i:=21) ai rfl rfl ?_;intro K hK;go_simp;refine hK _ _ (.inr (.inr hC)) ?_;clear hK K
       (try simp only[Zx])
       refine dw (i:=22) ai rfl rfl ?_;intro K hK;go_simp;refine hK _ _ (.inr (.inr hC)) ?_;clear hK K hC
       (try simp only[Zx])
       refine dw (i:=23) ai rfl rfl ?_;intro K hK;have LY:iG.cell? ⟨h,5,J⟩=N vo:=(BD.out.cell 5).trans (FV O);have H7:iG.frozen? ⟨h,5,J⟩=ag:=BD.out.frozen 5;go_simp;refine hK _ _ (.inr (.inl rfl)) ?_;clear hK K LY H7
       (try simp only[Zx])
       refine kH ai ?_ _;have Tv:=nH.setCell (p:=⟨h,5,J⟩) Na.out.2 (T qD (out.length+1) c10);go_wp2_with fail;go_roundw
       case rel=>exact⟨i+1,u.set i ae,v.set bb ae,T qD (out.length+1) c10,out++ [⟨⟨[⟨x0,x1⟩],N ⟨bx,0,J⟩,1⟩,⟨[⟨z0,z1⟩],N ⟨bY,0,J⟩,1⟩⟩],O,by go_num,xq.out,by rw[Mt.abj];exact Na.out.1,λj h1 h2=>by rw[List.getElem?_set_ne O];exact HU.out j O h2,λh=>O,λ_ _ _=>aL,Tv⟩
       case measure=>simp[intOf];omega
      ·refine⟨_,rfl,rfl,?_⟩;intro K hK;go_simp;refine hK _ _ (.inr (.inr (aK.of ((aR.out _).1 ⟨HD.out.1.blk.alloc _,HD.out.2.1.alloc _,HD.out.2.2.alloc hBW _⟩)))) ?_;clear hK K
       (try simp only[Zx])
       refine dw (i:=7) ai rfl rfl ?_;intro K hK;go_simp;have HXB:=I (eT W6 (U #[G F z0,G F z1] 70) 70 #[G F x0,G F x1]);have Ej:=I ((au.new W6 70 #[G F z0,G F z1]).alloc (U #[G F x0,G F x1] 70));have fu:Below B w ((W6.alloc (U #[G F z0,G F z1] 70)).alloc (U #[G F x0,G F x1] 70)):=(HD.out.2.2.alloc hBW _).alloc bL _;have HD7:=I (cz ((HD.out.1.alloc (U #[G F z0,G F z1] 70)).alloc (U #[G F x0,G F x1] 70)) (cz ((HD.out.2.1.alloc (U #[G F z0,G F z1] 70)).alloc (U #[G F x0,G F x1] 70)) fu));have hbx:B<=(W6.heap.size+1):=O;have hby:B<=W6.heap.size:=O;have j6:B<=((W6.alloc (U #[G F z0,G F z1] 70)).alloc (U #[G F x0,G F x1] 70)).heap.size:=bL;have zh: ∃ d:aK S,((W6.alloc (U #[G F z0,G F z1] 70)).alloc (U #[G F x0,G F x1] 70))=d.now:=aK.of ((aR.out _).1 ⟨HD7.out.1.blk,HD7.out.2.1,HD7.out.2.2⟩);refine hK _ _ (.inr (.inr zh)) ?_;clear hK K fu HD;generalize ((W6.alloc (U #[G F z0,G F z1] 70)).alloc (U #[G F x0,G F x1] 70))=W7 at*;generalize TD:W6.heap.size+1=bx at*;generalize TC:W6.heap.size=bY at*;clear TC TD
       (try simp only[Zx])
       refine dw (i:=18) ai rfl rfl ?_;intro K hK;go_simp;refine hK _ _ (.inr (.inr zh)) ?_;clear hK K
       (try simp only[Zx])
       refine dw (i:=19) ai rfl rfl ?_;intro K hK;go_simp;have mM:=I (au.new W7 56 #[T (N ⟨bx,0,J⟩) 1 1,T (N ⟨bY,0,J⟩) 1 1]);have fH:=I (cz (HD7.out.1.alloc (U #[T (N ⟨bx,0,J⟩) 1 1,T (N ⟨bY,0,J⟩) 1 1] 56)) (cz (HD7.out.2.1.alloc (U #[T (N ⟨bx,0,J⟩) 1 1,T (N ⟨bY,0,J⟩) 1 1] 56)) (HD7.out.2.2.alloc j6 (U #[T (N ⟨bx,0,J⟩) 1 1,T (N ⟨bY,0,J⟩) 1 1] 56))));have jN:=I (cz (HXB.out.alloc (U #[T (N ⟨bx,0,J⟩) 1 1,T (N ⟨bY,0,J⟩) 1 1] 56)) (Ej.out.alloc (U #[T (N ⟨bx,0,J⟩) 1 1,T (N ⟨bY,0,J⟩) 1 1] 56)));have J5:B<=(W7.alloc (U #[T (N ⟨bx,0,J⟩) 1 1,T (N ⟨bY,0,J⟩) 1 1] 56)).heap.size:=bL;refine hK _ _ (.inr (.inr (aK.of ((aR.out _).1 ⟨fH.out.1.blk,fH.out.2.1,fH.out.2.2⟩)))) ?_;clear hK K HD7 HXB Ej zh;generalize W7.heap.size=n8 at*;generalize W7.alloc (U #[T (N ⟨bx,0,J⟩) 1 1,T (N ⟨bY,0,J⟩) 1 1] 56)=w9 at*
       (try simp only[Zx])
       refine dw (i:=20) ai rfl rfl ?_;intro K hK;refine H6 w9 dK.cells 2 dK.len dK.one (.tmp 101) (.tmp 116) 45 rfl B 56 i0 (az #[T J 0 0,T J 0 0]) 48 Tryz.underlying45 hi hz0 hz1 hz2 rfl aJ vo out rfl fH.out.1.row n8 1 ⟨⟨[⟨x0,x1⟩],N ⟨bx,0,J⟩,1⟩,⟨[⟨z0,z1⟩],N ⟨bY,0,J⟩,1⟩⟩ #[T (N ⟨bx,0,J⟩) 1 1,T (N ⟨bY,0,J⟩) 1 1] rfl mM.out rfl fQ O J5 ?_;intro v10 iG mo iD;obtain⟨qD,c10,ug,-⟩:=Rd.dE mo;rw[fK,ow]at ug;subst ug;have CG:pE iG B ⟨[⟨x0,x1⟩],N ⟨bx,0,J⟩,1⟩/\pE iG B ⟨[⟨z0,z1⟩],N ⟨bY,0,J⟩,1⟩:=⟨LB.uT (jN.out.1.grown iD (gF fH.out.1.row jN.out.1 aJ)) rfl hbx,LB.uT (jN.out.2.grown iD (gF fH.out.1.row jN.out.2 aJ)) rfl hby⟩;have xq:=I (fH.out.1.more iD mo CG);have hjb:=fH.out.1.blk.grown iD (gF fH.out.1.row fH.out.1.blk aJ);have hxb:=fH.out.2.1.grown iD (gF fH.out.1.row fH.out.2.1 aJ);have nH:Below B w iG:=iI fH.out.2.2 J5 fH.out.1.row iD;have BD:=I hjb;have hC: ∃ d:aK S,iG=d.now:=aK.of ((aR.out _).1 ⟨hjb,hxb,nH⟩);refine hK _ _ (.inr (.inr hC)) ?_;clear hK K iD mo CG hjb hxb jN mM fH
       (try simp only[Zx])
       refine dw (i:=21) ai rfl rfl ?_;intro K hK;go_simp;refine hK _ _ (.inr (.inr hC)) ?_;clear hK K
       (try simp only[Zx])
       refine dw (i:=22) ai rfl rfl ?_;intro K hK;go_simp;refine hK _ _ (.inr (.inr hC)) ?_;clear hK K hC
       (try simp only[Zx])
       refine dw (i:=23) ai rfl rfl ?_;intro K hK;have LY:iG.cell? ⟨h,5,J⟩=N vo:=(BD.out.cell 5).trans (FV O);have H7:iG.frozen? ⟨h,5,J⟩=ag:=BD.out.frozen 5;go_simp;refine hK _ _ (.inr (.inl rfl)) ?_;clear hK K LY H7
       (try simp only[Zx])
       refine kH ai ?_ _;have Tv:=nH.setCell (p:=⟨h,5,J⟩) Na.out.2 (T qD (out.length+1) c10);go_wp2_with fail;go_roundw
       case rel=>exact⟨i+1,u.set i ae,v.set bb ae,T qD (out.length+1) c10,out++ [⟨⟨[⟨x0,x1⟩],N ⟨bx,0,J⟩,1⟩,⟨[⟨z0,z1⟩],N ⟨bY,0,J⟩,1⟩⟩],O,by go_num,xq.out,by rw[Mt.abj];exact Na.out.1,λj h1 h2=>by rw[List.getElem?_set_ne O];exact HU.out j O h2,λh=>O,λ_ _ _=>aL,Tv⟩
       case measure=>simp[intOf];omega
  ·go_wp2_with fail;go_end0;exact⟨rfl,u,v,vo,out,HF.out,HI.out,λh0=>qI.out O h0,hb⟩
end Go.Proofs.YtbedbfdhfokifaaGreat
