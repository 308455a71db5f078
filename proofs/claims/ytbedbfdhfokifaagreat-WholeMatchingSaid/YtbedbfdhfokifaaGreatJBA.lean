/- Part of the proof of WholeMatching. -/
import Derived.Test.YtbedbfdhfokifaaGreatJAW
import Derived.Test.YtbedbfdhfokifaaGreatJAX
namespace Go.Proofs.YtbedbfdhfokifaaGreat
set_option maxRecDepth 100000
set_option maxHeartbeats 16000000
set_option linter.unusedVariables false
set_option linter.unusedSimpArgs false
open _root_.And renaming intro->cz
open _root_.Bool renaming true->ae,false->ag
open Go renaming World->Z,Calls->aF,Addr->aG,undef->aV,Value->aj,maxLen->bK,Ending->eG
open Go.Ending renaming returned->bM
open Go.Fence renaming wide->lC
open Go.IntKind renaming i64->F
open Go.Obj renaming cells->U
open Go.Proofs.Tryz renaming prog->ak
open Go.Value renaming int->G,slice->T,bool->aA,pointer->aN,string->av,agg->az,tuple->bG
open _root_.Option renaming none->J,some->N
open Go.RowKit
section
open Go.RowKit Go.Shelf
attribute [local go_sem] Oper.semAt_some
def zx:aW:=⟨⟨#[]⟩,0,0,0⟩
def Dl (r:aW):Array aj:= #[av r.cK,G F r.kind,G F r.eF,G F r.value]
def aee (o:Option aW) (w:Z) (e:eG) (w':Z):Prop:=
 e= .returned (bG #[az (Dl (o.getD zx)),G F (if o.isSome then 0 else 13)])/\Below w.heap.size w w'
theorem ao1 (aB:Array aj) (ja:ByteArray) (hgs:aB.size=21) (hg0:aB[0]? =N (av ja)) (L:List aW) (A:Option aG) (cp:Nat) (c:ByteArray) (day:Int) (w:Z)
 (hr:Rd w w.heap.size 4 A L.length (cellsOf aW.cells L)) (hw: ∀ r∈L,r.cK.size<=bK/\Wf r.kind/\Wf r.eF) (hv:Rt.valid ja L=ae) (hc:Gr.ed c=ae) (hd:Gr.eZ day=ae) (hne:c≠ja):
 aF ak 228 #[az aB,T A L.length cp,av c,G F day] w (aee (Rt.latest (Rt.oh L c (day - 40) day)) w):=by
 have h1:1<=5:=aJ;have hF: ∀ k:Nat,lC.fn k:=λ_=>trivial
 have HR:=I hr;have hgz:(ak.info? 29).map (·.size)=N aB.size:=by rw[hgs];exact gy
 have HL:L.length<=1000:=by
  simp only[Rt.valid,bR,dm]at hv;exact hv.2.2
 have CL: -4000000000000000000<=day/\day<=4000000000000000000:=by
  simp only[Gr.eZ,bR,dm]at hd;omega
 have KC:=I (λ(W:Z) (g:Nat) (hR:Rd W W.heap.size 4 A L.length (cellsOf aW.cells L)) (hb:au W g 9 #[av c])=>al7 W aB ja hgs hg0 L A cp hR hw hv c hc day hd g 9 hb);have hcs:(c.toList==ja.toList)=ag:=by rw[Dn];exact iw hne
 have b1:Below w.heap.size w ((w.alloc (U aB 29)).alloc (U #[av ⟨#[]⟩,G F 0,G F 0,G F 0] 136)):=((aD _ w).alloc (aC _) _).alloc aL _;clear hw hv hr;refine(jM (n:=5)).1 ?_;refine callsIn_of_wp_marks Tryz.func228 rfl trivial ?_ rfl;simp only[Tryz.ntmps228,nk,gX,mI,Nat.reduceAdd,Nat.reduceSub,qy,qz,qA,qB,oU,oV];gi_upto_region 1 with fail
 have q0:=((au.new w 29 aB).alloc (U #[av ⟨#[]⟩,G F 0,G F 0,G F 0] 136));have q1:=eT w (U aB 29) 136 #[av ⟨#[]⟩,G F 0,G F 0,G F 0];generalize (w.alloc (U aB 29)).alloc (U #[av ⟨#[]⟩,G F 0,G F 0,G F 0] 136)=V0 at*;have hK2:=KC.out (V0.alloc (U #[av c] 9)) V0.heap.size (Rd.now HR.out (b1.alloc b1.size _)) (au.new _ _ _);gi_upto_region 4 with (first
  |(refine LW rfl 29 (.tmp 4) rfl w.heap.size rfl q0 bQ hgz ?_)
  |(gi_at_call 261;refine(jM.2 hK2).mono ?_;rintro e w3 ⟨rfl,hb3⟩))
 have hb4:Below w.heap.size w w3:=(b1.alloc b1.size _).trans (hb3.mono (by have:=b1.size;simp;omega));have Re:=I ((q0.alloc _).step hb3);have vS:=I ((q1.alloc _).step hb3);have k0:w3.cell? ⟨w.heap.size,0,J⟩=N (av ja):=(Re.out.cell 0).trans hg0;have hz3:w.heap.size+1+1<=w3.heap.size:=by have:=vS.out.lt;omega
 clear hb3 q0 q1 b1 KC hK2;gi_upto_region 7 with fail
 have p0:=au.new w3 342 #[av ⟨#[]⟩,G F 0,G F 0,G F 0,aA ag];have HR4:=I (HR.out.below (hb4.alloc hb4.size (U #[av ⟨#[]⟩,G F 0,G F 0,G F 0,aA ag] 342)) (aC _));have p1:=Re.out.alloc (U #[av ⟨#[]⟩,G F 0,G F 0,G F 0,aA ag] 342);have p2:=vS.out.alloc (U #[av ⟨#[]⟩,G F 0,G F 0,G F 0,aA ag] 342);have hb5:=hb4.alloc hb4.size (U #[av ⟨#[]⟩,G F 0,G F 0,G F 0,aA ag] 342);have hs5:(w3.alloc (U #[av ⟨#[]⟩,G F 0,G F 0,G F 0,aA ag] 342)).heap.size=w3.heap.size+1:=aL;generalize w3.alloc (U #[av ⟨#[]⟩,G F 0,G F 0,G F 0,aA ag] 342)=W5 at*;generalize w3.heap.size=h at*;clear k0 Re vS hb4;gi_wp2_with (gi_at_call 259;refine(ab3 lC 4 trivial rfl _ _ _ _ _ _ _).mono ?_;rintro e w6 ⟨rfl,rfl⟩);obtain⟨W0,hW0⟩: ∃ W0,(((W5.alloc (U #[T A L.length cp] 31)).alloc (U #[av c] 9)).alloc (U #[G F (day - 40)] 3)).alloc (U #[G F day] 3)=W0:=⟨_,rfl⟩;have k0:au W0 W5.heap.size 31 #[T A L.length cp]:=by rw[<- hW0];exact(((au.new W5 _ _).alloc _).alloc _).alloc _
 have k1:au W0 (W5.heap.size+1) 9 #[av c]:=by
  rw[<- hW0];exact((eT W5 _ _ _).alloc _).alloc _
 have k2:au W0 (W5.heap.size+1+1) 3 #[G F (day - 40)]:=by
  rw[<- hW0];have:=eT (W5.alloc (U #[T A L.length cp] 31)) (U #[av c] 9) 3 #[G F (day - 40)];rw[fG]at this;exact this.alloc _
 have k3:au W0 (W5.heap.size+1+1+1) 3 #[G F day]:=by
  rw[<- hW0];have:=eT ((W5.alloc (U #[T A L.length cp] 31)).alloc (U #[av c] 9)) (U #[G F (day - 40)] 3) 3 #[G F day]
  rwa [fG,fG]at this
 have hB0:Below W5.heap.size W5 W0:=by rw[<- hW0];exact((((aD _ W5).alloc (aC _) _).alloc aL _).alloc bL _).alloc bL _
 have hsz:W0.heap.size=W5.heap.size+1+1+1+1:=by rw[<- hW0];simp
 rw[hW0];clear hW0;have hb6:Below w.heap.size w W0:=hb5.trans (hB0.mono hb5.size);have r0:=p0.step hB0;have r2:=p2.step hB0;have Gc:=I (HR.out.below hb6 (aC _));clear p0 p1 p2 hB0 HR4 HR;rw[hs5]at k0 k1 k2 k3 hsz;have hhb:h<h+1:=O;clear hs5 hb5;generalize h+1=b at*;refine wpIn_rangeFunc_ownH rfl h1 (gf:=281) (lb:= #[aN (N ⟨b,0,J⟩),aN (N ⟨b+1,0,J⟩),aN (N ⟨b+1+1,0,J⟩),aN (N ⟨b+1+1+1,0,J⟩)]) rfl trivial (enters_of Tryz.func281 ai rfl)
  (ab4 lC 4 trivial rfl O L A cp c (day - 40) day w.heap.size b W0 Gc.out O k0 k1 k2 k3 HL) Lf
  (λW l o o' hl h1 h2 h3=>⟨belowK_b (w:=W0) O W l o o' hl h1 h2 h3,λB _ hB=>World.putObj_heap_other O⟩) (aD _ _) (λ_=>rfl)
  (λpre W=>(au W h 342 (G6 (Rt.latest pre) zx)/\au W (w.heap.size+1) 136 (Dl zx))/\(((au W b 31 #[T A L.length cp]/\au W (b+1) 9 #[av c])/\(au W (b+1+1) 3 #[G F (day - 40)]/\au W (b+1+1+1) 3 #[G F day]))/\Below w.heap.size w W))
  (λ_ _ _=>False)
  (OwnFrom.and (OwnFrom.and (Own.from (Gq h _ (λpre=>G6 (Rt.latest pre) zx)) _) (Own.from (nC _ _ _) _)) (OwnFrom.and (OwnFrom.and (OwnFrom.and (Own.from (nC _ _ _) _) (Own.from (nC _ _ _) _)) (OwnFrom.and (Own.from (nC _ _ _) _) (Own.from (nC _ _ _) _))) (ownFrom_below (aC _) O)))
  (λ_ _ _ _ _ hs _ _=>hs)
  ⟨⟨r0,r2⟩,⟨⟨k0,k1⟩,⟨k2,k3⟩⟩,hb6⟩
  (λx a' W=> ∃ Bx,b+1+1+1<Bx/\au W Bx 136 (Dl x)/\a'= { tmps:= #[az aB,T A L.length cp,av c,G F day,aN (N ⟨w.heap.size,0,J⟩),aV,aV,aV,aN (N ⟨w.heap.size+1,0,J⟩),G F 0,G F 0,aN (N ⟨h,0,J⟩),aN (N ⟨Bx,0,J⟩),az aB,T A L.length cp,G F day,av c,T (N ⟨V0.heap.size,0,J⟩) 1 1,G F 0,G F 0,aA ag,aV,aV,av c,aN (N ⟨w.heap.size,0,J⟩),av ja,aA ag,aV,aV,aV,T A L.length cp,av c,G F day,G F (day - 40),G F day,.func (.func 281) #[] #[aN (N ⟨b,0,J⟩),aN (N ⟨b+1,0,J⟩),aN (N ⟨b+1+1,0,J⟩),aN (N ⟨b+1+1+1,0,J⟩)],az (Dl x),aV,aV,aV,aV,aV,aV,aV,aV],defers:= [] })
  (λx a' _ X Y row hs hg hr=>by obtain⟨Bx,h1,h2,h3⟩:=hs;exact⟨Bx,h1,nC (β:=Unit) Bx _ _ () X Y row h2 hg (λr e=>(hr r e).2),h3⟩)
  ?assign ?body ?done ?stop
 case assign=>
  rintro l' pre x W K ⟨⟨i0,i1⟩,⟨⟨⟨i2,i3⟩,⟨i4,i5⟩⟩,hB1⟩⟩ hK;unfold aW.encS;have TV:=i5.lt;gi_wp2;refine hK _ _ ((KeepsOthers.alloc _ _).from _) (fI.alloc W _ hB1.size O) ⟨⟨i0.alloc _,i1.alloc _⟩,⟨⟨i2.alloc _,i3.alloc _⟩,⟨i4.alloc _,i5.alloc _⟩⟩,hB1.alloc hB1.size _⟩ ⟨W.heap.size,TV,au.new W _ _,rfl⟩
 case body=>
  rintro l' pre x a' W hl ⟨r,hr⟩ ⟨⟨i0,i1⟩,⟨⟨⟨i2,i3⟩,⟨i4,i5⟩⟩,hB1⟩⟩ ⟨Bx,hBx,bX,rfl⟩ hlt;have HS:Hid (Rt.latest (pre++ [x])=Rt.newer (Rt.latest pre) x):=I (by simp[Rt.latest]);have KS:=I (ame W h 342 (Rt.latest pre) zx x i0);unfold Dl at bX |-;have c0:W.cell? ⟨Bx,0,J⟩=N (av x.cK):=bX.cell 0;have c1:W.cell? ⟨Bx,1,J⟩=N (G F x.kind):=bX.cell 1;have c2:W.cell? ⟨Bx,2,J⟩=N (G F x.eF):=bX.cell 2;have c3:W.cell? ⟨Bx,3,J⟩=N (G F x.value):=bX.cell 3;have hh:=i0.lt;have hb3:=i5.lt;have HI:=I (cz (cz i0 i1) (cz (cz (cz i2 i3) (cz i4 i5)) hB1));clear i0 i1 i2 i3 i4 i5 hB1 bX;gi_wp2_with (gi_at_call 262;refine(jM.2 KS.out).mono ?_;rintro e w7 ⟨rfl,hq,hg⟩);have hK:fI w.heap.size b 4 W w7:=⟨(aD _ W).grown hg O (λk e=>by cases e;omega),λB h1 h2=>hg.block B O (by rintro e;cases e;omega)⟩;have hKO:KeepsOthers W w7:=⟨hg.size,λk o hk ho=>(hg.block k (nM.1 hk).1 (λe=>by cases e;rw[show W.heap[h]? =_ from HI.out.1.1]at hk;cases hk;cases ho)).trans hk⟩;have hP:=HI.out.1.2.grown hg (by rintro e;cases e;omega);gi_wp2;refine⟨hKO.from _,hK,⟨by rw[HS.out];exact hq,hP⟩,⟨⟨⟨hK.blk HI.out.2.1.1.1 O O,hK.blk HI.out.2.1.1.2 O O⟩,⟨hK.blk HI.out.2.1.2.1 O O,hK.blk HI.out.2.1.2.2 O O⟩⟩,HI.out.2.2.trans hK.1⟩⟩
 case done=>
  rintro D ys W hD rfl ⟨⟨i0,i1⟩,⟨-,hB1⟩⟩ hK;have ah:=hB1.trans (belowK_b (w:=w) (aC _) W D _ (.deferred J) O hK rfl rfl);have q0:W.cell? ⟨w.heap.size+1,0,J⟩=N (av ⟨#[]⟩):=i1.cell 0;have q1:W.cell? ⟨w.heap.size+1,1,J⟩=N (G F 0):=i1.cell 1;have q2:W.cell? ⟨w.heap.size+1,2,J⟩=N (G F 0):=i1.cell 2;have q3:W.cell? ⟨w.heap.size+1,3,J⟩=N (G F 0):=i1.cell 3;have s0:=i1.frozen 0;have s1:=i1.frozen 1;have s2:=i1.frozen 2;have s3:=i1.frozen 3;have GL:w.heap.size+1≠D:=O;have HP:=I (λr:aW=>((((i1.bZ 0 (av r.cK)).bZ 1 (G F r.kind)).bZ 2 (G F r.eF)).bZ 3 (G F r.value)));have iM:=I (λr:aW=>((((hB1.setCell (p:=⟨w.heap.size+1,0,J⟩) aL (av r.cK)).setCell (p:=⟨w.heap.size+1,1,J⟩) aL (G F r.kind)).setCell (p:=⟨w.heap.size+1,2,J⟩) aL (G F r.eF)).setCell (p:=⟨w.heap.size+1,3,J⟩) aL (G F r.value)));have HD:Hid (∀ r:aW,((((W.setCell ⟨w.heap.size+1,0,J⟩ (av r.cK)).setCell ⟨w.heap.size+1,1,J⟩ (G F r.kind)).setCell ⟨w.heap.size+1,2,J⟩ (G F r.eF)).setCell ⟨w.heap.size+1,3,J⟩ (G F r.value)).heap[D]? =N (.deferred (N []))):=I (λr=>(uZ _ _ _ D (pK GL)).trans ((uZ _ _ _ D (pK GL)).trans ((uZ _ _ _ D (pK GL)).trans ((uZ _ _ _ D (pK GL)).trans hK))));have hi4:(ak.info? 136).map (·.size)=N 4:=ai;clear i1 hB1 ah
  cases ho:Rt.latest (Rt.oh L c (day - 40) day) with
  |none=>
   rw[show L.filter (Rt.hit c (day - 40) day)=Rt.oh L c (day - 40) day from rfl,ho]at i0;have e4:W.cell? ⟨h,4,J⟩=N (aA ag):=i0.cell 4;gi_wp2;refine⟨by simp,.inl ⟨_,_,rfl,run_takeDeferred (HD.out zx),?_⟩⟩;exact⟨_,qY rfl _ _ (w.heap.size+1) 136 (Dl zx) rfl ((World.putObj_heap_other GL).trans (HP.out zx)) Tryz.underlying136 hi4,by rw[ho];rfl,(iM.out zx).trans (belowK_b (w:=w) (aC _) _ D _ _ O (HD.out zx) rfl rfl)⟩
  |some r=>
   rw[show L.filter (Rt.hit c (day - 40) day)=Rt.oh L c (day - 40) day from rfl,ho]at i0;have e4:W.cell? ⟨h,4,J⟩=N (aA ae):=i0.cell 4;have e0:W.cell? ⟨h,0,J⟩=N (av r.cK):=i0.cell 0;have e1:W.cell? ⟨h,1,J⟩=N (G F r.kind):=i0.cell 1;have e2:W.cell? ⟨h,2,J⟩=N (G F r.eF):=i0.cell 2;have e3:W.cell? ⟨h,3,J⟩=N (G F r.value):=i0.cell 3;gi_wp2;refine⟨by simp,.inl ⟨_,_,rfl,run_takeDeferred (HD.out r),?_⟩⟩;exact⟨_,qY rfl _ _ (w.heap.size+1) 136 (Dl r) rfl ((World.putObj_heap_other GL).trans (HP.out r)) Tryz.underlying136 hi4,by rw[ho];rfl,(iM.out r).trans (belowK_b (w:=w) (aC _) _ D _ _ O (HD.out r) rfl rfl)⟩
 case stop=>
  rintro D c pre W _ _ h _;exact h.elim
end
theorem jF {w:Z} {b:Nat} {t:TypeId} {cs:Array aj} (hB:au w b t cs):w.rangeAt b 0 cs.toList:=λj v hv=>by
 rw[nN,hB.cell j,<- q9];exact hv
def Jz (o:Option Int) (w:Z) (e:eG) (w':Z):Prop:=
 e= .returned (bG #[G F (o.getD 0),G F (if o.isSome then 0 else 13)])/\Below w.heap.size w w'
section
variable (w:Z)
theorem ab2 (aB:Array aj) (ja:ByteArray) (hgs:aB.size=21) (hg0:aB[0]? =N (av ja)) (L:List aW) (A:Option aG) (cp:Nat) (c:ByteArray) (day:Int)
 (hr:Rd w w.heap.size 4 A L.length (cellsOf aW.cells L)) (hw: ∀ r∈L,r.cK.size<=bK/\Wf r.kind/\Wf r.eF) (hv:Rt.valid ja L=ae) (hc:Gr.ed c=ae) (hd:Gr.eZ day=ae) (hne:c≠ja):
 aF ak 161 #[az aB,T A L.length cp,av c,G F day] w (Jz (Rt.spot L c day) w):=by
 have hgz:(ak.info? 29).map (·.size)=N aB.size:=by rw[hgs];exact gy
 have hb1:Below w.heap.size w (w.alloc (U aB 29)):=(aD _ w).alloc (aC _) _;have q0:=au.new w 29 aB;have KW:=I (ao1 aB ja hgs hg0 L A cp c day (w.alloc (U aB 29)) (Rd.now hr hb1) hw hv hc hd hne);clear hr hw;go_enter Tryz.func161,Tryz.ntmps161;go_upto_region 1 with fail
 generalize w.alloc (U aB 29)=W at*;have HE:Hid (Rt.spot L c day=(Rt.latest (Rt.oh L c (day - 40) day)).map aW.value):=I rfl;generalize Rt.latest (Rt.oh L c (day - 40) day)=o at*
 rcases o with _|r
 all_goals go_wp2_with (first
  |(refine gP rfl 29 (.tmp 4) rfl w.heap.size 0 rfl aB (jF q0) bQ 21 gy hgs ?_)
  |(go_at_call 228;refine KW.out.mono ?_;rintro e w3 ⟨rfl,hb3⟩;unfold Dl;dsimp only[Option.getD];(try simp only[wV,rD,sV,zI,zJ])))
 all_goals go_ret2
 all_goals refine⟨?_,(hb1.trans (hb3.mono hb1.size)).alloc (by have:=hb3.size;have:=hb1.size;omega) _⟩
 all_goals rw[HE.out]
 all_goals rfl
theorem ama (c1:ByteArray) (k1 t1 v1:Int) (c2:ByteArray) (k2 t2 v2:Int):aF ak 260 #[az #[av c1,G F k1,G F t1,G F v1],az #[av c2,G F k2,G F t2,G F v2]] w λe w'=>e= bM (G F (fO t1 t2))/\w'=(w.alloc (U #[av c1,G F k1,G F t1,G F v1] 136)).alloc (U #[av c2,G F k2,G F t2,G F v2] 136):=by
 go_enter Tryz.func260,Tryz.ntmps260;go_wp2_with (first|(go_at_call 38;refine(Cj _ _ _).mono ?_;rintro e w3 ⟨rfl,rfl⟩));go_ret;exact⟨rfl,rfl⟩
theorem anA (L:List aW) (A:Option aG) (cp:Nat) (c:ByteArray) (k t:Int) (hr:Rd w w.heap.size 4 A L.length (cellsOf aW.cells L)) (hl:L.length<=1000):
 aF ak 227 #[T A L.length cp,av c,G F k,G F t] w λe w'=>e= .returned (bG #[G F ((Rt.Ao L c k t).elim 0 aW.value),aA (Rt.Ao L c k t).isSome])/\Below w.heap.size w w':=by
 have HR:=I hr;have hb:=aD w.heap.size w;have HE:Hid (∀ j,j<L.length-> ∀ h:j<L.length,(∀ i (hi:i<L.length),i<j->Rt.sameKey L[i] ⟨c,k,t,0⟩=ag)->Rt.sameKey L[j] ⟨c,k,t,0⟩=ae->Rt.Ao L c k t=N L[j]):=I (λj _ h h1 h2=>by
  unfold Rt.Ao;rw[Vt];exact⟨h2,j,h,rfl,λi hi=>by simpa using h1 i O hi⟩)
 have HN:Hid ((∀ i (hi:i<L.length),Rt.sameKey L[i] ⟨c,k,t,0⟩=ag)->Rt.Ao L c k t=J):=I (λh=>by
  unfold Rt.Ao;rw[Ii];intro x hx;obtain⟨i,hi,rfl⟩:=iK.1 hx;rw[h i hi]
  decide)
 clear hr;go_enter Tryz.func227,Tryz.ntmps227;go_wp2_with fail;go_loopw [14] (λi wr=> ∃ j:Nat,j<=L.length/\i= .int .i64 j/\Below w.heap.size w wr/\(∀ i (hi:i<L.length),i<j->Rt.sameKey L[i] ⟨c,k,t,0⟩=ag)) (λi _=>L.length - (intOf i).toNat)
 case atStart=>exact⟨0,lq _,rfl,hb,λi _ h=>O⟩
 case round=>
  clear hb;obtain⟨j,hj,rfl,hb,hno⟩:=hrel;have eH:=I hno;clear hno
  by_cases hlt:j<L.length
  ·obtain⟨bb,o,hA,aX,f0,f1,f2,f3⟩:=aW.at_ (HR.out.below hb (aC _)) hlt;subst hA;have HJ:=I (HE.out j hlt hlt eH.out);have HK:Hid (Rt.sameKey L[j] ⟨c,k,t,0⟩=((L[j].cK.toList==c.toList)&&((L[j].kind==k)&&(L[j].eF==t)))):=I (by rw[Dn];rfl);have HX:Hid (Rt.sameKey L[j] ⟨c,k,t,0⟩=ag-> ∀ i (hi:i<L.length),i<j+1->Rt.sameKey L[i] ⟨c,k,t,0⟩=ag):=I (λh i hi h2=>by
    rcases Nat.lt_succ_iff_lt_or_eq.1 h2 with h3|rfl
    ·exact eH.out i hi h3
    ·exact h)
   generalize L[j]=rr at*;obtain⟨xc,xk,xw,xv⟩:=rr;dsimp only at*;have hb1:=hb.alloc hb.size (U #[av xc,G F xk,G F xw,G F xv] 136);have hnb:=I (au.new wr 136 #[av xc,G F xk,G F xw,G F xv])
   by_cases hs:((xc.toList==c.toList)&&((xk==k)&&(xw==t)))=ag
   ·have dn:=I (HX.out (HK.out.trans hs))
    rcases hc1:(xc.toList==c.toList) with _|_
    ·go_wp2_with (go_at_call 101;refine(LJ _ _ _ _ _).mono ?_;rintro e w3 ⟨rfl,ah⟩;have hb3:=ay hb1 ah);go_roundw
     case rel=>exact⟨j+1,O,by go_num,hb3,dn.out⟩
     case measure=>simp[intOf];omega
    rcases hc2:(xk==k) with _|_
    ·go_wp2_with (go_at_call 101;refine(LJ _ _ _ _ _).mono ?_;rintro e w3 ⟨rfl,ah⟩;have hb3:=ay hb1 ah);go_roundw
     case rel=>exact⟨j+1,O,by go_num,hb3,dn.out⟩
     case measure=>simp[intOf];omega
    rcases hc3:(xw==t) with _|_
    ·go_wp2_with (go_at_call 101;refine(LJ _ _ _ _ _).mono ?_;rintro e w3 ⟨rfl,ah⟩;have hb3:=ay hb1 ah);go_roundw
     case rel=>exact⟨j+1,O,by go_num,hb3,dn.out⟩
     case measure=>simp[intOf];omega
    simp[hc1,hc2,hc3]at hs
   ·have hs':((xc.toList==c.toList)&&((xk==k)&&(xw==t)))=ae:=by simpa using hs
    have HF:=I (HJ.out (HK.out.trans hs'));simp only[bR]at hs';obtain⟨hc1,hc2,hc3⟩:=hs';clear hs HX;go_wp2_with (go_at_call 101;refine(LJ _ _ _ _ _).mono ?_;rintro e w3 ⟨rfl,ah⟩;have hb3:=ay hb1 ah;have g3:w3.cell? ⟨wr.heap.size,3,J⟩=N (G F xv):=(hnb.out.step ah).cell 3);go_ret2;exact⟨by rw[HF.out];rfl,hb3⟩
  ·have HZ:=I (HN.out (λi hi=>eH.out i hi O));go_wp2_with fail;go_ret2;exact⟨by rw[HZ.out];rfl,hb⟩
end
section
open Go.RowKit Go.Shelf Go.Sort
attribute [local go_sem] Oper.semAt_some
def NH (n:Nat) (l:List aW) (w:Z) (e:eG) (w':Z):Prop:= ∃ v,e= .returned v/\w'.ownsRow n 136 4 v l.length (cellsOf aW.cells l)/\Below n w w'
theorem anx (L:List aW) (A:Option aG) (cp:Nat) (c:ByteArray) (x0 y0:Int) (b:Nat) (w:Z) (hr:Rd w w.heap.size 4 A L.length (cellsOf aW.cells L)) (b0:au w b 31 #[T A L.length cp]) (b1:au w (b+1) 9 #[av c]) (b2:au w (b+1+1) 3 #[G F x0]) (b3:au w (b+1+1+1) 3 #[G F y0]) (hln:L.length<=1000):
 aF ak 297 #[T J 0 0,.func (.func 281) #[] #[aN (N ⟨b,0,J⟩),aN (N ⟨b+1,0,J⟩),aN (N ⟨b+1+1,0,J⟩),aN (N ⟨b+1+1+1,0,J⟩)]] w (NH w.heap.size (Rt.oh L c x0 y0) w):=by
 have h1:1<=5:=aJ;have hF: ∀ k:Nat,lC.fn k:=λ_=>trivial
 obtain⟨i0,hi,hz0,hz1,hz2⟩:=jh aW.info;have hlt:=b3.lt;have hB0:Below w.heap.size w (w.alloc (U #[T J 0 0] 31)):=(aD _ w).alloc (aC _) _;have bO:=Boxed.new w 31 (T J 0 0);have c0:=b0.alloc (U #[T J 0 0] 31);have c1:=b1.alloc (U #[T J 0 0] 31);have c2:=b2.alloc (U #[T J 0 0] 31);have c3:=b3.alloc (U #[T J 0 0] 31);have hR:=hr.below hB0 (aC _);have hsz:(w.alloc (U #[T J 0 0] 31)).heap.size=w.heap.size+1:=aL;refine(jM (n:=5)).1 ?_;refine callsIn_of_wp_marks Tryz.func297 rfl trivial ?_ rfl;simp only[Tryz.ntmps297,nk,gX,mI,Nat.reduceAdd,Nat.reduceSub,qy,qz,qA,qB,oU,oV];gi_wp2;generalize w.alloc (U #[T J 0 0] 31)=W0 at*;refine wpIn_rangeFunc_ownH rfl h1 (gf:=281) (lb:= #[aN (N ⟨b,0,J⟩),aN (N ⟨b+1,0,J⟩),aN (N ⟨b+1+1,0,J⟩),aN (N ⟨b+1+1+1,0,J⟩)]) rfl trivial (enters_of Tryz.func281 ai rfl)
  (ab4 lC 4 trivial rfl O L A cp c x0 y0 w.heap.size b W0 hR O c0 c1 c2 c3 hln) Lf
  (λW l o o' hl h1 h2 h3=>⟨belowK_b (w:=W0) O W l o o' hl h1 h2 h3,λB _ hB=>World.putObj_heap_other O⟩) (aD _ _) (λ_=>rfl)
  (λpre W=>(∃ v,Boxed W w.heap.size 31 v/\W.ownsRow w.heap.size 136 4 v pre.length (cellsOf aW.cells pre)/\True)/\Below w.heap.size w W)
  (λ_ _ _=>False)
  (OwnFrom.and (Own.from (holdsRow_own w.heap.size w.heap.size 31 136 4 (λ(pre:List aW)=>pre.length) (λpre=>cellsOf aW.cells pre) (λ_ _=>True)) _) (ownFrom_below (aC _) O))
  (λ_ _ _ _ _ hs _ _=>hs)
  ⟨⟨_,bO,jZ _ _ _ _,trivial⟩,hB0⟩
  (λx a' W=> ∃ Bx,w.heap.size<Bx/\au W Bx 136 #[av x.cK,G F x.kind,G F x.eF,G F x.value]/\a'= { tmps:= #[T J 0 0,.func (.func 281) #[] #[aN (N ⟨b,0,J⟩),aN (N ⟨b+1,0,J⟩),aN (N ⟨b+1+1,0,J⟩),aN (N ⟨b+1+1+1,0,J⟩)],aN (N ⟨w.heap.size,0,J⟩),aV,T J 0 0,aN (N ⟨Bx,0,J⟩),.func (.func 281) #[] #[aN (N ⟨b,0,J⟩),aN (N ⟨b+1,0,J⟩),aN (N ⟨b+1+1,0,J⟩),aN (N ⟨b+1+1+1,0,J⟩)],az #[av x.cK,G F x.kind,G F x.eF,G F x.value],aV,aV,aV,aV,aV],defers:= [] })
  (λx a' _ X Y row hs hg hr=>by obtain⟨Bx,h1,h2,h3⟩:=hs;exact⟨Bx,h1,nC (β:=Unit) Bx _ _ () X Y row h2 hg (λr e=>(hr r e).2),h3⟩)
  ?assign ?body ?done ?stop
 case assign=>
  rintro l' pre x W K ⟨⟨v,hv,hrow,-⟩,hB1⟩ hK;unfold aW.encS;gi_wp2;exact hK _ _ ((KeepsOthers.alloc _ _).from _) (fI.alloc W _ hB1.size (by have:=hB1.size;omega)) ⟨⟨v,hv.alloc _,hrow.alloc _,trivial⟩,hB1.alloc hB1.size _⟩ ⟨W.heap.size,hv.lt,au.new W _ _,rfl⟩
 case body=>
  rintro l' pre x a' W hl ⟨r,hr⟩ ⟨⟨v,hv,hrow,-⟩,hB1⟩ ⟨Bx,hBx,bX,rfl⟩ hlt;have p0:W.cell? ⟨Bx,0,J⟩=N (av x.cK):=bX.cell 0;have p1:W.cell? ⟨Bx,1,J⟩=N (G F x.kind):=bX.cell 1;have p2:W.cell? ⟨Bx,2,J⟩=N (G F x.eF):=bX.cell 2;have p3:W.cell? ⟨Bx,3,J⟩=N (G F x.value):=bX.cell 3;have cO:=hv.cell;have hpl:pre.length<=1000:=by
   have:=FM (Rt.hit c x0 y0) L;omega
  have hz:=hB1.size;gi_wp2_with (gi_at_builtin;refine wpListIn_append_own _ rfl _ _ 31 rfl w.heap.size 136 i0 _ 4 40 Tryz.underlying31 hi hz0 hz1 hz2 rfl aJ _ _ _ rfl (hrow.alloc (U #[av x.cK,G F x.kind,G F x.eF,G F x.value] 136)) ⟨W.heap.size,0,J⟩ 1 1 (aW.cells x) rfl rfl (Cf W _ _ _ rfl) (aW.one x) (by simp only[bK];omega) O bL ?_;intro v' w1 hown' hgrow _;obtain⟨g',cap',rfl⟩:=ownsRow_succ hown';obtain⟨hv1,hv2,hr2,hk2,hb2⟩:=hv.appended aJ hrow hz O hown' hgrow;have hc1:=hv1.cell;have hf1:=hv1.frozen);exact⟨hk2.from _,⟨hb2,λB h1 h2=>hb2.block B O⟩,⟨⟨_,hv2,by rw[fK,ow,y8,show cellsOf aW.cells [x]=aW.cells x from by simp[cellsOf]];exact hr2,trivial⟩,hB1.trans hb2⟩⟩
 case done=>
  rintro D ys W hD rfl ⟨⟨v,hv,hrow,-⟩,hB1⟩ hK;have hc:=hv.cell;gi_wp2;refine⟨by simp,.inl ⟨_,_,rfl,run_takeDeferred hK,?_⟩⟩;exact⟨_,results_tmp rfl _ _ _,v,rfl,ownsRow_putObj hrow _ hK rfl,hB1.trans (belowK_b (w:=w) (aC _) W D _ _ O hK rfl rfl)⟩
 case stop=>
  rintro D c pre W _ _ h _;exact h.elim
def Dm (b:Nat):aj:= .func (.func 281) #[] #[aN (N ⟨b,0,J⟩),aN (N ⟨b+1,0,J⟩),aN (N ⟨b+1+1,0,J⟩),aN (N ⟨b+1+1+1,0,J⟩)]
theorem anz (l:List aW) (b:Nat) (w:Z) (h:aF ak 297 #[T J 0 0,Dm b] w (NH w.heap.size l w)):
 aF ak 279 #[Dm b] w (NH w.heap.size l w):=by
 unfold Dm at*;have K:=I h;clear h;go_enter Tryz.func279,Tryz.ntmps279;go_wp2_with (go_at_call 297;refine K.out.mono ?_;rintro e w2 ⟨v,rfl,ho,hb⟩);go_ret;exact⟨v,rfl,ho,hb⟩
def NZ (x y:aW):Int:=fO x.eF y.eF
theorem afN: ∀ args w,(callFunc 260 args).run ak w= .ok (.enter 260 args) w:=enters_of Tryz.func260 ai rfl
theorem afM (blk off size:Nat) (w:Z):CmpLays ak 260 #[] aW.cells 4 NZ blk off size w:=by
 intro m os dk hs x y;refine(ama (sortWorldK aW.cells 4 w blk off m dk os) x.cK x.kind x.eF x.value y.cK y.kind y.eF y.value).mono ?_;rintro e w' ⟨rfl,rfl⟩;refine⟨rfl,?_⟩;have:=(((iy.refl (sortWorldK aW.cells 4 w blk off m dk os)).alloc (U #[av x.cK,G F x.kind,G F x.eF,G F x.value] 136)).alloc (U #[av y.cK,G F y.kind,G F y.eF,G F y.value] 136));exact this
theorem anw {w:Z} {base:Nat} {v:aj} {l:List aW} (hl:l.length<1000000000) (h:w.ownsRow base 136 4 v l.length (cellsOf aW.cells l)):
 aF ak 280 #[v,.func (.func 260) #[] #[]] w (NK aW.cells 4 base 136 v l w):=
 UT Tryz.an4 aW.len aW.one Tryz.isAgg136 Tryz.sizeOf136 NZ (Py (λx=>x.eF) (λ_=>0) NZ (λx y=>by unfold NZ fO;split<;>(try split)<;>omega)) 260 #[] afN (λb o z=>afM b o z w) hl h
theorem anC (l:List aW) (hl:l.length<1000000000) (b:Nat) (w:Z) (h:aF ak 297 #[T J 0 0,Dm b] w (NH w.heap.size l w)):
 aF ak 258 #[Dm b,.func (.func 260) #[] #[]] w λe w'=> ∃ v l2,l2.Perm l/\e= .returned v/\w'.ownsRow w.heap.size 136 4 v l2.length (cellsOf aW.cells l2)/\Below w.heap.size w w':=by
 have K:=I (anz l b w h);unfold Dm at*;clear h;go_enter Tryz.func258,Tryz.ntmps258;go_wp2_with (first
  |(go_at_call 279;refine K.out.mono ?_;rintro e w2 ⟨v,rfl,ho,hb⟩;have hz:=hb.size)
  |(go_at_call 280;refine(anw hl ho).mono ?_;rintro e w3 ⟨rfl,l2,hp,ho3,hg3⟩))
 go_ret;exact⟨v,l2,hp,rfl,ho3,iI hb hz ho hg3⟩
end
section
variable (w:Z)
theorem amd (aB:Array aj) (ja:ByteArray) (Y M P p:Int) (hgs:aB.size=21) (hg0:aB[0]? =N (av ja)) (hg1:aB[1]? =N (G F Y)) (hg2:aB[2]? =N (G F M)) (hg3:aB[3]? =N (G F P)) (L:List aW) (A:Option aG) (cp:Nat) (c:ByteArray)
 (hr:Rd w w.heap.size 4 A L.length (cellsOf aW.cells L)) (hw: ∀ r∈L,r.cK.size<=bK/\Wf r.kind/\Wf r.eF) (hv:Rt.valid ja L=ae) (hc:Gr.ed c=ae) (hok:ax.ok Y M P=ae) (hp:ax.bJ Y M P p=0):
 aF ak 257 #[az aB,T A L.length cp,av c,G F p] w λe w'=>e= .returned (bG #[G F (ax.gW Y M P p),G F (ax.cB Y M P p),G F 0])/\Below w.heap.size w w':=by
 have hgz:(ak.info? 29).map (·.size)=N aB.size:=by rw[hgs];exact gy
 have hb1:Below w.heap.size w (w.alloc (U aB 29)):=(aD _ w).alloc (aC _) _;have q0:=I (au.new w 29 aB);have HR:=I (Rd.now hr hb1);have HW:=I hw;have KF:Hid (∀ W:Z,aF ak 43 #[az #[G F Y,G F M,G F P],G F p] W λe w'=>e= .returned (bG #[G F (ax.gW Y M P p),G F 0])/\Below W.heap.size W w'):=I (λW=>by have:=Sd Y M P p W;rwa [hp]at this);have KL:Hid (∀ W:Z,aF ak 15 #[az #[G F Y,G F M,G F P],G F p] W λe w'=>e= .returned (bG #[G F (ax.cB Y M P p),G F 0])/\Below W.heap.size W w'):=I (λW=>by have:=Gu Y M P p W;rwa [hp]at this);have KV:Hid (∀ W:Z,aF ak 122 #[az #[G F Y,G F M,G F P]] W λe w'=>e= .returned (aA ae)/\Below W.heap.size W w'):=I (λW=>by have:=Cb Y M P W;rwa [hok]at this);clear hr hw;go_enter Tryz.func257,Tryz.ntmps257;go_upto_region 1 with fail
 generalize w.alloc (U aB 29)=W at*;have k0:W.cell? ⟨w.heap.size,0,J⟩=N (av ja):=(q0.out.cell 0).trans hg0;go_wp2_with (first
  |(go_at_call 69;refine(Pt ja L A cp _ HR.out HW.out hv).mono ?_;rintro e w3 ⟨rfl,ah⟩;have hb3:=ay hb1 ah;have q3:=I (q0.out.step ah);clear ah)
  |(go_at_call 102;refine(Ps _ _ hc).mono ?_;rintro e w4 ⟨rfl,ah⟩;have hb4:=ay hb3 ah;have q4:=I (q3.out.step ah);clear ah;have k1:=(q4.out.cell 1).trans hg1;have k2:=(q4.out.cell 2).trans hg2;have k3:=(q4.out.cell 3).trans hg3)
  |(go_at_call 122;refine(KV.out _).mono ?_;rintro e w5 ⟨rfl,ah⟩;have hb5:=ay hb4 ah;have q5:=I (q4.out.step ah);clear ah;have l1:=(q5.out.cell 1).trans hg1;have l2:=(q5.out.cell 2).trans hg2;have l3:=(q5.out.cell 3).trans hg3)
  |(go_at_call 43;refine(KF.out _).mono ?_;rintro e w6 ⟨rfl,ah⟩;have hb6:=ay hb5 ah;have q6:=I (q5.out.step ah);clear ah;have m1:=(q6.out.cell 1).trans hg1;have m2:=(q6.out.cell 2).trans hg2;have m3:=(q6.out.cell 3).trans hg3)
  |(go_at_call 15;refine(KL.out _).mono ?_;rintro e w7 ⟨rfl,ah⟩;have fu:=ay hb6 ah;clear ah))
 go_ret3;exact⟨rfl,fu⟩
end
section
variable (w:Z)
theorem amb (aB:Array aj) (ja:ByteArray) (Y M P p:Int) (hgs:aB.size=21) (hg0:aB[0]? =N (av ja)) (hg1:aB[1]? =N (G F Y)) (hg2:aB[2]? =N (G F M)) (hg3:aB[3]? =N (G F P)) (L:List aW) (A:Option aG) (cp:Nat) (c:ByteArray)
 (hr:Rd w w.heap.size 4 A L.length (cellsOf aW.cells L)) (hw: ∀ r∈L,r.cK.size<=bK/\Wf r.kind/\Wf r.eF) (hv:Rt.valid ja L=ae) (hc:Gr.ed c=ae) (hok:ax.ok Y M P=ae) (hp:ax.bJ Y M P p=0):
 aF ak 226 #[az aB,T A L.length cp,av c,G F p] w λe w'=> ∃ v l2,l2.Perm (Rt.oh L c (ax.gW Y M P p) (ax.cB Y M P p))/\e= .returned (.tuple #[v,G F 0])/\w'.ownsRow w.heap.size 136 4 v l2.length (cellsOf aW.cells l2)/\Below w.heap.size w w':=by
 have HL:L.length<=1000:=by
  simp only[Rt.valid,bR,dm]at hv;exact hv.2.2
 have hb1:Below w.heap.size w (w.alloc (U aB 29)):=(aD _ w).alloc (aC _) _;have q0:=au.new w 29 aB;have KP:=I (amd (w.alloc (U aB 29)) aB ja Y M P p hgs hg0 hg1 hg2 hg3 L A cp c (Rd.now hr hb1) hw hv hc hok hp);have HR:=I hr;have Ro:Hid ((Rt.oh L c (ax.gW Y M P p) (ax.cB Y M P p)).length<1000000000):=I (by
  have:=FM (Rt.hit c (ax.gW Y M P p) (ax.cB Y M P p)) L;unfold Rt.oh;omega)
 clear hr hw;generalize ax.gW Y M P p=x0 at*;generalize ax.cB Y M P p=y0 at*;go_enter Tryz.func226,Tryz.ntmps226;go_upto_region 1 with fail
 generalize w.alloc (U aB 29)=W at*;go_upto_region 4 with (first
  |(refine gP rfl 29 (.tmp 4) rfl w.heap.size 0 rfl aB (jF q0) bQ 21 gy hgs ?_)
  |(go_at_call 257;refine KP.out.mono ?_;rintro e w3 ⟨rfl,ah⟩;have hb3:=ay hb1 ah;clear ah))
 have KI:Hid (aF ak 259 #[T A L.length cp,av c,G F x0,G F y0] w3 λee w'=>ee= bM (Dm w3.heap.size)/\w'=(((w3.alloc (U #[T A L.length cp] 31)).alloc (U #[av c] 9)).alloc (U #[G F x0] 3)).alloc (U #[G F y0] 3)):=I ((jM (n:=9)).1 (ab3 lC 9 trivial rfl A L.length cp c x0 y0 w3));have k0:au ((((w3.alloc (U #[T A L.length cp] 31)).alloc (U #[av c] 9)).alloc (U #[G F x0] 3)).alloc (U #[G F y0] 3)) w3.heap.size 31 #[T A L.length cp]:=(((au.new w3 _ _).alloc _).alloc _).alloc _;have k1:au ((((w3.alloc (U #[T A L.length cp] 31)).alloc (U #[av c] 9)).alloc (U #[G F x0] 3)).alloc (U #[G F y0] 3)) (w3.heap.size+1) 9 #[av c]:=((eT w3 _ _ _).alloc _).alloc _;have k2:au ((((w3.alloc (U #[T A L.length cp] 31)).alloc (U #[av c] 9)).alloc (U #[G F x0] 3)).alloc (U #[G F y0] 3)) (w3.heap.size+1+1) 3 #[G F x0]:=by
  have:=eT (w3.alloc (U #[T A L.length cp] 31)) (U #[av c] 9) 3 #[G F x0];rw[fG]at this;exact this.alloc _
 have k3:au ((((w3.alloc (U #[T A L.length cp] 31)).alloc (U #[av c] 9)).alloc (U #[G F x0] 3)).alloc (U #[G F y0] 3)) (w3.heap.size+1+1+1) 3 #[G F y0]:=by
  have:=eT ((w3.alloc (U #[T A L.length cp] 31)).alloc (U #[av c] 9)) (U #[G F x0] 3) 3 #[G F y0]
  rwa [fG,fG]at this
 have hB0:Below w.heap.size w ((((w3.alloc (U #[T A L.length cp] 31)).alloc (U #[av c] 9)).alloc (U #[G F x0] 3)).alloc (U #[G F y0] 3)):=(((hb3.alloc hb3.size _).alloc (by have:=hb3.size;simp;omega) _).alloc (by have:=hb3.size;simp;omega) _).alloc (by have:=hb3.size;simp;omega) _;generalize hW4:(((w3.alloc (U #[T A L.length cp] 31)).alloc (U #[av c] 9)).alloc (U #[G F x0] 3)).alloc (U #[G F y0] 3)=W4 at*;have KS:=I (anC (Rt.oh L c x0 y0) Ro.out w3.heap.size W4 (anx L A cp c x0 y0 w3.heap.size W4 (Rd.now HR.out hB0) k0 k1 k2 k3 HL));unfold Dm at KI KS;clear k0 k1 k2 k3 hW4 q0 KP;go_wp2_with (first
  |(go_at_call 259;refine KI.out.mono ?_;rintro e w5 ⟨rfl,rfl⟩)
  |(go_at_call 258;refine KS.out.mono ?_;rintro e w6 ⟨v,l2,hp6,rfl,ER,hb6⟩))
 go_ret2;exact⟨v,l2,hp6,rfl,oO ER hB0.size,hB0.trans (hb6.mono hB0.size)⟩
theorem al6 (aB:Array aj) (ja:ByteArray) (Y M P p:Int) (hgs:aB.size=21) (hg0:aB[0]? =N (av ja)) (hg1:aB[1]? =N (G F Y)) (hg2:aB[2]? =N (G F M)) (hg3:aB[3]? =N (G F P)) (L:List aW) (A:Option aG) (cp:Nat) (c:ByteArray)
 (hr:Rd w w.heap.size 4 A L.length (cellsOf aW.cells L)) (hw: ∀ r∈L,r.cK.size<=bK/\Wf r.kind/\Wf r.eF) (hv:Rt.valid ja L=ae) (hc:Gr.ed c=ae) (hok:ax.ok Y M P=ae) (hp:ax.bJ Y M P p=0) (hne:c≠ja):
 aF ak 160 #[az aB,T A L.length cp,av c,G F p] w (Jz (Rt.BU L c p (ax.gW Y M P p) (ax.cB Y M P p)) w):=by
 have HL:L.length<=1000:=by
  simp only[Rt.valid,bR,dm]at hv;exact hv.2.2
 have hcs:(c.toList==ja.toList)=ag:=by rw[Dn];exact iw hne
 have hb1:Below w.heap.size w (w.alloc (U aB 29)):=(aD _ w).alloc (aC _) _;have q0:=au.new w 29 aB;have KD:=I (amb (w.alloc (U aB 29)) aB ja Y M P p hgs hg0 hg1 hg2 hg3 L A cp c (Rd.now hr hb1) hw hv hc hok hp);have HR:=I hr;have Ro:Hid ((Rt.oh L c (ax.gW Y M P p) (ax.cB Y M P p)).length<=1000):=I (by
  have:=FM (Rt.hit c (ax.gW Y M P p) (ax.cB Y M P p)) L;unfold Rt.oh;omega)
 have HV:Hid (∀ r∈Rt.oh L c (ax.gW Y M P p) (ax.cB Y M P p),1<=r.value/\r.value<=1000000000000):=I λr hr=>by
  have:=Rt.PK hv r (vF.1 hr).1;simp only[Rt.proper,bR,dm]at this;exact⟨this.2.2.1,this.2.2.2.1⟩
 have HA:Hid (Rt.BU L c p (ax.gW Y M P p) (ax.cB Y M P p)=match Rt.Ao L c 2 p with
  |some r=>N r.value
  |none=>if Rt.oh L c (ax.gW Y M P p) (ax.cB Y M P p)= [] then J else N (Rt.mean (Rt.oh L c (ax.gW Y M P p) (ax.cB Y M P p)))):=I rfl
 generalize Rt.BU L c p (ax.gW Y M P p) (ax.cB Y M P p)=R at*;clear hr hw;generalize Rt.oh L c (ax.gW Y M P p) (ax.cB Y M P p)=SP at*;go_enter Tryz.func160,Tryz.ntmps160;go_upto_region 1 with fail
 generalize w.alloc (U aB 29)=W at*;go_upto_region 4 with (first
  |(refine gP rfl 29 (.tmp 4) rfl w.heap.size 0 rfl aB (jF q0) bQ 21 gy hgs ?_)
  |(go_at_call 226;refine KD.out.mono ?_;rintro e w3 ⟨v,l2,hpm,rfl,ho3,ah⟩))
 have hb3:=ay hb1 ah;have k0:w3.cell? ⟨w.heap.size,0,J⟩=N (av ja):=((q0.step ah).cell 0).trans hg0;obtain⟨A2,c2,rfl,hrd⟩:=Rd.dE ho3;have oI:=I hrd;have HPM:=I hpm;have hll:l2.length=SP.length:=hpm.length_eq;have HS2:Hid (Rt.kX l2=Rt.kX SP):=I (Rt.aoA hpm);have kW:Hid (∀ r∈l2,1<=r.value/\r.value<=1000000000000):=I λr hr=>HV.out r (hpm.mem_iff.1 hr)
 have KF:=I (anA w3 L A cp c 2 p (Rd.now HR.out hb3) HL);have hW:w.heap.size+1<=W.heap.size:=by have:=q0.lt;omega
 clear ho3 hpm hrd q0 KD ah hb1
 cases hf:Rt.Ao L c 2 p with
 |some r=>
  rw[hf]at KF HA;simp only[Option.elim,rD]at KF;go_wp2_with (go_at_call 227;refine KF.out.mono ?_;rintro e w4 ⟨rfl,ah⟩;have hb4:=ay hb3 ah;clear ah);go_ret2;exact⟨by rw[HA.out];rfl,hb4⟩
 |none=>
  rw[hf]at KF HA;simp only[Option.elim,wV]at KF
  by_cases hz:SP.length=0
  ·have h0:SP= []:=zC hz;rw[hz]at hll;rw[hll];go_wp2_with (go_at_call 227;refine KF.out.mono ?_;rintro e w4 ⟨rfl,ah⟩;have hb4:=ay hb3 ah;clear ah);go_ret2;exact⟨by rw[HA.out];simp[h0],hb4⟩
  ·have hz2:((l2.length:Int)==0)=ag:=vH O;have Rh:Hid (R=N ((2*Rt.kX l2+l2.length) / (2*l2.length))):=I (by
    rw[HA.out,bE (by intro h;rw[h]at hz;exact hz rfl),HS2.out,hll];rfl)
   have hbd:=Rt.U9 l2 kW.out;have adJ:=Ro.out;rw[<- hll]at adJ;clear HA;go_wp2_with (go_at_call 227;refine KF.out.mono ?_;rintro e w4 ⟨rfl,ah⟩;have hb4:=ay hb3 ah;have ady:=I (Rd.now oI.out ah);clear ah);go_loopw [14,46] (λs i wr=> ∃ j:Nat,j<=l2.length/\s= G F (Rt.kX (l2.take j))/\i= G F j/\Below w.heap.size w wr/\Below w4.heap.size w4 wr) (λ_ i _=>l2.length - (intOf i).toNat)
   case atStart=>exact⟨0,lq _,rfl,rfl,hb4,aD _ _⟩
   case round=>
    obtain⟨j,hj,rfl,rfl,hb5,hb6⟩:=hrel
    by_cases hlt:j<l2.length
    ·obtain⟨bb,o,hA,aX,f0,f1,f2,f3⟩:=aW.at_ (ady.out.below hb6 (aC _)) hlt;subst hA;have HT:Hid (Rt.kX (l2.take (j+1))=Rt.kX (l2.take j)+l2[j].value):=I (by
      rw[gY hlt,Rt.aoz];simp[Rt.kX])
     have h1:=Rt.U9 (l2.take j) (λr hr=>kW.out r (FQ hr));have h2:=kW.out l2[j] (bP hlt);rw[List.length_take_of_le hj]at h1;generalize Rt.kX (l2.take j)=sj at*;generalize l2[j]=rr at*;obtain⟨xc,xk,xw,xv⟩:=rr;dsimp only at*;go_wp2_with fail;go_roundw
     case rel=>exact⟨j+1,O,by rw[HT.out],by go_num,hb5.alloc hb5.size _,hb6.alloc hb6.size _⟩
     case measure=>simp[intOf];omega
    ·have HE:Hid (l2.take j=l2):=I (kS O);rw[HE.out];generalize Rt.kX l2=sj at*;have hq:((2*(l2.length:Int))==0)=ag:=vH O;go_wp2_with fail;go_ret2;refine⟨?_,hb5⟩;rw[Rh.out];simp only[rz,rD,sV];rw[hll]
     rfl
end
end Go.Proofs.YtbedbfdhfokifaaGreat
