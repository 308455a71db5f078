/- Part of the proof of WholeMatching. -/
import Derived.Test.YtbedbfdhfokifaaGreatJBD
import Derived.Test.YtbedbfdhfokifaaGreatJBE
namespace Go.Proofs.YtbedbfdhfokifaaGreat
set_option maxRecDepth 100000
set_option maxHeartbeats 16000000
set_option linter.unusedVariables false
set_option linter.unusedSimpArgs false
open _root_.And renaming intro->cz
open _root_.Bool renaming true->ae,false->ag
open Go renaming World->Z,Calls->aF,Addr->aG,Value->aj,maxLen->bK,Program->dH,Ending->eG
open Go.Ending renaming returned->bM
open Go.IntKind renaming i64->F
open Go.Obj renaming cells->U
open Go.Proofs.Tryz renaming prog->ak
open Go.Value renaming int->G,slice->T,bool->aA,pointer->aN,string->av,agg->az,tuple->bG,ownBlock->yz
open _root_.Option renaming none->J,some->N
open Go.RowKit
theorem aaw {Y M P q:Int} (h:ax.bJ Y M P q=0):Gr.eZ (ax.cB Y M P q)=ae:=by
 obtain⟨k0,k1,k2⟩:=(ax.Aj Y M P q).1 h;obtain⟨t0,t1⟩:=ax.yu Y M P q k0 k1 k2;have h1:=ax.Sz _ t0 t1;have h2:=((ax.Um Y M P (ax.ld (ax.tm Y M q)) q k0 k1 k2).1 ⟨by omega,Int.le_refl _⟩).1;unfold ax.cB;rw[bB h]
 rwa [Dt.nZ]at h2
theorem bN.Is.nU {D:bN} (h:D.Is):ax.ok D.y D.m D.p=ae:=by
 have:=h.gv;unfold Gr.gv at this;simp only[bR]at this;exact this.2.1
theorem bN.Is.Oc {D:bN} (h:D.Is) (en:Nat) (hen:en<D.el.length):Gr.ed D.el[en].cK=ae/\D.el[en].links.l.length<=100000:=by
 have h1:=h.gv;unfold Gr.gv Gr.uM at h1;simp only[bR]at h1;have:=tO h1.2.2.2.2.2.2 hen;rw[getD_lt _ _ _ hen]at this;simp only[bR]at this;replace this:=this.2;unfold Gr.nV Gr.jd at this;simp only[bR,dm]at this;exact⟨this.2.1,O⟩
theorem bN.Is.agr {D:bN} (h:D.Is):D.el.length<=12:=by
 have h1:=h.gv;unfold Gr.gv at h1;simp only[bR,dm]at h1;exact h1.2.2.2.2.1
theorem bN.Is.XW {D:bN} (h:D.Is) (m:Int) (hm:Ch.eO D.cl m=ae): -1000<=(Ch.bU D.cl m).basis/\(Ch.bU D.cl m).basis<=1000:=by
 have h1:=h.gv;unfold Gr.gv Gr.lH Gr.Af at h1;simp only[bR]at h1;have h2:=h1.2.2.1.2.1;unfold Ch.eO Ch.bU at*
 cases hf:Ch.find D.cl m with
 |none=>rw[hf]at hm;cases hm
 |some a=>
  have ha:a∈D.cl:=Mi hf;obtain⟨k,hk,rfl⟩:=iK.1 ha;have h3:=tO h2 hk;rw[getD_lt _ _ _ hk]at h3;rw[rz];unfold Gr.uJ at h3
  split at h3
  ·simp only[dm]at h3;omega
  ·split at h3<;>simp only[dm]at h3<;>omega
theorem bN.Is.ids {D:bN} (h:D.Is):(D.es.map aI.id).Nodup:=by
 have:=h.jv;unfold qW at this;simp only[bR]at this;exact aiN this.2
theorem bN.Is.all {D:bN} (h:D.Is) {x:aI} (hx:x∈D.es):Jn.bJ ae D.el.length (Jn.kB D.el) (Jn.dB D.y D.m D.p) x=0:=by
 have h1:=h.jv;unfold qW at h1;rw[h.gv]at h1;simp only[qC]at h1;obtain⟨k,hk,rfl⟩:=iK.1 hx;exact(Jn.O8 (Jn.NN.1 h1 k hk hk)).1
theorem bN.Is.one {D:bN} (h:D.Is) {x:aI} (hx:x∈D.es): ∃ en:Nat,∃ hen:en<D.el.length,x.bF=(en:Int)/\Gr.eZ x.date=ae/\x.lines.l.length<=40/\ ∀ l∈x.lines.l,Ch.eO D.el[en].jw.l l.ek=ae/\pF l.amount=ae:=by
 have h1:=h.all hx;have hf:Jn.lJ ae D.el.length x=ae:=by
  cases hf:Jn.lJ ae D.el.length x
  ·unfold Jn.bJ at h1;rw[hf]at h1;simp at h1
  ·rfl
 have ha:x.lines.l.all (λl=>Jn.kB D.el x.bF l.ek)=ae:=by
  cases ha:x.lines.l.all (λl=>Jn.kB D.el x.bF l.ek)
  ·unfold Jn.bJ at h1;rw[hf,ha]at h1;simp at h1
  ·rfl
 have hd:Jn.dB D.y D.m D.p x.date=ae:=by
  cases hd:Jn.dB D.y D.m D.p x.date
  ·unfold Jn.bJ at h1;rw[hf,ha,hd]at h1;simp at h1
  ·rfl
 have hf2:=hf;unfold Jn.lJ Jn.EN at hf2;simp only[bR,dm]at hf2;obtain⟨hh,hl⟩:=hf2;have e0:x.bF=(x.bF.toNat:Int):=(Int.toNat_of_nonneg O).symm;have hen:x.bF.toNat<D.el.length:=O;refine⟨x.bF.toNat,hen,e0,?_,O,λl hm=>⟨?_,?_⟩⟩
 ·unfold Jn.dB ax.oP ax.qX at hd;rw[h.nU]at hd;simp only[sV,dm]at hd
  split at hd
  ·rename_i hp;simp only[bR]at hp;have:=hp.1
   rwa [Dt.nZ]at this
  ·omega
 ·have:=ng.1 ha l hm;rw[e0,Jn.Uq hen]at this;exact this
 ·have:=ng.1 hl l hm;unfold Jn.jc at this;simp only[bR]at this;exact this.1.2
theorem SI {D:bN} (hD:D.Is) {w:Z} {b:Nat} {t:TypeId} (hB:au w b t D.aH):w.rangeAt b 0 D.aB.toList:=λj v hv=>by
 have hj:j<21:=by
  have:=(vg.1 hv).1
  rwa [oq,hD.uO]at this
 rw[nN,hB.cell j,hD.ik j hj,<- q9];exact hv
theorem fA {α:Type} {l:List α} {n:Nat} (h:l.length=n+1): ∃ a t,l=a::t/\t.length=n:=by
 match l,h with
 |a::t,h=>exact⟨a,t,rfl,by simpa using h⟩
theorem Yv {aH:Array aj} (hz:aH.size=27) (q la:Int):(ak).built 110 [(0,az aH),(2,G F q),(3,G F la)]=N (jD aH [G F 0,G F q,G F la,.map J,av ⟨#[]⟩,aA ag]):=by
 obtain⟨l⟩:=aH;have h0:l.length=27:=hz;clear hz;obtain⟨v0,l1,e1,h1⟩:=fA h0;clear h0;subst e1;obtain⟨v1,l2,e2,h2⟩:=fA h1;clear h1;subst e2;obtain⟨v2,l3,e3,h3⟩:=fA h2;clear h2;subst e3;obtain⟨v3,l4,e4,h4⟩:=fA h3;clear h3;subst e4;obtain⟨v4,l5,e5,h5⟩:=fA h4;clear h4;subst e5;obtain⟨v5,l6,e6,h6⟩:=fA h5;clear h5;subst e6;obtain⟨v6,l7,e7,h7⟩:=fA h6;clear h6;subst e7;obtain⟨v7,l8,e8,h8⟩:=fA h7;clear h7;subst e8;obtain⟨v8,l9,e9,h9⟩:=fA h8;clear h8;subst e9;obtain⟨v9,l10,e10,h10⟩:=fA h9;clear h9;subst e10;obtain⟨v10,l11,e11,h11⟩:=fA h10;clear h10;subst e11;obtain⟨v11,l12,e12,h12⟩:=fA h11;clear h11;subst e12;obtain⟨v12,l13,e13,GH⟩:=fA h12;clear h12;subst e13;obtain⟨v13,l14,e14,JW⟩:=fA GH;clear GH;subst e14;obtain⟨v14,l15,e15,JZ⟩:=fA JW;clear JW;subst e15;obtain⟨v15,l16,e16,h16⟩:=fA JZ;clear JZ;subst e16;obtain⟨v16,l17,e17,J2⟩:=fA h16;clear h16;subst e17;obtain⟨v17,l18,e18,h18⟩:=fA J2;clear J2;subst e18;obtain⟨v18,l19,e19,h19⟩:=fA h18;clear h18;subst e19;obtain⟨v19,l20,e20,h20⟩:=fA h19;clear h19;subst e20;obtain⟨v20,l21,e21,h21⟩:=fA h20;clear h20;subst e21;obtain⟨v21,l22,e22,h22⟩:=fA h21;clear h21;subst e22;obtain⟨v22,l23,e23,h23⟩:=fA h22;clear h22;subst e23;obtain⟨v23,l24,e24,lK⟩:=fA h23;clear h23;subst e24;obtain⟨v24,l25,e25,J3⟩:=fA lK;clear lK;subst e25;obtain⟨v25,l26,e26,J4⟩:=fA J3;clear J3;subst e26;obtain⟨v26,Us,e27,h27⟩:=fA J4;clear J4;subst e27;obtain rfl:Us= []:=List.length_eq_zero_iff.1 h27;clear h27;show (ak).built 110 _=N _
 kernel_rfl
def Gm (D:bN) (q:Int) (w:Z) (ok:Nat->Z->Prop) (e:eG) (w':Z):Prop:=
 (ax.bJ D.y D.m D.p q≠0/\ ∃ E:Int,E≠0/\e= .returned (bG #[aN J,G F E])/\Below w.heap.size w w')\/
 (ax.bJ D.y D.m D.p q=0/\ ∃ g,w.heap.size<=g/\e= .returned (bG #[aN (N ⟨g,0,J⟩),G F 0])/\Below w.heap.size w w'/\ok g w')
section
variable (w:Z)
theorem afQ (D:bN) (hD:D.Is) (hI:D.In w) (q:Int):
 aF ak 34 #[az D.aH,G F 0,G F q,aA ae] w (Gm D q w (λg w'=>au w' g 110 (jD D.aH [G F 0,G F q,G F (ax.cB D.y D.m D.p q),.map J,av ⟨#[]⟩,aA ag]))):=by
 have HD:=I hD;have HI:=I hI;have KJ:=I (λ(W:Z) (h:D.In W)=>aan D.aB D.cur D.y D.m D.p D.cl D.cA D.cc D.ro D.el D.eA D.ec W D.es D.sA D.sc (I HD.out.HG) h.xU HD.out.few h.nG HD.out.ze);rw[HD.out.jv]at KJ;have KR:=I (λ(W:Z) (h:D.In W)=>Pt D.cur D.rl D.rA D.rc W h.Fs HD.out.Hr HD.out.rv);have KL:=I (λ(W:Z)=>Gu D.y D.m D.p q W);have KE:=I (Sy);have hbz:(ak.info? 36).map (·.size)=N D.aH.size:=by rw[HD.out.size];kernel_rfl
 have h27:(ak.info? 36).map (·.size)=N 27:=ai;have hb1:Below w.heap.size w (w.alloc (U D.aH 36)):=(aD _ _).alloc (aC _) _;have HB1:=I (au.new w 36 D.aH);clear hD hI;unfold Gm;have Rs:=I (Yv HD.out.size q (ax.cB D.y D.m D.p q));generalize ax.cB D.y D.m D.p q=la at*;generalize ax.bJ D.y D.m D.p q=ce at*;go_enter Tryz.func34,Tryz.ntmps34;go_upto_region 1 with fail
 generalize w.alloc (U D.aH 36)=w1 at*;have rU:w1.cell? ⟨w.heap.size,21,J⟩=N (T D.sA D.es.length D.sc):=(HB1.out.cell 21).trans HD.out.si;go_upto_region 2 with (first
  |(refine gP rfl 29 (.tmp 16) rfl w.heap.size 0 rfl D.aB (SI HD.out HB1.out) bQ 21 gy HD.out.uO ?_)
  |(go_at_call 68;refine(KJ.out _ (HI.out.step hb1)).mono ?_;rintro e w2 ⟨jk,jE,rfl,TL,ah⟩;obtain rfl:jE=0:=TL.2 rfl;have hb2:=ay hb1 ah;have HB2:=I (HB1.out.step ah);clear ah))
 have c0:w2.cell? ⟨w.heap.size,0,J⟩=N (av D.cur):=(HB2.out.cell 0).trans ((HD.out.ik 0 O).trans (by rw[HD.out.HG];rfl));have JI:w2.cell? ⟨w.heap.size,22,J⟩=N (T D.rA D.rl.length D.rc):=(HB2.out.cell 22).trans HD.out.rat;clear KJ HB1 rU hb1;go_upto_region 4 with (go_at_call 69;refine(KR.out _ (HI.out.step hb2)).mono ?_;rintro e w3 ⟨rfl,ah⟩;have hb3:=ay hb2 ah;have HB3:=I (HB2.out.step ah);clear ah)
 clear KR c0 JI HB2 hb2;have c20:w3.cell? ⟨w.heap.size,20,J⟩=N (T D.eA D.el.length D.ec):=(HB3.out.cell 20).trans ((HD.out.ik 20 O).trans (by rw[HD.out.HG];rfl));have c1:w3.cell? ⟨w.heap.size,1,J⟩=N (G F D.y):=(HB3.out.cell 1).trans ((HD.out.ik 1 O).trans (by rw[HD.out.HG];rfl));have c2:w3.cell? ⟨w.heap.size,2,J⟩=N (G F D.m):=(HB3.out.cell 2).trans ((HD.out.ik 2 O).trans (by rw[HD.out.HG];rfl));have c3:w3.cell? ⟨w.heap.size,3,J⟩=N (G F D.p):=(HB3.out.cell 3).trans ((HD.out.ik 3 O).trans (by rw[HD.out.HG];rfl));go_upto_region 7 with (go_at_call 15;refine(KL.out _).mono ?_;rintro e w4 ⟨rfl,ah⟩;have hb4:=ay hb3 ah;have jS:=I (HB3.out.step ah);clear ah)
 clear c20 c1 c2 c3 KL HB3 hb3
 cases hc0:(ce==0)
 ·go_wp2_with fail;go_ret2;exact .inl ⟨by simpa using hc0,2,aJ,rfl,hb4⟩
 ·have zM:Hid (ce=0):=I (by simpa using hc0);have yG:=I (au.new w4 110 (jD D.aH [G F 0,G F q,G F la,.map J,av ⟨#[]⟩,aA ag]));have hbD:=hb4.alloc hb4.size (U (jD D.aH [G F 0,G F q,G F la,.map J,av ⟨#[]⟩,aA ag]) 110);have qV:=hb4.size;go_wp2_with (first
   |(refine gP rfl 36 (.tmp 4) rfl w.heap.size 0 rfl D.aH (jF jS.out) jB 27 h27 HD.out.size ?_)
   |(refine jP rfl 61 rfl 110 _ rfl (jD D.aH [G F 0,G F q,G F la,.map J,av ⟨#[]⟩,aA ag]) [(0,az D.aH),(2,G F q),(3,G F la)] ai Rs.out ?_)
   |(go_at_call 60;fail))
  go_ret2;exact .inr ⟨zM.out,w4.heap.size,qV,rfl,hbD,yG.out⟩
theorem afR (D:bN) (hD:D.Is) (hI:D.In w) (en:Nat) (hen:en<D.el.length) (q:Int):
 aF ak 34 #[az D.aH,G F en,G F q,aA ag] w (Gm D q w (λg w'=> ∃ mb,fZ D w w' g mb 0 (λ_=>J) en q (ax.cB D.y D.m D.p q) D.el[en].cK)):=by
 have HD:=I hD;have HI:=I hI;have KJ:=I (λ(W:Z) (h:D.In W)=>aan D.aB D.cur D.y D.m D.p D.cl D.cA D.cc D.ro D.el D.eA D.ec W D.es D.sA D.sc (I HD.out.HG) h.xU HD.out.few h.nG HD.out.ze);rw[HD.out.jv]at KJ;have KR:=I (λ(W:Z) (h:D.In W)=>Pt D.cur D.rl D.rA D.rc W h.Fs HD.out.Hr HD.out.rv);have KL:=I (λ(W:Z)=>Gu D.y D.m D.p q W);have KE:=I (Sy);have hbz:(ak.info? 36).map (·.size)=N D.aH.size:=by rw[HD.out.size];kernel_rfl
 have h27:(ak.info? 36).map (·.size)=N 27:=ai;have hb1:Below w.heap.size w (w.alloc (U D.aH 36)):=(aD _ _).alloc (aC _) _;have HB1:=I (au.new w 36 D.aH);clear hD hI;unfold Gm;have Rs:=I (Yv HD.out.size q (ax.cB D.y D.m D.p q));generalize ax.cB D.y D.m D.p q=la at*;generalize ax.bJ D.y D.m D.p q=ce at*;go_enter Tryz.func34,Tryz.ntmps34;go_upto_region 1 with fail
 generalize w.alloc (U D.aH 36)=w1 at*;have rU:w1.cell? ⟨w.heap.size,21,J⟩=N (T D.sA D.es.length D.sc):=(HB1.out.cell 21).trans HD.out.si;go_upto_region 2 with (first
  |(refine gP rfl 29 (.tmp 16) rfl w.heap.size 0 rfl D.aB (SI HD.out HB1.out) bQ 21 gy HD.out.uO ?_)
  |(go_at_call 68;refine(KJ.out _ (HI.out.step hb1)).mono ?_;rintro e w2 ⟨jk,jE,rfl,TL,ah⟩;obtain rfl:jE=0:=TL.2 rfl;have hb2:=ay hb1 ah;have HB2:=I (HB1.out.step ah);clear ah))
 have c0:w2.cell? ⟨w.heap.size,0,J⟩=N (av D.cur):=(HB2.out.cell 0).trans ((HD.out.ik 0 O).trans (by rw[HD.out.HG];rfl));have JI:w2.cell? ⟨w.heap.size,22,J⟩=N (T D.rA D.rl.length D.rc):=(HB2.out.cell 22).trans HD.out.rat;clear KJ HB1 rU hb1;go_upto_region 4 with (go_at_call 69;refine(KR.out _ (HI.out.step hb2)).mono ?_;rintro e w3 ⟨rfl,ah⟩;have hb3:=ay hb2 ah;have HB3:=I (HB2.out.step ah);clear ah)
 clear KR c0 JI HB2 hb2;have c20:w3.cell? ⟨w.heap.size,20,J⟩=N (T D.eA D.el.length D.ec):=(HB3.out.cell 20).trans ((HD.out.ik 20 O).trans (by rw[HD.out.HG];rfl));have c1:w3.cell? ⟨w.heap.size,1,J⟩=N (G F D.y):=(HB3.out.cell 1).trans ((HD.out.ik 1 O).trans (by rw[HD.out.HG];rfl));have c2:w3.cell? ⟨w.heap.size,2,J⟩=N (G F D.m):=(HB3.out.cell 2).trans ((HD.out.ik 2 O).trans (by rw[HD.out.HG];rfl));have c3:w3.cell? ⟨w.heap.size,3,J⟩=N (G F D.p):=(HB3.out.cell 3).trans ((HD.out.ik 3 O).trans (by rw[HD.out.HG];rfl));go_upto_region 7 with (go_at_call 15;refine(KL.out _).mono ?_;rintro e w4 ⟨rfl,ah⟩;have hb4:=ay hb3 ah;have jS:=I (HB3.out.step ah);clear ah)
 clear c20 c1 c2 c3 KL HB3 hb3
 cases hc0:(ce==0)
 ·go_wp2_with fail;go_ret2;exact .inl ⟨by simpa using hc0,2,aJ,rfl,hb4⟩
 ·have zM:Hid (ce=0):=I (by simpa using hc0);have yG:=I (au.new w4 110 (jD D.aH [G F 0,G F q,G F la,.map J,av ⟨#[]⟩,aA ag]));have hbD:=hb4.alloc hb4.size (U (jD D.aH [G F 0,G F q,G F la,.map J,av ⟨#[]⟩,aA ag]) 110);have qV:=hb4.size;go_wp2_with (first
   |(refine gP rfl 36 (.tmp 4) rfl w.heap.size 0 rfl D.aH (jF jS.out) jB 27 h27 HD.out.size ?_)
   |(refine jP rfl 61 rfl 110 _ rfl (jD D.aH [G F 0,G F q,G F la,.map J,av ⟨#[]⟩,aA ag]) [(0,az D.aH),(2,G F q),(3,G F la)] ai Rs.out ?_)
   |(go_at_call 60;refine(KE.out _ D HD.out w HI.out hbD w4.heap.size qV 0 q la (.map J) ⟨#[]⟩ ag en hen yG.out).mono ?_;rintro e w5 ⟨rfl,-,mb,hK⟩))
  go_ret2;exact .inr ⟨zM.out,w4.heap.size,qV,rfl,hK.below,mb,hK⟩
end
section
open Go.RowKit Go.Shelf Go.Lib Go.Sort
theorem agv (blk off size:Nat) (w:Z):CmpLays ak 36 #[] aI.cells 7 Ci blk off size w:=by
 intro m os dk hs x y;exact(ags x y (sortWorldK aI.cells 7 w blk off m dk os)).mono (λ_ _ h=>h)
theorem ajg: ∀ args w,(callFunc 36 args).run ak w= .ok (.enter 36 args) w:=enters_of Tryz.func36 ai rfl
theorem afq (x y:aI):Ci x y<0↔(x.date<y.date\/(x.date=y.date/\x.id<y.id)):=by
 unfold Ci sw sw sw fO
 split<;>(try split)<;>(try split)<;>(try split)<;>omega
theorem agy {w:Z} {base:Nat} {v:aj} {l:List aI} (hl:l.length<1000000000) (h:w.ownsRow base 107 7 v l.length (cellsOf aI.cells l)):
 aF ak 35 #[v,.func (.func 36) #[] #[]] w (NK aI.cells 7 base 107 v l w):=
 UT Tryz.an2 aI.len aI.one Tryz.isAgg107 Tryz.sizeOf107 Ci (Py (λx=>x.date) (λx=>x.id) Ci afq) 36 #[] ajg (λb o z=>agv b o z w) hl h
theorem ig.De {P:dH} {k:TypeId} {z:aj} {w:Z} {b n:Nat} {f:aj->Option aj} {base:Nat} {E:TypeId} {sz:Nat} {v:aj} {m:Nat} {xs:List aj} (h:ig P k z w b n f) (hr:w.ownsRow base E sz v m xs):N b≠v.ownBlock:=by
 obtain⟨es,cl,hb⟩:=h.isMap
 rcases hr.2 with ⟨h1,_⟩|⟨g',cap',cur,h1,_,h2,_⟩
 ·rw[h1];simp[yz]
 ·rw[h1];simp only[yz,ne_eq,Fy];rintro rfl;rw[hb]at h2;simp at h2
theorem fZ.own {D:bN} {w0 w w':Z} {g mb n:Nat} {f:aj->Option aj} {en q la:Int} {c:ByteArray} (h:fZ D w0 w g mb n f en q la c) {E:TypeId} {sz:Nat} {v:aj} {m:Nat} {xs:List aj} (hr:w.ownsRow w0.heap.size E sz v m xs) (hE:110≠E) (hg:w.grownBy w' v.ownBlock):fZ D w0 w' g mb n f en q la c:=
 ⟨h.hB,h.hM,iI h.below h.below.size hr hg,h.blk.grown hg (gF hr h.blk hE),h.map.kept hg (h.map.De hr),h.inv⟩
theorem AV {w w':Z} {base R8:Nat} {e E:TypeId} {size sz:Nat} {v v2:aj} {n m:Nat} {xs ys:List aj} (h:w.ownsRow base e size v n xs) (hr:w.ownsRow R8 E sz v2 m ys) (hE:e≠E) (hg:w.grownBy w' v2.ownBlock):w'.ownsRow base e size v n xs:=
 qf h λ_ _ hB=>hB.grown hg (gF hr hB hE)
theorem fZ.down {D:bN} {w0 w1 w2:Z} {g mb n:Nat} {f:aj->Option aj} {en q la:Int} {c:ByteArray} (h:fZ D w1 w2 g mb n f en q la c) (hb:Below w0.heap.size w0 w1):fZ D w0 w2 g mb n f en q la c:=
 ⟨iT hb.size h.hB,iT hb.size h.hM,hb.trans (h.below.mono hb.size),h.blk,h.map,h.inv⟩
theorem Yy:(ak.info? 107).map (·.size)=N 7:=ai
def RF (D:bN) (q:Int) (w:Z) (e:eG) (w':Z):Prop:=Below w.heap.size w w'/\
 ((∃ E:Int,E≠0/\e= bM (bG #[T J 0 0,G F E]))\/
  (∃ (v:aj) (M:List bI),e= .returned (.tuple #[v,G F 0])/\(∀ i∈M,El.vY (D.env q) D.el D.es i)/\M.length<=2440/\w'.ownsRow w.heap.size 83 7 v M.length (cellsOf bI.cells M)))
section
variable (w:Z)
theorem aoJ (D:bN) (hD:D.Is) (hI:D.In w) (SL:D.es.length<=61) (en:Nat) (hen:en<D.el.length) (q:Int):
 aF ak 12 #[az D.aH,G F en,G F q] w (RF D q w):=by
 have HD:=I hD;have HI:=I hI;have KO:=I (λ(W:Z) (h:D.In W)=>afR W D hD h en hen q);have KI:=I (λ(W:Z) (g mb n:Nat) (f:aj->Option aj) (H:fZ D w W g mb n f en q (ax.cB D.y D.m D.p q) D.el[en].cK) (x:aI) (hx:x∈D.es) (hxe:x.bF=en) (k:Nat) (hk:k<x.lines.l.length) (hn:n<100000) (hce:ax.bJ D.y D.m D.p q=0)=>by
  obtain⟨Oa,uQ,e1,e2,e3,e4⟩:=hD.one hx;have e5:Oa=en:=O;subst e5;exact Yw W D hD w hI g mb n f Oa hen q H x (hI.nG.ok x hx).2.2.2.2.2.2.1.1 k hk hn (hD.Oc Oa hen).1 hD.nU (aaw hce) e2 (hD.Oc Oa hen).2 (e4 _ (bP hk)).1 (e4 _ (bP hk)).2 hD.XW)
 have HIT:=I (λ(x:aI) (hx:x∈D.es) (hxe:x.bF=en) (k:Nat) (hk:k<x.lines.l.length) (i:bI) (h:(D.env q).item (D.el.getD en default) x x.lines.l[k] k=N i)=>(⟨x,hx,k,hk,by rw[hxe];exact h⟩:El.vY (D.env q) D.el D.es i));have hbz:(ak.info? 36).map (·.size)=N D.aH.size:=by rw[hD.size];kernel_rfl
 have h27:(ak.info? 36).map (·.size)=N 27:=ai;have hb1:Below w.heap.size w (w.alloc (U D.aH 36)):=(aD _ _).alloc (aC _) _;have HB1:=I (au.new w 36 D.aH);obtain⟨Fw,hi1,EW,EX,EY⟩:=jh aI.info;obtain⟨Vb,hi2,Uj,Uk,Ul⟩:=jh bI.info;clear hD hI;unfold RF;go_enter Tryz.func12,Tryz.ntmps12;go_upto_region 1 with fail
 generalize w.alloc (U D.aH 36)=w1 at*;have K1:=I (KO.out w1 (HI.out.step hb1));unfold Gm at K1;generalize ax.cB D.y D.m D.p q=la at*;obtain⟨cur,GQ⟩: ∃ c,D.el[en].cK=c:=⟨_,rfl⟩;rw[GQ]at KI K1;clear GQ KO;go_upto_region 2 with (first
  |(refine gP rfl 36 (.tmp 3) rfl w.heap.size 0 rfl D.aH (jF HB1.out) jB 27 h27 HD.out.size ?_)
  |(go_at_call 34;refine K1.out.mono ?_;rintro e w2 (⟨hce,E,hE,rfl,ah⟩|⟨hce,g,hg,rfl,ah,mb,hdk⟩)))
 ·have CE:(E==0)=ag:=vH hE;have hb2:=ay hb1 ah;clear K1 KI HIT;go_wp2_with fail;go_ret2;exact⟨hb2,.inl ⟨E,hE,rfl⟩⟩
 have hb2:=ay hb1 ah;have HB2:=I (HB1.out.step ah);have HDK:=I (hdk.down hb1);have IM:=I hce;clear K1 ah hdk hce HB1 hb1;obtain⟨es,hes⟩: ∃ es,Hid (es=D.es):=⟨_,I rfl⟩;obtain⟨sA,hsA⟩: ∃ sA,Hid (sA=D.sA):=⟨_,I rfl⟩;have rU:w2.cell? ⟨w.heap.size,21,J⟩=N (T sA es.length D.sc):=(HB2.out.cell 21).trans (by rw[hes.out,hsA.out];exact HD.out.si);have IU:Hid (Rd w w.heap.size 7 sA es.length (cellsOf aI.cells es)):=I (by rw[hes.out,hsA.out];exact HI.out.nG.rd);have aps:es.length<=61:=by rw[hes.out];exact SL
 go_wp2_with fail;go_loopw [10,32] (λv t wr=> ∃ (k:Nat) (L:List aI),k<=es.length/\t= G F k/\(∀ x∈L,x∈es/\x.bF=en)/\L.length<=k/\wr.ownsRow w.heap.size 107 7 v L.length (cellsOf aI.cells L)/\fZ D w wr g mb 0 (λ_=>J) en q la cur) (λ_ t _=>es.length - (intOf t).toNat)
 case atStart=>exact⟨0,[],O,rfl,aL,aL,jZ _ _ _ _,HDK.out⟩
 case round=>
  obtain⟨k,L,hk,rfl,hL,hLn,ho,hdk⟩:=hrel;have hz:=hdk.below.size
  by_cases hlt:k<es.length
  ·obtain⟨b,o,hA,aX,f0,f1,f2,f3,f4,f5,f6⟩:=aI.at_ (IU.out.below hdk.below (aC _)) hlt;subst hA;have nQ:=I (bP hlt);have yM:=I hL;generalize es[k]=x at*;obtain⟨id,xe,da,kd,fo,tx,⟨ll,lA,lc⟩⟩:=x;unfold Sl.val at f6;dsimp only at*;have hst:=(aD wr.heap.size wr).alloc (aC _) (U #[G F id,G F xe,G F da,G F kd,G F fo,av tx,T lA ll.length lc] 107);have df:=I (au.new wr 107 #[G F id,G F xe,G F da,G F kd,G F fo,av tx,T lA ll.length lc]);have gm:=I (dF ho hst);have HD1:=I (hdk.step hst);clear ho hdk hL rU HDK;go_upto_region 8 with fail
   generalize wr.alloc (U #[G F id,G F xe,G F da,G F kd,G F fo,av tx,T lA ll.length lc] 107)=W1 at*;clear f0 f1 f2 f3 f4 f5 f6;have x1:W1.cell? ⟨wr.heap.size,1,J⟩=N (G F xe):=df.out.cell 1;have x2:W1.cell? ⟨wr.heap.size,2,J⟩=N (G F da):=df.out.cell 2;have d29:W1.cell? ⟨g,29,J⟩=N (G F la):=(HD1.out.blk.cell 29).trans (jr HD.out.size 2)
   cases he:(xe==(en:Int))
   ·go_quiet (fail);go_wp2_with fail;go_roundw
    case rel=>exact⟨k+1,L,O,by go_num,yM.out,O,dF gm.out (iC (aD _ W1) _),HD1.out.step (iC (aD _ W1) _)⟩
    case measure=>simp[intOf];omega
   ·cases hd:decide (da<=la)
    ·go_quiet (fail);go_wp2_with fail;go_roundw
     case rel=>exact⟨k+1,L,O,by go_num,yM.out,O,dF gm.out (iC (aD _ W1) _),HD1.out.step (iC (aD _ W1) _)⟩
     case measure=>simp[intOf];omega
    ·have uF:Hid (xe=en):=I (by simpa using he);go_quiet (fail);have dn:=I (df.out.drewN nq);have gJ:=I (dF gm.out (iC (aD _ W1) nq));have HD2:=I (HD1.out.step (iC (aD _ W1) nq));clear x1 x2 d29 df gm HD1;generalize W1.drewN nq=W2 at*;have K9:=(aD W2.heap.size W2).alloc (aC _) (U #[G F id,G F xe,G F da,G F kd,G F fo,av tx,T lA ll.length lc] 107);have jq:=I (dF gJ.out K9);have HD3:=I (HD2.out.step K9);have hz2:=HD2.out.below.size;clear gJ HD2 K9;go_wp2_with (first
      |(refine gP rfl 107 (.tmp 12) rfl wr.heap.size 0 rfl #[G F id,G F xe,G F da,G F kd,G F fo,av tx,T lA ll.length lc] (jF dn.out) mH 7 Yy rfl ?_)
      |(at_builtin;refine yw aI.cells 7 aI.len aI.one rfl (.tmp 49) (.tmp 51) 30 rfl w.heap.size 107 Fw (az #[G F 0,G F 0,G F 0,G F 0,G F 0,av ⟨#[]⟩,T J 0 0]) 80 PY hi1 EW EX EY rfl aJ _ L rfl jq.out W2.heap.size 1 ⟨id,xe,da,kd,fo,tx,⟨ll,lA,lc⟩⟩ #[G F id,G F xe,G F da,G F kd,G F fo,av tx,T lA ll.length lc] rfl (au.new W2 _ _) rfl fQ O bL ?_;intro v7 w7 eQ eU;have ny:=I eQ;have HD7:=I (HD3.out.own jq.out aJ eU);clear eQ eU jq HD3))
     have HLM:Hid (∀ x∈L++ [⟨id,xe,da,kd,fo,tx,⟨ll,lA,lc⟩⟩],x∈es/\x.bF=(en:Int)):=I (λx hx=>by
      rcases il.1 hx with h|h
      ·exact yM.out x h
      ·rw[iJ.1 h];exact⟨nQ.out,uF.out⟩)
     go_roundw
     case rel=>exact⟨k+1,_,O,by go_num,HLM.out,bL,ny.out,HD7.out⟩
     case measure=>simp[intOf];omega
  ·clear rU HDK;have HL:=I hL;have hln:L.length<=61:=O;have HO:=I ho;have HD0:=I hdk;clear ho hdk hL hLn;have NB:=I (agy (w:=wr) O HO.out);go_upto_region 12 with (go_at_call 35;refine NB.out.mono ?_;rintro r w5 ⟨rfl,L2,hp,nI,hg5⟩;have hd5:=HD0.out.own HO.out aJ hg5;clear hg5)
   have hl2:L2.length<=61:=by rw[hp.length_eq];exact hln
   have vQ:Hid (∀ x∈L2,x∈D.es/\x.bF=(en:Int)):=I (λx hx=>by have:=HL.out x (hp.mem_iff.1 hx);rwa [hes.out]at this);obtain⟨A5,c5,rfl,-⟩:=Rd.dE nI;have HD5:=I hd5;have mO:=I nI;clear hd5 nI hp HL HO HD0 hln NB;go_wp2_with fail;go_loopw [13,58] (λv t wr=> ∃ (k n:Nat) (f:aj->Option aj) (M:List bI),k<=L2.length/\t= G F k/\(∀ i∈M,El.vY (D.env q) D.el D.es i)/\M.length<=40*k/\n<=40*k/\wr.ownsRow w.heap.size 83 7 v M.length (cellsOf bI.cells M)/\wr.ownsRow w.heap.size 107 7 (T A5 L2.length c5) L2.length (cellsOf aI.cells L2)/\fZ D w wr g mb n f en q la cur) (λ_ t _=>L2.length - (intOf t).toNat)
   case atStart=>exact⟨0,0,_,[],O,rfl,aL,aL,O,jZ _ _ _ _,mO.out,HD5.out⟩
   case round=>
    obtain⟨k,n,f,M,hk,rfl,hM,hMn,hn,ho,hoe,hdk⟩:=hrel;clear HD5 mO;have HM:=I hM;have HO:=I ho;have Q8:=I hoe;have HDK:=I hdk;have hz:=hdk.below.size;clear hM ho hoe hdk
    by_cases hlt:k<L2.length
    ·obtain⟨b,o,hA,aX,f0,f1,f2,f3,f4,f5,f6⟩:=aI.at_ (by obtain⟨A',c',he',hr'⟩:=Rd.dE Q8.out;injection he' with e1 e2 e3;subst e1;exact hr') hlt;subst hA;have nQ:=I (vQ.out _ (bP hlt));generalize L2[k]=x at*;have h40:=(HD.out.one nQ.out.1).choose_spec.choose_spec.2.2.1;have RI:=I (λ(W:Z) (n:Nat) (f:aj->Option aj) (H:fZ D w W g mb n f en q la cur) (k:Nat) (hk:k<x.lines.l.length) (hn:n<100000)=>KI.out W g mb n f H x nQ.out.1 nQ.out.2 k hk hn IM.out);have Wu:=I (λ(k:Nat) (hk:k<x.lines.l.length) (i:bI) (h:(D.env q).item (D.el.getD en default) x x.lines.l[k] k=N i)=>HIT.out x nQ.out.1 nQ.out.2 k hk i h);have HFI:Hid (∀ (k:Nat) (hk:k<x.lines.l.length),∃ R,(D.env q).item (D.el.getD en default) x x.lines.l[k] k=R):=I (λ_ _=>⟨_,rfl⟩);clear nQ;obtain⟨id,xe,da,kd,fo,tx,⟨ll,lA,lc⟩⟩:=x;unfold Sl.val at f6;unfold aI.cells Sl.val at RI;dsimp only at*;have hst:=(aD wr.heap.size wr).alloc (aC _) (U #[G F id,G F xe,G F da,G F kd,G F fo,av tx,T lA ll.length lc] 107);have df:=I (au.new wr 107 #[G F id,G F xe,G F da,G F kd,G F fo,av tx,T lA ll.length lc]);have gm:=I (dF HO.out hst);have WG:=I (dF Q8.out hst);have HD1:=I (HDK.out.step hst);clear HO Q8 HDK;go_upto_region 16 with fail
     generalize wr.alloc (U #[G F id,G F xe,G F da,G F kd,G F fo,av tx,T lA ll.length lc] 107)=W1 at*;clear f0 f1 f2 f3 f4 f5 f6 hst;have x6:W1.cell? ⟨wr.heap.size,6,J⟩=N (T lA ll.length lc):=df.out.cell 6;go_wp2_with fail;clear x6;generalize wr.heap.size=xb at*;go_loopw [13,65] (λv t wr2=> ∃ (j n:Nat) (f:aj->Option aj) (M:List bI),j<=ll.length/\t= G F j/\(∀ i∈M,El.vY (D.env q) D.el D.es i)/\M.length<=40*k+j/\n<=40*k+j/\wr2.ownsRow w.heap.size 83 7 v M.length (cellsOf bI.cells M)/\wr2.ownsRow w.heap.size 107 7 (T (N ⟨b,o,J⟩) L2.length c5) L2.length (cellsOf aI.cells L2)/\fZ D w wr2 g mb n f en q la cur/\au wr2 xb 107 #[G F id,G F xe,G F da,G F kd,G F fo,av tx,T lA ll.length lc]) (λ_ t _=>ll.length - (intOf t).toNat)
     case atStart=>exact⟨0,n,f,M,O,rfl,HM.out,O,O,gm.out,WG.out,HD1.out,df.out⟩
     case round=>
      clear gm WG HD1 df HM;obtain⟨j,n2,f2,M2,hj,rfl,hM2,apy,hn2,ho2,ZZ,hd2,hx2⟩:=hrel;have I9:=I hM2;have gJ:=I ho2;have Nj:=I ZZ;have HD2:=I hd2;have dn:=I hx2;have hzz:=hd2.below.size;clear hM2 ho2 ZZ hd2 hx2
      by_cases hjl:j<ll.length
      ·have Nz:=I (RI.out wr n2 f2 HD2.out j hjl O);unfold Qq at Nz;have QK:=I (Wu.out j hjl);generalize (D.env q).item (D.el.getD en default) ⟨id,xe,da,kd,fo,tx,⟨ll,lA,lc⟩⟩ ll[j] j=R at*;clear RI Wu HFI;go_upto_region 20 with (first
        |(refine gP rfl 107 (.tmp 15) rfl xb 0 rfl #[G F id,G F xe,G F da,G F kd,G F fo,av tx,T lA ll.length lc] (jF dn.out) mH 7 Yy rfl ?_)
        |(go_at_call 39;refine Nz.out.mono ?_;rintro r w6 ⟨⟨i,hR,rfl⟩|⟨hR,E,hE,rfl⟩,n3,f3,hn3,hd6,zk⟩;(try obtain⟨⟨i0,i1⟩,i2,i3,i4,i5,i6⟩:=i);(try unfold bI.cells);all_goals (try unfold iR);all_goals (try dsimp only)))
       ·have ac0:=I (QK.out _ hR);have hst:=(aD w6.heap.size w6).alloc (aC _) (U #[G F i0,G F i1,G F i2,G F i3,G F i4,G F i5,G F i6] 83);have M8:=I (au.new w6 83 #[G F i0,G F i1,G F i2,G F i3,G F i4,G F i5,G F i6]);have ny:=I (dF (qf gJ.out (λg' cs=>zk g' _ cs)) hst);have WH:=I (dF (qf Nj.out (λg' cs=>zk g' _ cs)) hst);have HD7:=I (hd6.step hst);have yT:=I ((zk _ _ _ dn.out).step hst);have Lc:=hd6.below.size;have hz7:=HD7.out.below.size;clear hd6 zk hst hR QK Nz gJ Nj HD2 dn;generalize hw7:w6.alloc (U #[G F i0,G F i1,G F i2,G F i3,G F i4,G F i5,G F i6] 83)=w7 at*;clear hw7;have La:=(aD w7.heap.size w7).alloc (aC _) (U #[G F i0,G F i1,G F i2,G F i3,G F i4,G F i5,G F i6] 83);have pU:=I (dF ny.out La);have Jc:=I (dF WH.out La);have fH:=I (HD7.out.step La);have vU:=I (yT.out.step La);clear ny WH HD7 yT La;go_wp2_with (first
         |(refine gP rfl 83 (.tmp 17) rfl w6.heap.size 0 rfl #[G F i0,G F i1,G F i2,G F i3,G F i4,G F i5,G F i6] (jF M8.out) DC 7 uh rfl ?_)
         |(at_builtin;refine yw bI.cells 7 bI.len bI.one rfl (.tmp 78) (.tmp 80) 59 rfl w.heap.size 83 Vb (az #[G F 0,G F 0,G F 0,G F 0,G F 0,G F 0,G F 0]) 56 Tryz.underlying59 hi2 Uj Uk Ul rfl aJ _ M2 rfl pU.out w7.heap.size 1 ⟨⟨i0,i1⟩,i2,i3,i4,i5,i6⟩ #[G F i0,G F i1,G F i2,G F i3,G F i4,G F i5,G F i6] rfl (au.new w7 _ _) rfl fQ O bL ?_;intro v9 w9 uf mR;have rM:=I uf;have zO:=I (fH.out.own pU.out aJ mR);have adn:=I (AV Jc.out pU.out aJ mR);have vV:=I (vU.out.grown mR (gF pU.out vU.out aJ));clear uf mR pU fH Jc vU))
        have HM9:Hid (∀ i∈M2++ [⟨⟨i0,i1⟩,i2,i3,i4,i5,i6⟩],El.vY (D.env q) D.el D.es i):=I (λi hi=>by
         rcases il.1 hi with h|h
         ·exact I9.out i h
         ·rw[iJ.1 h];exact ac0.out)
        go_roundw
        case rel=>exact⟨j+1,n3,f3,_,O,by go_num,HM9.out,bL,O,rM.out,adn.out,zO.out,vV.out⟩
        case measure=>simp[intOf];omega
       ·have CE:(E==0)=ag:=vH hE;have fu:=hd6.below.alloc hd6.below.size (U #[G F 0,G F 0,G F 0,G F 0,G F 0,G F 0,G F 0] 83);clear hd6 zk hR QK Nz gJ Nj HD2 dn;go_wp2_with fail;go_ret2;exact⟨fu,.inl ⟨E,hE,rfl⟩⟩
      ·go_wp2_with fail;go_roundw
       case rel=>exact⟨k+1,n2,f2,M2,O,by go_num,I9.out,O,O,gJ.out,Nj.out,HD2.out⟩
       case measure=>simp[intOf];omega
    ·go_wp2_with fail;go_ret2;exact⟨HDK.out.below,.inr ⟨_,M,rfl,HM.out,O,HO.out⟩⟩
end
end
section
open Go.Maps (Keyed)
structure En (D:bN) (hl:List aM) (hA:Option aG) (hc:Nat) (ms:List dz) (mA:Option aG) (mc:Nat) (bA:Int) (e q:Nat):Prop where
 is:D.Is
 h23:D.aH[23]? =N (T hA hl.length hc)
 lK:D.aH[24]? =N (T mA ms.length mc)
 hv:aT.valid D.el.length hl=ae
 hw: ∀ r∈hl,Wf r.holder/\Wf r.bF/\Wf r.date
 ok:RU D.es bA e q ms
 st: ∀ m∈ms,m.state=4
 he:e<D.el.length
 hq:q<D.el.length
structure yU (D:bN) (hl:List aM) (hA:Option aG) (ms:List dz) (mA:Option aG) (items:List bI) (iA:Option aG) (w:Z):Prop where
 EC:D.In w
 hr:Rd w w.heap.size 4 hA hl.length (cellsOf aM.cells hl)
 mi:tN w ms mA
 it:Rd w w.heap.size 7 iA items.length (cellsOf bI.cells items)
section
variable {D:bN} {hl:List aM} {hA:Option aG} {ms:List dz} {mA:Option aG} {items:List bI} {iA:Option aG} {w w':Z}
theorem yU.step (h:yU D hl hA ms mA items iA w) (hb:Below w.heap.size w w'):yU D hl hA ms mA items iA w':=⟨h.EC.step hb,Rd.now h.hr hb,h.mi.step hb,Rd.now h.it hb⟩
end
structure xL (D:bN) (items:List bI) (w0 w:Z) (fb mb n:Nat) (first last:Int):Prop where
 hB:w0.heap.size<=fb
 hM:w0.heap.size<=mb
 below:Below w0.heap.size w0 w
 blk:au w fb 164 (jD D.aH [.map (N mb),G F first,G F last])
 map:ig ak 70 (sI default) w mb n (mU items)
section
variable {D:bN} {items:List bI} {w0 w w':Z} {fb mb n:Nat} {first last:Int}
theorem xL.step (h:xL D items w0 w fb mb n first last) (hb:Below w.heap.size w w'):xL D items w0 w' fb mb n first last:=⟨h.hB,h.hM,h.below.trans (hb.mono h.below.size),h.blk.step hb,h.map.step hb⟩
end
def kP (D:bN) (hl:List aM) (e:Nat) (t:Int):Bool:=Ez (wH hl D.el e) t==0&&(Ak (wH hl D.el e) t).method==3
end
section
variable (w:Z)
theorem aiH {D:bN} {hl:List aM} {hA:Option aG} {hc:Nat} {ms:List dz} {mA:Option aG} {mc:Nat} {bA:Int} {e q:Nat} (B:En D hl hA hc ms mA mc bA e q) {items:List bI} {iA:Option aG} {w0:Z} (dM:yU D hl hA ms mA items iA w0) {fb mb n:Nat} {first last:Int} (bf:xL D items w0 w fb mb n first last) (en:Nat) (hen:en<D.el.length):
 aF ak 128 #[aN (N ⟨fb,0,J⟩),G F en] w (fD (kP D hl en last) w):=by
 have HD:=I B.is;have DU:=I B.h23;have HF:=I bf;have KC:=I (λ(W:Z) (hb:Below w.heap.size w W)=>afH D.aB D.cur D.y D.m D.p D.cl D.cA D.cc D.ro D.el D.eA D.ec W (I HD.out.HG) ((dM.step bf.below).step hb).EC.xU HD.out.agr hl hA hc en hen last ((dM.step bf.below).step hb).hr B.hw B.hv);unfold Qp at KC;unfold fD kP;clear B dM bf;generalize Ak (wH hl D.el en) last=iv at*;generalize Ez (wH hl D.el en) last=E at*;obtain⟨i0,i1,i2⟩:=iv;dsimp only at*;have hfl:=HF.out.blk.lt;go_enter Tryz.func128,Tryz.ntmps128;go_upto_region 1 with fail
 obtain⟨S,hS⟩: ∃ S:Z->Prop,S=λw'=>Below w.heap.size w w':=⟨_,rfl⟩
 have aR:Hid (∀ w':Z,Below w.heap.size w w'↔S w'):=I (λw'=>by rw[hS]);clear hS;have HB0:=I ((aD w.heap.size w).drew);have hC: ∃ d:aK S,w.drew=d.now:=aK.of ((aR.out _).1 HB0.out);haveI:Nonempty (aK S):=by obtain⟨d,_⟩:=hC;exact⟨d⟩
 have p23: ∀ z:aK S,z.now.cell? ⟨fb,23,J⟩=N (T hA hl.length hc):=λz=>(((aR.out _).2 z.is).cell (p:=⟨fb,23,J⟩) hfl).trans ((HF.out.blk.cell 23).trans ((BX HD.out.size O).trans DU.out))
 have p29: ∀ z:aK S,z.now.cell? ⟨fb,29,J⟩=N (G F last):=λz=>(((aR.out _).2 z.is).cell (p:=⟨fb,29,J⟩) hfl).trans ((HF.out.blk.cell 29).trans (jr HD.out.size 2))
 refine nK (n:=22) S 21 ai rfl ?_;have hT:=tg 0;(iterate 4 refine aab hT hC ?_;clear hT;intro hT K hK;go_big_quiet_op;go_big_quiet_on);clear hT;refine Fq 4 hC ?_;intro K hK;refine Fh 29 _ rfl fb 0 rfl D.aB (λz=>JO HD.out (HF.out.blk.step ((aR.out _).2 z.is))) bQ 21 gy HD.out.uO (hK _ ?_);clear hK K
 (try simp only[Zx])
 have hT:=tg 5;(iterate 10 refine aab hT hC ?_;clear hT;intro hT K hK;go_big_quiet_op;go_big_quiet_on);clear hT;have hz0:w.heap.size<=w.drew.heap.size:=aC _;generalize w.drew=W at*;clear p23 p29;refine abu (is:= [15,19]) ai aL ?_;intro j hj;simp only[fT,lV,lW]at hj
 rcases hj with rfl|rfl
 ·refine⟨_,rfl,rfl,?_⟩;intro K hK;go_simp;go_at_call 179;refine(KC.out _ HB0.out).mono ?_;rintro r w2 ⟨rfl,hb2⟩;have HB1:=I (ay HB0.out hb2);replace hC: ∃ z:aK S,w2=z.now:=aK.of ((aR.out _).1 HB1.out)
  (try go_wp2_with fail)
  refine hK _ _ (.inr (.inr hC)) ?_;clear hK K hb2
  (try simp only[Zx])
  have hT:=tg 16;(iterate 3 refine aab hT hC ?_;clear hT;intro hT K hK;go_big_quiet_op;go_big_quiet_on);clear hT;refine dw (i:=19) ai rfl rfl ?_;intro K hK;go_simp;have hxb:=HB1.out.size;have rG:=I (HB1.out.alloc hxb (U #[G F 0,G F 0,G F 0] 277));have HX:=I (au.new w2 277 #[G F 0,G F 0,G F 0]);replace hC:=aK.of ((aR.out _).1 rG.out);refine hK _ _ (.inr (.inr hC)) ?_;clear hK K HB1
  (try simp only[Zx])
  refine dw (i:=20) ai rfl rfl ?_;intro K hK;refine wp_store_row 277 (.tmp 5) (.tmp 24) rfl (w2.heap.size) #[G F i0,G F i1,G F i2] rfl rfl 277 #[G F 0,G F 0,G F 0] HX.out GZ rfl ai ?_;have dn:=I (mQ HX.out #[G F i0,G F i1,G F i2]);have HB2:=I (oJ (cs:= #[G F i0,G F i1,G F i2]) rG.out hxb);replace hC:=aK.of ((aR.out _).1 HB2.out);refine hK _ _ (.inr (.inr hC)) ?_;clear hK K
  (try simp only[Zx])
  refine dw (i:=21) ai rfl rfl ?_;intro K hK;go_simp;refine hK _ _ (.inr (.inl rfl)) ?_;clear hK K
  (try simp only[Zx])
  refine kH ai ?_ _;have c2:=dn.out.cell 2;have HB3:=HB2;clear hC HX dn rG HB2 aR
  cases hE:(E==0)
  ·go_wp2_with fail;go_ret;exact⟨gz (by rw[hE];rfl),HB3.out⟩
  ·go_wp2_with fail;go_ret;exact⟨gz (by rw[hE];rfl),HB3.out⟩
 ·refine⟨_,rfl,rfl,?_⟩;intro K hK;go_simp;have DN:=I (HB0.out.alloc hz0 (U #[G F 0,G F 0,G F 0] 277));have HX0:=I (au.new W 277 #[G F 0,G F 0,G F 0]);replace hC:=aK.of ((aR.out _).1 DN.out);refine hK _ _ (.inr (.inr hC)) ?_;clear hK K
  (try simp only[Zx])
  generalize mh:W.alloc (U #[G F 0,G F 0,G F 0] 277)=W1 at*;clear mh;refine dw (i:=15) ai rfl rfl ?_;intro K hK;go_simp;go_at_call 179;refine(KC.out _ DN.out).mono ?_;rintro r w2 ⟨rfl,hb2⟩;have rG:=I (ay DN.out hb2);have HX:=I (HX0.out.step hb2);have hxb:=hz0;replace hC: ∃ z:aK S,w2=z.now:=aK.of ((aR.out _).1 rG.out)
  (try go_wp2_with fail)
  refine hK _ _ (.inr (.inr hC)) ?_;clear hK K hb2 DN HX0
  (try simp only[Zx])
  have hT:=tg 16;(iterate 3 refine aab hT hC ?_;clear hT;intro hT K hK;go_big_quiet_op;go_big_quiet_on);clear hT;refine dw (i:=20) ai rfl rfl ?_;intro K hK;refine wp_store_row 277 (.tmp 5) (.tmp 24) rfl (W.heap.size) #[G F i0,G F i1,G F i2] rfl rfl 277 #[G F 0,G F 0,G F 0] HX.out GZ rfl ai ?_;have dn:=I (mQ HX.out #[G F i0,G F i1,G F i2]);have HB2:=I (oJ (cs:= #[G F i0,G F i1,G F i2]) rG.out hxb);replace hC:=aK.of ((aR.out _).1 HB2.out);refine hK _ _ (.inr (.inr hC)) ?_;clear hK K
  (try simp only[Zx])
  refine dw (i:=21) ai rfl rfl ?_;intro K hK;go_simp;refine hK _ _ (.inr (.inl rfl)) ?_;clear hK K
  (try simp only[Zx])
  refine kH ai ?_ _;have c2:=dn.out.cell 2;have HB3:=HB2;clear hC HX dn rG HB2 aR
  cases hE:(E==0)
  ·go_wp2_with fail;go_ret;exact⟨gz (by rw[hE];rfl),HB3.out⟩
  ·go_wp2_with fail;go_ret;exact⟨gz (by rw[hE];rfl),HB3.out⟩
end
theorem r9:(ak.info? 122).map (·.size)=N 3:=ai
def jY:Array aj:= #[G F 0,G F 0,T J 0 0]
theorem JS:jY.all (·.oneCell')=ae:=ai
def JR (items:List bI) (fb:Bool) (last acq:Int) (m:dz):Option (List bI):=if El.hit items fb last acq m then N ((El.A8 m).map (El.pk items)) else J
def Rz (o:Option (List bI)) (id e:Int) (w:Z) (r:eG) (w':Z):Prop:=Below w.heap.size w w'/\
 ((o=J/\r= bM (bG #[az jY,aA ag]))\/
  (∃ (L:List bI) (A:Option aG) (c:Nat),o=N L/\r= .returned (bG #[az #[G F id,G F e,T A L.length c],aA ae])/\gp bI.cells w.heap.size 83 7 w' ⟨L,A,c⟩))
theorem aeT {aH:Array aj} (h:aH.size=27) {w:Z} {g:Nat} {t:TypeId} {L:List aj} (hB:au w g t (jD aH L)):w.rangeAt g 0 aH.toList:=λj v hv=>by
 have hj:j<27:=by
  have:=(vg.1 hv).1
  rwa [oq,h]at this
 rw[nN,hB.cell j,BX h O,<- q9];exact hv
structure yV (w:Z) (bz xb:Nat) (id e:Int) (v vC:aj) (L:List bI) (C:List aO) (wr:Z):Prop where
 ay:Below w.heap.size w wr
 hz:au wr bz 122 jY
 hx:au wr xb 122 #[G F id,G F e,v]
 ne:bz≠xb
 ge:w.heap.size<=xb
 own:wr.ownsRow w.heap.size 83 7 v L.length (cellsOf bI.cells L)
 row:wr.ownsRow w.heap.size 70 2 vC C.length (cellsOf aO.cells C)
section
variable {w wr w':Z} {bz xb:Nat} {id e:Int} {v v' vC:aj} {L L':List bI} {C:List aO}
theorem yV.step (h:yV w bz xb id e v vC L C wr) (hb:Below wr.heap.size wr w'):yV w bz xb id e v vC L C w':=
 ⟨h.ay.trans (hb.mono h.ay.size),h.hz.step hb,h.hx.step hb,h.ne,h.ge,dF h.own hb,dF h.row hb⟩
theorem yV.more (h:yV w bz xb id e v vC L C wr) (hg:wr.grownBy w' v.ownBlock) (ho:w'.ownsRow w.heap.size 83 7 v' L'.length (cellsOf bI.cells L')):yV w bz xb id e v' vC L' C (w'.setCell ⟨xb,2,J⟩ v'):=by
 have h1:au w' xb 122 #[G F id,G F e,v]:=h.hx.grown hg (gF h.own h.hx aJ);refine⟨(iI h.ay h.ay.size h.own hg).setCell (p:=⟨xb,2,J⟩) h.ge v',(h.hz.grown hg (gF h.own h.hz aJ)).far (p:=⟨xb,2,J⟩) h.ne v',h1.bZ 2 v',h.ne,h.ge,?_,?_⟩
 ·exact qf ho λg cs hB=>hB.far (p:=⟨xb,2,J⟩) (hB.ne h1 aJ) v'
 ·exact qf (AV h.row h.own aJ hg) λg cs hB=>hB.far (p:=⟨xb,2,J⟩) (hB.ne h1 aJ) v'
end
theorem aal (W:Z):(zeroValue 83).run ak W= .ok (sI default) W:=Tryz.zeroValue83 W
theorem aeo {α:Type} (f:α->Bool) (C:List α) (k:Nat) (hk:k<C.length) (h:(C.take k).all f=ae) (h2:f C[k]=ae):(C.take (k+1)).all f=ae:=by
 rw[gY hk,List.all_append,h];simp[h2]
section
variable (w:Z)
theorem aiJ {D:bN} {hl:List aM} {hA:Option aG} {hc:Nat} {ms:List dz} {mA:Option aG} {mc:Nat} {bA:Int} {e q:Nat} (B:En D hl hA hc ms mA mc bA e q) {items:List bI} {iA:Option aG} {w0:Z} (dM:yU D hl hA ms mA items iA w0) {fb mb n:Nat} {first last:Int} (bf:xL D items w0 w fb mb n first last) (m:dz) (hm:m∈ms):
 aF ak 79 #[aN (N ⟨fb,0,J⟩),az m.cells.toArray] w (Rz (JR items (kP D hl e last&&kP D hl q last) last D.ro.acquired m) m.id e w):=by
 have HD:=I B.is;have HF:=I bf;have hst:=B.st m hm;have dx:=I (B.ok.ok m hm);have Ja:=I (λ(W:Z) (hb:Below w.heap.size w W)=>((dM.step bf.below).step hb).mi.ok m hm);have KF:=I (λ(W:Z) (hb:Below w.heap.size w W) (en:Nat) (hen:en<D.el.length)=>aiH W B dM (bf.step hb) en hen);unfold fD at KF;have V6:=I B.he;have WM:=I B.hq;have Nc:=I (λ(W:Z) (hb:Below w.heap.size w W)=>((dM.step bf.below).step hb).EC.nG);have Aa:Hid (∀ r∈El.A8 m,Wf r.entry/\Wf r.line):=I (λr hr=>by
  have h:=B.ok.ok m hm
  rcases il.1 hr with h1|h1
  ·exact C8 dM.EC.nG (h.l r h1)
  ·exact C8 dM.EC.nG (h.r r h1))
 obtain⟨id,⟨ll,lA,lc⟩,⟨rl,rA,rc⟩,st⟩:=m;unfold dz.cells Sl.val;dsimp only at*;subst hst;have KS:=I (λ(W:Z) (hb:Below w.heap.size w W) (hl':yX W ll lA) (hr':yX W rl rA)=>aaN W D.aH D.es D.sA D.sc bA e q HD.out.size HD.out.si (Nc.out W hb) HD.out.ze HD.out.ids id ll rl lA rA lc rc 4 hl' hr' dx.out);have hb1:Below w.heap.size w ((w.alloc (U #[G F id,T lA ll.length lc,T rA rl.length rc,G F 4] 58)).alloc (U jY 122)):=((aD _ _).alloc (aC _) _).alloc aL _;have nQ:=I ((au.new w 58 #[G F id,T lA ll.length lc,T rA rl.length rc,G F 4]).alloc (U jY 122));have HZ:=I (eT w (U #[G F id,T lA ll.length lc,T rA rl.length rc,G F 4] 58) 122 jY);unfold jY at hb1 nQ HZ;have yH:Hid (JR items (kP D hl e last&&kP D hl q last) last D.ro.acquired ⟨id,⟨ll,lA,lc⟩,⟨rl,rA,rc⟩,4⟩=if (kP D hl e last&&kP D hl q last)&&(ll++rl).all (El.yg items last D.ro.acquired) then N ((ll++rl).map (El.pk items)) else J):=I rfl;generalize JR items (kP D hl e last&&kP D hl q last) last D.ro.acquired ⟨id,⟨ll,lA,lc⟩,⟨rl,rA,rc⟩,4⟩=di at*;have K1:=I (λ(W:Z) (hb:Below w.heap.size w W)=>KF.out W hb e V6.out);have K2:=I (λ(W:Z) (hb:Below w.heap.size w W)=>KF.out W hb q WM.out);generalize kP D hl e last=fe at*;generalize kP D hl q last=fq at*;have hll:ll.length<=12:=dx.out.ll.2;have hrl:rl.length<=12:=dx.out.lr.2;have QV:=I (λ(W:Z) (hb:Below w.heap.size w W)=>(cz (Ja.out W hb).2.1.1.1 (Ja.out W hb).2.2.1.1.1:Rd W W.heap.size 2 lA ll.length (cellsOf aO.cells ll)/\Rd W W.heap.size 2 rA rl.length (cellsOf aO.cells rl)));clear B dM bf KF V6 WM Nc dx;unfold Rz;go_enter Tryz.func79,Tryz.ntmps79;go_upto_region 1 with fail
 generalize (w.alloc (U #[G F id,T lA ll.length lc,T rA rl.length rc,G F 4] 58)).alloc (U #[G F 0,G F 0,T J 0 0] 122)=W1 at*;have hw1:w.heap.size+1<W1.heap.size:=HZ.out.lt;obtain⟨S,hS⟩: ∃ S:Z->Prop,S=λw'=>Below W1.heap.size W1 w':=⟨_,rfl⟩
 have aR:Hid (∀ w':Z,Below W1.heap.size W1 w'↔S w'):=I (λw'=>by rw[hS]);clear hS;have HB0:=I ((aD W1.heap.size W1).drew);have hC: ∃ d:aK S,W1.drew=d.now:=aK.of ((aR.out _).1 HB0.out);haveI:Nonempty (aK S):=by obtain⟨d,_⟩:=hC;exact⟨d⟩
 have p0: ∀ z:aK S,z.now.cell? ⟨w.heap.size,0,J⟩=N (G F id):=λz=>(nQ.out.step ((aR.out _).2 z.is)).cell 0
 have p1: ∀ z:aK S,z.now.cell? ⟨w.heap.size,1,J⟩=N (T lA ll.length lc):=λz=>(nQ.out.step ((aR.out _).2 z.is)).cell 1
 have p2: ∀ z:aK S,z.now.cell? ⟨w.heap.size,2,J⟩=N (T rA rl.length rc):=λz=>(nQ.out.step ((aR.out _).2 z.is)).cell 2
 have p3: ∀ z:aK S,z.now.cell? ⟨w.heap.size,3,J⟩=N (G F 4):=λz=>(nQ.out.step ((aR.out _).2 z.is)).cell 3
 have h27:(ak.info? 36).map (·.size)=N 27:=ai;have iU:=I (HF.out.step hb1);refine nK (n:=13) S 12 ai rfl ?_;have hT:=tg 0;(iterate 3 refine aab hT hC ?_;clear hT;intro hT K hK;go_big_quiet_op;go_big_quiet_on);clear hT;refine Fq 3 hC ?_;intro K hK;refine Fh 36 _ rfl fb 0 rfl D.aH (λz=>aeT HD.out.size (iU.out.blk.step ((aR.out _).2 z.is))) jB 27 h27 HD.out.size (hK _ ?_);clear hK K
 (try simp only[Zx])
 refine Fq 4 hC ?_;intro K hK;go_big_quiet_op;go_big_quiet_on;have QW:=I (QV.out W1.drew hb1.drew);have Xx:=I (KS.out W1.drew hb1.drew ⟨QW.out.1⟩ ⟨QW.out.2⟩);clear p0 p1 p2 p3 KS QW;refine dw (i:=5) ai rfl rfl ?_;intro K hK;go_simp;go_at_call 66;refine Xx.out.mono ?_;rintro r w2 ⟨rfl,ah⟩;have tV:=ay HB0.out ah;replace hC: ∃ z:aK S,w2=z.now:=aK.of ((aR.out _).1 tV)
 (try go_wp2_with fail)
 refine hK _ _ (.inr (.inr hC)) ?_;clear hK K
 (try simp only[Zx])
 have hT:=tg 6;(iterate 6 refine aab hT hC ?_;clear hT;intro hT K hK;go_big_quiet_op;go_big_quiet_on);clear hT;refine dw (i:=12) ai rfl rfl ?_;intro K hK;go_simp;refine hK _ _ (.inr (.inl rfl)) ?_;clear hK K
 (try simp only[Zx])
 refine kH ai ?_ _;have hb2:=hb1.trans (tV.mono hb1.size);have dn:=I (nQ.out.step tV);have HZ2:=I (HZ.out.step tV);have x3:w2.cell? ⟨w.heap.size,3,J⟩=N (G F 4):=dn.out.cell 3;clear hC aR Xx HB0 nQ HZ ah tV iU
 cases fe
 ·go_upto_region 3 with (go_at_call 128;refine(K1.out _ hb2).mono ?_;rintro r w3 ⟨rfl,ah⟩)
  have j5:=I (HZ2.out.step ah);have qF:=I (ay hb2 ah);have qI:Hid (di=J):=I (by rw[yH.out];rfl);clear ah hb2 yH;go_wp2_with (refine oQ rfl 122 (.tmp 4) (.tmp 43) rfl (w.heap.size+1) jY rfl rfl 122 jY j5.out r9 rfl JS ?_);refine iq (v:= bG #[az jY,aA ag]) (qY IB _ _ (w.heap.size+1) 122 jY rfl (mQ j5.out _) Bo r9) rfl ?_;exact⟨oJ qF.out (zK _),.inl ⟨qI.out,rfl⟩⟩
 cases fq
 ·go_upto_region 3 with (first
   |(go_at_call 128;refine(K1.out _ hb2).mono ?_;rintro r w3 ⟨rfl,ah⟩;have hb3:=ay hb2 ah;have HZ3:=I (HZ2.out.step ah);clear ah hb2)
   |(go_at_call 128;refine(K2.out _ hb3).mono ?_;rintro r w4 ⟨rfl,ah⟩;have hb4:=ay hb3 ah;have vX:=I (HZ3.out.step ah);clear ah hb3))
  have j5:=vX;have qF:=I hb4;have qI:Hid (di=J):=I (by rw[yH.out];rfl);clear hb4 yH;go_wp2_with (refine oQ rfl 122 (.tmp 4) (.tmp 43) rfl (w.heap.size+1) jY rfl rfl 122 jY j5.out r9 rfl JS ?_);refine iq (v:= bG #[az jY,aA ag]) (qY IB _ _ (w.heap.size+1) 122 jY rfl (mQ j5.out _) Bo r9) rfl ?_;exact⟨oJ qF.out (zK _),.inl ⟨qI.out,rfl⟩⟩
 go_upto_region 4 with (first
  |(go_at_call 128;refine(K1.out _ hb2).mono ?_;rintro r w3 ⟨rfl,ah⟩;have hb3:=ay hb2 ah;have HZ3:=I (HZ2.out.step ah);have jO:=I (dn.out.step ah);clear ah hb2)
  |(go_at_call 128;refine(K2.out _ hb3).mono ?_;rintro r w4 ⟨rfl,ah⟩;have hb4:=ay hb3 ah;have vX:=I (HZ3.out.step ah);have gL:=I (jO.out.step ah);clear ah hb3))
 clear K1 K2 dn HZ2 x3 jO HZ3;have x0:w4.cell? ⟨w.heap.size,0,J⟩=N (G F id):=gL.out.cell 0;have qV:=hb4.size;have hzx:w.heap.size+1<w4.heap.size:=vX.out.lt;go_upto_region 5 with fail
 have mg:=I (au.new w4 122 #[G F id,G F e,T J 0 0]);have hst:=(aD w4.heap.size w4).alloc (aC _) (U #[G F id,G F e,T J 0 0] 122);have hb5:=ay hb4 hst;have gN:=I (gL.out.step hst);have rP:=I (vX.out.step hst);generalize w4.alloc (U #[G F id,G F e,T J 0 0] 122)=w5 at*;have x1:w5.cell? ⟨w.heap.size,1,J⟩=N (T lA ll.length lc):=gN.out.cell 1;have x2:w5.cell? ⟨w.heap.size,2,J⟩=N (T rA rl.length rc):=gN.out.cell 2;have QX:=I (QV.out w5 hb5);have CW:=(aD w5.heap.size w5).alloc (aC _) (U #[T lA ll.length lc,T rA rl.length rc] 54);have Wd:=I (au.new w5 54 #[T lA ll.length lc,T rA rl.length rc]);have KC:=I (Si ll rl lA rA lc rc w5.heap.size 2 54 _ Wd.out ((Rd.now QX.out.1 CW)) ((Rd.now QX.out.2 CW)) O O);unfold Qo at KC;obtain⟨C,hC0⟩: ∃ C,Hid (C=ll++rl):=⟨_,I rfl⟩;have Xe:Hid (∀ r∈C,Wf r.entry/\Wf r.line):=I (by rw[hC0.out];exact Aa.out);have SX:C.length<=24:=by rw[hC0.out,fK];omega
 rw[<- hC0.out]at yH KC;have hb6:=ay hb5 CW;go_upto_region 6 with (go_at_call 33;refine KC.out.mono ?_;rintro r w7 ⟨cA,cC,rfl,eQ,ah⟩)
 have Kg:yV w (w.heap.size+1) w4.heap.size id e (T J 0 0) (T cA C.length cC) [] C w7:=by
  refine⟨ay hb6 ah,rP.out.step (CW.trans (ah.mono CW.size)),mg.out.step (CW.trans (ah.mono CW.size)),O,qV,jZ _ _ _ _,?_⟩;exact oO eQ hb6.size
 have D5:=I Kg;clear Kg eQ ah KC Wd QX CW hb6 x1 x2 gN rP mg hst hb5 gL vX x0 QV hC0 Aa Ja;obtain⟨xb,hxb⟩: ∃ xb,xb=w4.heap.size:=⟨_,rfl⟩;rw[<- hxb]at D5 |-;clear hxb hb4;obtain⟨i0,hi0,EU,Uh,Ui⟩:=jh bI.info;go_loopw [55] (λt wr=> ∃ (k:Nat) (v:aj),k<=C.length/\t= G F k/\(C.take k).all (El.yg items last D.ro.acquired)=ae/\yV w (w.heap.size+1) xb id e v (T cA C.length cC) ((C.take k).map (El.pk items)) C wr) (λt _=>C.length - (intOf t).toNat)
 case atStart=>exact⟨0,_,O,rfl,rfl,D5.out⟩
 case round=>
  obtain⟨k,v,hk,rfl,hall,hM⟩:=hrel;clear D5;have HM:=I hM;have CX:=hM.ay.size;clear hM
  by_cases hlt:k<C.length
  ·obtain⟨b,o,hA,aX,f0,f1⟩:=aO.at_ (by obtain⟨A',c',he',hr'⟩:=Rd.dE HM.out.row;injection he' with e1 e2 e3;subst e1;exact hr') hlt;subst hA;have Qs:=I (aeo (El.yg items last D.ro.acquired) C k hlt hall);have HPK:=I (alQ items C k hlt);have eH:Hid (El.yg items last D.ro.acquired C[k]=ag->di=J):=I (λh=>by
    rw[yH.out];have:C.all (El.yg items last D.ro.acquired)=ag:=PR.2 ⟨C[k],bP hlt,by simp[h]⟩;rw[this]
    rfl)
   obtain⟨kl,hkl⟩:=Dj (Xe.out _ (bP hlt)).1 (Xe.out _ (bP hlt)).2;have WI:Hid (El.yg items last D.ro.acquired C[k]=match El.find items C[k]with|some i=>El.good last D.ro.acquired i|none=>ag):=I rfl;have adv:Hid (El.pk items C[k]=(El.find items C[k]).getD default):=I rfl;have I7:=I (ajb items C[k]);have hck:(C.take k).length=k:=by rw[jR];omega
   generalize El.pk items C[k]=pk at*;generalize El.yg items last D.ro.acquired C[k]=ok at*;generalize El.find items C[k]=Oh at*;generalize C[k]=r at*;obtain⟨r0,r1⟩:=r;unfold jK at*;dsimp only at*;have hst:=(aD wr.heap.size wr).alloc (aC _) (U #[G F r0,G F r1] 70);have Eb:=I (au.new wr 70 #[G F r0,G F r1]);have zS:=I (HM.out.step hst);go_upto_region 8 with fail
   clear f0 f1 hst HM hall;generalize wr.alloc (U #[G F r0,G F r1] 70)=W1 at*;have hb1:=zS.out.ay;have iU:=I (HF.out.step hb1);have tq:=I (iU.out.step ((aD W1.heap.size W1).alloc (aC _) (U #[G F 0,G F 0,G F 0,G F 0,G F 0,G F 0,G F 0] 83)));have y7:W1.drew.cell? ⟨fb,27,J⟩=N (.map (N mb)):=(iU.out.blk.cell 27).trans (jr HD.out.size 0);have JJ:(W1.alloc (U #[G F 0,G F 0,G F 0,G F 0,G F 0,G F 0,G F 0] 83)).drew.cell? ⟨fb,27,J⟩=N (.map (N mb)):=(tq.out.blk.cell 27).trans (jr HD.out.size 0);have k0:W1.drew.cell? ⟨wr.heap.size,0,J⟩=N (G F r0):=Eb.out.cell 0;have k1:W1.drew.cell? ⟨wr.heap.size,1,J⟩=N (G F r1):=Eb.out.cell 1;have uj:(W1.alloc (U #[G F 0,G F 0,G F 0,G F 0,G F 0,G F 0,G F 0] 83)).drew.cell? ⟨wr.heap.size,0,J⟩=N (G F r0):=(Eb.out.alloc _).cell 0;have k1':(W1.alloc (U #[G F 0,G F 0,G F 0,G F 0,G F 0,G F 0,G F 0] 83)).drew.cell? ⟨wr.heap.size,1,J⟩=N (G F r1):=(Eb.out.alloc _).cell 1;have u1:=(iU.out.map.same (w':=W1.drew) rfl).look (t:=162) uk MM (aal _) hkl;have u2:=(tq.out.map.same (w':=(W1.alloc (U #[G F 0,G F 0,G F 0,G F 0,G F 0,G F 0,G F 0] 83)).drew) rfl).look (t:=162) uk MM (aal _) hkl;rw[I7.out]at u1 u2;have hdv:sI default= az #[G F 0,G F 0,G F 0,G F 0,G F 0,G F 0,G F 0]:=rfl
   rcases Oh with _|i
   ·simp only[Option.map_none,Dz,wV,hdv]at u1 u2;have qI:=I (eH.out (by rw[WI.out]));have oF:=I (zS.out.step (((aD W1.heap.size W1).alloc (aC _) (U #[G F 0,G F 0,G F 0,G F 0,G F 0,G F 0,G F 0] 83)).drew));go_cut [12,13] (λs12 s13 wx=> ∃ ib:Nat,s12= aN (N ⟨ib,0,J⟩)/\s13= .bool ag/\yV w (w.heap.size+1) xb id e v (T (N ⟨b,o,J⟩) C.length cC) ((C.take k).map (El.pk items)) C wx)
    case first=>
     go_region
     all_goals go_wp2_with fail
     all_goals go_meet
     all_goals exact⟨_,rfl,rfl,oF.out⟩
    case rest=>
     obtain⟨ib,rfl,rfl,hm⟩:=hcut;have zT:=I hm;clear hm u1 u2 y7 JJ k0 uj k1 k1' oF;go_upto_region 9 with fail
     go_quiet (fail);have j5:=I (zT.out.hz.drewN nq);have qF:=I (iC zT.out.ay nq);go_wp2_with (refine oQ rfl 122 (.tmp 4) (.tmp 91) rfl (w.heap.size+1) jY rfl rfl 122 jY j5.out r9 rfl JS ?_);refine iq (v:= bG #[az jY,aA ag]) (qY IB _ _ (w.heap.size+1) 122 jY rfl (mQ j5.out _) Bo r9) rfl ?_;exact⟨oJ qF.out (zK _),.inl ⟨qI.out,rfl⟩⟩
   ·obtain rfl:pk=i:=adv.out;obtain⟨⟨a0,a1⟩,a2,a3,a4,a5,a6⟩:=pk;have OH:sI ⟨⟨a0,a1⟩,a2,a3,a4,a5,a6⟩= az #[G F a0,G F a1,G F a2,G F a3,G F a4,G F a5,G F a6]:=rfl;simp only[Option.map_some,rz,rD,OH]at u1 u2;have M6:Hid (ok=(decide (a5<=last)&&a3 !=D.ro.acquired)):=WI;have oF:=I (zS.out.step (((aD W1.heap.size W1).alloc (aC _) (U #[G F a0,G F a1,G F a2,G F a3,G F a4,G F a5,G F a6] 83)).drew));have Wo:=I (au.new W1 83 #[G F a0,G F a1,G F a2,G F a3,G F a4,G F a5,G F a6]);go_cut [12,13] (λs12 s13 wx=> ∃ ib:Nat,s12= aN (N ⟨ib,0,J⟩)/\s13= .bool ae/\au wx ib 83 #[G F a0,G F a1,G F a2,G F a3,G F a4,G F a5,G F a6]/\yV w (w.heap.size+1) xb id e v (T (N ⟨b,o,J⟩) C.length cC) ((C.take k).map (El.pk items)) C wx)
    case first=>
     go_region
     all_goals go_wp2_with fail
     all_goals go_meet
     all_goals exact⟨_,rfl,rfl,Wo.out.drew,oF.out⟩
    case rest=>
     obtain⟨ib,rfl,rfl,hib,hm⟩:=hcut;have zT:=I hm;have xx:=I hib;have qd:=HF.out.blk.lt;have y5:wc.cell? ⟨ib,5,J⟩=N (G F a5):=hib.cell 5;have y3:wc.cell? ⟨ib,3,J⟩=N (G F a3):=hib.cell 3;have d29:wc.cell? ⟨fb,29,J⟩=N (G F last):=(hm.ay.cell (p:=⟨fb,29,J⟩) qd).trans ((HF.out.blk.cell 29).trans (jr HD.out.size 2));have d12:wc.cell? ⟨fb,12,J⟩=N (G F D.ro.acquired):=(hm.ay.cell (p:=⟨fb,12,J⟩) qd).trans ((HF.out.blk.cell 12).trans (HD.out.b O));clear hm hib u1 u2 y7 JJ k0 uj k1 k1' oF Wo hb1;obtain⟨acq,hacq⟩: ∃ a,Hid (a=D.ro.acquired):=⟨_,I rfl⟩;rw[<- hacq.out]at d12 M6;go_upto_region 9 with fail
     cases hd:decide (last<a5)
     case true=>
      have qI:=I (eH.out (by rw[M6.out,iw (by have:=iY hd;omega)];rfl));go_quiet (fail);have j5:=I (zT.out.hz.drewN nq);have qF:=I (iC zT.out.ay nq);go_wp2_with (refine oQ rfl 122 (.tmp 4) (.tmp 91) rfl (w.heap.size+1) jY rfl rfl 122 jY j5.out r9 rfl JS ?_);refine iq (v:= bG #[az jY,aA ag]) (qY IB _ _ (w.heap.size+1) 122 jY rfl (mQ j5.out _) Bo r9) rfl ?_;exact⟨oJ qF.out (zK _),.inl ⟨qI.out,rfl⟩⟩
     case false=>
      cases ha:(a3==acq)
      case true=>
       have qI:=I (eH.out (by rw[M6.out,bne,ha];simp));go_quiet (fail);have j5:=I (zT.out.hz.drewN nq);have qF:=I (iC zT.out.ay nq);go_wp2_with (refine oQ rfl 122 (.tmp 4) (.tmp 91) rfl (w.heap.size+1) jY rfl rfl 122 jY j5.out r9 rfl JS ?_);refine iq (v:= bG #[az jY,aA ag]) (qY IB _ _ (w.heap.size+1) 122 jY rfl (mQ j5.out _) Bo r9) rfl ?_;exact⟨oJ qF.out (zK _),.inl ⟨qI.out,rfl⟩⟩
      case false=>
       have hok:ok=ae:=by rw[M6.out,bne,ha,kK (by have:=j3 hd;omega)];rfl
       have IJ:=I (Qs.out hok);clear hok;go_quiet (fail);have Q5:=I (zT.out.step (iC (aD _ wc) nq));have Nb:=I (xx.out.drewN nq);clear y5 y3 d29 d12 zT xx;generalize wc.drewN nq=W2 at*;have v2:W2.cell? ⟨xb,2,J⟩=N v:=Q5.out.hx.cell 2;have K9:=(aD W2.heap.size W2).alloc (aC _) (U #[G F a0,G F a1,G F a2,G F a3,G F a4,G F a5,G F a6] 83);have tK:=I (Q5.out.step K9);have hz2:=Q5.out.ay.size;go_wp2_with (first
        |(refine gP rfl 83 (.tmp 12) rfl ib 0 rfl #[G F a0,G F a1,G F a2,G F a3,G F a4,G F a5,G F a6] (jF Nb.out) DC 7 uh rfl ?_)
        |(at_builtin;refine yw bI.cells 7 bI.len bI.one rfl (.tmp 93) (.tmp 95) 59 rfl w.heap.size 83 i0 (az #[G F 0,G F 0,G F 0,G F 0,G F 0,G F 0,G F 0]) 56 Tryz.underlying59 hi0 EU Uh Ui rfl aJ _ ((C.take k).map (El.pk items)) rfl tK.out.own W2.heap.size 1 ⟨⟨a0,a1⟩,a2,a3,a4,a5,a6⟩ #[G F a0,G F a1,G F a2,G F a3,G F a4,G F a5,G F a6] rfl (au.new W2 _ _) rfl (by rw[pM,hck];unfold bK;omega) (by rw[pM,hck];omega) bL ?_;intro v7 w7 eQ eU;obtain⟨A7,n7,c7,rfl⟩: ∃ A n c,v7= T A n c:=(by obtain⟨A,c,h,-⟩:=Rd.dE eQ;exact⟨A,_,c,h⟩);have D5:=I (tK.out.more eU eQ);have hx7:=tK.out.hx.grown eU (gF tK.out.own tK.out.hx aJ);have s2:w7.cell? ⟨xb,2,J⟩=N v:=hx7.cell 2;have s2f:w7.frozen? ⟨xb,2,J⟩=ag:=hx7.frozen 2;clear eQ eU hx7))
       go_roundw
       case rel=>exact⟨k+1,_,O,by go_num,IJ.out,by rw[HPK.out];exact D5.out⟩
       case measure=>simp[intOf];omega
  ·have hke:C.take k=C:=kS O;rw[hke]at hall HM;obtain⟨A,c,hv,-⟩:=Rd.dE HM.out.own;obtain⟨nn,hnn⟩: ∃ nn,Hid (nn=(C.map (El.pk items)).length):=⟨_,I rfl⟩;rw[<- hnn.out]at hv;subst hv;have qI:Hid (di=N (C.map (El.pk items))):=I (by rw[yH.out,hall];rfl);clear hall hke;go_wp2_with (first
    |(refine gP rfl 122 (.tmp 9) rfl xb 0 rfl #[G F id,G F e,T A nn c] (jF HM.out.hx) Bo 3 r9 rfl ?_)
    |(refine oQ rfl 122 (.tmp 4) (.tmp 99) rfl (w.heap.size+1) #[G F id,G F e,T A nn c] rfl rfl 122 jY HM.out.hz r9 rfl ai ?_))
   refine iq (v:= bG #[az #[G F id,G F e,T A nn c],aA ae]) (qY IB _ _ (w.heap.size+1) 122 #[G F id,G F e,T A nn c] rfl (mQ HM.out.hz _) Bo r9) rfl ?_;exact⟨oJ HM.out.ay (zK _),.inr ⟨_,A,c,qI.out,by rw[<- hnn.out],by have:=qf HM.out.own λg cs hB=>NS hB (hB.ne HM.out.hz aJ) #[G F id,G F e,T A nn c];unfold gp Sl.val;dsimp only;rw[<- hnn.out]at this |-;exact this⟩⟩
end
def XQ (r:Option bI) (w:Z) (e:eG) (w':Z):Prop:=Below w.heap.size w w'/\
 ((∃ i,r=N i/\e= bM (bG #[az i.cells.toArray,G F 0]))\/(∃ E:Int,E≠0/\e= bM (bG #[az iR,G F E])))
theorem aje (i:bI):i.cells.toArray.all (·.oneCell')=ae:=by
 obtain⟨⟨a,b⟩,c,d,e,f,g⟩:=i
 kernel_rfl
theorem agw {w:Z} {B:Nat} {b o:Nat} {l:List aI} (h:Rd w B 7 (N ⟨b,o,J⟩) l.length (cellsOf aI.cells l)) {k:Nat} (hk:k<l.length):w.rangeAt b (o+k*7) l[k].cells.toArray.toList:=λj v hv=>by
 obtain⟨b2,o2,e,_,hc⟩:=qj (f:=aI.cells) (sz:=7) (λ_=>rfl) h hk;injection e with e
 injection e with e1 e2
 subst e1;subst e2;exact hc j v (by simpa using hv)
theorem agx:(ak.info? 107).map (·.size)=N 7:=ai
section
variable (w:Z)
theorem aoI (D:bN) (hD:D.Is) (hI:D.In w) (q:Int) (k:Nat) (hk:k<D.es.length) (j:Nat) (hj:j<D.es[k].lines.l.length) (OD:D.es[k].date<=ax.cB D.y D.m D.p q):
 aF ak 24 #[az D.aH,az #[G F D.es[k].id,G F j],G F q] w (XQ ((D.env q).item (D.el.getD D.es[k].bF.toNat default) D.es[k] D.es[k].lines.l[j] j) w):=by
 have HD:=I hD;have HI:=I hI;have zP:=I (YG hD.ids k hk);have KO:=I (λ(W:Z) (h:D.In W)=>afQ W D hD h q);obtain⟨en,hen,hxe,e2,e3,e4⟩:=hD.one (bP hk);have KI:=I (λ(W:Z) (g mb:Nat) (H:fZ D w W g mb 0 (λ_=>J) en q (ax.cB D.y D.m D.p q) D.el[en].cK) (hce:ax.bJ D.y D.m D.p q=0)=>
  Yw W D hD w hI g mb 0 (λ_=>J) en hen q H D.es[k] (hI.nG.ok _ (bP hk)).2.2.2.2.2.2.1.1 j hj O (hD.Oc en hen).1 hD.nU (aaw hce) e2 (hD.Oc en hen).2 (e4 _ (bP hj)).1 (e4 _ (bP hj)).2 hD.XW)
 have KE:=I (λ(W:Z) (hb:Below w.heap.size w W) (g:Nat) (hg:w.heap.size<=g) (la:Int) (hB:au W g 110 (jD D.aH [G F 0,G F q,G F la,.map J,av ⟨#[]⟩,aA ag]))=>Sy W D hD w hI hb g hg 0 q la (.map J) ⟨#[]⟩ ag en hen hB);rw[hxe,VF];clear hI hD e2 e3 e4;obtain⟨R,hR⟩: ∃ R,(D.env q).item (D.el.getD en default) D.es[k] D.es[k].lines.l[j] j=R:=⟨_,rfl⟩;rw[hR]at KI |-;clear hR;have IU:=I HI.out.nG.rd;have ZF:=HI.out.nG.rd;obtain⟨sA,hsA⟩: ∃ sA,Hid (sA=D.sA):=⟨_,I rfl⟩;obtain⟨b,o,hA,aX,f0,f1,f2,f3,f4,f5,f6⟩:=aI.at_ ZF hk;have IQ:Hid (D.aH[21]? =N (T (N ⟨b,o,J⟩) D.es.length D.sc)):=I (by rw[<- hA];exact HD.out.si);rw[hA]at IU;have KX:=I (λ(W:Z) (g:Nat) (hr:Rd W W.heap.size 7 (N ⟨b,o,J⟩) D.es.length (cellsOf aI.cells D.es)) (hg:g<W.heap.size) (hs:W.cell? ⟨g,0,J⟩=N (G F D.es[k].id))=>aiS D.es (N ⟨b,o,J⟩) D.sc g D.es[k].id W hr (by have:=HD.out.ze;omega) hg hs);rw[zP.out]at KX;have Ec:=I (λ(W:Z) (hb:Below w.heap.size w W)=>agw (IU.out.below hb (aC _)) hk);have hbz:(ak.info? 36).map (·.size)=N D.aH.size:=by rw[HD.out.size];kernel_rfl
 have h27:(ak.info? 36).map (·.size)=N 27:=ai;clear hA hsA ZF zP;obtain⟨n,hn⟩: ∃ n,Hid (n=D.es.length):=⟨_,I rfl⟩;have hkn:k<n:=by rw[hn.out];exact hk
 rw[<- hn.out]at IQ KX;generalize D.es[k]=x at*;clear hk;obtain⟨id,xe,da,kd,fo,tx,⟨ll,lA,lc⟩⟩:=x;unfold Sl.val at f6;dsimp only at*;subst hxe;have hb1:Below w.heap.size w (((w.alloc (U D.aH 36)).alloc (U #[G F id,G F j] 70)).alloc (U iR 83)):=(((aD _ _).alloc (aC _) _).alloc aL _).alloc bL _;have df:=I (((au.new w 36 D.aH).alloc (U #[G F id,G F j] 70)).alloc (U iR 83));have uG:=I ((eT w (U D.aH 36) 70 #[G F id,G F j]).alloc (U iR 83));have HZ1:=I (eT (w.alloc (U D.aH 36)) (U #[G F id,G F j] 70) 83 iR);rw[fG]at HZ1;unfold iR at hb1 df uG HZ1;unfold XQ;have NA:=I (λ(W:Z) (h:D.In W)=>KO.out W h);unfold Gm at NA;generalize ax.cB D.y D.m D.p q=la at*;go_enter Tryz.func24,Tryz.ntmps24;go_upto_region 1 with fail
 generalize ((w.alloc (U D.aH 36)).alloc (U #[G F id,G F j] 70)).alloc (U #[G F 0,G F 0,G F 0,G F 0,G F 0,G F 0,G F 0] 83)=W1 at*;go_upto_region 2 with (first
  |(refine gP rfl 36 (.tmp 3) rfl w.heap.size 0 rfl D.aH (jF df.out) jB 27 h27 HD.out.size ?_)
  |(go_at_call 34;refine(NA.out W1 (HI.out.step hb1)).mono ?_;rintro e w2 (⟨hce,E,hE,rfl,ah⟩|⟨hce,g,hg,rfl,ah,hdk⟩)))
 ·have CE:(E==0)=ag:=vH hE;have j5:=I (HZ1.out.step ah);have hb2:=ay hb1 ah;clear KO NA KI KE KX Ec;go_wp2_with (refine oQ rfl 83 (.tmp 6) (.tmp 19) rfl (w.heap.size+1+1) iR rfl rfl 83 iR j5.out uh rfl Le ?_);refine iq (v:= bG #[az iR,G F E]) (qY Tryz.results24 _ _ (w.heap.size+1+1) 83 iR rfl (mQ j5.out _) DC uh) rfl ?_;exact⟨oJ hb2 O,.inr ⟨E,hE,rfl⟩⟩
 have dn:=I (df.out.step ah);have Ei:=I (uG.out.step ah);have HZ2:=I (HZ1.out.step ah);have hb2:=ay hb1 ah;have hgw:w.heap.size<=g:=by have:=hb1.size;omega
 have hg1:w.heap.size+1+1<g:=by have:=HZ1.out.lt;omega
 have HDK:=I hdk;clear KO NA df uG HZ1 ah hdk hb1;have rU:w2.cell? ⟨w.heap.size,21,J⟩=N (T (N ⟨b,o,J⟩) n D.sc):=(dn.out.cell 21).trans IQ.out;have y0:w2.cell? ⟨w.heap.size+1,0,J⟩=N (G F id):=Ei.out.cell 0;have XB:=I (KX.out w2 (w.heap.size+1) (by rw[hn.out];exact(IU.out.below hb2 (aC _)).more hb2.size) Ei.out.lt y0);go_upto_region 5 with (go_at_call 58;refine XB.out.mono ?_;rintro e w3 ⟨rfl,ah⟩)
 have jO:=I (dn.out.step ah);have Rw:=I (Ei.out.step ah);have HZ3:=I (HZ2.out.step ah);have HD3:=I (HDK.out.step ah);have hb3:=ay hb2 ah;clear dn Ei HZ2 HDK ah hb2 rU y0 KX XB;have rU:w3.cell? ⟨w.heap.size,21,J⟩=N (T (N ⟨b,o,J⟩) n D.sc):=(jO.out.cell 21).trans IQ.out;have y1:w3.cell? ⟨w.heap.size+1,1,J⟩=N (G F j):=Rw.out.cell 1;have d29:w3.cell? ⟨g,29,J⟩=N (G F la):=(HD3.out.cell 29).trans (jr HD.out.size 2);have g2:=(hb3.cell (p:=⟨b,o+k*7+2,J⟩) aX).trans f2;have g6:=(hb3.cell (p:=⟨b,o+k*7+6,J⟩) aX).trans f6;have t1:decide ((k:Int)<0)=ag:=iw O;have t2:decide ((j:Int)<0)=ag:=iw O;have t3:decide ((ll.length:Int)<=(j:Int))=ag:=iw O;have t4:decide (la<da)=ag:=iw O;go_quiet (fail);have gL:=I (jO.out.drewN nq);have Xj:=I (Rw.out.drewN nq);have vX:=I (HZ3.out.drewN nq);have HD4:=I (HD3.out.drewN nq);have hb4:=iC hb3 nq;clear jO Rw HZ3 HD3 hb3 rU y1 d29 g2 g6 t1 t2 t3 t4;generalize w3.drewN nq=w4 at*;have rU:w4.cell? ⟨w.heap.size,21,J⟩=N (T (N ⟨b,o,J⟩) n D.sc):=(gL.out.cell 21).trans IQ.out;have g1:=(hb4.cell (p:=⟨b,o+k*7+1,J⟩) aX).trans f1;have Xq:=I (KE.out w4 hb4 g hgw la HD4.out);have hgx:w.heap.size≠g/\w.heap.size+1≠g/\w.heap.size+1+1≠g:=by have:=hg1;omega
 go_upto_region 8 with (go_at_call 60;refine Xq.out.mono ?_;rintro e w5 ⟨rfl,hk5,mb,hD5⟩)
 have gN:=I (hk5 _ _ _ hgx.1 gL.out);have BN:=I (hk5 _ _ _ hgx.2.1 Xj.out);have rP:=I (hk5 _ _ _ hgx.2.2 vX.out);have HD5:=I hD5;clear gL Xj vX HD4 hk5 hD5 rU g1 KE Xq hb4 hgx;have hb5:=HD5.out.below;have RH:=I (λ(W:Z) (H:fZ D w W g mb 0 (λ_=>J) en q la D.el[en].cK)=>KI.out W g mb H hce);unfold Qq at RH;obtain⟨S,hS⟩: ∃ S:Z->Prop,S=λw'=>pg (w.heap.size+1+1) w5 w'/\Below w.heap.size w w':=⟨_,rfl⟩
 have aR:Hid (∀ w':Z,(pg (w.heap.size+1+1) w5 w'/\Below w.heap.size w w')↔S w'):=I (λw'=>by rw[hS]);clear hS;have hC: ∃ d:aK S,w5.drew=d.now:=aK.of ((aR.out _).1 ⟨(pg.refl _ w5).drew,hb5.drew⟩);haveI:Nonempty (aK S):=by obtain⟨d,_⟩:=hC;exact⟨d⟩
 have p21: ∀ z:aK S,z.now.cell? ⟨w.heap.size,21,J⟩=N (T (N ⟨b,o,J⟩) n D.sc):=λz=>((((aR.out _).2 z.is).1 _ _ _ O gN.out).cell 21).trans IQ.out
 have p1: ∀ z:aK S,z.now.cell? ⟨w.heap.size+1,1,J⟩=N (G F j):=λz=>(((aR.out _).2 z.is).1 _ _ _ O BN.out).cell 1
 have adA:Hid (∀ z:aK S,z.now.rangeAt b (o+k*7) (#[G F id,G F en,G F da,G F kd,G F fo,av tx,T lA ll.length lc]:Array aj).toList):=I (λz=>Ec.out z.now ((aR.out _).2 z.is).2);refine nK (n:=13) S 12 ai rfl ?_;have hT:=tg 0;(iterate 5 refine aab hT hC ?_;clear hT;intro hT K hK;go_big_quiet_op;go_big_quiet_on);clear hT;refine Fq 5 hC ?_;intro K hK;refine Fh 107 _ rfl b (o+k*7) rfl #[G F id,G F en,G F da,G F kd,G F fo,av tx,T lA ll.length lc] (λz=>adA.out z) mH 7 agx rfl (hK _ ?_);clear hK K
 (try simp only[Zx])
 have hT:=tg 6;(iterate 2 refine aab hT hC ?_;clear hT;intro hT K hK;go_big_quiet_op;go_big_quiet_on);clear hT;have HD6:=I (HD5.out.keep (w':=w5.drew) ((aD _ w5).drew) rfl rfl);have KI6:=I (RH.out w5.drew HD6.out);clear p21 p1 RH;refine dw (i:=8) ai rfl rfl ?_;intro K hK;go_simp;go_at_call 39;refine KI6.out.mono ?_;rintro e w6 ⟨hcase,n6,f6',hn6,hd6,zk⟩;obtain⟨arr,E,rfl,hs7,h1c,hres⟩: ∃ (arr:Array aj) (E:Int),e= bM (bG #[az arr,G F E])/\arr.size=7/\arr.all (·.oneCell')=ae/\((∃ i,R=N i/\bM (bG #[az arr,G F E])= bM (bG #[az i.cells.toArray,G F 0]))\/ ∃ E':Int,E'≠0/\bM (bG #[az arr,G F E])= bM (bG #[az iR,G F E'])):=by
  rcases hcase with ⟨i,h1,rfl⟩|⟨h1,E,h2,rfl⟩
  ·exact⟨i.cells.toArray,0,rfl,rfl,aje i,.inl ⟨i,h1,rfl⟩⟩
  ·exact⟨iR,E,rfl,rfl,Le,.inr ⟨E,h2,rfl⟩⟩
 have Rh:=I hres;have Ee:=I (cz hs7 h1c);clear hres hcase hs7 h1c;have mK:=I hd6.below;have xJ:=I (zk _ _ _ rP.out.drew);have QS:pg (w.heap.size+1+1) w5 w6:=λB t cs hne hB=>zk _ _ _ hB.drew
 replace hC: ∃ z:aK S,w6=z.now:=aK.of ((aR.out _).1 ⟨QS,mK.out⟩)
 (try go_wp2_with fail)
 refine hK _ _ (.inr (.inr hC)) ?_;clear hK K hd6
 (try simp only[Zx])
 have hT:=tg 9;(iterate 2 refine aab hT hC ?_;clear hT;intro hT K hK;go_big_quiet_op;go_big_quiet_on);clear hT;refine dw (i:=11) ai rfl rfl ?_;intro K hK;refine wp_store_row 83 (.tmp 6) (.tmp 75) rfl (w.heap.size+1+1) arr rfl rfl 83 iR xJ.out (by rw[uh,Ee.out.1]) (by rw[Ee.out.1];rfl) Ee.out.2 ?_;have Em:=I (mQ xJ.out arr);have lZ:=I (oJ (cs:=arr) mK.out (show w.heap.size<=w.heap.size+1+1 by omega));have Ww:pg (w.heap.size+1+1) w5 (w6.setRow (w.heap.size+1+1) arr):=λB t cs hne hB=>NS (QS B t cs hne hB) hne arr
 replace hC:=aK.of ((aR.out _).1 ⟨Ww,lZ.out⟩);refine hK _ _ (.inr (.inr hC)) ?_;clear hK K Ww QS
 (try simp only[Zx])
 refine dw (i:=12) ai rfl rfl ?_;intro K hK;go_simp;refine hK _ _ (.inr (.inl rfl)) ?_;clear hK K
 (try simp only[Zx])
 refine kH ai ?_ _;go_wp2_with fail;refine iq (v:= bG #[az arr,G F E]) (qY Tryz.results24 _ _ (w.heap.size+1+1) 83 arr rfl Em.out DC (by rw[uh,Ee.out.1])) rfl ?_;exact⟨lZ.out,Rh.out⟩
end
def XK (D:bN) (e q p:Int) (w:Z) (r:eG) (w':Z):Prop:=Below w.heap.size w w'/\
 ((r= bM (bG #[T J 0 0,aA ag]))\/
  (ax.bJ D.y D.m D.p p=0/\ ∃ (v:aj) (L:List bH),r= .returned (.tuple #[v,aA ae])/\w'.ownsRow w.heap.size 74 3 v L.length (cellsOf bH.cells L)/\(∀ o∈L,Wh.rT (D.env p) D.el D.es (ax.cB D.y D.m D.p p) e q o)/\L.length<=60))
def XR (D:bN) (p e q:Int) (r:aO) (w:Z) (r':eG) (w':Z):Prop:=Below w.heap.size w w'/\
 ((∃ i:bI,r'= .returned (bG #[az i.cells.toArray,G F 0])/\ ∀ o:bH,o.ref=r->o.amount=i.amount->Wh.rT (D.env p) D.el D.es (ax.cB D.y D.m D.p p) e q o)\/
  (∃ E:Int,E≠0/\r'= bM (bG #[az iR,G F E])))
section
variable (w:Z)
theorem aoK (D:bN) (hD:D.Is) (hI:D.In w) (p e q:Int) (r:aO) (hr:pX D.es (ax.cB D.y D.m D.p p) e q r):
 aF ak 24 #[az D.aH,az #[G F r.entry,G F r.line],G F p] w (XR D p e q r w):=by
 obtain⟨y,hy,j,hj,rfl,h2,h3,h4⟩:=hr;obtain⟨k,hk,rfl⟩:=iK.1 hy;refine(aoI w D hD hI p k hk j hj h2).mono ?_;rintro r' w' ⟨hb,⟨i,hi,rfl⟩|⟨E,hE,rfl⟩⟩
 ·exact⟨hb,.inl ⟨i,rfl,λo ho1 ho2=>⟨⟨D.es[k],hy,j,hj,ho1,h2,h3,h4⟩,⟨D.es[k],hy,j,hj,i,hi,ho1,ho2⟩⟩⟩⟩
 ·exact⟨hb,.inr ⟨E,hE,rfl⟩⟩
theorem ak6 (D:bN) (hD:D.Is) (hI:D.In w) (ms:List dz) (mA:Option aG) (mc:Nat) (lK:D.aH[24]? =N (T mA ms.length mc)) (hM:tN w ms mA) (e q p:Int):
 aF ak 8 #[az D.aH,G F e,G F q,G F p] w (XK D e q p w):=by
 have HD:=I hD;have HI:=I hI;have KL:=I (λ(W:Z)=>Gu D.y D.m D.p p W);have KP:=I (λ(W:Z) (hE:kL W D.es D.sA) (hM:tN W ms mA) (bA:Int)=>abf W D.aH D.es D.sA D.sc ms mA mc e q bA hD.size hD.si hE hD.ze lK hM);have HM:=I hM;have KI:=I (λ(W:Z) (h:D.In W) (r:aO) (hr:pX D.es (ax.cB D.y D.m D.p p) e q r)=>aoK W D hD h p e q r hr);unfold XR at KI;have hbz:(ak.info? 36).map (·.size)=N D.aH.size:=by rw[HD.out.size];kernel_rfl
 have h27:(ak.info? 36).map (·.size)=N 27:=ai;have hb1:Below w.heap.size w (w.alloc (U D.aH 36)):=(aD _ _).alloc (aC _) _;have df:=I (au.new w 36 D.aH);obtain⟨Fw,hi1,EW,EX,EY⟩:=jh bH.info;clear hI hD hM;unfold XK;generalize ax.cB D.y D.m D.p p=la at*;generalize ax.bJ D.y D.m D.p p=ce at*;go_enter Tryz.func8,Tryz.ntmps8;go_upto_region 1 with fail
 generalize w.alloc (U D.aH 36)=w1 at*;have c1:w1.cell? ⟨w.heap.size,1,J⟩=N (G F D.y):=(df.out.cell 1).trans ((HD.out.ik 1 O).trans (by rw[HD.out.HG];rfl));have c2:w1.cell? ⟨w.heap.size,2,J⟩=N (G F D.m):=(df.out.cell 2).trans ((HD.out.ik 2 O).trans (by rw[HD.out.HG];rfl));have c3:w1.cell? ⟨w.heap.size,3,J⟩=N (G F D.p):=(df.out.cell 3).trans ((HD.out.ik 3 O).trans (by rw[HD.out.HG];rfl));go_upto_region 2 with (go_at_call 15;refine(KL.out _).mono ?_;rintro r w2 ⟨rfl,ah⟩;have hb2:=ay hb1 ah;have dn:=I (df.out.step ah);clear ah)
 clear c1 c2 c3 df hb1 KL
 cases hc0:(ce==0)
 ·go_wp2_with fail;go_ret2;exact⟨hb2,.inl rfl⟩
 have zM:Hid (ce=0):=I (by simpa using hc0);have RN:=I (KP.out w2 (HI.out.step hb2).nG (HM.out.step hb2) la);unfold NF at RN;go_upto_region 6 with (first
  |(refine gP rfl 36 (.tmp 4) rfl w.heap.size 0 rfl D.aH (jF dn.out) jB 27 h27 HD.out.size ?_)
  |(go_at_call 16;refine RN.out.mono ?_;rintro r w3 ⟨vr,R,rfl,hR,hRn,hor,ah⟩;obtain⟨A3,c3,rfl,-⟩:=Rd.dE hor;have hb3:=ay hb2 ah;have jO:=I (dn.out.step ah);have HR:=I hR;have jq:=I (oO hor hb2.size);clear ah hR hor))
 clear KP RN dn hb2;go_loopw [12,33] (λv t wr=> ∃ (k:Nat) (L:List bH),k<=R.length/\t= G F k/\(∀ o∈L,Wh.rT (D.env p) D.el D.es la e q o)/\L.length<=60/\wr.ownsRow w.heap.size 74 3 v L.length (cellsOf bH.cells L)/\wr.ownsRow w.heap.size 70 2 (T A3 R.length c3) R.length (cellsOf aO.cells R)/\au wr w.heap.size 36 D.aH/\Below w.heap.size w wr) (λ_ t _=>R.length - (intOf t).toNat)
 case atStart=>exact⟨0,[],O,rfl,aL,aL,jZ _ _ _ _,jq.out,jO.out,hb3⟩
 case round=>
  clear jq jO hb3;obtain⟨k,L,hk,rfl,hL,hLn,ho,hor,hx,hb⟩:=hrel;have HL:=I hL;have HO:=I ho;have oZ:=I hor;have HX:=I hx;have hz:=hb.size;clear hL ho hor hx;obtain⟨oA,oc,rfl,-⟩:=Rd.dE HO.out
  by_cases hlt:k<R.length
  ·obtain⟨b,o,hA,aX,f0,f1⟩:=aO.at_ (by obtain⟨A',c',he',hr'⟩:=Rd.dE oZ.out;injection he' with e1 e2 e3;subst e1;exact hr') hlt;subst hA;have BH:=I (HR.out _ (bP hlt)).1;generalize R[k]=x at*;have hst:=(aD wr.heap.size wr).alloc (aC _) (U #[G F x.entry,G F x.line] 70);have uG:=I (au.new wr 70 #[G F x.entry,G F x.line]);have df:=I (HX.out.step hst);have gm:=I (dF HO.out hst);have yQ:=I (dF oZ.out hst);have hb1:=ay hb hst;go_upto_region 8 with fail
   clear f0 f1 hst HX HO oZ;generalize wr.alloc (U #[G F x.entry,G F x.line] 70)=W1 at*;have y0:W1.cell? ⟨wr.heap.size,0,J⟩=N (G F x.entry):=uG.out.cell 0;have y1:W1.cell? ⟨wr.heap.size,1,J⟩=N (G F x.line):=uG.out.cell 1;have K1:=I (KI.out W1 (HI.out.step hb1) x BH.out);go_upto_region 9 with (first
    |(refine gP rfl 36 (.tmp 4) rfl w.heap.size 0 rfl D.aH (jF df.out) jB 27 h27 HD.out.size ?_)
    |(go_at_call 24;refine K1.out.mono ?_;rintro r w2 ⟨ah,⟨i,rfl,hi⟩|⟨E,hE,rfl⟩⟩;(try obtain⟨⟨i0,i1⟩,i2,i3,i4,i5,i6⟩:=i);(try unfold bI.cells);all_goals (try unfold iR);all_goals (try dsimp only at *)))
   ·have HI1:=I hi;have gU:=ah.alloc ah.size (U #[G F i0,G F i1,G F i2,G F i3,G F i4,G F i5,G F i6] 83);have HZ2:=I (au.new w2 83 #[G F i0,G F i1,G F i2,G F i3,G F i4,G F i5,G F i6]);have Ei:=I (uG.out.step gU);have dn:=I (df.out.step gU);have gJ:=I (dF gm.out gU);have D8:=I (dF yQ.out gU);have hb2:=ay hb1 gU;clear hi ah gU df uG gm yQ K1 y0 y1;have hz1:=hb2.size;generalize hgw:w2.alloc (U #[G F i0,G F i1,G F i2,G F i3,G F i4,G F i5,G F i6] 83)=w3 at*;clear hgw;have z6:w3.cell? ⟨w2.heap.size,6,J⟩=N (G F i6):=HZ2.out.cell 6;have y0:w3.cell? ⟨wr.heap.size,0,J⟩=N (G F x.entry):=Ei.out.cell 0;have y1:w3.cell? ⟨wr.heap.size,1,J⟩=N (G F x.line):=Ei.out.cell 1
    cases SL:decide ((60:Int)<=(L.length:Int))
    case true=>
     go_wp2_with fail;go_ret2;exact⟨hb2,.inl rfl⟩
    case false=>
     cases ha:(i6==0)
     case true=>
      go_wp2_with fail;go_roundw
      case rel=>exact⟨k+1,L,O,by go_num,HL.out,hLn,gJ.out,D8.out,dn.out,hb2⟩
      case measure=>simp[intOf];omega
     case false=>
      have apx:L.length<60:=by have:=j3 SL;omega
      have qU:=(aD w3.heap.size w3).alloc (aC _) (U #[G F x.entry,G F x.line,G F i6] 74);have ko:=I (dF gJ.out qU);have Jd:=I (dF D8.out qU);have gL:=I (dn.out.step qU);have hb4:=ay hb2 qU;clear gJ D8 dn qU;go_wp2_with (at_builtin;refine yw bH.cells 3 bH.len bH.one rfl (.tmp 54) (.tmp 59) 42 rfl w.heap.size 74 Fw (az #[G F 0,G F 0,G F 0]) 24 Tryz.underlying42 hi1 EW EX EY rfl aJ _ L rfl ko.out w3.heap.size 1 ⟨x,i6⟩ #[G F x.entry,G F x.line,G F i6] rfl (au.new w3 _ _) rfl fQ O bL ?_;intro v9 w9 uf mR;have rM:=I uf;have Ra:=I (AV Jd.out ko.out aJ mR);have vV:=I (gL.out.grown mR (gF ko.out gL.out aJ));have tV:=iI hb4 hb4.size ko.out mR;clear uf mR ko Jd gL);have QT:Hid (∀ o∈L++ [⟨x,i6⟩],Wh.rT (D.env p) D.el D.es la e q o):=I (λo ho=>by
       rcases il.1 ho with h|h
       ·exact HL.out o h
       ·rw[iJ.1 h];exact HI1.out ⟨x,i6⟩ rfl rfl)
      go_roundw
      case rel=>exact⟨k+1,_,O,by go_num,QT.out,bL,rM.out,Ra.out,vV.out,tV⟩
      case measure=>simp[intOf];omega
   ·have CE:(E==0)=ag:=vH hE;have hb2:=(ay hb1 ah).alloc (ay hb1 ah).size (U #[G F 0,G F 0,G F 0,G F 0,G F 0,G F 0,G F 0] 83);clear K1;go_wp2_with fail;go_ret2;exact⟨hb2,.inl rfl⟩
  ·go_wp2_with fail;go_ret2;exact⟨hb,.inr ⟨zM.out,_,L,rfl,HO.out,HL.out,hLn⟩⟩
end
end Go.Proofs.YtbedbfdhfokifaaGreat
