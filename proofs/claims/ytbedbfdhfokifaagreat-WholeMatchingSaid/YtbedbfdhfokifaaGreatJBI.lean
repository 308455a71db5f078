/- Part of the proof of WholeMatching. -/
import Derived.Test.YtbedbfdhfokifaaGreatJBH
namespace Go.Proofs.YtbedbfdhfokifaaGreat
set_option maxRecDepth 100000
set_option maxHeartbeats 16000000
set_option linter.unusedVariables false
set_option linter.unusedSimpArgs false
open _root_.Bool renaming true->ae,false->ag
open Go renaming World->Z,Calls->aF,Addr->aG,Value->aj
open Go.IntKind renaming i64->F
open Go.Obj renaming cells->U
open Go.Proofs.Tryz renaming prog->ak
open Go.Value renaming int->G,slice->T,pointer->aN,agg->az,tuple->bG
open _root_.Option renaming none->J,some->N
open Go.RowKit
theorem agJ {aH:Array aj} (hz:aH.size=27) (mb:Nat) (fi la:Int):(ak).built 164 [(0,az aH),(1,.map (N mb)),(2,G F fi),(3,G F la)]=N (jD aH [.map (N mb),G F fi,G F la]):=by
 obtain⟨l⟩:=aH;have h0:l.length=27:=hz;clear hz;obtain⟨v0,l1,e1,h1⟩:=fA h0;clear h0;subst e1;obtain⟨v1,l2,e2,h2⟩:=fA h1;clear h1;subst e2;obtain⟨v2,l3,e3,h3⟩:=fA h2;clear h2;subst e3;obtain⟨v3,l4,e4,h4⟩:=fA h3;clear h3;subst e4;obtain⟨v4,l5,e5,h5⟩:=fA h4;clear h4;subst e5;obtain⟨v5,l6,e6,h6⟩:=fA h5;clear h5;subst e6;obtain⟨v6,l7,e7,h7⟩:=fA h6;clear h6;subst e7;obtain⟨v7,l8,e8,h8⟩:=fA h7;clear h7;subst e8;obtain⟨v8,l9,e9,h9⟩:=fA h8;clear h8;subst e9;obtain⟨v9,l10,e10,h10⟩:=fA h9;clear h9;subst e10;obtain⟨v10,l11,e11,h11⟩:=fA h10;clear h10;subst e11;obtain⟨v11,l12,e12,h12⟩:=fA h11;clear h11;subst e12;obtain⟨v12,l13,e13,GH⟩:=fA h12;clear h12;subst e13;obtain⟨v13,l14,e14,JW⟩:=fA GH;clear GH;subst e14;obtain⟨v14,l15,e15,JZ⟩:=fA JW;clear JW;subst e15;obtain⟨v15,l16,e16,h16⟩:=fA JZ;clear JZ;subst e16;obtain⟨v16,l17,e17,J2⟩:=fA h16;clear h16;subst e17;obtain⟨v17,l18,e18,h18⟩:=fA J2;clear J2;subst e18;obtain⟨v18,l19,e19,h19⟩:=fA h18;clear h18;subst e19;obtain⟨v19,l20,e20,h20⟩:=fA h19;clear h19;subst e20;obtain⟨v20,l21,e21,h21⟩:=fA h20;clear h20;subst e21;obtain⟨v21,l22,e22,h22⟩:=fA h21;clear h21;subst e22;obtain⟨v22,l23,e23,h23⟩:=fA h22;clear h22;subst e23;obtain⟨v23,l24,e24,lK⟩:=fA h23;clear h23;subst e24;obtain⟨v24,l25,e25,J3⟩:=fA lK;clear lK;subst e25;obtain⟨v25,l26,e26,J4⟩:=fA J3;clear J3;subst e26;obtain⟨v26,Us,e27,h27⟩:=fA J4;clear J4;subst e27;obtain rfl:Us= []:=List.length_eq_zero_iff.1 h27;clear h27;show (ak).built 164 _=N _
 kernel_rfl
theorem aam (W:Z):(zeroValue 83).run ak W= .ok (sI default) W:=Tryz.zeroValue83 W
theorem ajc {items:List bI} {v:aj} {x:aj} (h:mU items v=N x): ∃ i:bI,x=sI i:=by
 unfold mU at h;simp only[P6]at h;obtain⟨i,_,rfl⟩:=h;exact⟨i,rfl⟩
section
variable (w:Z)
theorem aae {D:bN} {hl:List aM} {hA:Option aG} {hc:Nat} {ms:List dz} {mA:Option aG} {mc:Nat} {bA:Int} {e q:Nat} (B:En D hl hA hc ms mA mc bA e q) {items:List bI} {iA:Option aG} (dM:yU D hl hA ms mA items iA w) (hil:items.length<=100000) (hwf: ∀ i∈items,Wf i.ref.entry/\Wf i.ref.line) (ic:Nat) (p:Int) (hce:ax.bJ D.y D.m D.p p=0):
 aF ak 40 #[az D.aH,T iA items.length ic,G F p] w (λr w'=> ∃ fb mb n,r= .returned (bG #[aN (N ⟨fb,0,J⟩),G F 0])/\xL D items w w' fb mb n (ax.pG D.y D.m D.p p) (ax.cB D.y D.m D.p p)):=by
 have HB:=I B;have HI:=I dM;have Aa:=I hwf;have KG:=I (λ(W:Z) (h:D.In W)=>Ol D.aB D.cur D.y D.m D.p D.cl D.cA D.cc D.ro D.el D.eA D.ec W (I HB.out.is.HG) h.xU HB.out.is.few);rw[HB.out.is.gv]at KG;unfold fD at KG;have KH:=I (λ(W:Z) (hr:Rd W W.heap.size 4 hA hl.length (cellsOf aM.cells hl))=>OL D.el.length hl hA hc W hr HB.out.hw HB.out.hv);have KM:=I (λ(W:Z) (hE:kL W D.es D.sA) (hM:tN W ms mA)=>aaE W D.aH D.es D.sA D.sc bA e q HB.out.is.size HB.out.is.si hE HB.out.is.ze HB.out.is.ids ms mA mc HB.out.lK hM HB.out.ok);have KL:Hid (∀ W:Z,aF ak 15 #[az #[G F D.y,G F D.m,G F D.p],G F p] W λe w'=>e= .returned (bG #[G F (ax.cB D.y D.m D.p p),G F 0])/\Below W.heap.size W w'):=I (λW=>by have:=Gu D.y D.m D.p p W;rwa [hce]at this);have KB:Hid (∀ W:Z,aF ak 78 #[az #[G F D.y,G F D.m,G F D.p],G F p] W λe w'=>e= .returned (bG #[G F (ax.pG D.y D.m D.p p),G F 0])/\Below W.heap.size W w'):=I (λW=>by have:=Ya D.y D.m D.p p W;rwa [hce]at this);have hbz:(ak.info? 36).map (·.size)=N D.aH.size:=by rw[HB.out.is.size];kernel_rfl
 have h27:(ak.info? 36).map (·.size)=N 27:=ai;have hb1:Below w.heap.size w (w.alloc (U D.aH 36)):=(aD _ _).alloc (aC _) _;have df:=I (au.new w 36 D.aH);have hmm:= @rC ak;clear B dM hwf hce;generalize ax.cB D.y D.m D.p p=la at*;generalize ax.pG D.y D.m D.p p=fi at*;have IW:=I (λmb=>agJ HB.out.is.size mb fi la);go_enter Tryz.func40,Tryz.ntmps40;go_upto_region 1 with fail
 generalize w.alloc (U D.aH 36)=w1 at*;go_upto_region 3 with (first
  |(refine gP rfl 29 (.tmp 17) rfl w.heap.size 0 rfl D.aB (SI HB.out.is df.out) bQ 21 gy HB.out.is.uO ?_)
  |(go_at_call 76;refine(KG.out _ (HI.out.step hb1).EC).mono ?_;rintro r w2 ⟨rfl,ah⟩;have hb2:=ay hb1 ah;have dn:=I (df.out.step ah);have c20:w2.cell? ⟨w.heap.size,20,J⟩=N (T D.eA D.el.length D.ec):=(dn.out.cell 20).trans ((HB.out.is.ik 20 O).trans (by rw[HB.out.is.HG];rfl));have c23:w2.cell? ⟨w.heap.size,23,J⟩=N (T hA hl.length hc):=(dn.out.cell 23).trans HB.out.h23;clear ah)
  |(go_at_call 77;refine(KH.out _ (HI.out.step hb2).hr).mono ?_;rintro r w3 ⟨rfl,ah⟩;have hb3:=ay hb2 ah;have jO:=I (dn.out.step ah);clear ah)
  |(refine LX rfl 36 (.tmp 3) rfl w.heap.size 0 rfl D.aH (jF jO.out) jB 27 h27 HB.out.is.size ?_)
  |(go_at_call 11;refine(KM.out _ (HI.out.step hb3).EC.nG (HI.out.step hb3).mi).mono ?_;rintro r w4 ⟨rfl,ah⟩;have hb4:=ay hb3 ah;have gL:=I (jO.out.step ah);clear ah))
 clear KG KH KM df dn jO hb1 hb2 hb3 c20 c23;have c1:w4.cell? ⟨w.heap.size,1,J⟩=N (G F D.y):=(gL.out.cell 1).trans ((HB.out.is.ik 1 O).trans (by rw[HB.out.is.HG];rfl));have c2:w4.cell? ⟨w.heap.size,2,J⟩=N (G F D.m):=(gL.out.cell 2).trans ((HB.out.is.ik 2 O).trans (by rw[HB.out.is.HG];rfl));have c3:w4.cell? ⟨w.heap.size,3,J⟩=N (G F D.p):=(gL.out.cell 3).trans ((HB.out.is.ik 3 O).trans (by rw[HB.out.is.HG];rfl));go_upto_region 6 with (go_at_call 15;refine(KL.out _).mono ?_;rintro r w5 ⟨rfl,ah⟩;have hb5:=ay hb4 ah;have gN:=I (gL.out.step ah);clear ah)
 clear c1 c2 c3 KL gL hb4;have c1:w5.cell? ⟨w.heap.size,1,J⟩=N (G F D.y):=(gN.out.cell 1).trans ((HB.out.is.ik 1 O).trans (by rw[HB.out.is.HG];rfl));have c2:w5.cell? ⟨w.heap.size,2,J⟩=N (G F D.m):=(gN.out.cell 2).trans ((HB.out.is.ik 2 O).trans (by rw[HB.out.is.HG];rfl));have c3:w5.cell? ⟨w.heap.size,3,J⟩=N (G F D.p):=(gN.out.cell 3).trans ((HB.out.is.ik 3 O).trans (by rw[HB.out.is.HG];rfl));go_upto_region 7 with (go_at_call 78;refine(KB.out _).mono ?_;rintro r w6 ⟨rfl,ah⟩;have hb6:=ay hb5 ah;have Gi:=I (gN.out.step ah);clear ah)
 clear c1 c2 c3 KB gN hb5;have Lc:=hb6.size;have BI:=I ((ig.made (P:=ak) (k:=70) (z:=sI default) w6).alloc (U (jD D.aH [.map (N w6.heap.size),G F fi,G F la]) 164));have yI:=I (au.new (w6.alloc (.map #[] 0)) 164 (jD D.aH [.map (N w6.heap.size),G F fi,G F la]));have fu:=(hb6.alloc Lc (.map #[] 0)).alloc bL (U (jD D.aH [.map (N w6.heap.size),G F fi,G F la]) 164);go_upto_region 8 with (first
  |(refine gP rfl 36 (.tmp 3) rfl w.heap.size 0 rfl D.aH (jF Gi.out) jB 27 h27 HB.out.is.size ?_)
  |(refine jP rfl 58 rfl 164 _ rfl (jD D.aH [.map (N w6.heap.size),G F fi,G F la]) [(0,az D.aH),(1,.map (N w6.heap.size)),(2,G F fi),(3,G F la)] ai (IW.out _) ?_))
 have qd:(w6.alloc (.map #[] 0)).heap.size=w6.heap.size+1:=aL;rw[qd]at yI;generalize eU:(w6.alloc (.map #[] 0)).alloc (U (jD D.aH [.map (N w6.heap.size),G F fi,G F la]) 164)=w7 at*;clear eU qd Gi hmm IW;obtain⟨mb,hmb⟩: ∃ mb,mb=w6.heap.size:=⟨_,rfl⟩;have Q0:Hid (w.heap.size<=mb):=I O;rw[<- hmb]at BI yI |-;clear hmb Lc hb6;go_wp2_with fail;go_loopw [62] (λt wr=> ∃ k n:Nat,k<=items.length/\t= G F k/\n<=k/\Below w.heap.size w wr/\au wr (mb+1) 164 (jD D.aH [.map (N mb),G F fi,G F la])/\ig ak 70 (sI default) wr mb n (mU (items.take k))) (λt _=>items.length - (intOf t).toNat)
 case atStart=>exact⟨0,0,O,rfl,O,fu,yI.out,by rw[Ql,ai9];exact BI.out⟩
 case round=>
  clear fu yI BI;obtain⟨k,n,hk,rfl,hn,hb,OG,hmp⟩:=hrel;have yI:=I OG;have BI:=I hmp;have hz:=hb.size;clear OG hmp
  by_cases hlt:k<items.length
  ·obtain⟨b,o,hA,aX,f0,f1,f2,f3,f4,f5,f6⟩:=bI.at_ (HI.out.it.below hb (aC _)) hlt;subst hA;obtain⟨wf1,wf2⟩:=Aa.out _ (bP hlt);have HOLD:=I (λ(x:aj) h=>aja (items:=items) (k:=k) hlt (x:=x) h);have yO:=I (ai8 (items:=items) (k:=k) hlt);have acK:=I (λ(v:aj) h=>ai7 (items:=items) (k:=k) hlt (v:=v) h);obtain⟨kl,hkl⟩:=Dj wf1 wf2;generalize items[k]=x at*;obtain⟨⟨i0,i1⟩,i2,i3,i4,i5,i6⟩:=x;unfold jK at*;dsimp only at*;have hst:=(aD wr.heap.size wr).alloc (aC _) (U #[G F i0,G F i1,G F i2,G F i3,G F i4,G F i5,G F i6] 83);have df:=I (au.new wr 83 #[G F i0,G F i1,G F i2,G F i3,G F i4,G F i5,G F i6]);have MX:=I (yI.out.step hst);have Nh:=I (BI.out.step hst);have hb1:=ay hb hst;go_upto_region 11 with fail
   clear f0 f1 f2 f3 f4 f5 f6 hst yI BI wf1 wf2;generalize wr.alloc (U #[G F i0,G F i1,G F i2,G F i3,G F i4,G F i5,G F i6] 83)=W1 at*;have y7:W1.drew.cell? ⟨mb+1,27,J⟩=N (.map (N mb)):=(MX.out.cell 27).trans (jr HB.out.is.size 0);have JJ:(W1.alloc (U #[G F 0,G F 0,G F 0,G F 0,G F 0,G F 0,G F 0] 83)).drew.cell? ⟨mb+1,27,J⟩=N (.map (N mb)):=((MX.out.alloc _).cell 27).trans (jr HB.out.is.size 0);have k0:W1.drew.cell? ⟨wr.heap.size,0,J⟩=N (G F i0):=df.out.cell 0;have k1:W1.drew.cell? ⟨wr.heap.size,1,J⟩=N (G F i1):=df.out.cell 1;have uj:(W1.alloc (U #[G F 0,G F 0,G F 0,G F 0,G F 0,G F 0,G F 0] 83)).drew.cell? ⟨wr.heap.size,0,J⟩=N (G F i0):=(df.out.alloc _).cell 0;have k1':(W1.alloc (U #[G F 0,G F 0,G F 0,G F 0,G F 0,G F 0,G F 0] 83)).drew.cell? ⟨wr.heap.size,1,J⟩=N (G F i1):=(df.out.alloc _).cell 1;have u1:=(Nh.out.same (w':=W1.drew) rfl).look (t:=162) uk MM (aam _) hkl;have u2:=((Nh.out.alloc (U #[G F 0,G F 0,G F 0,G F 0,G F 0,G F 0,G F 0] 83)).same (w':=(W1.alloc (U #[G F 0,G F 0,G F 0,G F 0,G F 0,G F 0,G F 0] 83)).drew) rfl).look (t:=162) uk MM (aam _) hkl;have hdv:sI default= az #[G F 0,G F 0,G F 0,G F 0,G F 0,G F 0,G F 0]:=rfl;have hz1:=hb1.size
   cases hf:mU (items.take k) (az #[G F i0,G F i1]) with
   |some v=>
    have vP:=I (HOLD.out v hf);obtain⟨iv,rfl⟩:=ajc hf;obtain⟨⟨a0,a1⟩,a2,a3,a4,a5,a6⟩:=iv;rw[hf]at u1 u2;simp only[rz,rD,show sI ⟨⟨a0,a1⟩,a2,a3,a4,a5,a6⟩= .agg #[G F a0,G F a1,G F a2,G F a3,G F a4,G F a5,G F a6] from rfl]at u1 u2;have hst:=(aD W1.heap.size W1).alloc (aC _) (U #[G F a0,G F a1,G F a2,G F a3,G F a4,G F a5,G F a6] 83);have vJ:=I (ay hb1 hst.drew);have xq:=I (MX.out.step hst.drew);have oF:=I (Nh.out.step hst.drew);clear hst;go_cut [16] (λs16 wx=>s16= .bool ae/\Below w.heap.size w wx/\au wx (mb+1) 164 (jD D.aH [.map (N mb),G F fi,G F la])/\ig ak 70 (sI default) wx mb n (mU (items.take k)))
    case first=>
     go_region
     all_goals go_wp2_with fail
     all_goals go_meet
     all_goals exact⟨rfl,vJ.out,xq.out,oF.out⟩
    case rest=>
     obtain⟨rfl,hbx,hfx,hmx⟩:=hcut;have zP:=I hfx;have yN:=I hmx;clear hfx hmx u1 u2 y7 JJ k0 uj k1 k1' vJ xq oF;go_wp2_with fail;go_roundw
     case rel=>exact⟨k+1,n,O,by go_num,O,hbx,zP.out,by rw[vP.out];exact yN.out⟩
     case measure=>simp[intOf];omega
   |none=>
    have HKN:=I (yO.out hf);rw[hf]at u1 u2;simp only[Dz,wV,hdv]at u1 u2;have hst:=(aD W1.heap.size W1).alloc (aC _) (U #[G F 0,G F 0,G F 0,G F 0,G F 0,G F 0,G F 0] 83);have vJ:=I (ay hb1 hst.drew);have xq:=I (MX.out.step hst.drew);have oF:=I (Nh.out.step hst.drew);have Xf:=I (df.out.step hst.drew);clear hst;go_cut [16] (λs16 wx=>s16= .bool ag/\Below w.heap.size w wx/\au wx (mb+1) 164 (jD D.aH [.map (N mb),G F fi,G F la])/\ig ak 70 (sI default) wx mb n (mU (items.take k))/\au wx wr.heap.size 83 #[G F i0,G F i1,G F i2,G F i3,G F i4,G F i5,G F i6])
    case first=>
     go_region
     all_goals go_wp2_with fail
     all_goals go_meet
     all_goals exact⟨rfl,vJ.out,xq.out,oF.out,Xf.out⟩
    case rest=>
     obtain⟨rfl,hbx,hfx,hmx,yf⟩:=hcut;have zP:=I hfx;have yN:=I hmx;have mg:=I yf;clear hfx hmx yf u1 u2 y7 JJ k0 uj k1 k1' vJ xq oF Xf;go_upto_region 13 with fail
     have hmx:=yN.out.same (w':=wc.drew) rfl;obtain⟨wx,r5,m5,g5⟩:=hmx.Pb (mU (items.take (k+1))) (t:=162) uk MM fQ (az #[G F i0,G F i1]) (az #[G F i0,G F i1,G F i2,G F i3,G F i4,G F i5,G F i6]) kl hkl HKN.out (λq' _ _ hq=>acK.out q' hq);have hzx:=hbx.size;have gB:=I (hbx.drew.grown g5 hzx (λk e=>by cases e;exact Q0.out));have qG:=I (zP.out.drew.grown g5 (λe=>by injection e with e;exact yN.out.lI zP.out e.symm));have I8:=I m5;obtain⟨S2,hS2⟩: ∃ S:Z->Prop,S=λw'=>w'=wc.drew:=⟨_,rfl⟩
     have HS2:Hid (∀ w':Z,S2 w'->w'=wc.drew):=I (λw' h=>by rw[hS2]at h;exact h);have hC: ∃ z:aK S2,wc.drew=z.now:=aK.of (by rw[hS2]);haveI:Nonempty (aK S2):=by obtain⟨d,_⟩:=hC;exact⟨d⟩
     have p27: ∀ z:aK S2,z.now.cell? ⟨mb+1,27,J⟩=N (.map (N mb)):=λz=>by rw[HS2.out _ z.is];exact(zP.out.drew.cell 27).trans (jr HB.out.is.size 0)
     have q0: ∀ z:aK S2,z.now.cell? ⟨wr.heap.size,0,J⟩=N (G F i0):=λz=>by rw[HS2.out _ z.is];exact mg.out.drew.cell 0
     have q1: ∀ z:aK S2,z.now.cell? ⟨wr.heap.size,1,J⟩=N (G F i1):=λz=>by rw[HS2.out _ z.is];exact mg.out.drew.cell 1
     have q2: ∀ z:aK S2,z.now.cell? ⟨wr.heap.size,2,J⟩=N (G F i2):=λz=>by rw[HS2.out _ z.is];exact mg.out.drew.cell 2
     have q3: ∀ z:aK S2,z.now.cell? ⟨wr.heap.size,3,J⟩=N (G F i3):=λz=>by rw[HS2.out _ z.is];exact mg.out.drew.cell 3
     have q4: ∀ z:aK S2,z.now.cell? ⟨wr.heap.size,4,J⟩=N (G F i4):=λz=>by rw[HS2.out _ z.is];exact mg.out.drew.cell 4
     have q5: ∀ z:aK S2,z.now.cell? ⟨wr.heap.size,5,J⟩=N (G F i5):=λz=>by rw[HS2.out _ z.is];exact mg.out.drew.cell 5
     have q6: ∀ z:aK S2,z.now.cell? ⟨wr.heap.size,6,J⟩=N (G F i6):=λz=>by rw[HS2.out _ z.is];exact mg.out.drew.cell 6
     clear hS2 m5 g5 hmx zP yN mg hbx;refine nK (n:=8) S2 7 ai rfl ?_;have hT:=tg 0;(iterate 7 refine aab hT hC ?_;clear hT;intro hT K hK;go_big_quiet_op;go_big_quiet_on);clear hT;refine dw (i:=7) ai rfl rfl ?_;intro K hK;go_simp;refine hK _ _ (.inr (.inl rfl)) ?_;clear hK K p27 q0 q1 q2 q3 q4 q5 q6 r5 hC
     (try simp only[Zx])
     refine kH ai ?_ _;go_wp2_with fail;go_roundw
     case rel=>exact⟨k+1,n+1,O,by go_num,O,gB.out,qG.out,I8.out⟩
     case measure=>simp[intOf];omega
  ·have hke:items.take k=items:=kS O;rw[hke]at BI;go_wp2_with fail;go_ret2;exact⟨_,mb,n,rfl,⟨Nat.le_succ_of_le Q0.out,Q0.out,hb,yI.out,BI.out⟩⟩
end
end Go.Proofs.YtbedbfdhfokifaaGreat
