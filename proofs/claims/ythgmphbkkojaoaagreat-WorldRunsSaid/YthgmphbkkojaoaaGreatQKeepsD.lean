/-
  The walk of the reference's Keeps, deep: what it makes reads so whatever becomes of blocks made since an elder world, but its own one.
-/
import Derived.Test.YthgmphbkkojaoaaGreatQSortsK
set_option maxHeartbeats 8000000
namespace Go.Proofs.YthgmphbkkojaoaaGreat
set_option linter.unusedSectionVars false
variable [Zn]
open Go.RowKit
def zRZ(G:Nat)(W w0 w2:World)(B4:Nat)(L8:List Kp)(wx:World):Prop:=
 ∃a8 c8,wx.cell? ⟨B4,2,none⟩=some (.slice a8 L8.length c8)∧zAK 3 zAf (fun j=>G≤j) wx 66 w2.heap.size (.slice a8 L8.length c8) L8∧zAD W.heap.size W wx ∧
  (∀(p:Addr) (u:Value),p.block<w0.heap.size→(p.block≠B4∨p.off≠2)→w2.cell? p=some u→wx.cell? p=some u)∧(∀(p:Addr),p.block<w0.heap.size→wx.frozen? p=w2.frozen? p)
theorem zUW{W w w':World}(h:zAD W.heap.size W w)(q:zAD w.heap.size w w'):zAD W.heap.size W w':=⟨h.below.trans (q.below.mono h.2),Nat.le_trans h.2 q.2⟩
theorem zKo{G:Nat}{W w0 w2 wp w6:World}{B4:Nat}{L8:List Kp}{a6:Option Addr}{c6:Nat}{row:Option Nat}(h2:zAD W.heap.size W w2)(hp:zAD w2.heap.size w2 wp)(hg:wp.grownBy w6 row)(hrow:∀k,row=some k→w2.heap.size≤k)
  (hG:G≤W.heap.size) (ho:zAK 3 zAf (fun k=>G≤k) w6 66 w2.heap.size (.slice a6 L8.length c6) L8) (h4:B4<w0.heap.size) (h02:w0.heap.size≤w2.heap.size) (m4:W.heap.size≤B4) (hc:(w2.cell? ⟨B4,2,none⟩).isSome=true) :
  zRZ G W w0 w2 B4 L8 (w6.setCell ⟨B4,2,none⟩ (.slice a6 L8.length c6)):=by
 have hblk:∀k,k<w0.heap.size→w6.heap[k]?=w2.heap[k]?:=fun k hk=>by
  have h1:k<wp.heap.size:=Nat.lt_of_lt_of_le (Nat.lt_of_lt_of_le hk h02) hp.2
  rw[hg.block k h1 (fun e=>by have:=hrow k e.symm;omega),hp.below.block k (Nat.lt_of_lt_of_le hk h02)]
 have hn:(Value.slice a6 L8.length c6).ownBlock=none∨(Value.slice a6 L8.length c6).ownBlock≠some B4:=by
  cases hq:(Value.slice a6 L8.length c6).ownBlock with
  | none=>exact Or.inl rfl
  | some j=>right;intro e;cases e;have:=(ho.lt _ hq).1;omega
 have hc6:(w6.cell? ⟨B4,2,none⟩).isSome=true:=by rw[World.cell?_of_block (a:=⟨B4,2,none⟩) (hblk B4 h4)];exact hc
 obtain ⟨u,hu⟩:=Option.isSome_iff_exists.1 hc6
 refine ⟨a6,c6,by clear hblk;go_simp,ho.kept (zAC w6 ⟨B4,2,none⟩ (.slice a6 L8.length c6)) (fun k hk=>by cases hk;exact Nat.le_trans hG m4) hn,((zUW h2 hp).grown hg (fun k hk=>by have:=hrow k hk;have:=h2.2;omega)).setCell (a:=⟨B4,2,none⟩) m4 _,fun p x hpb hne hx=>?_,fun p hpb=>?_⟩
 ·have h6:w6.cell? p=some x:=by rw[World.cell?_of_block (hblk p.block hpb)];exact hx
  rw[World.cell?_setCell_other w6 ⟨B4,2,none⟩ p _ (fun e=>by rcases hne with h | h<;>(apply h;rw[←e]))]
  exact h6
 ·rw[World.frozen?_setCell,World.frozen?_of_block (hblk p.block hpb)]
set_option maxRecDepth 100000 in
theorem zPx(vb:Value)(b:List Ver)(u:Value)(p:Pr)(uk:Value)(k:Kp)(W0 W:World)(hW:zAD W0.heap.size W0 W)(hb:zAR W vb b)(hu:zAl W0 u p.2.2)(hi:I64 p.2.1)(hk:zAG W0 uk k.2.2)(hk1:I64 k.1)(hk2:I64 k.2.1) :
  Calls Tryz.prog 84 #[.agg #[vb],.agg #[.bool p.1,.int .i64 p.2.1,u],.agg #[.int .i64 k.1,.int .i64 k.2.1,uk]] W fun e w' =>
   (∃v',e=.returned (.tuple #[.agg #[.bool (zC5 b p k).1,.int .i64 (zC5 b p k).2.1,v'],.int .i64 (zBN b p k)])∧(∀j,v'.ownBlock=some j→W.heap.size≤j)∧∀w'',zAF (fun j=>W0.heap.size≤j∧v'.ownBlock≠some j) w' w''→zAl w'' v' (zC5 b p k).2.2)∧Below W.heap.size W w':=by
 obtain ⟨ab,cb,rfl,hcb,⟨hbm,hbc,_⟩,_⟩:=hb.opened
 obtain ⟨au,cu,rfl,hcu,⟨hum,huc,_⟩,_⟩:=hu.opened
 obtain ⟨ak,ck,rfl,hck,⟨hkm,hkc,_⟩,_⟩:=hk.opened
 obtain ⟨t,r,l⟩:=p
 obtain ⟨kv,kn,kl⟩:=k
 simp only at hu hi hk hk1 hk2 hcu hum hcb hck hkm ⊢
 obtain ⟨w0,hw0⟩:∃w0,w0=(((W.alloc (.cells #[.slice ab b.length cb] 24)).alloc (.cells #[.bool t,.int .i64 r,.slice au l.length cu] 62)).alloc (.cells #[.int .i64 kv,.int .i64 kn,.slice ak kl.length ck] 66)).alloc (.cells #[.bool false,.int .i64 0,.slice none 0 0] 62):=⟨_,rfl⟩
 have S0:=((((zAD.refl W).alloc (.cells #[.slice ab b.length cb] 24)).alloc (.cells #[.bool t,.int .i64 r,.slice au l.length cu] 62)).alloc (.cells #[.int .i64 kv,.int .i64 kn,.slice ak kl.length ck] 66)).alloc (.cells #[.bool false,.int .i64 0,.slice none 0 0] 62)
 rw[←hw0] at S0
 have a0:w0.cell? ⟨W.heap.size,0,none⟩=some (.slice ab b.length cb):=by rw[hw0];go_simp
 have p0:w0.cell? ⟨W.heap.size+1,0,none⟩=some (.bool t):=by rw[hw0];go_simp
 have p1:w0.cell? ⟨W.heap.size+1,1,none⟩=some (.int .i64 r):=by rw[hw0];go_simp
 have p2:w0.cell? ⟨W.heap.size+1,2,none⟩=some (.slice au l.length cu):=by rw[hw0];go_simp
 have p3:∀j,w0.frozen? ⟨W.heap.size+1,j,none⟩=false:=by intro j;rw[hw0];go_simp
 have k0:w0.cell? ⟨W.heap.size+2,0,none⟩=some (.int .i64 kv):=by rw[hw0];go_simp
 have k1:w0.cell? ⟨W.heap.size+2,1,none⟩=some (.int .i64 kn):=by rw[hw0];go_simp
 have k2:w0.cell? ⟨W.heap.size+2,2,none⟩=some (.slice ak kl.length ck):=by rw[hw0];go_simp
 have q0:w0.cell? ⟨W.heap.size+3,0,none⟩=some (.bool false):=by rw[hw0];go_simp
 have q1:w0.cell? ⟨W.heap.size+3,1,none⟩=some (.int .i64 0):=by rw[hw0];go_simp
 have q2:w0.cell? ⟨W.heap.size+3,2,none⟩=some (.slice none 0 0):=by rw[hw0];go_simp
 have q3:∀j,w0.frozen? ⟨W.heap.size+3,j,none⟩=false:=by intro j;rw[hw0];go_simp
 have hsz0:w0.heap.size=W.heap.size+4:=by rw[hw0];simp
 have HW:=Zh hw0
 clear hw0
 obtain ⟨B3,hB3⟩:∃B3,B3=W.heap.size:=⟨_,rfl⟩
 obtain ⟨B4,hB4⟩:∃B4,B4=W.heap.size+1:=⟨_,rfl⟩
 obtain ⟨B5,hB5⟩:∃B5,B5=W.heap.size+2:=⟨_,rfl⟩
 obtain ⟨B6,hB6⟩:∃B6,B6=W.heap.size+3:=⟨_,rfl⟩
 rw[←hB6] at q0 q1 q2 q3
 rw[←hB5] at k0 k1 k2
 rw[←hB4] at p0 p1 p2 p3
 rw[←hB3] at a0
 have hlt:B3<w0.heap.size∧B4<w0.heap.size∧B5<w0.heap.size∧B6<w0.heap.size∧W.heap.size≤B4∧W.heap.size≤B6:=by omega
 have hne:¬B3=B4∧¬B3=B6∧¬B4=B6∧¬B5=B4∧¬B5=B6∧¬B6=B4:=by omega
 have HLT:=Zh hlt
 obtain ⟨n34,n36,n46,n54,n56,n64⟩:=hne
 have HB3:=Zh hB3
 have HB4:=Zh hB4
 have HB5:=Zh hB5
 have HB6:=Zh hB6
 clear hB3 hB4 hB5 hB6 hsz0 hlt
 have HWW:=Zh hW
 have HVB:=Zh hb
 have HVU:=Zh hu
 have HVK:=Zh hk
 have HS0:=Zh S0
 have HC:Hid (∀w',zAD w0.heap.size w0 w'→w'.cell? ⟨B3,0,none⟩=some (.slice ab b.length cb)∧w'.cell? ⟨B4,0,none⟩=some (.bool t)∧w'.cell? ⟨B4,1,none⟩=some (.int .i64 r)∧w'.cell? ⟨B4,2,none⟩=some (.slice au l.length cu)∧w'.cell? ⟨B5,0,none⟩=some (.int .i64 kv)∧w'.cell? ⟨B6,0,none⟩=some (.bool false)∧w'.cell? ⟨B6,1,none⟩=some (.int .i64 0)∧w'.cell? ⟨B6,2,none⟩=some (.slice none 0 0)∧w'.frozen? ⟨B6,0,none⟩=false∧w'.frozen? ⟨B6,1,none⟩=false∧w'.frozen? ⟨B6,2,none⟩=false):=
  Zh (fun w' q=>⟨zAA q.below a0,zAA q.below p0,zAA q.below p1,zAA q.below p2,zAA q.below k0,zAA q.below q0,zAA q.below q1,zAA q.below q2,zAE q.below q0 (q3 0),zAE q.below q1 (q3 1),zAE q.below q2 (q3 2)⟩)
 have HZ:Hid (∀w',zAD w0.heap.size w0 w'→∀j,w'.frozen? ⟨B4,j,none⟩=false):=Zh (fun w' q j=>(q.below.frozen (p:=⟨B4,j,none⟩) HLT.out.2.1).trans (p3 j))
 have HKC:Hid (∀w',zAD w0.heap.size w0 w'→w'.cell? ⟨B5,0,none⟩=some (.int .i64 kv)∧w'.cell? ⟨B5,1,none⟩=some (.int .i64 kn)∧w'.cell? ⟨B5,2,none⟩=some (.slice ak kl.length ck)):=
  Zh (fun w' q=>⟨zAA q.below k0,zAA q.below k1,zAA q.below k2⟩)
 have hfail:∀(c:Int) (w:World),zAD w0.heap.size w0 w→zBN b (t,r,l) (kv,kn,kl)=c→c≠0 →
   (zC5 b (t,r,l) (kv,kn,kl)).2.2=[] ∧
   (zC5 b (t,r,l) (kv,kn,kl)).1=false∧(zC5 b (t,r,l) (kv,kn,kl)).2.1=0∧Below W.heap.size W (((w.setCell ⟨B6,0,none⟩ (.bool false)).setCell ⟨B6,1,none⟩ (.int .i64 0)).setCell ⟨B6,2,none⟩ (.slice none 0 0)):=by
  intro c w hS he hc
  have hC:=zIR (show zBN b (t,r,l) (kv,kn,kl)≠0 by rw[he];exact hc)
  rw[hC]
  obtain ⟨_,_,_,_,_,h6⟩:=HLT.out
  exact ⟨rfl,rfl,rfl,(((S0.step hS.below).setCell (a:=⟨B6,0,none⟩) h6 (.bool false)).setCell (a:=⟨B6,1,none⟩) h6 (.int .i64 0)).setCell (a:=⟨B6,2,none⟩) h6 (.slice none 0 0) |>.below⟩
 have HFAIL:=Zh hfail
 clear a0 p0 p1 p2 p3 k0 k1 k2 q0 q1 q2 q3 hb hu hk S0 hfail hW
 go_enter Tryz.func84,Tryz.ntmps84
 go_upto_region 1 with fail
 rw[←HW.out,←HB6.out,←HB5.out,←HB4.out,←HB3.out]
 have hvb0:=HVB.out.stays zAz.stays HS0.out.below
 have hvu0:=HVU.out.stays zAf.stays (HWW.out.step HS0.out.below).below
 obtain ⟨c3,c40,c41,c42,c50,c60,c61,c62,f60,f61,f62⟩:=HC.out w0 (zAD.refl w0)
 go_upto_region 2 with (go_at_call 51;refine (zEw _ b _ (t,r,l) _ hvb0 hvu0 hi).mono ?_;rintro e w1 ⟨rfl,hb1⟩)
 clear c3 c40 c41 c42 c50 c60 c61 c62 f60 f61 f62
 have S1:=(zAD.refl w0).step hb1
 obtain ⟨c3,c40,c41,c42,c50,c60,c61,c62,f60,f61,f62⟩:=HC.out w1 S1
 by_cases h0:zBG b (t,r,l)=0
 ·have H0:=Zh h0
  rw[h0]
  by_cases hfull:(l.length:Int)=r
  ·have hE:zBN b (t,r,l) (kv,kn,kl)=8:=by unfold zBN;rw[if_neg (by simpa using h0)];exact if_pos hfull
   obtain ⟨h1,h2,h3,h4⟩:=HFAIL.out 8 w1 S1 hE (by decide)
   have hff:r≤(l.length:Int):=by omega
   have HE:=Zh hE
   have HH:=Zh h1
   have H2:=Zh h2
   have H3:=Zh h3
   have H4:=Zh h4
   clear h1 h2 h3 h4 hE h0 hfull hvb0 hvu0
   go_wp2_with fail
   exact bodyPost_ret (v:=.tuple #[.agg #[.bool false,.int .i64 0,.slice none 0 0],.int .i64 8]) (by simp[results,Tryz.results84,go_sem,c60,c61,c62]) rfl ⟨⟨_,by rw[H2.out,H3.out,HE.out],(fun j h=>by cases h),fun w'' _=>by rw[HH.out];exact zAZ.nil _⟩,H4.out⟩
  ·have hok:=zDD.1 h0
   have hl20:(l.length:Int)<r∧r≤20:=by
    have h1:=hok.few
    have h2:=hok.room
    simp only at h1 h2
    omega
   have HOK:=Zh hok
   have hff:¬r≤(l.length:Int):=by omega
   have HNF:=Zh hfull
   have hvu1:=hvu0.stays zAf.stays hb1
   clear hok hfull h0 hvb0 hvu0
   by_cases hfd:0≤zBy kv l 0
   ·have hE:zBN b (t,r,l) (kv,kn,kl)=5:=by unfold zBN;rw[if_neg (by simpa using H0.out),if_neg HNF.out];exact if_pos hfd
    have HE:=Zh hE
    clear hE
    go_wp2_with (go_at_call 61;refine (zMT t r _ l kv _ hvu1).mono ?_;rintro e w2 ⟨rfl,hb2⟩;have S2:=S1.step hb2;obtain ⟨d3,d40,d41,d42,d50,d60,d61,d62,g60,g61,g62⟩:=HC.out w2 S2;obtain ⟨h1,h2,h3,h4⟩:=HFAIL.out 5 w2 S2 HE.out (by decide);have HH:=Zh h1;have H2:=Zh h2;have H3:=Zh h3;have H4:=Zh h4;clear h1 h2 h3 h4)
    exact bodyPost_ret (v:=.tuple #[.agg #[.bool false,.int .i64 0,.slice none 0 0],.int .i64 5]) (by simp[results,Tryz.results84,go_sem,d60,d61,d62]) rfl ⟨⟨_,by rw[H2.out,H3.out,HE.out],(fun j h=>by cases h),fun w'' _=>by rw[HH.out];exact zAZ.nil _⟩,H4.out⟩
   ·have HE:=Zh (show zBN b (t,r,l) (kv,kn,kl)=zBG b (zET (t,r,l) (kv,kn,kl)) by unfold zBN;rw[if_neg (by simpa using H0.out),if_neg HNF.out];exact if_neg hfd)
    have HNOT:=Zh (show ∀y∈l,y.1≠kv from (zFg (v:=kv) (l:=l) (k:=0)).1 (by omega))
    go_upto_region 8 with (go_at_call 61;refine (zMT t r _ l kv _ hvu1).mono ?_;rintro e w2 ⟨rfl,hb2⟩;have S2:=S1.step hb2;obtain ⟨d3,d40,d41,d42,d50,d60,d61,d62,g60,g61,g62⟩:=HC.out w2 S2)
    clear c3 c40 c41 c42 c50 c60 c61 c62 f60 f61 f62
    have hvu2:=hvu1.stays zAf.stays hb2
    clear hvu1 hb1 hb2 S1 hfd hff
    obtain ⟨l3,l4,l5,l6,m4,m6⟩:=HLT.out
    have SW2:zAD W.heap.size W w2:=HS0.out.step S2.below
    have HSW2:=Zh SW2
    obtain ⟨y50,y51,y52⟩:=HKC.out w2 S2
    have z42:=HZ.out w2 S2 2
    obtain ⟨L1,hL1⟩:∃L1,L1=l++[(kv,kn,kl)]:=⟨_,rfl⟩
    have HL1:=Zh hL1
    clear hL1
    go_cut[35] (fun s35 wx=>∃wz,wz=wx∧zRZ W0.heap.size W w0 w2 B4 L1 wx)
    case first =>
     have HG:Hid (∀w',Below w2.heap.size w2 w'→w'.cell? ⟨B4,2,none⟩=some (.slice au l.length cu)∧w'.frozen? ⟨B4,2,none⟩=false∧w'.cell? ⟨B5,0,none⟩=some (.int .i64 kv)∧w'.cell? ⟨B5,1,none⟩=some (.int .i64 kn)∧w'.cell? ⟨B5,2,none⟩=some (.slice ak kl.length ck)):=
      Zh (fun w' q=>⟨zAA q d42,zAE q d42 z42,zAA q y50,zAA q y51,zAA q y52⟩)
     have P0:zAD w2.heap.size w2 w2.drew:=(zAD.refl w2).drew
     obtain ⟨x0,x1,x2,x3,x4⟩:=HG.out _ P0.below
     obtain ⟨y0,y1,y2,y3,y4⟩:=HG.out _ ((zAD.refl w2).alloc (.cells #[.int .i64 kv,.int .i64 kn,.slice ak kl.length ck] 66)).below
     have S2sz:=S2.2
     have HD42:=Zh (show (w2.cell? ⟨B4,2,none⟩).isSome=true by rw[d42];rfl)
     clear d3 d40 d41 d42 d50 d60 d61 d62 g60 g61 g62 y50 y51 y52 z42 hvu2 S2
     have HFR:Hid (∀(w':World) (V:Value),zAD W.heap.size W w'→(∀m,V.ownBlock=some m→w2.heap.size≤m∧m<w'.heap.size)→zA3 (fun m=>V.ownBlock=some m∨W0.heap.size≤m) zAf w' [Value.int .i64 kv,.int .i64 kn,.slice ak kl.length ck] (kv,kn,kl)):=
      Zh (fun w' V q hV=>zAf.stays.framed (w0:=W0) ⟨_,rfl,HVK.out,hk1,hk2⟩ (zAF.old (HWW.out.step q.below).below _) (fun m hm=>by
       rcases hm with hm|hm
       ·have:=(hV m hm).1;have:=HSW2.out.2;have:=HWW.out.2;omega
       ·exact hm))
     have HSL:Hid (∀w',Below (w2.alloc (.cells #[.int .i64 kv,.int .i64 kn,.slice ak kl.length ck] 66)).drew.heap.size (w2.alloc (.cells #[.int .i64 kv,.int .i64 kn,.slice ak kl.length ck] 66)).drew w'→∀j u,[Value.int .i64 kv,.int .i64 kn,.slice ak kl.length ck][j]?=some u→w'.cell? ((⟨w2.heap.size,0,none⟩:Addr).add j)=some u):=Zh (fun w' q j u hj=>by
      rw[zA7]
      refine zAA q ?_
      match j,hj with
      | 0,hj=>simp at hj;subst hj;go_simp
      | 1,hj=>simp at hj;subst hj;go_simp
      | 2,hj=>simp at hj;subst hj;go_simp)
     have HSM:Hid (∀w':World,∀j u,[Value.int .i64 kv,.int .i64 kn,.slice ak kl.length ck][j]?=some u→(w'.alloc (.cells #[.int .i64 kv,.int .i64 kn,.slice ak kl.length ck] 66)).cell? ((⟨w'.heap.size,0,none⟩:Addr).add j)=some u):=Zh (fun w' j u hj=>by
      rw[zA7]
      match j,hj with
      | 0,hj=>simp at hj;subst hj;go_simp
      | 1,hj=>simp at hj;subst hj;go_simp
      | 2,hj=>simp at hj;subst hj;go_simp)
     have HONE:Hid (∀c∈[Value.int .i64 kv,.int .i64 kn,.slice ak kl.length ck],c.oneCell'=true):=Zh (by intro c hc;simp at hc;rcases hc with rfl | rfl | rfl<;>rfl)
     have HNB:Hid (∀V:Value,(∀m,V.ownBlock=some m→w2.heap.size≤m)→some B4≠V.ownBlock):=Zh (fun V hV e=>by have:=hV B4 e.symm;have:=S2sz;omega)
     go_region_law (first
      | (go_simp;go_at_call 38;refine (zEX _ l W0 w2.drew (zAF.old (HWW.out.step SW2.drew.below).below _) HVU.out (by omega)).mono ?_;rintro e w5 ⟨⟨v5,rfl,ho5⟩,hb5⟩;have P5:=P0.step hb5;have Q5:zAD w2.heap.size w2 (w5.alloc (.cells #[.int .i64 kv,.int .i64 kn,.slice ak kl.length ck] 66)):=P5.alloc _;have ho5a:=(ho5.stays (zAB w5 (.cells #[.int .i64 kv,.int .i64 kn,.slice ak kl.length ck] 66))).mono (b:=w2.heap.size) (Nat.le_refl _);obtain ⟨r0,r1,r2,r3,r4⟩:=HG.out w5 P5.below;obtain ⟨u0,u1,u2,u3,u4⟩:=HG.out _ Q5.below)
      | (go_simp;go_at_call 38;refine (zEX _ l W0 (w2.alloc (.cells #[.int .i64 kv,.int .i64 kn,.slice ak kl.length ck] 66)).drew (zAF.old (HWW.out.step (SW2.alloc _).drew.below).below _) HVU.out (by omega)).mono ?_;rintro e w5 ⟨⟨v5,rfl,ho5⟩,hb5⟩;have Q5:zAD w2.heap.size w2 w5:=((zAD.refl w2).alloc _).drew.step hb5;have ho5b:=ho5.mono (b:=w2.heap.size) (by simp);obtain ⟨r0,r1,r2,r3,r4⟩:=HG.out w5 Q5.below)
      | (refine zCR rfl _ _ 60 rfl 3 (fun k=>W0.heap.size≤k) 66 Tryz.underlying60 _ 40 zCn rfl (by omega) (by omega) w2.heap.size _ l (by rfl) ho5a ⟨w5.heap.size,0,none⟩ 1 [Value.int .i64 kv,.int .i64 kn,.slice ak kl.length ck] (kv,kn,kl) (by rfl) rfl HONE.out (HSM.out w5) (HFR.out _ _ (zUW HSW2.out Q5) (fun m hm=>ho5a.lt m hm)) (by omega) Q5.2 ?_;intro v6 w6 ho6 hg6 _;rw[←HL1.out] at ho6;obtain ⟨a6,c6,rfl,_⟩:=ho6.isRow.opened;have z0:=hg6.cell u0 (HNB.out _ (fun m hm=>(ho5a.lt m hm).1));have z1:=zAW hg6 u0 u1 (HNB.out _ (fun m hm=>(ho5a.lt m hm).1));have HR:=Zh (zKo HSW2.out Q5 hg6 (fun m hm=>(ho5a.lt m hm).1) HWW.out.2 ho6 l4 S2sz m4 HD42.out))
      | (refine zCR rfl _ _ 60 rfl 3 (fun k=>W0.heap.size≤k) 66 Tryz.underlying60 _ 40 zCn rfl (by omega) (by omega) w2.heap.size _ l (by rfl) ho5b ⟨w2.heap.size,0,none⟩ 1 [Value.int .i64 kv,.int .i64 kn,.slice ak kl.length ck] (kv,kn,kl) (by rfl) rfl HONE.out (HSL.out w5 hb5) (HFR.out _ _ (zUW HSW2.out Q5) (fun m hm=>ho5b.lt m hm)) (by omega) Q5.2 ?_;intro v6 w6 ho6 hg6 _;rw[←HL1.out] at ho6;obtain ⟨a6,c6,rfl,_⟩:=ho6.isRow.opened;have z0:=hg6.cell r0 (HNB.out _ (fun m hm=>(ho5b.lt m hm).1));have z1:=zAW hg6 r0 r1 (HNB.out _ (fun m hm=>(ho5b.lt m hm).1));have HR:=Zh (zKo HSW2.out Q5 hg6 (fun m hm=>(ho5b.lt m hm).1) HWW.out.2 ho6 l4 S2sz m4 HD42.out)))
     all_goals
      clear HFR HSL HSM HONE HNB HG P0 x0 x1 x2 x3 x4 y0 y1 y2 y3 y4 hb5 ho5 Q5 r0 r1 r2 r3 r4 ho6 hg6 z0 z1
      go_wp2_with fail
      go_meet
      exact ⟨_,rfl,HR.out⟩
    case rest =>
     obtain ⟨w9,rfl,a8,c8,e42,ho8,S8,hcell,hfro⟩:=hcut
     have hL1n:L1≠[]:=by rw[HL1.out];simp
     rcases ho8.shape with ⟨_,h6⟩|⟨g,cap',cur,h5,hgb,hgl,hnc,_,_,_⟩
     ·exact absurd h6 hL1n
     ·simp only[Value.slice.injEq,true_and] at h5
      obtain ⟨rfl,rfl⟩:=h5
      have e3:=hcell ⟨B3,0,none⟩ _ l3 (Or.inl n34) d3
      have e40:=hcell ⟨B4,0,none⟩ _ l4 (Or.inr (by simp)) d40
      have e41:=hcell ⟨B4,1,none⟩ _ l4 (Or.inr (by simp)) d41
      have e60:=hcell ⟨B6,0,none⟩ _ l6 (Or.inl n64) d60
      have e61:=hcell ⟨B6,1,none⟩ _ l6 (Or.inl n64) d61
      have e62:=hcell ⟨B6,2,none⟩ _ l6 (Or.inl n64) d62
      have x60:=(hfro ⟨B6,0,none⟩ l6).trans g60
      have x61:=(hfro ⟨B6,1,none⟩ l6).trans g61
      have x62:=(hfro ⟨B6,2,none⟩ l6).trans g62
      have hrise:=HOK.out.rise
      simp only at hrise
      have hdis:∀(i j:Nat) (x y:Kp),L1[i]?=some x→L1[j]?=some y→x.1=y.1→i=j:=by
       have hp:L1.Pairwise (fun x y=>x.1≠y.1):=by
        rw[HL1.out,List.pairwise_append]
        refine ⟨hrise.imp (fun h=>by omega),by simp,fun x hx y hy=>?_⟩
        simp at hy
        subst hy
        exact HNOT.out x hx
       intro i j x y hx hy hxy
       obtain ⟨hil,rfl⟩:=List.getElem?_eq_some_iff.1 hx
       obtain ⟨hjl,rfl⟩:=List.getElem?_eq_some_iff.1 hy
       rcases Nat.lt_trichotomy i j with hlt|he|hlt
       ·exact absurd hxy ((List.pairwise_iff_getElem.1 hp) i j hil hjl hlt)
       ·exact he
       ·exact absurd hxy.symm ((List.pairwise_iff_getElem.1 hp) j i hjl hil hlt)
      have HSORT:=Zh (zR8 (fun k=>W0.heap.size≤k) w2.heap.size g c8 L1 w9 ho8 hdis)
      have HKE:Hid (∀l':List Kp,(∀x,x∈l'↔x∈L1)→l'.Pairwise (fun x y=>x.1<y.1)→l'=zDF (kv,kn,kl) l):=Zh (fun l' hm hp=>zSb hp (zHo hrise HNOT.out) (fun x=>by
       rw[hm x,HL1.out,zHB,List.mem_append]
       simp only[List.mem_singleton]
       exact Or.comm))
      have hsg:=S2.2
      have hgw:w2.heap.size≤g:=hgb
      have HGW:=Zh hgw
      have hnb:∀k,k<w0.heap.size→some k≠some g:=fun k hk e=>by cases e;omega
      clear ho8 hcell hfro d3 d40 d41 d42 d50 d60 d61 d62 g60 g61 g62 hrise hdis hL1n y50 y51 y52 z42
      go_upto_region 10 with (go_at_call 102;refine HSORT.out.mono ?_;rintro e w10 ⟨rfl,l',hlf,hmem,hsrt,hg10⟩;have hl':=hlf w10 (zAF.refl _ _))
      have hle:=HKE.out l' hmem hsrt
      have f3:=hg10.cell e3 (hnb B3 l3)
      have f40:=hg10.cell e40 (hnb B4 l4)
      have f41:=hg10.cell e41 (hnb B4 l4)
      have f42:=hg10.cell e42 (hnb B4 l4)
      have f60:=hg10.cell e60 (hnb B6 l6)
      have f61:=hg10.cell e61 (hnb B6 l6)
      have f62:=hg10.cell e62 (hnb B6 l6)
      have t60:=zAW hg10 e60 x60 (hnb B6 l6)
      have t61:=zAW hg10 e61 x61 (hnb B6 l6)
      have t62:=zAW hg10 e62 x62 (hnb B6 l6)
      have S10:zAD W.heap.size W w10:=S8.grown hg10 (fun k hk=>by cases hk;have:=HSW2.out.2;omega)
      have hlen:l'.length=L1.length:=by
       obtain ⟨_,_,ev,_⟩:=hl'.opened
       simp only[Value.slice.injEq] at ev
       exact ev.2.1.symm
      have HK8:=Zh (show (t,r,l')=zET (t,r,l) (kv,kn,kl) from congrArg (fun q=>((t,r,q):Pr)) hle)
      have hvb10:=HVB.out.stays zAz.stays S10.below
      have HS10:=Zh S10
      rw[←hlen] at hl' f42 hlf
      have HLF:=Zh hlf
      clear e3 e40 e41 e42 e60 e61 e62 x60 x61 x62 hg10 hmem hsrt hle S10 S8 hlen hlf
      go_upto_region 11 with (go_at_call 51;refine (zEw _ b _ (t,r,l') _ hvb10 hl' hi).mono ?_;rintro e w11 ⟨rfl,hb11⟩)
      have e40:=zAA hb11 f40
      have e41:=zAA hb11 f41
      have e42:=zAA hb11 f42
      have e60:=zAA hb11 f60
      have e61:=zAA hb11 f61
      have e62:=zAA hb11 f62
      have x60:=zAE hb11 f60 t60
      have x61:=zAE hb11 f61 t61
      have x62:=zAE hb11 f62 t62
      have hk11:=hl'.stays zAf.stays hb11
      have S11:=HS10.out.step hb11
      have hl6:B6≠g:=fun e=>hnb B6 l6 (by rw[e])
      clear f3 f40 f41 f42 f60 f61 f62 t60 t61 t62 hvb10
      by_cases hz:zBG b (t,r,l')=0
      ·have HE0':=Zh (show zBN b (t,r,l) (kv,kn,kl)=0 by rw[HE.out,←HK8.out,hz])
       have HC0:=Zh (show zC5 b (t,r,l) (kv,kn,kl)=(t,r,l') by rw[zIZ HE0'.out,HK8.out])
       have hk12:∀w'',zAF (fun k=>W0.heap.size≤k∧k≠g) (((w11.setCell ⟨B6,0,none⟩ (.bool t)).setCell ⟨B6,1,none⟩ (.int .i64 r)).setCell ⟨B6,2,none⟩ (.slice (some ⟨g,0,none⟩) l'.length c8)) w''→zAl w'' (.slice (some ⟨g,0,none⟩) l'.length c8) l':=by
        intro w'' hw''
        refine HLF.out _ (((zAF.old hb11 _).trans ?_).trans hw'')
        have hs:∀(w:World) (a:Addr) (v:Value),a.block=B6→zAF (fun k=>W0.heap.size≤k∧k≠g) w (w.setCell a v):=fun w a v ha =>
         (zAF.of_grown (zAC w a v)).mono fun k _ hk=>by cases hk;rw[ha];exact ⟨Nat.le_trans HWW.out.2 m6,hl6⟩
        exact ((hs _ _ _ rfl).trans (hs _ _ _ rfl)).trans (hs _ _ _ rfl)
       have HK12:=Zh hk12
       rw[hz]
       clear hz hk12
       go_wp2_with fail
       obtain ⟨f0,f1,f2⟩:=zGG (w:=w11) (B:=B6) (x:=.bool t) (y:=.int .i64 r) (z:=.slice (some ⟨g,0,none⟩) l'.length c8) (by rw[e60];rfl) (by rw[e61];rfl) (by rw[e62];rfl)
       have S12:=((S11.setCell (a:=⟨B6,0,none⟩) m6 (.bool t)).setCell (a:=⟨B6,1,none⟩) m6 (.int .i64 r)).setCell (a:=⟨B6,2,none⟩) m6 (.slice (some ⟨g,0,none⟩) l'.length c8)
       clear e40 e41 e42 e60 e61 e62 x60 x61 x62
       generalize ((w11.setCell ⟨B6,0,none⟩ (.bool t)).setCell ⟨B6,1,none⟩ (.int .i64 r)).setCell ⟨B6,2,none⟩ (.slice (some ⟨g,0,none⟩) l'.length c8)=w12 at *
       exact bodyPost_ret (v:=.tuple #[.agg #[.bool t,.int .i64 r,.slice (some ⟨g,0,none⟩) l'.length c8],.int .i64 0]) (by simp[results,Tryz.results84,go_sem,f0,f1,f2]) rfl ⟨⟨_,by rw[HC0.out,HE0'.out],(fun j h=>by cases h;exact Nat.le_trans HSW2.out.2 HGW.out),fun w'' hw''=>by rw[HC0.out];exact HK12.out w'' (hw''.mono fun j _ hj=>⟨hj.1,fun e=>hj.2 (by rw[e];rfl)⟩)⟩,S12.below⟩
      ·have HEN:=Zh (show zBN b (t,r,l) (kv,kn,kl)=zBG b (t,r,l') by rw[HE.out,←HK8.out])
       have HC0:=Zh (zIR (show zBN b (t,r,l) (kv,kn,kl)≠0 by rw[HEN.out];exact hz))
       have hne:(zBG b (t,r,l') != 0)=true:=by simpa using hz
       clear hz
       go_wp2_with fail
       obtain ⟨f0,f1,f2⟩:=zGG (w:=w11) (B:=B6) (x:=.bool false) (y:=.int .i64 0) (z:=.slice none 0 0) (by rw[e60];rfl) (by rw[e61];rfl) (by rw[e62];rfl)
       have S12:=((S11.setCell (a:=⟨B6,0,none⟩) m6 (.bool false)).setCell (a:=⟨B6,1,none⟩) m6 (.int .i64 0)).setCell (a:=⟨B6,2,none⟩) m6 (.slice none 0 0)
       clear e40 e41 e42 e60 e61 e62 x60 x61 x62
       generalize ((w11.setCell ⟨B6,0,none⟩ (.bool false)).setCell ⟨B6,1,none⟩ (.int .i64 0)).setCell ⟨B6,2,none⟩ (.slice none 0 0)=w12 at *
       exact bodyPost_ret (v:=.tuple #[.agg #[.bool false,.int .i64 0,.slice none 0 0],.int .i64 (zBG b (t,r,l'))]) (by simp[results,Tryz.results84,go_sem,f0,f1,f2]) rfl ⟨⟨_,by rw[HC0.out,HEN.out],(fun j h=>by cases h),fun w'' _=>by rw[HC0.out];exact zAZ.nil _⟩,S12.below⟩
 ·have hE:zBN b (t,r,l) (kv,kn,kl)=zBG b (t,r,l):=by unfold zBN;rw[if_pos h0]
  obtain ⟨h1,h2,h3,h4⟩:=HFAIL.out _ w1 S1 hE h0
  have hne:(zBG b (t,r,l) != 0)=true:=by simpa using h0
  have HE:=Zh hE
  have HH:=Zh h1
  have H2:=Zh h2
  have H3:=Zh h3
  have H4:=Zh h4
  clear h1 h2 h3 h4 hE h0 hvb0 hvu0
  go_wp2_with fail
  exact bodyPost_ret (v:=.tuple #[.agg #[.bool false,.int .i64 0,.slice none 0 0],.int .i64 (zBG b (t,r,l))]) (by simp[results,Tryz.results84,go_sem,c60,c61,c62]) rfl ⟨⟨_,by rw[H2.out,H3.out,HE.out],(fun j h=>by cases h),fun w'' _=>by rw[HH.out];exact zAZ.nil _⟩,H4.out⟩
end Go.Proofs.YthgmphbkkojaoaaGreat
