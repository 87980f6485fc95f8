/-
  The reference's given: shares of a version to peers. (Printed by wip/tools/mkgiven.py; the drawn region's steps are those of XPut.)
-/
import Derived.Test.YthgmphbkkojaoaaGreatQKeepsD
import Derived.Test.YthgmphbkkojaoaaGreatQLaws
set_option linter.unusedSimpArgs false
set_option maxHeartbeats 8000000
namespace Go.Proofs.YthgmphbkkojaoaaGreat
set_option linter.unusedSectionVars false
variable [Zn]
open Go.RowKit
abbrev PrF:=Pr × Bool
def RPF(W0:World):Rd PrF:=fun w cs x=>∃v,cs=[.bool x.1.1,.int .i64 x.1.2.1,v]∧I64 x.1.2.1∧(if x.2=true then zAl W0 v x.1.2.2 else zAl w v x.1.2.2)
theorem RPF.stays{W0:World}:(RPF W0).Stays:=by
 rintro w cs ⟨x,t⟩ ⟨v,rfl,hi,h⟩ w' hw
 refine ⟨v,rfl,hi,?_⟩
 cases t with
 | true=>simpa using h
 | false =>
  simp only[Bool.false_eq_true,if_false] at h ⊢
  exact h.later zAf.stays hw
theorem RPF.one{W0:World}:(RPF W0).One:=by
 rintro w cs ⟨x,t⟩ ⟨v,rfl,hi,h⟩ c hc
 have:∃a cp,v=.slice a x.2.2.length cp:=by
  cases t with
  | true=>simp only[if_true] at h;obtain ⟨a,cp,e,_⟩:=h.opened;exact ⟨a,cp,e⟩
  | false=>simp only[Bool.false_eq_true,if_false] at h;obtain ⟨a,cp,e,_⟩:=h.opened;exact ⟨a,cp,e⟩
 obtain ⟨a,cp,rfl⟩:=this
 simp at hc
 rcases hc with rfl|rfl|rfl<;>rfl
theorem zIz{W:World}{u:Value}{ps:List Pr}(h:zAT W u ps):zAZ 3 (RPF W) W u (ps.map fun p=>(p,true)):=by
 obtain ⟨a,c,rfl,h1,h2,h3⟩:=h.opened
 refine ⟨a,c,by simp,by simpa using h1,by simpa using h2,fun i x hx=>?_⟩
 rw[List.getElem?_map] at hx
 cases hp:ps[i]? with
 | none=>rw[hp] at hx;cases hx
 | some p =>
  rw[hp] at hx
  cases hx
  obtain ⟨b,off,e,cs,hl,hc,v,rfl,hv,hi⟩:=h3 i p hp
  exact ⟨b,off,e,_,hl,hc,v,rfl,hi,by simpa using hv⟩
theorem zEE{W w:World}{u:Value}{qs:List PrF}(h:zAZ 3 (RPF W) w u qs)(hS:Below W.heap.size W w):zAT w u (qs.map (·.1)):=by
 obtain ⟨a,c,rfl,h1,h2,h3⟩:=h.opened
 refine ⟨a,c,by simp,by simpa using h1,by simpa using h2,fun i x hx=>?_⟩
 rw[List.getElem?_map] at hx
 cases hp:qs[i]? with
 | none=>rw[hp] at hx;cases hx
 | some p =>
  rw[hp] at hx
  cases hx
  obtain ⟨b,off,e,cs,hl,hc,v,rfl,hi,hv⟩:=h3 i p hp
  refine ⟨b,off,e,_,hl,hc,v,rfl,?_,hi⟩
  obtain ⟨p,t⟩:=p
  cases t with
  | true=>simp only[if_true] at hv;exact hv.stays zAf.stays hS
  | false=>simpa using hv
theorem zEF{x y:Value}{a b:Int}(h:a=b):Ending.returned (.tuple #[.agg #[x,y],.int .i64 a])=.returned (.tuple #[.agg #[x,y],.int .i64 b]):=by rw[h]
theorem zSD{b:List Ver}{l:List Pr}{v:Int}{n:Nat}:(zIQ b l v n).Nodup:=by
 by_cases h:zGh b l v n=0
 ·rw[zFA h];exact (zHn v l).sublist (List.take_sublist _ _)
 ·rw[zGb h];exact List.Pairwise.nil
set_option maxRecDepth 100000 in
theorem zMi(vb u vs:Value)(b:List Ver)(ps:List Pr)(v:Int)(ss:List Sh)(W:World)(hb:zAR W vb b)(hu:zAT W u ps)(hs:zAN W vs ss)(hv:I64 v)(hpl0:zAp b ps=0) :
  Calls Tryz.prog 59 #[.agg #[vb,u],.int .i64 v,vs] W fun e w'=>(∃u1 u2,e=.returned (.tuple #[.agg #[u1,u2],.int .i64 (zF8 (b,ps) v ss)])∧zAR w' u1 (zGk (b,ps) v ss).1∧zAT w' u2 (zGk (b,ps) v ss).2)∧Below W.heap.size W w':=by
 have HB:=Zh hb
 have HS:=Zh hs
 have HU:=Zh hu
 obtain ⟨a,c,rfl,hcb,⟨hbm,hbc,_⟩,_⟩:=hb.opened
 obtain ⟨a',c',rfl,hcu,⟨hum,huc,_⟩,_⟩:=hu.opened
 obtain ⟨aS,cS,rfl,hcs,⟨hsm,hsc,_⟩,_⟩:=hs.opened
 have hp8:ps.length≤8:=(zAU.1 hpl0).2.1
 have S0:=((zAD.refl W).alloc (.cells #[.slice a b.length c,.slice a' ps.length c'] 27)).alloc (.cells #[.slice none 0 0,.slice none 0 0] 27)
 have hp1:=hu.stays zAj.stays S0.below
 have p0:((W.alloc (.cells #[.slice a b.length c,.slice a' ps.length c'] 27)).alloc (.cells #[.slice none 0 0,.slice none 0 0] 27)).cell? ⟨W.heap.size,0,none⟩=some (.slice a b.length c):=by go_simp
 have p1:((W.alloc (.cells #[.slice a b.length c,.slice a' ps.length c'] 27)).alloc (.cells #[.slice none 0 0,.slice none 0 0] 27)).cell? ⟨W.heap.size,1,none⟩=some (.slice a' ps.length c'):=by go_simp
 have p2:∀j,((W.alloc (.cells #[.slice a b.length c,.slice a' ps.length c'] 27)).alloc (.cells #[.slice none 0 0,.slice none 0 0] 27)).frozen? ⟨W.heap.size,j,none⟩=false:=by intro j;go_simp
 have q0:((W.alloc (.cells #[.slice a b.length c,.slice a' ps.length c'] 27)).alloc (.cells #[.slice none 0 0,.slice none 0 0] 27)).cell? ⟨W.heap.size+1,0,none⟩=some (.slice none 0 0):=by go_simp
 have q1:((W.alloc (.cells #[.slice a b.length c,.slice a' ps.length c'] 27)).alloc (.cells #[.slice none 0 0,.slice none 0 0] 27)).cell? ⟨W.heap.size+1,1,none⟩=some (.slice none 0 0):=by go_simp
 have q2:∀j,((W.alloc (.cells #[.slice a b.length c,.slice a' ps.length c'] 27)).alloc (.cells #[.slice none 0 0,.slice none 0 0] 27)).frozen? ⟨W.heap.size+1,j,none⟩=false:=by intro j;go_simp
 clear hb hu hs
 go_enter Tryz.func59,Tryz.ntmps59
 go_upto_region 1 with fail
 generalize (W.alloc (.cells #[.slice a b.length c,.slice a' ps.length c'] 27)).alloc (.cells #[.slice none 0 0,.slice none 0 0] 27)=w0 at *
 obtain ⟨B,hB⟩:∃B,B=W.heap.size:=⟨_,rfl⟩
 obtain ⟨B1,hB1⟩:∃B,B=W.heap.size+1:=⟨_,rfl⟩
 rw[←hB1] at q0 q1 q2 ⊢
 rw[←hB] at p0 p1 p2 ⊢
 have hBW:W.heap.size≤B:=by omega
 have hBW1:W.heap.size≤B1:=by omega
 have hBB:¬B1=B:=by omega
 have hBB':¬B=B1:=by omega
 clear hB hB1
 go_upto_region 2 with (go_at_call 83;go_fit (zGK b _ ps v (ss.length:Int) _ hp1 hpl0);rintro e w1 ⟨⟨vp,rfl,hip,hlp⟩,hbw⟩)
 have S1:=S0.step hbw
 have d0:=zAA hbw p0
 have d1:=zAA hbw p1
 have hBl:B<w0.heap.size:=zAH p0
 have hB1l:B1<w0.heap.size:=zAH q0
 have e0:=zAA hbw q0
 have e1:=zAA hbw q1
 have e2:∀j,w1.frozen? ⟨B1,j,none⟩=false:=fun j=>(hbw.frozen (p:=⟨B1,j,none⟩) hB1l).trans (q2 j)
 have d2:∀j,w1.frozen? ⟨B,j,none⟩=false:=fun j=>(hbw.frozen (p:=⟨B,j,none⟩) hBl).trans (p2 j)
 have hsz1:=hbw.size
 by_cases h0:zGh b ps v (ss.length:Int)=0
 ·obtain ⟨hpl,hpr⟩:=zIX h0
  have hnd:=zSD (b:=b) (l:=ps) (v:=v) (n:=ss.length)
  have HE:Hid (zF8 (b,ps) v ss=(zGR b v ss (zIQ b ps v ss.length) 0 ps).1):=Zh (by unfold zF8;rw[if_neg (by simpa using h0)])
  have HC:Hid (zGk (b,ps) v ss=if (zGR b v ss (zIQ b ps v ss.length) 0 ps).1≠0 then ([],[]) else (b,(zGR b v ss (zIQ b ps v ss.length) 0 ps).2)):=Zh (by unfold zGk;rw[HE.out])
  rw[h0]
  obtain ⟨ap,cp,rfl,hcp,⟨hpm,hpc,_⟩,_⟩:=hip.opened
  generalize zIQ b ps v ss.length=pk at *
  have HPR:=Zh hpr
  have HIP:=Zh hip
  have HND:=Zh hnd
  have HCL:=Zh (zBT RPF.stays RPF.one (.slice a' ps.length c') (ps.map fun p=>(p,true)) W w1 (zAF.old S1.below _) (zIz HU.out) (by simp;omega))
  have hd21:=d2 1
  clear hip hpr hnd p0 p1 p2 q0 q1 q2 hp1 hbw
  go_upto_region 5 with (go_at_call 35;go_fit HCL.out;rintro e w2 ⟨⟨v2,rfl,ho2⟩,hb2⟩;obtain ⟨a2,c2,rfl,hc2,⟨hm2,hk2,_⟩,_⟩:=ho2.isRow.opened;have hd21:=zAE hb2 d1 hd21;have d0:=zAA hb2 d0;have d1:=zAA hb2 d1)
  rw[show (ps.map fun p=>(p,true)).length=ps.length by simp] at ho2 hc2 hm2
  have S2:=S1.step hb2
  have e0:=zAA hb2 e0
  have e1:=zAA hb2 e1
  have e2:∀j,w2.frozen? ⟨B1,j,none⟩=false:=fun j=>(hb2.frozen (p:=⟨B1,j,none⟩) (Nat.lt_of_lt_of_le hB1l hsz1)).trans (e2 j)
  have hown:∀j,(Value.slice a2 ps.length c2).ownBlock=some j→w1.heap.size≤j:=fun j h=>(ho2.lt j h).1
  have hnB:∀j,(Value.slice a2 ps.length c2).ownBlock=some j→j≠B∧j≠B1∧W.heap.size≤j:=fun j h=>by have:=hown j h;have:=S1.2;omega
  have HNB:=Zh hnB
  have HOW:=Zh hown
  have ho3:zAK 3 (RPF W) (fun j=>j=B1) (w2.setCell ⟨B,1,none⟩ (.slice a2 ps.length c2)) 62 w1.heap.size (.slice a2 ps.length c2) (ps.map fun p=>(p,true)):=
   (ho2.kept (zAC w2 ⟨B,1,none⟩ (.slice a2 ps.length c2)) (fun j h=>by cases h;exact hBW) (by
    cases hq:(Value.slice a2 ps.length c2).ownBlock with
    | none=>exact Or.inl rfl
    | some j=>exact Or.inr (fun e=>(hnB j hq).1 (Option.some.inj e)))).weaken (fun j _ hj=>Or.inl (by rw[hj];exact hBW1))
  have S3:=S2.setCell (a:=⟨B,1,none⟩) hBW (.slice a2 ps.length c2)
  have f0:(w2.setCell ⟨B,1,none⟩ (.slice a2 ps.length c2)).cell? ⟨B,0,none⟩=some (.slice a b.length c):=by go_simp
  have f1:(w2.setCell ⟨B,1,none⟩ (.slice a2 ps.length c2)).cell? ⟨B,1,none⟩=some (.slice a2 ps.length c2):=by go_simp
  have g0:(w2.setCell ⟨B,1,none⟩ (.slice a2 ps.length c2)).cell? ⟨B1,0,none⟩=some (.slice none 0 0):=by go_simp
  have g1:(w2.setCell ⟨B,1,none⟩ (.slice a2 ps.length c2)).cell? ⟨B1,1,none⟩=some (.slice none 0 0):=by go_simp
  have g2:∀j,(w2.setCell ⟨B,1,none⟩ (.slice a2 ps.length c2)).frozen? ⟨B1,j,none⟩=false:=fun j=>by rw[World.frozen?_setCell];exact e2 j
  have hB1s:B1<w2.heap.size:=Nat.lt_of_lt_of_le (Nat.lt_of_lt_of_le hB1l hsz1) hb2.size
  have hip3:zAG (w2.setCell ⟨B,1,none⟩ (.slice a2 ps.length c2)) (.slice ap pk.length cp) pk:=
   (HIP.out.stays hb2).framed (D:=fun j=>j=B) (fun j hj _ e=>by have:=hlp j hj;omega) ((zAF.of_grown (zAC w2 ⟨B,1,none⟩ (.slice a2 ps.length c2))).mono fun j _ hj=>by cases hj;rfl)
  have hpkl:∀j,Value.lies (.slice ap pk.length cp) j→pk≠[]→j<w1.heap.size:=HIP.out.block_lt
  have HPL:=Zh hpkl
  have hz3:w1.heap.size≤(w2.setCell ⟨B,1,none⟩ (.slice a2 ps.length c2)).heap.size:=by simpa using hb2.size
  go_upto_region 5 with fail
  clear d0 d1 e0 e1 e2 hd21 ho2 hlp hpkl hown hnB d2 hb2
  generalize w2.setCell ⟨B,1,none⟩ (.slice a2 ps.length c2)=w3 at *
  have hBs3:=zAH f0
  have hB1s3:=zAH g0
  have HF:Hid (∀w',zAF (fun j=>(Value.slice a2 ps.length c2).ownBlock=some j) w3 w'→w'.cell? ⟨B,0,none⟩=some (.slice a b.length c)∧w'.cell? ⟨B,1,none⟩=some (.slice a2 ps.length c2)∧w'.cell? ⟨B1,0,none⟩=some (.slice none 0 0)∧w'.cell? ⟨B1,1,none⟩=some (.slice none 0 0)∧(∀j,w'.frozen? ⟨B1,j,none⟩=false)∧zAG w' (.slice ap pk.length cp) pk):=Zh (fun w' h=>by
   have n0:¬(Value.slice a2 ps.length c2).ownBlock=some B:=fun e=>(HNB.out B e).1 rfl
   have n1:¬(Value.slice a2 ps.length c2).ownBlock=some B1:=fun e=>(HNB.out B1 e).2.1 rfl
   exact ⟨h.cell f0 n0,h.cell f1 n0,h.cell g0 n1,h.cell g1 n1,fun j=>(World.frozen?_of_block (a:=⟨B1,j,none⟩) (h.2 B1 hB1s3 n1)).trans (g2 j),hip3.framed (fun j hj hne e=>by have h1:=HPL.out j hj hne;have h2:=HOW.out j e;omega) h⟩)
  clear g0 g1 g2 hip3
  go_wp2_with fail
  clear f0 f1
  go_loopw[31] (fun i wr=>∃(k:Nat) (qs:List PrF),k≤pk.length∧i=.int .i64 k∧zAD W.heap.size W wr∧zAF (fun j=>(Value.slice a2 ps.length c2).ownBlock=some j) w3 wr∧zAK 3 (RPF W) (fun j=>j=B1) wr 62 w1.heap.size (.slice a2 ps.length c2) qs∧qs.length=ps.length∧zGR b v ss (pk.drop k) k (qs.map (·.1))=zGR b v ss pk 0 ps∧∀m:Nat,(m:Int)∈pk.drop k→∃p,qs[m]?=some (p,true)) (fun i _=>pk.length - (intOf i).toNat)
  case atStart=>exact ⟨0,ps.map fun p=>(p,true),by omega,rfl,S3,zAF.refl _ _,ho3,by simp,by simp[Function.comp_def],fun m hm=>by
   obtain ⟨z1,z2⟩:=HPR.out _ (by simpa using hm)
   exact ⟨ps[m]'(by omega),by rw[List.getElem?_map,List.getElem?_eq_getElem (show m<ps.length by omega)];rfl⟩⟩
  case round =>
   clear ho3
   obtain ⟨k,qs,hk,rfl,hS,hDr,ho,hql,hq,hft⟩:=hrel
   have HQ:=Zh hq
   have HFT:=Zh hft
   clear hq hft
   obtain ⟨x0,x1,y0,y1,y2,hpi⟩:=HF.out wr hDr
   by_cases hlt:k<pk.length
   ·have hx:pk[k]?=some pk[k]:=List.getElem?_eq_getElem hlt
    obtain ⟨bp,op,eap,i0,_⟩:=zC0 hpi hx
    subst eap
    have hcr:=HPR.out _ (List.getElem_mem hlt)
    have hdr:=List.drop_eq_getElem_cons hlt
    generalize pk[k]=cc at *
    obtain ⟨m,hm⟩:=Int.eq_ofNat_of_zero_le hcr.1
    subst hm
    have HDR:=Zh hdr
    obtain ⟨pp,hqm⟩:=HFT.out m (by rw[hdr];simp)
    have HFT2:Hid (∀m':Nat,(m':Int)∈pk.drop (k+1)→m'≠m∧∃p,qs[m']?=some (p,true)):=Zh (fun m' hm'=>by
     have hnd:=(HND.out.sublist (List.drop_sublist k pk))
     rw[HDR.out] at hnd
     refine ⟨fun e=>?_,HFT.out m' (by rw[HDR.out];simp[hm'])⟩
     subst e
     exact (List.nodup_cons.1 hnd).1 hm')
    have hml:m<qs.length:=(List.getElem?_eq_some_iff.1 hqm).1
    obtain ⟨t,r,K⟩:=pp
    obtain ⟨rr,g,hg,hl3,hone,hcell,hf⟩:=ho.get hqm
    obtain ⟨vK,rfl,hr,hK⟩:=hf.now
    simp only[if_true] at hK hr
    obtain ⟨aa,ca,rfl,_⟩:=hK.opened
    have k0:=hcell 0 _ rfl
    have k1:=hcell 1 _ rfl
    have k2:=hcell 2 _ rfl
    have fz:=fun j=>ho.free hg j
    have hgg:=HNB.out g hg
    have hg1:=HOW.out g hg
    have hglt:=(ho.lt g hg).2
    have hsk:ss[k]?=some ss[k]:=List.getElem?_eq_getElem (by omega)
    obtain ⟨gs,os,us,cs,eas,s0,s1,hsi,hs1⟩:=zBZ HS.out hsk
    subst eas
    have hgsW:=zAH s0
    have s0:=zAA hS.below s0
    have s1:=zAA hS.below s1
    have HSK:=Zh hsk
    generalize ss[k]=sh at *
    have hgo:a2=some ⟨g,0,none⟩:=by
     rcases ho.shape with ⟨_,e⟩|⟨g',cap,cur,e,_⟩
     ·rw[e] at hqm;simp at hqm
     ·simp only[Value.slice.injEq] at e
      obtain ⟨e1,_⟩:=e
      subst e1
      simp only[Value.ownBlock,Option.some.injEq] at hg
      rw[hg]
    subst hgo
    have HQM:=Zh hqm
    have hqp:(qs.map (·.1))[m]?=some (t,r,K):=by rw[List.getElem?_map,hqm];rfl
    have HOK:Hid (zBN b (t,r,K) (v,sh)=0→zGR b v ss (pk.drop (k+1)) (k+1) ((qs.map (·.1)).set m (zC5 b (t,r,K) (v,sh)))=zGR b v ss pk 0 ps):=Zh (fun h=>by rw[←HQ.out,HDR.out];exact (zLR rfl hqp HSK.out h).symm)
    have HNO:Hid (zBN b (t,r,K) (v,sh)≠0→zGR b v ss pk 0 ps=(zBN b (t,r,K) (v,sh),[])):=Zh (fun h=>by rw[←HQ.out,HDR.out];exact zNz rfl hqp HSK.out h)
    have hBg:¬B=g:=fun e=>hgg.1 e.symm
    have hBg1:¬B1=g:=fun e=>hgg.2.1 e.symm
    have hmps:m<ps.length:=by omega
    have hgsg:gs≠g:=by simp only at hgsW;omega
    have s3:wr.drew.cell? ⟨B,0,none⟩=some (.slice a b.length c)∧wr.drew.cell? ⟨B,1,none⟩=some (.slice (some ⟨g,0,none⟩) ps.length c2):=⟨x0,x1⟩
    have hci:I64 (zC5 b (t,r,K) (v,sh)).2.1:=by
     unfold zC5
     split
     ·exact hr
     ·exact ⟨by decide,by decide⟩
    have hK0:=zPx (.slice a b.length c) b (.slice aa K.length ca) (t,r,K) (.slice us sh.2.length cs) (v,sh) W wr.drew hS.drew (HB.out.stays zAz.stays hS.drew.below) hK hr hsi hv hs1
    generalize zC5 b (t,r,K) (v,sh)=C at *
    generalize zBN b (t,r,K) (v,sh)=E at *
    obtain ⟨ct,cr,ck⟩:=C
    have HK:=Zh hK0
    clear hK0
    simp only at hci
    have j0:wr.drew.cell? ⟨g,m*3,none⟩=some (.bool t):=k0
    have j1:wr.drew.cell? ⟨g,m*3+1,none⟩=some (.int .i64 r):=k1
    have j2:wr.drew.cell? ⟨g,m*3+2,none⟩=some (.slice aa K.length ca):=k2
    have l0:wr.drew.cell? ⟨gs,os+k*2,none⟩=some (.int .i64 sh.1):=s0
    have l1:wr.drew.cell? ⟨gs,os+k*2+1,none⟩=some (.slice us sh.2.length cs):=s1
    have z0:∀j,wr.drew.frozen? ⟨g,j,none⟩=false:=fz
    have HO:=Zh ho
    clear hpi hK hsi hqm hqp ho hf hcell hone hsk hx hdr
    go_upto_region 8 with fail
    clear x0 x1 y0 y1 y2 s0 s1 k0 k1 k2 fz i0
    have HQL:=Zh hql
    clear hql h0 hpl hcr
    have hHeld:wr.drew.cell? ⟨B,0,none⟩=some (.slice a b.length c)∧wr.drew.cell? ⟨B,1,none⟩=some (.slice (some ⟨g,0,none⟩) ps.length c2)∧wr.drew.cell? ⟨gs,os+k*2,none⟩=some (.int .i64 sh.1)∧wr.drew.cell? ⟨gs,os+k*2+1,none⟩=some (.slice us sh.2.length cs):=⟨s3.1,s3.2,l0,l1⟩
    refine wp_region_held_drew (S:=fun w'=>w'.cell? ⟨B,0,none⟩=some (.slice a b.length c)∧w'.cell? ⟨B,1,none⟩=some (.slice (some ⟨g,0,none⟩) ps.length c2)∧w'.cell? ⟨gs,os+k*2,none⟩=some (.int .i64 sh.1)∧w'.cell? ⟨gs,os+k*2+1,none⟩=some (.slice us sh.2.length cs)) (by kernel_rfl) hHeld (fun _=>?_)
    refine wpAnyH_take (i:=0) (v:=?v0) rfl (by kernel_rfl) (by kernel_rfl) (by kernel_rfl) (fun _ _ _ h=>h) (Or.inl ⟨by rfl,?hy0⟩) (by assumption) ?r0
    case hy0=>(intro w hSw;(try dsimp only at hSw);go_simp<;>with_reducible rfl)
    simp only[Act.put,List.setIfInBounds_toArray,List.set]
    refine wpAnyH_take (i:=1) (v:=?v1) rfl (by kernel_rfl) (by kernel_rfl) (by kernel_rfl) (fun _ _ _ h=>h) (Or.inl ⟨by rfl,?hy1⟩) (by assumption) ?r1
    case hy1=>(intro w hSw;(try dsimp only at hSw);go_simp<;>with_reducible rfl)
    simp only[Act.put,List.setIfInBounds_toArray,List.set]
    refine wpAnyH_take (i:=2) (v:=?v2) rfl (by kernel_rfl) (by kernel_rfl) (by kernel_rfl) (fun _ _ _ h=>h) (Or.inl ⟨by rfl,?hy2⟩) (by assumption) ?r2
    case hy2=>(intro w hSw;(try dsimp only at hSw);go_simp<;>with_reducible rfl)
    simp only[Act.put,List.setIfInBounds_toArray,List.set]
    refine wpAnyH_take (i:=3) (v:=?v3) rfl (by kernel_rfl) (by kernel_rfl) (by kernel_rfl) (fun _ _ _ h=>h) (Or.inl ⟨by rfl,?hy3⟩) (by assumption) ?r3
    case hy3=>(intro w hSw;(try dsimp only at hSw);go_simp<;>with_reducible rfl)
    simp only[Act.put,List.setIfInBounds_toArray,List.set]
    refine wpAnyH_take (i:=4) (v:=?v4) rfl (by kernel_rfl) (by kernel_rfl) (by kernel_rfl) (fun _ _ _ h=>h) (Or.inl ⟨by rfl,?hy4⟩) (by assumption) ?r4
    case hy4=>(intro w hSw;(try dsimp only at hSw);go_simp<;>with_reducible rfl)
    simp only[Act.put,List.setIfInBounds_toArray,List.set]
    refine wpAnyH_take (i:=5) (v:=?v5) rfl (by kernel_rfl) (by kernel_rfl) (by kernel_rfl) (fun _ _ _ h=>h) (Or.inl ⟨by rfl,?hy5⟩) (by assumption) ?r5
    case hy5=>(intro w hSw;(try dsimp only at hSw);go_simp<;>with_reducible rfl)
    simp only[Act.put,List.setIfInBounds_toArray,List.set]
    refine wpAnyH_take (i:=6) (v:=?v6) rfl (by kernel_rfl) (by kernel_rfl) (by kernel_rfl) (fun _ _ _ h=>h) (Or.inl ⟨by rfl,?hy6⟩) (by assumption) ?r6
    case hy6=>(intro w hSw;(try dsimp only at hSw);go_simp<;>with_reducible rfl)
    simp only[Act.put,List.setIfInBounds_toArray,List.set]
    refine wpAnyH_take (i:=7) (v:=?v7) rfl (by kernel_rfl) (by kernel_rfl) (by kernel_rfl) (fun _ _ _ h=>h) (Or.inl ⟨by rfl,?hy7⟩) (by assumption) ?r7
    case hy7=>(intro w hSw;(try dsimp only at hSw);go_simp<;>with_reducible rfl)
    simp only[Act.put,List.setIfInBounds_toArray,List.set]
    refine wpAnyH_take (i:=8) (v:=?v8) rfl (by kernel_rfl) (by kernel_rfl) (by kernel_rfl) (fun _ _ _ h=>h) (Or.inl ⟨by rfl,?hy8⟩) (by assumption) ?r8
    case hy8=>(intro w hSw;(try dsimp only at hSw);go_simp<;>with_reducible rfl)
    simp only[Act.put,List.setIfInBounds_toArray,List.set]
    refine wpAnyH_take (i:=10) (v:=?v10) rfl (by kernel_rfl) (by kernel_rfl) (by kernel_rfl) (fun _ _ _ h=>h) (Or.inl ⟨by rfl,?hy10⟩) (by assumption) ?r10
    case hy10=>(intro w hSw;(try dsimp only at hSw);go_simp<;>with_reducible rfl)
    simp only[Act.put,List.setIfInBounds_toArray,List.set]
    refine wpAnyH_take (i:=11) (v:=?v11) rfl (by kernel_rfl) (by kernel_rfl) (by kernel_rfl) (fun _ _ _ h=>h) (Or.inl ⟨by rfl,?hy11⟩) (by assumption) ?r11
    case hy11=>(intro w hSw;(try dsimp only at hSw);go_simp<;>with_reducible rfl)
    simp only[Act.put,List.setIfInBounds_toArray,List.set]
    refine wpAnyH_take (i:=12) (v:=?v12) rfl (by kernel_rfl) (by kernel_rfl) (by kernel_rfl) (fun _ _ _ h=>h) (Or.inl ⟨by rfl,?hy12⟩) (by assumption) ?r12
    case hy12=>(intro w hSw;(try dsimp only at hSw);go_simp<;>with_reducible rfl)
    simp only[Act.put,List.setIfInBounds_toArray,List.set]
    refine wpAnyH_take (i:=13) (v:=?v13) rfl (by kernel_rfl) (by kernel_rfl) (by kernel_rfl) (fun _ _ _ h=>h) (Or.inl ⟨by rfl,?hy13⟩) (by assumption) ?r13
    case hy13=>(intro w hSw;(try dsimp only at hSw);go_simp<;>with_reducible rfl)
    simp only[Act.put,List.setIfInBounds_toArray,List.set]
    refine wpAnyH_take (i:=14) (v:=?v14) rfl (by kernel_rfl) (by kernel_rfl) (by kernel_rfl) (fun _ _ _ h=>h) (Or.inl ⟨by rfl,?hy14⟩) (by assumption) ?r14
    case hy14=>(intro w hSw;(try dsimp only at hSw);go_simp<;>with_reducible rfl)
    simp only[Act.put,List.setIfInBounds_toArray,List.set]
    refine wpAnyH_take (i:=15) (v:=?v15) rfl (by kernel_rfl) (by kernel_rfl) (by kernel_rfl) (fun _ _ _ h=>h) (Or.inl ⟨by rfl,?hy15⟩) (by assumption) ?r15
    case hy15=>(intro w hSw;(try dsimp only at hSw);go_simp<;>with_reducible rfl)
    simp only[Act.put,List.setIfInBounds_toArray,List.set]
    refine wpAnyH_ready (rs:=[9]) (by kernel_rfl) (by simp) ?_
    refine AllReadyH.cons (o:=?o9) ?ho9 (fun K hK=>?k9) AllReadyH.nil
    case ho9=>(simp only[List.getElem?_toArray,List.getElem?_cons_succ,List.getElem?_cons_zero];rfl)
    go_simp
    refine hK.out _ _ hHeld (fun _=>?_)
    clear hK K
    refine wpAnyH_ready (rs:=[16]) (by kernel_rfl) (by simp) ?_
    refine AllReadyH.cons (o:=?o16) ?ho16 (fun K hK=>?k16) AllReadyH.nil
    case ho16=>(simp only[List.getElem?_toArray,List.getElem?_cons_succ,List.getElem?_cons_zero];rfl)
    go_simp
    go_at_call 84
    refine HK.out.mono ?_
    rintro e w5 ⟨⟨v5,rfl,hv5,hv6⟩,hb5⟩
    obtain ⟨a5,c5,rfl,_⟩:=(hv6 w5 (zAF.refl _ _)).opened
    have t0:=zAA hb5 j0
    have t1:=zAA hb5 j1
    have t2:=zAA hb5 j2
    have x0:=zAE hb5 j0 (z0 _)
    have x1:=zAE hb5 j1 (z0 _)
    have x2:=zAE hb5 j2 (z0 _)
    have hHeld5:w5.cell? ⟨B,0,none⟩=some (.slice a b.length c)∧w5.cell? ⟨B,1,none⟩=some (.slice (some ⟨g,0,none⟩) ps.length c2)∧w5.cell? ⟨gs,os+k*2,none⟩=some (.int .i64 sh.1)∧w5.cell? ⟨gs,os+k*2+1,none⟩=some (.slice us sh.2.length cs):=⟨zAA hb5 s3.1,zAA hb5 s3.2,zAA hb5 l0,zAA hb5 l1⟩
    try go_wp2_with fail
    refine hK.out _ _ hHeld5 (fun _=>?_)
    clear hK K
    refine wpAnyH_take (i:=17) (v:=?v17) rfl (by kernel_rfl) (by kernel_rfl) (by kernel_rfl) (fun _ _ _ h=>h) (Or.inl ⟨by rfl,?hy17⟩) (by exact hHeld5) ?r17
    case hy17=>(intro w hSw;(try dsimp only at hSw);go_simp<;>with_reducible rfl)
    simp only[Act.put,List.setIfInBounds_toArray,List.set]
    refine wpAnyH_take (i:=18) (v:=?v18) rfl (by kernel_rfl) (by kernel_rfl) (by kernel_rfl) (fun _ _ _ h=>h) (Or.inl ⟨by rfl,?hy18⟩) (by exact hHeld5) ?r18
    case hy18=>(intro w hSw;(try dsimp only at hSw);go_simp<;>with_reducible rfl)
    simp only[Act.put,List.setIfInBounds_toArray,List.set]
    refine wpAnyH_take (i:=19) (v:=?v19) rfl (by kernel_rfl) (by kernel_rfl) (by kernel_rfl) (fun _ _ _ h=>h) (Or.inl ⟨by rfl,?hy19⟩) (by exact hHeld5) ?r19
    case hy19=>(intro w hSw;(try dsimp only at hSw);go_simp<;>with_reducible rfl)
    simp only[Act.put,List.setIfInBounds_toArray,List.set]
    refine wpAnyH_take (i:=20) (v:=?v20) rfl (by kernel_rfl) (by kernel_rfl) (by kernel_rfl) (fun _ _ _ h=>h) (Or.inl ⟨by rfl,?hy20⟩) (by exact hHeld5) ?r20
    case hy20=>(intro w hSw;(try dsimp only at hSw);go_simp<;>with_reducible rfl)
    simp only[Act.put,List.setIfInBounds_toArray,List.set]
    refine wpAnyH_ready (rs:=[21]) (by kernel_rfl) (by simp) ?_
    refine AllReadyH.cons (o:=?o21) ?ho21 (fun K hK=>?k21) AllReadyH.nil
    case ho21=>(simp only[List.getElem?_toArray,List.getElem?_cons_succ,List.getElem?_cons_zero];rfl)
    go_simp
    have hDg:zAF (fun j=>j=g) w5 (((w5.setCell ⟨g,m*3,none⟩ (.bool ct)).setCell ⟨g,m*3+1,none⟩ (.int .i64 cr)).setCell ⟨g,m*3+1+1,none⟩ (.slice a5 ck.length c5)):=(zAF.of_grown (zAQ g [.bool ct,.int .i64 cr,.slice a5 ck.length c5] (m*3) w5)).mono (fun j _ hj=>by cases hj;rfl)
    have hHeld6:(((w5.setCell ⟨g,m*3,none⟩ (.bool ct)).setCell ⟨g,m*3+1,none⟩ (.int .i64 cr)).setCell ⟨g,m*3+1+1,none⟩ (.slice a5 ck.length c5)).cell? ⟨B,0,none⟩=some (.slice a b.length c)∧(((w5.setCell ⟨g,m*3,none⟩ (.bool ct)).setCell ⟨g,m*3+1,none⟩ (.int .i64 cr)).setCell ⟨g,m*3+1+1,none⟩ (.slice a5 ck.length c5)).cell? ⟨B,1,none⟩=some (.slice (some ⟨g,0,none⟩) ps.length c2)∧(((w5.setCell ⟨g,m*3,none⟩ (.bool ct)).setCell ⟨g,m*3+1,none⟩ (.int .i64 cr)).setCell ⟨g,m*3+1+1,none⟩ (.slice a5 ck.length c5)).cell? ⟨gs,os+k*2,none⟩=some (.int .i64 sh.1)∧(((w5.setCell ⟨g,m*3,none⟩ (.bool ct)).setCell ⟨g,m*3+1,none⟩ (.int .i64 cr)).setCell ⟨g,m*3+1+1,none⟩ (.slice a5 ck.length c5)).cell? ⟨gs,os+k*2+1,none⟩=some (.slice us sh.2.length cs):=⟨hDg.cell hHeld5.1 hBg,hDg.cell hHeld5.2.1 hBg,hDg.cell hHeld5.2.2.1 hgsg,hDg.cell hHeld5.2.2.2 hgsg⟩
    refine hK.out _ _ hHeld6 (fun _=>?_)
    clear hK K
    refine wpAnyH_take (i:=22) (v:=?v22) rfl (by kernel_rfl) (by kernel_rfl) (by kernel_rfl) (fun _ _ _ h=>h) (Or.inl ⟨by rfl,?hy22⟩) (by exact hHeld6) ?r22
    case hy22=>(intro w hSw;(try dsimp only at hSw);go_simp<;>with_reducible rfl)
    simp only[Act.put,List.setIfInBounds_toArray,List.set]
    refine wpAnyH_done (by kernel_rfl) ?_ _
    go_simp
    have hb5r:Below wr.heap.size wr w5:=((zAD.refl wr).drew.step hb5).below
    have hwr5:wr.heap.size≤w5.heap.size:=hb5.size
    have hD6:=hDr.trans ((zAF.old hb5r _).trans (hDg.mono (D':=fun j=>(Value.slice (some ⟨g,0,none⟩) ps.length c2).ownBlock=some j) (fun j _ hj=>by rw[hj];rfl)))
    have hgW:=hgg.2.2
    have S6:=((((hS.step hb5r)).setCell (a:=⟨g,m*3,none⟩) hgW (.bool ct)).setCell (a:=⟨g,m*3+1,none⟩) hgW (.int .i64 cr)).setCell (a:=⟨g,m*3+1+1,none⟩) hgW (.slice a5 ck.length c5)
    have hn5:∀j,j<wr.heap.size→(Value.slice a5 ck.length c5).ownBlock≠some j:=fun j hj e=>by have:wr.heap.size≤j:=hv5 j e;omega
    have ho6:zAK 3 (RPF W) (fun j=>j=B1) (((w5.setCell ⟨g,m*3,none⟩ (.bool ct)).setCell ⟨g,m*3+1,none⟩ (.int .i64 cr)).setCell ⟨g,m*3+1+1,none⟩ (.slice a5 ck.length c5)) 62 w1.heap.size (.slice (some ⟨g,0,none⟩) ps.length c2) (qs.set m ((ct,cr,ck),false)):=
     (HO.out.stays hb5r).setElem (r:=[.bool ct,.int .i64 cr,.slice a5 ck.length c5]) hml rfl (by intro z hz;simp at hz;rcases hz with rfl | rfl | rfl<;>rfl) (fun w' hw'=>⟨_,rfl,hci,by
      simp only[Bool.false_eq_true,if_false]
      refine hv6 w' (hw'.mono fun j _ hj=>?_)
      rcases hj with hj|hj
      ·cases hj;exact ⟨hgW,hn5 g hglt⟩
      ·rw[hj];exact ⟨hBW1,hn5 B1 (Nat.lt_of_lt_of_le (show B1<w3.heap.size from hB1s3) hDr.1)⟩⟩)
    have hql6:(qs.set m ((ct,cr,ck),false)).length=ps.length:=by rw[List.length_set];exact HQL.out
    have hmap6:(qs.set m ((ct,cr,ck),false)).map (·.1)=(qs.map (·.1)).set m (ct,cr,ck):=by rw[List.map_set]
    have hft6:∀m':Nat,(m':Int)∈pk.drop (k+1)→∃p,(qs.set m ((ct,cr,ck),false))[m']?=some (p,true):=fun m' hm'=>by
     obtain ⟨h1,p,h2⟩:=HFT2.out m' hm'
     exact ⟨p,by rw[List.getElem?_set_ne (fun e=>h1 e.symm)];exact h2⟩
    have HO6:=Zh ho6
    have HF6:=Zh hft6
    have HM6:=Zh hmap6
    have HZ6:=Zh hql6
    obtain ⟨b0,b1,n0,n1,n2,_⟩:=HF.out _ hD6
    clear hHeld hHeld5 hHeld6 t0 t1 t2 x0 x1 x2 j0 j1 j2 l0 l1 z0 s3 ho6 hft6 hmap6 hql6 hv5 hv6 hb5 hb5r hDg hDr hS hn5
    generalize ((w5.setCell ⟨g,m*3,none⟩ (.bool ct)).setCell ⟨g,m*3+1,none⟩ (.int .i64 cr)).setCell ⟨g,m*3+1+1,none⟩ (.slice a5 ck.length c5)=w6 at *
    by_cases hE0:E=0
    ·have HOK':=Zh (HOK.out hE0)
     subst hE0
     go_wp2_with fail
     clear b0 b1 n0 n1 n2
     go_roundw
     case rel=>exact ⟨k+1,_,by omega,by go_num,S6,hD6,HO6.out,HZ6.out,by rw[HM6.out];exact HOK'.out,HF6.out⟩
     case measure=>simp[intOf];omega
    ·have HNO':=Zh (HNO.out hE0)
     have HE':Hid (zF8 (b,ps) v ss=E):=Zh (by rw[HE.out,HNO'.out])
     have HC':Hid (zGk (b,ps) v ss=([],[])):=Zh (by rw[HC.out,HNO'.out];simp[hE0])
     have hne:(E != 0)=true:=by simpa using hE0
     have f0:=n2 0
     have f1:=n2 1
     have v0:((w6.setCell ⟨B1,0,none⟩ (.slice none 0 0)).setCell ⟨B1,1,none⟩ (.slice none 0 0)).cell? ⟨B1,0,none⟩=some (.slice none 0 0):=by go_simp
     have v1:((w6.setCell ⟨B1,0,none⟩ (.slice none 0 0)).setCell ⟨B1,1,none⟩ (.slice none 0 0)).cell? ⟨B1,1,none⟩=some (.slice none 0 0):=by go_simp
     have S7:=(S6.setCell (a:=⟨B1,0,none⟩) hBW1 (.slice none 0 0)).setCell (a:=⟨B1,1,none⟩) hBW1 (.slice none 0 0)
     clear b0 b1 n2
     go_wp2_with fail
     exact bodyPost_ret (v:=.tuple #[.agg #[.slice none 0 0,.slice none 0 0],.int .i64 E]) (by simp[results,Tryz.results59,go_sem,v0,v1]) rfl ⟨⟨_,_,zEF HE'.out.symm,by rw[HC'.out];exact zAZ.nil _,by rw[HC'.out];exact zAZ.nil _⟩,S7.below⟩
   ·obtain rfl:pk.length=k:=by omega
    have hq:=HQ.out
    rw[List.drop_length] at hq
    have HE':Hid (zF8 (b,ps) v ss=0):=Zh (by rw[HE.out,←hq];rfl)
    have HC':Hid (zGk (b,ps) v ss=(b,qs.map (·.1))):=Zh (by rw[HC.out,←hq];rfl)
    have hg7:=(zAC wr ⟨B1,0,none⟩ (.slice a b.length c)).trans (zAC _ ⟨B1,1,none⟩ (.slice a2 ps.length c2))
    have v0:((wr.setCell ⟨B1,0,none⟩ (.slice a b.length c)).setCell ⟨B1,1,none⟩ (.slice a2 ps.length c2)).cell? ⟨B1,0,none⟩=some (.slice a b.length c):=by go_simp
    have v1:((wr.setCell ⟨B1,0,none⟩ (.slice a b.length c)).setCell ⟨B1,1,none⟩ (.slice a2 ps.length c2)).cell? ⟨B1,1,none⟩=some (.slice a2 ps.length c2):=by go_simp
    have S7:=(hS.setCell (a:=⟨B1,0,none⟩) hBW1 (.slice a b.length c)).setCell (a:=⟨B1,1,none⟩) hBW1 (.slice a2 ps.length c2)
    have ho7:=ho.kept hg7 (fun j h=>by cases h;rfl) (by
     cases hq9:(Value.slice a2 ps.length c2).ownBlock with
     | none=>exact Or.inl rfl
     | some j=>exact Or.inr (fun e=>(HNB.out j hq9).2.1 (Option.some.inj e)))
    have HP7:=Zh (zEE ho7.isRow S7.below)
    have HV7:=Zh (HB.out.stays zAz.stays S7.below)
    have f0:=y2 0
    have f1:=y2 1
    clear hq ho7 hg7 ho hpi y2 hS hDr
    go_wp2_with fail
    exact bodyPost_ret (v:=.tuple #[.agg #[.slice a b.length c,.slice a2 ps.length c2],.int .i64 0]) (by simp[results,Tryz.results59,go_sem,v0,v1]) rfl ⟨⟨_,_,zEF HE'.out.symm,by rw[HC'.out];exact HV7.out,by rw[HC'.out];exact HP7.out⟩,S7.below⟩
 ·have HE':Hid (zF8 (b,ps) v ss=zGh b ps v ss.length):=Zh (by unfold zF8;rw[if_pos h0])
  have HC':Hid (zGk (b,ps) v ss=([],[])):=Zh (by unfold zGk;rw[HE'.out,if_pos h0])
  have hne:(zGh b ps v (ss.length:Int) != 0)=true:=by simpa using h0
  generalize zGh b ps v ss.length=E at *
  have f0:=e2 0
  have f1:=e2 1
  have v0:((w1.setCell ⟨B1,0,none⟩ (.slice none 0 0)).setCell ⟨B1,1,none⟩ (.slice none 0 0)).cell? ⟨B1,0,none⟩=some (.slice none 0 0):=by go_simp
  have v1:((w1.setCell ⟨B1,0,none⟩ (.slice none 0 0)).setCell ⟨B1,1,none⟩ (.slice none 0 0)).cell? ⟨B1,1,none⟩=some (.slice none 0 0):=by go_simp
  have S7:=(S1.setCell (a:=⟨B1,0,none⟩) hBW1 (.slice none 0 0)).setCell (a:=⟨B1,1,none⟩) hBW1 (.slice none 0 0)
  clear d0 d1 e2 p0 p1 q0 q1 q2 hip hbw
  go_wp2_with fail
  exact bodyPost_ret (v:=.tuple #[.agg #[.slice none 0 0,.slice none 0 0],.int .i64 E]) (by simp[results,Tryz.results59,go_sem,v0,v1]) rfl ⟨⟨_,_,zEF HE'.out.symm,by rw[HC'.out];exact zAZ.nil _,by rw[HC'.out];exact zAZ.nil _⟩,S7.below⟩
end Go.Proofs.YthgmphbkkojaoaaGreat
