/-
  mesh.put walked.
-/
import Derived.Test.YthgmphbkkojaoaaGreatQPlaces34
set_option linter.unusedSimpArgs false
set_option maxHeartbeats 4000000
namespace Go.Proofs.YthgmphbkkojaoaaGreat
set_option linter.unusedSectionVars false
variable [Zn]
open Go.RowKit
theorem zAF.next{D D':Nat→Prop}{a b c:World}(h:zAF D a b)(g:zAF D' b c)(hd:∀k,D' k→D k∨a.heap.size≤k):zAF D a c:=
 ⟨Nat.le_trans h.1 g.1,fun k hk hn=>(g.2 k (Nat.lt_of_lt_of_le hk h.1) (fun h'=>(hd k h').elim hn (by omega))).trans (h.2 k hk hn)⟩
theorem zBM{u v:Value}{a b:Int}(h:a=b):Ending.returned (.tuple #[.agg #[u,v],.int .i64 a])=.returned (.tuple #[.agg #[u,v],.int .i64 b]):=by rw[h]
theorem zCl.nil(X:Nat→Prop)(w:World)(base:Nat):zCl X w base (.slice none 0 0) (.slice none 0 0) ([],[]):=⟨[],rfl,DP.nil _ _,fun _ _=>zAZ.nil _⟩
set_option maxRecDepth 100000 in
theorem zQe(X:Nat→Prop)(base:Nat)(v1 v2 vs:Value)(b:List Ver)(zs:List PrD)(v:Int)(ss:List Sh)(W:World)(hbase:base≤W.heap.size)(hv:I64 v)(hd:DP W base v2 zs)
  (hb:∀w',zAF (fun k=>zBu v2 zs k∨X k) W w'→zAR w' v1 b) (hs:∀w',zAF (zBu v2 zs) W w'→zAN w' vs ss) (hsv:∀k,Value.lies vs k→v2.ownBlock≠some k) :
  Calls Tryz.prog 70 #[.agg #[v1,v2],.int .i64 v,vs] W fun e w'=>(∃u1 u2,e=.returned (.tuple #[.agg #[u1,u2],.int .i64 (zF8 (b,zs.map zDK) v ss)])∧zCl X w' base u1 u2 (zGk (b,zs.map zDK) v ss))∧zAD base W w'∧zAF (fun k=>v2.ownBlock=some k) W w':=by
 have HB:=Zh hb
 have HS:=Zh hs
 have HD:=Zh hd
 have hb0:=hb W (zAF.refl _ _)
 have hs0:=hs W (zAF.refl _ _)
 have hp0:=hd.isPeers
 obtain ⟨a,c,rfl,hcb,⟨hbm,hbc,_⟩,_⟩:=hb0.opened
 obtain ⟨a',c',ev2,hcu,⟨hum,huc,_⟩,_⟩:=hp0.opened
 obtain ⟨aS,cS,rfl,hcs,⟨hsm,hsc,_⟩,_⟩:=hs0.opened
 subst ev2
 generalize hps:zs.map zDK=ps at *
 have HPS:=Zh hps
 have hl0:zs.length=ps.length:=by rw[←hps,List.length_map]
 clear hb hs hd hps
 have S0:=((zAD.refl W).alloc (.cells #[.slice a b.length c,.slice a' ps.length c'] 27)).alloc (.cells #[.slice none 0 0,.slice none 0 0] 27)
 have hb1:=hb0.stays zAz.stays S0.below
 have hp1:=hp0.stays zAj.stays S0.below
 have S0b:zAD base W ((W.alloc (.cells #[.slice a b.length c,.slice a' ps.length c'] 27)).alloc (.cells #[.slice none 0 0,.slice none 0 0] 27)):=⟨S0.below.mono hbase,Nat.le_trans hbase S0.2⟩
 have p0:((W.alloc (.cells #[.slice a b.length c,.slice a' ps.length c'] 27)).alloc (.cells #[.slice none 0 0,.slice none 0 0] 27)).cell? ⟨W.heap.size,0,none⟩=some (.slice a b.length c):=by go_simp
 have p1:((W.alloc (.cells #[.slice a b.length c,.slice a' ps.length c'] 27)).alloc (.cells #[.slice none 0 0,.slice none 0 0] 27)).cell? ⟨W.heap.size,1,none⟩=some (.slice a' ps.length c'):=by go_simp
 have q0:((W.alloc (.cells #[.slice a b.length c,.slice a' ps.length c'] 27)).alloc (.cells #[.slice none 0 0,.slice none 0 0] 27)).cell? ⟨W.heap.size+1,0,none⟩=some (.slice none 0 0):=by go_simp
 have q1:((W.alloc (.cells #[.slice a b.length c,.slice a' ps.length c'] 27)).alloc (.cells #[.slice none 0 0,.slice none 0 0] 27)).cell? ⟨W.heap.size+1,1,none⟩=some (.slice none 0 0):=by go_simp
 have q2:∀j,((W.alloc (.cells #[.slice a b.length c,.slice a' ps.length c'] 27)).alloc (.cells #[.slice none 0 0,.slice none 0 0] 27)).frozen? ⟨W.heap.size+1,j,none⟩=false:=by intro j;go_simp
 clear hb0 hp0
 go_enter Tryz.func70,Tryz.ntmps70
 go_upto_region 1 with fail
 generalize (W.alloc (.cells #[.slice a b.length c,.slice a' ps.length c'] 27)).alloc (.cells #[.slice none 0 0,.slice none 0 0] 27)=w0 at *
 obtain ⟨B,hB⟩:∃B,B=W.heap.size:=⟨_,rfl⟩
 obtain ⟨B1,hB1⟩:∃B,B=W.heap.size+1:=⟨_,rfl⟩
 rw[←hB1] at q0 q1 q2 ⊢
 rw[←hB] at p0 p1 ⊢
 have hBW:W.heap.size≤B:=by omega
 have hBW1:W.heap.size≤B1:=by omega
 have hBB:¬B1=B:=by omega
 have hBB':¬B=B1:=by omega
 clear hB hB1
 go_upto_region 2 with (go_at_call 93;go_fit (zPC _ b _ ps v (ss.length:Int) _ hb1 hp1);rintro e w1 ⟨⟨vp,rfl,hip,hlp⟩,hbw⟩)
 have S1b:zAD base W w1:=⟨S0b.below.trans (hbw.mono (Nat.le_trans S0b.2 (Nat.le_refl _))),Nat.le_trans S0b.2 hbw.size⟩
 have S1:=S0.step hbw
 have d0:=zAA hbw p0
 have d1:=zAA hbw p1
 have hBl:=zAH p0
 have hB1l:=zAH q0
 have e0:=zAA hbw q0
 have e1:=zAA hbw q1
 have e2:∀j,w1.frozen? ⟨B1,j,none⟩=false:=fun j=>(hbw.frozen (p:=⟨B1,j,none⟩) hB1l).trans (q2 j)
 have hsz:=S0.2
 have hsz1:=hbw.size
 simp only at hBl hB1l
 by_cases h0:zGh b ps v (ss.length:Int)=0
 ·obtain ⟨hpl,hpr⟩:=zIX h0
  have HE:Hid (zF8 (b,ps) v ss=(zGR b v ss (zIQ b ps v ss.length) 0 ps).1):=Zh (by unfold zF8;rw[if_neg (by simpa using h0)])
  have HC:Hid (zGk (b,ps) v ss=if (zGR b v ss (zIQ b ps v ss.length) 0 ps).1≠0 then ([],[]) else (b,(zGR b v ss (zIQ b ps v ss.length) 0 ps).2)):=Zh (by unfold zGk;rw[HE.out])
  rw[h0]
  obtain ⟨ap,cp,rfl,hcp,⟨hpm,hpc,_⟩,_⟩:=hip.opened
  generalize zIQ b ps v ss.length=pk at *
  have HPR:=Zh hpr
  have HIP:=Zh hip
  have HLP:Hid (∀k,Value.lies (.slice ap pk.length cp) k→w0.heap.size≤k):=Zh hlp
  have T1:zAF (fun k=>(Value.slice a' ps.length c').ownBlock=some k) W w1:=zAF.old S1.below _
  have hown:∀k,(Value.slice a' ps.length c').ownBlock=some k→k<W.heap.size∧base≤k:=fun k hk=>⟨(HD.out.lt (Or.inl hk)).2,(HD.out.lt (Or.inl hk)).1⟩
  have HOWN:=Zh hown
  have HD1:=Zh (HD.out.stays S1.below)
  have HF:Hid (∀w',zAF (fun k=>(Value.slice a' ps.length c').ownBlock=some k) w1 w'→w'.cell? ⟨B,0,none⟩=some (.slice a b.length c)∧w'.cell? ⟨B,1,none⟩=some (.slice a' ps.length c')∧w'.cell? ⟨B1,0,none⟩=some (.slice none 0 0)∧w'.cell? ⟨B1,1,none⟩=some (.slice none 0 0)∧(∀j,w'.frozen? ⟨B1,j,none⟩=false)∧zAR w' (.slice a b.length c) b∧zAN w' (.slice aS ss.length cS) ss∧zAG w' (.slice ap pk.length cp) pk):=Zh (fun w' q=>by
   have n0:¬(Value.slice a' ps.length c').ownBlock=some B:=fun h=>by have:=(HOWN.out B h).1;omega
   have n1:¬(Value.slice a' ps.length c').ownBlock=some B1:=fun h=>by have:=(HOWN.out B1 h).1;omega
   have hD:=(T1.trans q).mono (D':=zBu (.slice a' ps.length c') zs) (fun k _ h=>Or.inl h)
   exact ⟨q.cell d0 n0,q.cell d1 n0,q.cell e0 n1,q.cell e1 n1,fun j=>(World.frozen?_of_block (q.2 B1 (by omega) n1)).trans (e2 j),HB.out w' (hD.mono fun k _ h=>Or.inl h),HS.out w' hD,HIP.out.framed (fun j hj _ h=>by have:=HLP.out j hj;have:=(HOWN.out j h).1;omega) q⟩)
  clear hip hlp hpr p0 p1 q0 q1 q2 e0 e1 e2 hb1 hp1 hbw T1
  go_wp2_with fail
  clear d0 d1
  go_loopw[29] (fun i wr=>∃k:Nat,∃zs',k≤pk.length∧i=.int .i64 k∧zAD base W wr∧zAF (fun k=>(Value.slice a' ps.length c').ownBlock=some k) w1 wr∧DP wr base (.slice a' ps.length c') zs'∧zs'.length=ps.length∧zGR b v ss (pk.drop k) k (zs'.map zDK)=zGR b v ss pk 0 ps∧(∀j,zBu (.slice a' ps.length c') zs' j→zBu (.slice a' ps.length c') zs j∨w1.heap.size≤j)) (fun i _=>pk.length - (intOf i).toNat)
  case atStart=>exact ⟨0,zs,by omega,rfl,S1b,zAF.refl _ _,HD1.out,hl0,by rw[HPS.out];rfl,fun j h=>Or.inl h⟩
  case round =>
   obtain ⟨k,zs',hk,rfl,hS,hDr,hdp,hzl,hq,hft⟩:=hrel
   have HQ:=Zh hq
   have HFT:=Zh hft
   clear hq hft
   obtain ⟨x0,x1,y0,y1,y2,hver,hsh,hpi⟩:=HF.out wr hDr
   by_cases hlt:k<pk.length
   ·have hx:pk[k]?=some pk[k]:=List.getElem?_eq_getElem hlt
    obtain ⟨bp,op,rfl,i0,_⟩:=zC0 hpi hx
    have hcr:=HPR.out _ (List.getElem_mem hlt)
    have HDR:=Zh (List.drop_eq_getElem_cons hlt)
    generalize pk[k]=cc at *
    obtain ⟨m,hm⟩:=Int.eq_ofNat_of_zero_le hcr.1
    subst hm
    have hml:m<zs'.length:=by omega
    have hzk:zs'[m]?=some zs'[m]:=List.getElem?_eq_getElem hml
    have hsk:ss[k]?=some ss[k]:=List.getElem?_eq_getElem (by omega)
    obtain ⟨gs,os,us,cs,rfl,s0,s1,hsi,hs1⟩:=zBZ hsh hsk
    have hgsg:=hsv gs ⟨_,_,_,rfl,rfl⟩
    obtain ⟨g,cap,aa,nn,ca,ev2,ev3,k0,k1,k2,hg1,fz⟩:=hdp.get hzk
    obtain ⟨hdk,hr,_⟩:=hdp.each _ (List.mem_of_getElem? hzk)
    generalize ss[k]=sh at *
    generalize zs'[m]=z at *
    obtain ⟨⟨t,r,uv⟩,ks⟩:=z
    simp only at k0 k1 k2 hdk hr ev3
    subst ev3
    simp only[Value.slice.injEq] at ev2
    obtain ⟨rfl,hq9,rfl⟩:=ev2
    clear hq9
    have hkk:=hdk.isKepts
    have hnk:nn=(ks.map (·.1)).length:=by obtain ⟨_,_,e,_⟩:=hkk.opened;simp only[Value.slice.injEq] at e;exact e.2.1
    have hzp:(zs'.map zDK)[m]?=some (t,r,ks.map (·.1)):=by rw[List.getElem?_map,hzk];rfl
    have hgW:=HOWN.out g rfl
    have HZ:=Zh hzk
    have HZP:=Zh hzp
    have HSK:=Zh hsk
    have HDP:=Zh hdp
    generalize hKK:ks.map (·.1)=K at *
    subst hnk
    have hE:=Zh (rfl:zBN b (t,r,K) (v,sh)=zBN b (t,r,K) (v,sh))
    have HOK:Hid (zBN b (t,r,K) (v,sh)=0→zGR b v ss (pk.drop (k+1)) (k+1) ((zs'.map zDK).set m (zC5 b (t,r,K) (v,sh)))=zGR b v ss pk 0 ps):=Zh (fun h=>by rw[←HQ.out,HDR.out];exact (zLR rfl HZP.out HSK.out h).symm)
    have HNO:Hid (zBN b (t,r,K) (v,sh)≠0→zGR b v ss pk 0 ps=(zBN b (t,r,K) (v,sh),[])):=Zh (fun h=>by rw[←HQ.out,HDR.out];exact zNz rfl HZP.out HSK.out h)
    have hBg:¬B=g:=by omega
    have hBg1:¬B1=g:=by omega
    have hmps:m<ps.length:=by omega
    have hgsg:gs≠g:=fun e=>hgsg (by rw[e];rfl)
    have hWr:w1.heap.size≤wr.heap.size:=hDr.1
    have HIP0:=Zh i0
    have s3:wr.drew.cell? ⟨B,0,none⟩=some (.slice a b.length c)∧wr.drew.cell? ⟨B,1,none⟩=some (.slice (some ⟨g,0,none⟩) ps.length c'):=⟨x0,x1⟩
    have hci:I64 (zC5 b (t,r,K) (v,sh)).2.1:=by
     unfold zC5
     split
     ·exact hr
     ·exact ⟨by decide,by decide⟩
    have hK0:=zL0 (.slice a b.length c) b (.slice aa K.length ca) (t,r,K) (.slice us sh.2.length cs) (v,sh) wr.drew (hver.drew zAz.stays) (hkk.drew zAf.stays) hr hsi.drew hv hs1
    generalize zC5 b (t,r,K) (v,sh)=C at *
    generalize zBN b (t,r,K) (v,sh)=E at *
    obtain ⟨ct,cr,ck⟩:=C
    have HK:Hid (Calls Tryz.prog 94 #[.agg #[.slice a b.length c],.agg #[.bool t,.int .i64 r,.slice aa K.length ca],.agg #[.int .i64 v,.int .i64 sh.1,.slice us sh.2.length cs]] wr.drew fun e w'=>(∃v',e=.returned (.tuple #[.agg #[.bool ct,.int .i64 cr,v'],.int .i64 E])∧zF7 w' wr.drew.heap.size v' ck)∧Below wr.drew.heap.size wr.drew w'):=Zh hK0
    clear hK0
    simp only at hci
    have j0:wr.drew.cell? ⟨g,m*3,none⟩=some (.bool t):=k0
    have j1:wr.drew.cell? ⟨g,m*3+1,none⟩=some (.int .i64 r):=k1
    have j2:wr.drew.cell? ⟨g,m*3+2,none⟩=some (.slice aa K.length ca):=k2
    have l0:wr.drew.cell? ⟨gs,os+k*2,none⟩=some (.int .i64 sh.1):=s0
    have l1:wr.drew.cell? ⟨gs,os+k*2+1,none⟩=some (.slice us sh.2.length cs):=s1
    have z0:∀j,wr.drew.frozen? ⟨g,j,none⟩=false:=fz
    clear hsh hpi hver hkk hsi hzk hzp hsk hdp
    go_upto_region 7 with fail
    clear x0 x1 y0 y1 y2 s0 s1 k0 k1 k2 fz i0
    have HZL:=Zh hzl
    clear hzl hl0 h0 hpl hcr
    have hHeld:wr.drew.cell? ⟨B,0,none⟩=some (.slice a b.length c)∧wr.drew.cell? ⟨B,1,none⟩=some (.slice (some ⟨g,0,none⟩) ps.length c')∧wr.drew.cell? ⟨gs,os+k*2,none⟩=some (.int .i64 sh.1)∧wr.drew.cell? ⟨gs,os+k*2+1,none⟩=some (.slice us sh.2.length cs):=⟨s3.1,s3.2,l0,l1⟩
    refine wp_region_held_drew (S:=fun w'=>w'.cell? ⟨B,0,none⟩=some (.slice a b.length c)∧w'.cell? ⟨B,1,none⟩=some (.slice (some ⟨g,0,none⟩) ps.length c')∧w'.cell? ⟨gs,os+k*2,none⟩=some (.int .i64 sh.1)∧w'.cell? ⟨gs,os+k*2+1,none⟩=some (.slice us sh.2.length cs)) (by kernel_rfl) hHeld (fun _=>?_)
    refine wpAnyH_take (i:=0) (v:=?v0) rfl (by kernel_rfl) (by kernel_rfl) (by kernel_rfl) (fun _ _ _ h=>h) (Or.inl ⟨by rfl,?hy0⟩) (by assumption) ?r0
    case hy0=>(intro w hSw;(try dsimp only at hSw);go_simp<;>with_reducible rfl)
    simp only[Act.put,List.setIfInBounds_toArray,List.set]
    refine wpAnyH_take (i:=1) (v:=?v1) rfl (by kernel_rfl) (by kernel_rfl) (by kernel_rfl) (fun _ _ _ h=>h) (Or.inl ⟨by rfl,?hy1⟩) (by assumption) ?r1
    case hy1=>(intro w hSw;(try dsimp only at hSw);go_simp<;>with_reducible rfl)
    simp only[Act.put,List.setIfInBounds_toArray,List.set]
    refine wpAnyH_take (i:=2) (v:=?v2) rfl (by kernel_rfl) (by kernel_rfl) (by kernel_rfl) (fun _ _ _ h=>h) (Or.inl ⟨by rfl,?hy2⟩) (by assumption) ?r2
    case hy2=>(intro w hSw;(try dsimp only at hSw);go_simp<;>with_reducible rfl)
    simp only[Act.put,List.setIfInBounds_toArray,List.set]
    refine wpAnyH_take (i:=3) (v:=?v3) rfl (by kernel_rfl) (by kernel_rfl) (by kernel_rfl) (fun _ _ _ h=>h) (Or.inl ⟨by rfl,?hy3⟩) (by assumption) ?r3
    case hy3=>(intro w hSw;(try dsimp only at hSw);go_simp<;>with_reducible rfl)
    simp only[Act.put,List.setIfInBounds_toArray,List.set]
    refine wpAnyH_take (i:=4) (v:=?v4) rfl (by kernel_rfl) (by kernel_rfl) (by kernel_rfl) (fun _ _ _ h=>h) (Or.inl ⟨by rfl,?hy4⟩) (by assumption) ?r4
    case hy4=>(intro w hSw;(try dsimp only at hSw);go_simp<;>with_reducible rfl)
    simp only[Act.put,List.setIfInBounds_toArray,List.set]
    refine wpAnyH_take (i:=5) (v:=?v5) rfl (by kernel_rfl) (by kernel_rfl) (by kernel_rfl) (fun _ _ _ h=>h) (Or.inl ⟨by rfl,?hy5⟩) (by assumption) ?r5
    case hy5=>(intro w hSw;(try dsimp only at hSw);go_simp<;>with_reducible rfl)
    simp only[Act.put,List.setIfInBounds_toArray,List.set]
    refine wpAnyH_take (i:=6) (v:=?v6) rfl (by kernel_rfl) (by kernel_rfl) (by kernel_rfl) (fun _ _ _ h=>h) (Or.inl ⟨by rfl,?hy6⟩) (by assumption) ?r6
    case hy6=>(intro w hSw;(try dsimp only at hSw);go_simp<;>with_reducible rfl)
    simp only[Act.put,List.setIfInBounds_toArray,List.set]
    refine wpAnyH_take (i:=7) (v:=?v7) rfl (by kernel_rfl) (by kernel_rfl) (by kernel_rfl) (fun _ _ _ h=>h) (Or.inl ⟨by rfl,?hy7⟩) (by assumption) ?r7
    case hy7=>(intro w hSw;(try dsimp only at hSw);go_simp<;>with_reducible rfl)
    simp only[Act.put,List.setIfInBounds_toArray,List.set]
    refine wpAnyH_take (i:=8) (v:=?v8) rfl (by kernel_rfl) (by kernel_rfl) (by kernel_rfl) (fun _ _ _ h=>h) (Or.inl ⟨by rfl,?hy8⟩) (by assumption) ?r8
    case hy8=>(intro w hSw;(try dsimp only at hSw);go_simp<;>with_reducible rfl)
    simp only[Act.put,List.setIfInBounds_toArray,List.set]
    refine wpAnyH_take (i:=10) (v:=?v10) rfl (by kernel_rfl) (by kernel_rfl) (by kernel_rfl) (fun _ _ _ h=>h) (Or.inl ⟨by rfl,?hy10⟩) (by assumption) ?r10
    case hy10=>(intro w hSw;(try dsimp only at hSw);go_simp<;>with_reducible rfl)
    simp only[Act.put,List.setIfInBounds_toArray,List.set]
    refine wpAnyH_take (i:=11) (v:=?v11) rfl (by kernel_rfl) (by kernel_rfl) (by kernel_rfl) (fun _ _ _ h=>h) (Or.inl ⟨by rfl,?hy11⟩) (by assumption) ?r11
    case hy11=>(intro w hSw;(try dsimp only at hSw);go_simp<;>with_reducible rfl)
    simp only[Act.put,List.setIfInBounds_toArray,List.set]
    refine wpAnyH_take (i:=12) (v:=?v12) rfl (by kernel_rfl) (by kernel_rfl) (by kernel_rfl) (fun _ _ _ h=>h) (Or.inl ⟨by rfl,?hy12⟩) (by assumption) ?r12
    case hy12=>(intro w hSw;(try dsimp only at hSw);go_simp<;>with_reducible rfl)
    simp only[Act.put,List.setIfInBounds_toArray,List.set]
    refine wpAnyH_take (i:=13) (v:=?v13) rfl (by kernel_rfl) (by kernel_rfl) (by kernel_rfl) (fun _ _ _ h=>h) (Or.inl ⟨by rfl,?hy13⟩) (by assumption) ?r13
    case hy13=>(intro w hSw;(try dsimp only at hSw);go_simp<;>with_reducible rfl)
    simp only[Act.put,List.setIfInBounds_toArray,List.set]
    refine wpAnyH_take (i:=14) (v:=?v14) rfl (by kernel_rfl) (by kernel_rfl) (by kernel_rfl) (fun _ _ _ h=>h) (Or.inl ⟨by rfl,?hy14⟩) (by assumption) ?r14
    case hy14=>(intro w hSw;(try dsimp only at hSw);go_simp<;>with_reducible rfl)
    simp only[Act.put,List.setIfInBounds_toArray,List.set]
    refine wpAnyH_take (i:=15) (v:=?v15) rfl (by kernel_rfl) (by kernel_rfl) (by kernel_rfl) (fun _ _ _ h=>h) (Or.inl ⟨by rfl,?hy15⟩) (by assumption) ?r15
    case hy15=>(intro w hSw;(try dsimp only at hSw);go_simp<;>with_reducible rfl)
    simp only[Act.put,List.setIfInBounds_toArray,List.set]
    refine wpAnyH_ready (rs:=[9]) (by kernel_rfl) (by simp) ?_
    refine AllReadyH.cons (o:=?o9) ?ho9 (fun K hK=>?k9) AllReadyH.nil
    case ho9=>(simp only[List.getElem?_toArray,List.getElem?_cons_succ,List.getElem?_cons_zero];rfl)
    go_simp
    refine hK.out _ _ hHeld (fun _=>?_)
    clear hK K
    refine wpAnyH_ready (rs:=[16]) (by kernel_rfl) (by simp) ?_
    refine AllReadyH.cons (o:=?o16) ?ho16 (fun K hK=>?k16) AllReadyH.nil
    case ho16=>(simp only[List.getElem?_toArray,List.getElem?_cons_succ,List.getElem?_cons_zero];rfl)
    go_simp
    go_at_call 94
    refine HK.out.mono ?_
    rintro e w5 ⟨⟨v5,rfl,hv5⟩,hb5⟩
    obtain ⟨a5,c5,rfl,_⟩:=hv5.isKepts.opened
    have t0:=zAA hb5 j0
    have t1:=zAA hb5 j1
    have t2:=zAA hb5 j2
    have x0:=zAE hb5 j0 (z0 _)
    have x1:=zAE hb5 j1 (z0 _)
    have x2:=zAE hb5 j2 (z0 _)
    have hHeld5:w5.cell? ⟨B,0,none⟩=some (.slice a b.length c)∧w5.cell? ⟨B,1,none⟩=some (.slice (some ⟨g,0,none⟩) ps.length c')∧w5.cell? ⟨gs,os+k*2,none⟩=some (.int .i64 sh.1)∧w5.cell? ⟨gs,os+k*2+1,none⟩=some (.slice us sh.2.length cs):=⟨zAA hb5 s3.1,zAA hb5 s3.2,zAA hb5 l0,zAA hb5 l1⟩
    try go_wp2_with fail
    refine hK.out _ _ hHeld5 (fun _=>?_)
    clear hK K
    refine wpAnyH_take (i:=17) (v:=?v17) rfl (by kernel_rfl) (by kernel_rfl) (by kernel_rfl) (fun _ _ _ h=>h) (Or.inl ⟨by rfl,?hy17⟩) (by exact hHeld5) ?r17
    case hy17=>(intro w hSw;(try dsimp only at hSw);go_simp<;>with_reducible rfl)
    simp only[Act.put,List.setIfInBounds_toArray,List.set]
    refine wpAnyH_take (i:=18) (v:=?v18) rfl (by kernel_rfl) (by kernel_rfl) (by kernel_rfl) (fun _ _ _ h=>h) (Or.inl ⟨by rfl,?hy18⟩) (by exact hHeld5) ?r18
    case hy18=>(intro w hSw;(try dsimp only at hSw);go_simp<;>with_reducible rfl)
    simp only[Act.put,List.setIfInBounds_toArray,List.set]
    refine wpAnyH_take (i:=19) (v:=?v19) rfl (by kernel_rfl) (by kernel_rfl) (by kernel_rfl) (fun _ _ _ h=>h) (Or.inl ⟨by rfl,?hy19⟩) (by exact hHeld5) ?r19
    case hy19=>(intro w hSw;(try dsimp only at hSw);go_simp<;>with_reducible rfl)
    simp only[Act.put,List.setIfInBounds_toArray,List.set]
    refine wpAnyH_take (i:=20) (v:=?v20) rfl (by kernel_rfl) (by kernel_rfl) (by kernel_rfl) (fun _ _ _ h=>h) (Or.inl ⟨by rfl,?hy20⟩) (by exact hHeld5) ?r20
    case hy20=>(intro w hSw;(try dsimp only at hSw);go_simp<;>with_reducible rfl)
    simp only[Act.put,List.setIfInBounds_toArray,List.set]
    refine wpAnyH_ready (rs:=[21]) (by kernel_rfl) (by simp) ?_
    refine AllReadyH.cons (o:=?o21) ?ho21 (fun K hK=>?k21) AllReadyH.nil
    case ho21=>(simp only[List.getElem?_toArray,List.getElem?_cons_succ,List.getElem?_cons_zero];rfl)
    go_simp
    have hHeld6:(((w5.setCell ⟨g,m*3,none⟩ (.bool ct)).setCell ⟨g,m*3+1,none⟩ (.int .i64 cr)).setCell ⟨g,m*3+1+1,none⟩ (.slice a5 ck.length c5)).cell? ⟨B,0,none⟩=some (.slice a b.length c)∧(((w5.setCell ⟨g,m*3,none⟩ (.bool ct)).setCell ⟨g,m*3+1,none⟩ (.int .i64 cr)).setCell ⟨g,m*3+1+1,none⟩ (.slice a5 ck.length c5)).cell? ⟨B,1,none⟩=some (.slice (some ⟨g,0,none⟩) ps.length c')∧(((w5.setCell ⟨g,m*3,none⟩ (.bool ct)).setCell ⟨g,m*3+1,none⟩ (.int .i64 cr)).setCell ⟨g,m*3+1+1,none⟩ (.slice a5 ck.length c5)).cell? ⟨gs,os+k*2,none⟩=some (.int .i64 sh.1)∧(((w5.setCell ⟨g,m*3,none⟩ (.bool ct)).setCell ⟨g,m*3+1,none⟩ (.int .i64 cr)).setCell ⟨g,m*3+1+1,none⟩ (.slice a5 ck.length c5)).cell? ⟨gs,os+k*2+1,none⟩=some (.slice us sh.2.length cs):=⟨(zBf _ _ _ _ _ _ hBg).trans hHeld5.1,(zBf _ _ _ _ _ _ hBg).trans hHeld5.2.1,(zBf _ _ _ _ _ _ hgsg).trans hHeld5.2.2.1,(zBf _ _ _ _ _ _ hgsg).trans hHeld5.2.2.2⟩
    refine hK.out _ _ hHeld6 (fun _=>?_)
    clear hK K
    refine wpAnyH_take (i:=22) (v:=?v22) rfl (by kernel_rfl) (by kernel_rfl) (by kernel_rfl) (fun _ _ _ h=>h) (Or.inl ⟨by rfl,?hy22⟩) (by exact hHeld6) ?r22
    case hy22=>(intro w hSw;(try dsimp only at hSw);go_simp<;>with_reducible rfl)
    simp only[Act.put,List.setIfInBounds_toArray,List.set]
    refine wpAnyH_done (by kernel_rfl) ?_ _
    go_simp
    obtain ⟨ks5,hm5,hd5⟩:=hv5
    have hb5r:Below wr.heap.size wr w5:=((zAD.refl wr).drew.step hb5).below
    have hwr5:wr.heap.size≤w5.heap.size:=hb5.size
    have hDs:zAF (fun k=>(Value.slice (some ⟨g,0,none⟩) ps.length c').ownBlock=some k) w5 (((w5.setCell ⟨g,m*3,none⟩ (.bool ct)).setCell ⟨g,m*3+1,none⟩ (.int .i64 cr)).setCell ⟨g,m*3+1+1,none⟩ (.slice a5 ck.length c5)):=(zAF.of_grown (zAQ g [.bool ct,.int .i64 cr,.slice a5 ck.length c5] (m*3) w5)).mono (fun j _ hj=>by cases hj;rfl)
    have hD6:=hDr.trans ((zAF.old hb5r _).trans hDs)
    have S6:=((((hS.step hb5r)).setCell (a:=⟨g,m*3,none⟩) hg1 (.bool ct)).setCell (a:=⟨g,m*3+1,none⟩) hg1 (.int .i64 cr)).setCell (a:=⟨g,m*3+1+1,none⟩) hg1 (.slice a5 ck.length c5)
    have hfz:∀j,zDu ((ct,cr,.slice a5 ck.length c5),ks5) j→wr.heap.size≤j:=fun j hj=>(hd5.lt hj).1
    have hdp6:DP (((w5.setCell ⟨g,m*3,none⟩ (.bool ct)).setCell ⟨g,m*3+1,none⟩ (.int .i64 cr)).setCell ⟨g,m*3+1+1,none⟩ (.slice a5 ck.length c5)) base (.slice (some ⟨g,0,none⟩) ps.length c') (zs'.set m ((ct,cr,.slice a5 ck.length c5),ks5)):=
     (HDP.out.stays hb5r).put (z':=((ct,cr,.slice a5 ck.length c5),ks5)) rfl hml (hd5.mono hS.2) hci ⟨_,_,_,rfl⟩ (fun j hj e=>by have:=hfz j hj;omega) (fun j z hj hz q hq hq'=>by
      have h1:=hfz q hq
      have h2:=(HDP.out.lt (Or.inr ⟨z,List.mem_of_getElem? hz,hq'⟩)).2
      omega)
    have hzl6:(zs'.set m ((ct,cr,.slice a5 ck.length c5),ks5)).length=ps.length:=by rw[List.length_set];exact HZL.out
    have hmap6:(zs'.set m ((ct,cr,.slice a5 ck.length c5),ks5)).map zDK=(zs'.map zDK).set m (ct,cr,ck):=by rw[List.map_set];unfold zDK;simp only;rw[hm5]
    have hft6:∀j,zBu (.slice (some ⟨g,0,none⟩) ps.length c') (zs'.set m ((ct,cr,.slice a5 ck.length c5),ks5)) j→zBu (.slice (some ⟨g,0,none⟩) ps.length c') zs j∨w1.heap.size≤j:=by
     intro j hj
     rcases hj with hj|⟨z,hz,hj⟩
     ·exact Or.inl (Or.inl hj)
     ·rcases List.mem_or_eq_of_mem_set hz with hz|rfl
      ·exact HFT.out j (Or.inr ⟨z,hz,hj⟩)
      ·exact Or.inr (Nat.le_trans hWr (hfz j hj))
    have HPK:=Zh hdp6
    have HF6:=Zh hft6
    have HM6:=Zh hmap6
    have HZ6:=Zh hzl6
    obtain ⟨b0,b1,c0,c1,c2,_,_,_⟩:=HF.out _ hD6
    clear hHeld hHeld5 hHeld6 t0 t1 t2 x0 x1 x2 j0 j1 j2 l0 l1 z0 s3 hdp6 hft6 hmap6 hzl6 hd5 hm5 hfz hb5 hb5r hDs hDr hS
    generalize ((w5.setCell ⟨g,m*3,none⟩ (.bool ct)).setCell ⟨g,m*3+1,none⟩ (.int .i64 cr)).setCell ⟨g,m*3+1+1,none⟩ (.slice a5 ck.length c5)=w6 at *
    by_cases hE0:E=0
    ·have HOK':=Zh (HOK.out hE0)
     subst hE0
     go_wp2_with fail
     clear b0 b1 c0 c1 c2
     go_roundw
     case rel=>exact ⟨k+1,_,by omega,by go_num,S6,hD6,HPK.out,HZ6.out,by rw[HM6.out];exact HOK'.out,HF6.out⟩
     case measure=>simp[intOf];omega
    ·have HNO':=Zh (HNO.out hE0)
     have HE':Hid (zF8 (b,ps) v ss=E):=Zh (by rw[HE.out,HNO'.out])
     have HC':Hid (zGk (b,ps) v ss=([],[])):=Zh (by rw[HC.out,HNO'.out];simp[hE0])
     have f0:=c2 0
     have f1:=c2 1
     have v0:((w6.setCell ⟨B1,0,none⟩ (.slice none 0 0)).setCell ⟨B1,1,none⟩ (.slice none 0 0)).cell? ⟨B1,0,none⟩=some (.slice none 0 0):=by go_simp
     have v1:((w6.setCell ⟨B1,0,none⟩ (.slice none 0 0)).setCell ⟨B1,1,none⟩ (.slice none 0 0)).cell? ⟨B1,1,none⟩=some (.slice none 0 0):=by go_simp
     have S7:=(S6.setCell (a:=⟨B1,0,none⟩) (Nat.le_trans hbase hBW1) (.slice none 0 0)).setCell (a:=⟨B1,1,none⟩) (Nat.le_trans hbase hBW1) (.slice none 0 0)
     have hD7:=((zAF.old S1.below (fun k=>(Value.slice (some ⟨g,0,none⟩) ps.length c').ownBlock=some k)).trans hD6).next (zAF.of_grown ((zAC w6 ⟨B1,0,none⟩ (.slice none 0 0)).trans (zAC _ ⟨B1,1,none⟩ (.slice none 0 0)))) (fun k hk=>by cases hk;exact Or.inr hBW1)
     clear b0 b1 c2
     go_wp2_with fail
     exact bodyPost_ret (v:=.tuple #[.agg #[.slice none 0 0,.slice none 0 0],.int .i64 E]) (by simp[results,Tryz.results70,go_sem,v0,v1]) rfl ⟨⟨_,_,zBM HE'.out.symm,by rw[HC'.out];exact zCl.nil _ _ _⟩,S7,hD7⟩
   ·obtain rfl:pk.length=k:=by omega
    have hq:=HQ.out
    rw[List.drop_length] at hq
    have HE':Hid (zF8 (b,ps) v ss=0):=Zh (by rw[HE.out,←hq];rfl)
    have HC':Hid (zGk (b,ps) v ss=(b,zs'.map zDK)):=Zh (by rw[HC.out,←hq];rfl)
    have hg7:=(zAC wr ⟨B1,0,none⟩ (.slice a b.length c)).trans (zAC _ ⟨B1,1,none⟩ (.slice a' ps.length c'))
    have v0:((wr.setCell ⟨B1,0,none⟩ (.slice a b.length c)).setCell ⟨B1,1,none⟩ (.slice a' ps.length c')).cell? ⟨B1,0,none⟩=some (.slice a b.length c):=by go_simp
    have v1:((wr.setCell ⟨B1,0,none⟩ (.slice a b.length c)).setCell ⟨B1,1,none⟩ (.slice a' ps.length c')).cell? ⟨B1,1,none⟩=some (.slice a' ps.length c'):=by go_simp
    have S7:=(hS.setCell (a:=⟨B1,0,none⟩) (Nat.le_trans hbase hBW1) (.slice a b.length c)).setCell (a:=⟨B1,1,none⟩) (Nat.le_trans hbase hBW1) (.slice a' ps.length c')
    have hD7:=((zAF.old S1.below (fun k=>(Value.slice a' ps.length c').ownBlock=some k)).trans hDr).next (zAF.of_grown hg7) (fun k hk=>by cases hk;exact Or.inr hBW1)
    have hdp7:=hdp.frame (zAF.of_grown hg7) (fun j hj e=>by
     obtain rfl:B1=j:=Option.some.inj e
     rcases HFT.out _ hj with h|h
     ·have:=(HD.out.lt h).2;omega
     ·omega)
    have HO7:Hid (zCl X ((wr.setCell ⟨B1,0,none⟩ (.slice a b.length c)).setCell ⟨B1,1,none⟩ (.slice a' ps.length c')) base (.slice a b.length c) (.slice a' ps.length c') (b,zs'.map zDK)):=Zh ⟨zs',rfl,hdp7,fun w' hw'=>HB.out w' ((hD7.mono (fun k _ h=>Or.inl (Or.inl h))).next hw' (fun k hk=>hk.elim (fun hk=>(HFT.out k hk).imp Or.inl (fun h=>Nat.le_trans (Nat.le_trans hsz hsz1) h)) (fun hk=>Or.inl (Or.inr hk))))⟩
    have f0:=y2 0
    have f1:=y2 1
    clear hq hdp7 hg7 hdp hver hsh hpi y2 hS hDr
    go_wp2_with fail
    exact bodyPost_ret (v:=.tuple #[.agg #[.slice a b.length c,.slice a' ps.length c'],.int .i64 0]) (by simp[results,Tryz.results70,go_sem,v0,v1]) rfl ⟨⟨_,_,zBM HE'.out.symm,by rw[HC'.out];exact HO7.out⟩,S7,hD7⟩
 ·have HE':Hid (zF8 (b,ps) v ss=zGh b ps v ss.length):=Zh (by unfold zF8;rw[if_pos h0])
  have HC':Hid (zGk (b,ps) v ss=([],[])):=Zh (by unfold zGk;rw[HE'.out,if_pos h0])
  generalize zGh b ps v ss.length=E at *
  have f0:=e2 0
  have f1:=e2 1
  have v0:((w1.setCell ⟨B1,0,none⟩ (.slice none 0 0)).setCell ⟨B1,1,none⟩ (.slice none 0 0)).cell? ⟨B1,0,none⟩=some (.slice none 0 0):=by go_simp
  have v1:((w1.setCell ⟨B1,0,none⟩ (.slice none 0 0)).setCell ⟨B1,1,none⟩ (.slice none 0 0)).cell? ⟨B1,1,none⟩=some (.slice none 0 0):=by go_simp
  have S7:=(S1b.setCell (a:=⟨B1,0,none⟩) (Nat.le_trans hbase hBW1) (.slice none 0 0)).setCell (a:=⟨B1,1,none⟩) (Nat.le_trans hbase hBW1) (.slice none 0 0)
  have hD7:=((zAF.old S1.below (fun k=>(Value.slice a' ps.length c').ownBlock=some k))).next (zAF.of_grown ((zAC w1 ⟨B1,0,none⟩ (.slice none 0 0)).trans (zAC _ ⟨B1,1,none⟩ (.slice none 0 0)))) (fun k hk=>by cases hk;exact Or.inr hBW1)
  clear d0 d1 e2 p0 p1 q0 q1 q2 hip hlp hbw
  go_wp2_with fail
  exact bodyPost_ret (v:=.tuple #[.agg #[.slice none 0 0,.slice none 0 0],.int .i64 E]) (by simp[results,Tryz.results70,go_sem,v0,v1]) rfl ⟨⟨_,_,zBM HE'.out.symm,by rw[HC'.out];exact zCl.nil _ _ _⟩,S7,hD7⟩
end Go.Proofs.YthgmphbkkojaoaaGreat
