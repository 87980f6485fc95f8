/-
  world.forget, walked: at a mesh of one's own, every peer of which is right.
-/
import Derived.Test.YthgmphbkkojaoaaGreatQDoMaths
import Derived.Test.YthgmphbkkojaoaaGreatQDropsD
set_option linter.unusedSimpArgs false
set_option maxHeartbeats 4000000
namespace Go.Proofs.YthgmphbkkojaoaaGreat
set_option linter.unusedSectionVars false
variable [Zn]
open Go.RowKit
def zDf(m:Me)(n:Int):Me:=if zBv m n=0 then (m.1,m.2.map (zBs n)) else ([],[])
theorem zOq{α:Type}{f:α→α}{l:List α}{k:Nat}{p:α}(h:l[k]?=some p):((l.take k).map f++l.drop k).set k (f p)=(l.take (k+1)).map f++l.drop (k+1):=by
 have hk:=(List.getElem?_eq_some_iff.1 h).1
 have ht:((l.take k).map f).length=k:=by rw[List.length_map,List.length_take];omega
 rw[List.set_append_right _ _ (by omega),ht,Nat.sub_self,List.drop_eq_getElem_cons hk,List.set_cons_zero,zAv h,List.map_append,List.append_assoc]
 rfl
theorem zMn{α:Type}{f:α→α}{l:List α}{k:Nat}{p:α}(h:l[k]?=some p)(hf:f p=p):(l.take k).map f++l.drop k=(l.take (k+1)).map f++l.drop (k+1):=by
 have hk:=(List.getElem?_eq_some_iff.1 h).1
 have h2:=(List.getElem?_eq_some_iff.1 h).2
 rw[zAv h,List.map_append,List.append_assoc,List.drop_eq_getElem_cons hk,h2,List.map_cons,hf]
 rfl
theorem zVg{α:Type}{f:α→α}{l:List α}{k:Nat}{p:α}(h:l[k]?=some p):((l.take k).map f++l.drop k)[k]?=some p:=by
 have hk:=(List.getElem?_eq_some_iff.1 h).1
 have ht:((l.take k).map f).length=k:=by rw[List.length_map,List.length_take];omega
 rw[List.getElem?_append_right (by omega),ht,Nat.sub_self,List.getElem?_drop]
 exact h
set_option maxRecDepth 100000 in
theorem zPn(X:Nat→Prop)(base:Nat)(v1 v2:Value)(b:List Ver)(ps:List Pr)(n:Int)(W:World)(h:zCl X W base v1 v2 (b,ps))(hbase:base≤W.heap.size)(hok:∀p∈ps,zBk b p)(hbk:zAt b=0) :
  Calls Tryz.prog 45 #[.agg #[v1,v2],.int .i64 n] W fun e w'=>(∃u1 u2,e=.returned (.tuple #[.agg #[u1,u2],.int .i64 (zBv (b,ps) n)])∧zCl X w' base u1 u2 (zDf (b,ps) n))∧zAD base W w':=by
 obtain ⟨zs,hps,hd,hb⟩:=h
 have HB:Hid (∀w',zAF (fun k=>zBu v2 zs k∨X k) W w'→zAR w' v1 b):=Zh hb
 have HD:=Zh hd
 have hb0:zAR W v1 b:=hb W (zAF.refl _ _)
 have hp0:=hd.isPeers
 obtain ⟨a,c,rfl,hcb,⟨hbm,hbc,_⟩,_⟩:=hb0.opened
 obtain ⟨a',c',ev2,hcu,⟨hum,huc,_⟩,_⟩:=hp0.opened
 subst ev2
 simp only at hps
 subst hps
 clear hb hd
 generalize hps:zs.map zDK=ps at *
 have HPS:=Zh hps
 have hl0:zs.length=ps.length:=by rw[←hps,List.length_map]
 have HOK:=Zh hok
 have HBK:=Zh hbk
 clear hps hok hbk
 have S0:=((zAD.refl W).alloc (.cells #[.slice a b.length c,.slice a' ps.length c'] 27)).alloc (.cells #[.slice none 0 0,.slice none 0 0] 27)
 have hb1:=hb0.stays zAz.stays S0.below
 have S0b:zAD base W ((W.alloc (.cells #[.slice a b.length c,.slice a' ps.length c'] 27)).alloc (.cells #[.slice none 0 0,.slice none 0 0] 27)):=⟨S0.below.mono hbase,Nat.le_trans hbase S0.2⟩
 have p0:((W.alloc (.cells #[.slice a b.length c,.slice a' ps.length c'] 27)).alloc (.cells #[.slice none 0 0,.slice none 0 0] 27)).cell? ⟨W.heap.size,0,none⟩=some (.slice a b.length c):=by go_simp
 have p1:((W.alloc (.cells #[.slice a b.length c,.slice a' ps.length c'] 27)).alloc (.cells #[.slice none 0 0,.slice none 0 0] 27)).cell? ⟨W.heap.size,1,none⟩=some (.slice a' ps.length c'):=by go_simp
 have q0:((W.alloc (.cells #[.slice a b.length c,.slice a' ps.length c'] 27)).alloc (.cells #[.slice none 0 0,.slice none 0 0] 27)).cell? ⟨W.heap.size+1,0,none⟩=some (.slice none 0 0):=by go_simp
 have q1:((W.alloc (.cells #[.slice a b.length c,.slice a' ps.length c'] 27)).alloc (.cells #[.slice none 0 0,.slice none 0 0] 27)).cell? ⟨W.heap.size+1,1,none⟩=some (.slice none 0 0):=by go_simp
 have q2:∀j,((W.alloc (.cells #[.slice a b.length c,.slice a' ps.length c'] 27)).alloc (.cells #[.slice none 0 0,.slice none 0 0] 27)).frozen? ⟨W.heap.size+1,j,none⟩=false:=by intro j;go_simp
 clear hb0 hp0
 go_enter Tryz.func45,Tryz.ntmps45
 go_upto_region 1 with fail
 generalize (W.alloc (.cells #[.slice a b.length c,.slice a' ps.length c'] 27)).alloc (.cells #[.slice none 0 0,.slice none 0 0] 27)=w0 at *
 obtain ⟨B,hB⟩:∃B,B=W.heap.size:=⟨_,rfl⟩
 obtain ⟨B1,hB1⟩:∃B,B=W.heap.size+1:=⟨_,rfl⟩
 rw[←hB1] at q0 q1 q2 ⊢
 rw[←hB] at p0 p1 ⊢
 have hBW:W.heap.size≤B:=by omega
 have hBW1:W.heap.size≤B1:=by omega
 have hBB:¬B1=B:=by omega
 have hBB':¬B=B1:=by omega
 clear hB hB1
 have E0:=q2 0
 have E1:=q2 1
 have v0:((w0.setCell ⟨B1,0,none⟩ (.slice none 0 0)).setCell ⟨B1,1,none⟩ (.slice none 0 0)).cell? ⟨B1,0,none⟩=some (.slice none 0 0):=by go_simp
 have v1:((w0.setCell ⟨B1,0,none⟩ (.slice none 0 0)).setCell ⟨B1,1,none⟩ (.slice none 0 0)).cell? ⟨B1,1,none⟩=some (.slice none 0 0):=by go_simp
 have S7:=(S0b.setCell (a:=⟨B1,0,none⟩) (Nat.le_trans hbase hBW1) (.slice none 0 0)).setCell (a:=⟨B1,1,none⟩) (Nat.le_trans hbase hBW1) (.slice none 0 0)
 by_cases hn0:n<0
 ·have HE:Hid (zBv (b,ps) n=4):=Zh (by unfold zBv;rw[if_pos (Or.inl hn0)])
  have HC:Hid (zDf (b,ps) n=([],[])):=Zh (by unfold zDf;rw[HE.out,if_neg (by decide)])
  clear q2
  go_wp2_with fail
  exact bodyPost_ret (v:=.tuple #[.agg #[.slice none 0 0,.slice none 0 0],.int .i64 4]) (by simp[results,Tryz.results45,go_sem,v0,v1]) rfl ⟨⟨_,_,zBM HE.out.symm,by rw[HC.out];exact zCl.nil _ _ _⟩,S7⟩
 by_cases hnl:(b.length:Int)≤n
 ·have HE:Hid (zBv (b,ps) n=4):=Zh (by unfold zBv;rw[if_pos (Or.inr hnl)])
  have HC:Hid (zDf (b,ps) n=([],[])):=Zh (by unfold zDf;rw[HE.out,if_neg (by decide)])
  clear q2
  go_wp2_with fail
  exact bodyPost_ret (v:=.tuple #[.agg #[.slice none 0 0,.slice none 0 0],.int .i64 4]) (by simp[results,Tryz.results45,go_sem,v0,v1]) rfl ⟨⟨_,_,zBM HE.out.symm,by rw[HC.out];exact zCl.nil _ _ _⟩,S7⟩
 clear v0 v1 S7 E0 E1
 go_upto_region 4 with (go_at_call 74;go_fit (zSA _ b _ hb1);rintro e w1 ⟨⟨vh,rfl,hoh⟩,hbw⟩;rw[HBK.out];rw[zMj HBK.out] at hoh;obtain ⟨ah,ch,rfl,_⟩:=hoh.isInts.opened)
 have S1b:zAD base W w1:=⟨S0b.below.trans (hbw.mono (Nat.le_trans S0b.2 (Nat.le_refl _))),Nat.le_trans S0b.2 hbw.size⟩
 have S1:=S0.step hbw
 have d0:=zAA hbw p0
 have d1:=zAA hbw p1
 have hBl:=zAH p0
 have hB1l:=zAH q0
 have e0:=zAA hbw q0
 have e1:=zAA hbw q1
 have e2:∀j,w1.frozen? ⟨B1,j,none⟩=false:=fun j=>(hbw.frozen (p:=⟨B1,j,none⟩) hB1l).trans (q2 j)
 have hsz:=S0.2
 have hsz1:=hbw.size
 have hoi:=hoh.isInts
 simp only at hBl hB1l
 clear p0 p1 q0 q1 q2 hb1 hbw hoh
 by_cases hm:n∈zCi b
 ·have HE:Hid (zBv (b,ps) n=0):=Zh (by unfold zBv;rw[if_neg (by simp only;omega),if_pos hm])
  have HC:Hid (zDf (b,ps) n=(b,ps.map (zBs n))):=Zh (by unfold zDf;rw[HE.out,if_pos rfl])
  have hmt:zEa n (zCi b)=true:=by simpa[zEa] using hm
  go_upto_region 6 with (go_at_call 33;refine (zBc _ (zCi b) n _ hoi).mono ?_;rintro e w ⟨rfl,rfl⟩;rw[hmt])
  have T1:zAF (fun k=>(Value.slice a' ps.length c').ownBlock=some k) W w1:=zAF.old S1.below _
  have hown:∀k,(Value.slice a' ps.length c').ownBlock=some k→k<W.heap.size∧base≤k:=fun k hk=>⟨(HD.out.lt (Or.inl hk)).2,(HD.out.lt (Or.inl hk)).1⟩
  have HOWN:=Zh hown
  have HD1:=Zh (HD.out.stays S1.below)
  have HF:Hid (∀w',zAF (fun k=>(Value.slice a' ps.length c').ownBlock=some k) w1 w'→w'.cell? ⟨B,0,none⟩=some (.slice a b.length c)∧w'.cell? ⟨B,1,none⟩=some (.slice a' ps.length c')∧w'.cell? ⟨B1,0,none⟩=some (.slice none 0 0)∧w'.cell? ⟨B1,1,none⟩=some (.slice none 0 0)∧(∀j,w'.frozen? ⟨B1,j,none⟩=false)∧zAR w' (.slice a b.length c) b):=Zh (fun w' q=>by
   have n0:¬(Value.slice a' ps.length c').ownBlock=some B:=fun h=>by have:=(HOWN.out B h).1;omega
   have n1:¬(Value.slice a' ps.length c').ownBlock=some B1:=fun h=>by have:=(HOWN.out B1 h).1;omega
   have hD:=(T1.trans q).mono (D':=zBu (.slice a' ps.length c') zs) (fun k _ h=>Or.inl h)
   exact ⟨q.cell d0 n0,q.cell d1 n0,q.cell e0 n1,q.cell e1 n1,fun j=>(World.frozen?_of_block (q.2 B1 (by omega) n1)).trans (e2 j),HB.out w' (hD.mono fun k _ h=>Or.inl h)⟩)
  clear hoi e0 e1 e2 T1 hown hm hmt
  go_wp2_with fail
  clear d0 d1
  go_loopw[39] (fun i wr=>∃k:Nat,∃zs',k≤ps.length∧i=.int .i64 k∧zAD base W wr∧zAF (fun k=>(Value.slice a' ps.length c').ownBlock=some k) w1 wr∧DP wr base (.slice a' ps.length c') zs'∧zs'.map zDK=(ps.take k).map (zBs n)++ps.drop k∧(∀j,zBu (.slice a' ps.length c') zs' j→zBu (.slice a' ps.length c') zs j∨w1.heap.size≤j)) (fun i _=>ps.length - (intOf i).toNat)
  case atStart=>exact ⟨0,zs,by omega,rfl,S1b,zAF.refl _ _,HD1.out,by rw[HPS.out];rfl,fun j h=>Or.inl h⟩
  case round =>
   obtain ⟨k,zs',hk,rfl,hS,hDr,hdp,hq,hft⟩:=hrel
   have hzl:zs'.length=ps.length:=by
    have:=congrArg List.length hq
    simp only[List.length_map,List.length_append,List.length_take,List.length_drop] at this
    omega
   have HQ:=Zh hq
   have HFT:=Zh hft
   clear hq hft
   obtain ⟨x0,x1,y0,y1,y2,hver⟩:=HF.out wr hDr
   by_cases hlt:k<ps.length
   ·have hml:k<zs'.length:=by omega
    have hzk:zs'[k]?=some zs'[k]:=List.getElem?_eq_getElem hml
    have hpk:ps[k]?=some ps[k]:=List.getElem?_eq_getElem hlt
    have hpo:=HOK.out _ (List.getElem_mem hlt)
    have hzq:zDK zs'[k]=ps[k]:=by
     have h1:=zVg (f:=zBs n) hpk
     rw[←HQ.out,List.getElem?_map,hzk] at h1
     exact Option.some.inj h1
    obtain ⟨g,cap,aa,nn,ca,ev2,ev3,k0,k1,k2,hg1,fz⟩:=hdp.get hzk
    obtain ⟨hdk,hr,_⟩:=hdp.each _ (List.mem_of_getElem? hzk)
    generalize zs'[k]=z at *
    obtain ⟨⟨t,r,uv⟩,ks⟩:=z
    simp only at k0 k1 k2 hdk hr ev3
    subst ev3
    simp only[Value.slice.injEq] at ev2
    obtain ⟨rfl,hq9,rfl⟩:=ev2
    clear hq9
    have hkk:=hdk.isKepts
    have hnk:nn=(ks.map (·.1)).length:=by obtain ⟨_,_,e,_⟩:=hkk.opened;simp only[Value.slice.injEq] at e;exact e.2.1
    have hzp:(t,r,ks.map (·.1))=ps[k]:=hzq
    clear hzq
    have hgW:=HOWN.out g rfl
    have HDP:=Zh hdp
    generalize hKK:ks.map (·.1)=K at *
    subst hnk
    rw[←hzp] at hpo hpk
    have hBg:¬B=g:=by omega
    have hBg1:¬B1=g:=by omega
    have hWr:w1.heap.size≤wr.heap.size:=hDr.1
    have BB:=zAB wr (.cells #[.bool t,.int .i64 r,.slice aa K.length ca] 62)
    have Sa:=hS.alloc (.cells #[.bool t,.int .i64 r,.slice aa K.length ca] 62)
    cases t with
    | false =>
     have HST:=Zh (HQ.out.trans (zMn hpk (by unfold zBs;simp)))
     have hDa:=hDr.trans (zAF.old BB _)
     have HDPa:=Zh (HDP.out.stays BB)
     have HZ1:=Zh fz
     clear hver y0 y1 y2 hzk hpk hzp hdp hdk hkk hpo fz
     go_wp2_with fail
     clear k0 k1 k2 x0 x1
     go_roundw
     case rel=>exact ⟨k+1,zs',by omega,by go_num,Sa,hDa,HDPa.out,HST.out,HFT.out⟩
     case measure=>simp[intOf];omega
    | true =>
     have HST:=Zh (zOq (f:=zBs n) hpk)
     have hf:zBs n (true,r,K)=(true,r,zAa n K):=rfl
     rw[←HQ.out,hf] at HST
     have hpv:zBG b (true,r,K)=0:=zDD.2 hpo
     have hdc:zF9 b (true,r,K) n=(true,r,zAa n K):=by unfold zF9;rw[if_pos hpv]
     have c0:(wr.alloc (.cells #[.bool true,.int .i64 r,.slice aa K.length ca] 62)).cell? ⟨wr.heap.size,0,none⟩=some (.bool true):=by go_simp
     have c1:(wr.alloc (.cells #[.bool true,.int .i64 r,.slice aa K.length ca] 62)).cell? ⟨wr.heap.size,1,none⟩=some (.int .i64 r):=by go_simp
     have c2:(wr.alloc (.cells #[.bool true,.int .i64 r,.slice aa K.length ca] 62)).cell? ⟨wr.heap.size,2,none⟩=some (.slice aa K.length ca):=by go_simp
     have hK0:=zSS (.slice a b.length c) b (.slice aa K.length ca) (true,r,K) n (wr.alloc (.cells #[.bool true,.int .i64 r,.slice aa K.length ca] 62)).drew ((hver.stays zAz.stays BB).drew zAz.stays) ((hkk.stays zAf.stays BB).drew zAf.stays) hr
     rw[hpv,hdc] at hK0
     have t0:=zAA BB x0
     have t1:=zAA BB x1
     have g0:=zAA BB k0
     have g1:=zAA BB k1
     have g2:=zAA BB k2
     have hgl:=zAH k0
     simp only at hgl
     have HZ:Hid (∀j,(wr.alloc (.cells #[.bool true,.int .i64 r,.slice aa K.length ca] 62)).frozen? ⟨g,j,none⟩=false):=Zh (fun j=>(BB.frozen (p:=⟨g,j,none⟩) hgl).trans (fz j))
     have HDPa:=Zh (HDP.out.stays BB)
     have hDa:=hDr.trans (zAF.old BB _)
     have hWa:wr.heap.size≤(wr.alloc (.cells #[.bool true,.int .i64 r,.slice aa K.length ca] 62)).heap.size:=BB.size
     have HIR:=Zh hr
     clear hver y0 y1 y2 hzk hpk hzp hdp hdk hkk hpo fz BB hpv hdc hf
     go_upto_region 10 with fail
     clear x0 x1 k0 k1 k2 hS hDr
     generalize wr.alloc (.cells #[.bool true,.int .i64 r,.slice aa K.length ca] 62)=wa at *
     obtain ⟨Bp,hBp⟩:∃Bp,Bp=wr.heap.size:=⟨_,rfl⟩
     rw[←hBp] at c0 c1 c2 ⊢
     have hBpg:¬Bp=g:=by omega
     clear hBp hgl
     have HK:Hid (Calls Tryz.prog 75 #[.agg #[.slice a b.length c],.agg #[.bool true,.int .i64 r,.slice aa K.length ca],.int .i64 n] wa.drew fun e w'=>(∃v',e=.returned (.tuple #[.agg #[.bool true,.int .i64 r,v'],.int .i64 0])∧zF7 w' wa.drew.heap.size v' (zAa n K))∧Below wa.drew.heap.size wa.drew w'):=Zh hK0
     clear hK0
     generalize zAa n K=L at *
     have j0:wa.drew.cell? ⟨g,k*3,none⟩=some (.bool true):=g0
     have j1:wa.drew.cell? ⟨g,k*3+1,none⟩=some (.int .i64 r):=g1
     have j2:wa.drew.cell? ⟨g,k*3+2,none⟩=some (.slice aa K.length ca):=g2
     have z0:∀j,wa.drew.frozen? ⟨g,j,none⟩=false:=HZ.out
     have hHeld:wa.drew.cell? ⟨B,0,none⟩=some (.slice a b.length c)∧wa.drew.cell? ⟨B,1,none⟩=some (.slice (some ⟨g,0,none⟩) ps.length c')∧wa.drew.cell? ⟨Bp,0,none⟩=some (.bool true)∧wa.drew.cell? ⟨Bp,1,none⟩=some (.int .i64 r)∧wa.drew.cell? ⟨Bp,2,none⟩=some (.slice aa K.length ca):=⟨t0,t1,c0,c1,c2⟩
     clear t0 t1 c0 c1 c2 g0 g1 g2
     refine wp_region_held_drew (S:=fun w'=>w'.cell? ⟨B,0,none⟩=some (.slice a b.length c)∧w'.cell? ⟨B,1,none⟩=some (.slice (some ⟨g,0,none⟩) ps.length c')∧w'.cell? ⟨Bp,0,none⟩=some (.bool true)∧w'.cell? ⟨Bp,1,none⟩=some (.int .i64 r)∧w'.cell? ⟨Bp,2,none⟩=some (.slice aa K.length ca)) (by kernel_rfl) hHeld (fun _=>?_)
     refine wpAnyH_take (i:=0) (v:=?v0) rfl (by kernel_rfl) (by kernel_rfl) (by kernel_rfl) (fun _ _ _ h=>h) (Or.inl ⟨by rfl,?hy0⟩) (by assumption) ?r0
     case hy0=>(intro w hSw;(try dsimp only at hSw);go_simp<;>with_reducible rfl)
     simp only[Act.put,List.setIfInBounds_toArray,List.set]
     refine wpAnyH_take (i:=1) (v:=?v1) rfl (by kernel_rfl) (by kernel_rfl) (by kernel_rfl) (fun _ _ _ h=>h) (Or.inl ⟨by rfl,?hy1⟩) (by assumption) ?r1
     case hy1=>(intro w hSw;(try dsimp only at hSw);go_simp<;>with_reducible rfl)
     simp only[Act.put,List.setIfInBounds_toArray,List.set]
     refine wpAnyH_take (i:=2) (v:=?v2) rfl (by kernel_rfl) (by kernel_rfl) (by kernel_rfl) (fun _ _ _ h=>h) (Or.inl ⟨by rfl,?hy2⟩) (by assumption) ?r2
     case hy2=>(intro w hSw;(try dsimp only at hSw);go_simp<;>with_reducible rfl)
     simp only[Act.put,List.setIfInBounds_toArray,List.set]
     refine wpAnyH_take (i:=3) (v:=?v3) rfl (by kernel_rfl) (by kernel_rfl) (by kernel_rfl) (fun _ _ _ h=>h) (Or.inl ⟨by rfl,?hy3⟩) (by assumption) ?r3
     case hy3=>(intro w hSw;(try dsimp only at hSw);go_simp<;>with_reducible rfl)
     simp only[Act.put,List.setIfInBounds_toArray,List.set]
     refine wpAnyH_take (i:=4) (v:=?v4) rfl (by kernel_rfl) (by kernel_rfl) (by kernel_rfl) (fun _ _ _ h=>h) (Or.inl ⟨by rfl,?hy4⟩) (by assumption) ?r4
     case hy4=>(intro w hSw;(try dsimp only at hSw);go_simp<;>with_reducible rfl)
     simp only[Act.put,List.setIfInBounds_toArray,List.set]
     refine wpAnyH_take (i:=5) (v:=?v5) rfl (by kernel_rfl) (by kernel_rfl) (by kernel_rfl) (fun _ _ _ h=>h) (Or.inl ⟨by rfl,?hy5⟩) (by assumption) ?r5
     case hy5=>(intro w hSw;(try dsimp only at hSw);go_simp<;>with_reducible rfl)
     simp only[Act.put,List.setIfInBounds_toArray,List.set]
     refine wpAnyH_take (i:=6) (v:=?v6) rfl (by kernel_rfl) (by kernel_rfl) (by kernel_rfl) (fun _ _ _ h=>h) (Or.inl ⟨by rfl,?hy6⟩) (by assumption) ?r6
     case hy6=>(intro w hSw;(try dsimp only at hSw);go_simp<;>with_reducible rfl)
     simp only[Act.put,List.setIfInBounds_toArray,List.set]
     refine wpAnyH_ready (rs:=[7]) (by kernel_rfl) (by simp) ?_
     refine AllReadyH.cons (o:=?o7) ?ho7 (fun K' hK'=>?k7) AllReadyH.nil
     case ho7=>(simp only[List.getElem?_toArray,List.getElem?_cons_succ,List.getElem?_cons_zero];rfl)
     go_simp
     go_at_call 75
     refine HK.out.mono ?_
     rintro e w5 ⟨⟨v5,rfl,hv5⟩,hb5⟩
     obtain ⟨a5,c5,rfl,_⟩:=hv5.isKepts.opened
     have t0:=zAA hb5 j0
     have t1:=zAA hb5 j1
     have t2:=zAA hb5 j2
     have x0:=zAE hb5 j0 (z0 _)
     have x1:=zAE hb5 j1 (z0 _)
     have x2:=zAE hb5 j2 (z0 _)
     have hHeld5:w5.cell? ⟨B,0,none⟩=some (.slice a b.length c)∧w5.cell? ⟨B,1,none⟩=some (.slice (some ⟨g,0,none⟩) ps.length c')∧w5.cell? ⟨Bp,0,none⟩=some (.bool true)∧w5.cell? ⟨Bp,1,none⟩=some (.int .i64 r)∧w5.cell? ⟨Bp,2,none⟩=some (.slice aa K.length ca):=⟨zAA hb5 hHeld.1,zAA hb5 hHeld.2.1,zAA hb5 hHeld.2.2.1,zAA hb5 hHeld.2.2.2.1,zAA hb5 hHeld.2.2.2.2⟩
     try go_wp2_with fail
     refine hK'.out _ _ hHeld5 (fun _=>?_)
     clear hK' K'
     refine wpAnyH_take (i:=8) (v:=?v8) rfl (by kernel_rfl) (by kernel_rfl) (by kernel_rfl) (fun _ _ _ h=>h) (Or.inl ⟨by rfl,?hy8⟩) (by exact hHeld5) ?r8
     case hy8=>(intro w hSw;(try dsimp only at hSw);go_simp<;>with_reducible rfl)
     simp only[Act.put,List.setIfInBounds_toArray,List.set]
     refine wpAnyH_take (i:=9) (v:=?v9) rfl (by kernel_rfl) (by kernel_rfl) (by kernel_rfl) (fun _ _ _ h=>h) (Or.inl ⟨by rfl,?hy9⟩) (by exact hHeld5) ?r9
     case hy9=>(intro w hSw;(try dsimp only at hSw);go_simp<;>with_reducible rfl)
     simp only[Act.put,List.setIfInBounds_toArray,List.set]
     refine wpAnyH_take (i:=10) (v:=?v10) rfl (by kernel_rfl) (by kernel_rfl) (by kernel_rfl) (fun _ _ _ h=>h) (Or.inl ⟨by rfl,?hy10⟩) (by exact hHeld5) ?r10
     case hy10=>(intro w hSw;(try dsimp only at hSw);go_simp<;>with_reducible rfl)
     simp only[Act.put,List.setIfInBounds_toArray,List.set]
     refine wpAnyH_take (i:=11) (v:=?v11) rfl (by kernel_rfl) (by kernel_rfl) (by kernel_rfl) (fun _ _ _ h=>h) (Or.inl ⟨by rfl,?hy11⟩) (by exact hHeld5) ?r11
     case hy11=>(intro w hSw;(try dsimp only at hSw);go_simp<;>with_reducible rfl)
     simp only[Act.put,List.setIfInBounds_toArray,List.set]
     refine wpAnyH_ready (rs:=[12]) (by kernel_rfl) (by simp) ?_
     refine AllReadyH.cons (o:=?o12) ?ho12 (fun K' hK'=>?k12) AllReadyH.nil
     case ho12=>(simp only[List.getElem?_toArray,List.getElem?_cons_succ,List.getElem?_cons_zero];rfl)
     go_simp
     have hHeld6:(((w5.setCell ⟨g,k*3,none⟩ (.bool true)).setCell ⟨g,k*3+1,none⟩ (.int .i64 r)).setCell ⟨g,k*3+1+1,none⟩ (.slice a5 L.length c5)).cell? ⟨B,0,none⟩=some (.slice a b.length c)∧(((w5.setCell ⟨g,k*3,none⟩ (.bool true)).setCell ⟨g,k*3+1,none⟩ (.int .i64 r)).setCell ⟨g,k*3+1+1,none⟩ (.slice a5 L.length c5)).cell? ⟨B,1,none⟩=some (.slice (some ⟨g,0,none⟩) ps.length c')∧(((w5.setCell ⟨g,k*3,none⟩ (.bool true)).setCell ⟨g,k*3+1,none⟩ (.int .i64 r)).setCell ⟨g,k*3+1+1,none⟩ (.slice a5 L.length c5)).cell? ⟨Bp,0,none⟩=some (.bool true)∧(((w5.setCell ⟨g,k*3,none⟩ (.bool true)).setCell ⟨g,k*3+1,none⟩ (.int .i64 r)).setCell ⟨g,k*3+1+1,none⟩ (.slice a5 L.length c5)).cell? ⟨Bp,1,none⟩=some (.int .i64 r)∧(((w5.setCell ⟨g,k*3,none⟩ (.bool true)).setCell ⟨g,k*3+1,none⟩ (.int .i64 r)).setCell ⟨g,k*3+1+1,none⟩ (.slice a5 L.length c5)).cell? ⟨Bp,2,none⟩=some (.slice aa K.length ca):=⟨(zBf _ _ _ _ _ _ hBg).trans hHeld5.1,(zBf _ _ _ _ _ _ hBg).trans hHeld5.2.1,(zBf _ _ _ _ _ _ hBpg).trans hHeld5.2.2.1,(zBf _ _ _ _ _ _ hBpg).trans hHeld5.2.2.2.1,(zBf _ _ _ _ _ _ hBpg).trans hHeld5.2.2.2.2⟩
     refine hK'.out _ _ hHeld6 (fun _=>?_)
     clear hK' K'
     refine wpAnyH_take (i:=13) (v:=?v13) rfl (by kernel_rfl) (by kernel_rfl) (by kernel_rfl) (fun _ _ _ h=>h) (Or.inl ⟨by rfl,?hy13⟩) (by exact hHeld6) ?r13
     case hy13=>(intro w hSw;(try dsimp only at hSw);go_simp<;>with_reducible rfl)
     simp only[Act.put,List.setIfInBounds_toArray,List.set]
     refine wpAnyH_done (by kernel_rfl) ?_ _
     go_simp
     obtain ⟨ks5,hm5,hd5⟩:=hv5
     have hb5r:Below wa.heap.size wa w5:=((zAD.refl wa).drew.step hb5).below
     have hwr5:wa.heap.size≤w5.heap.size:=hb5.size
     have hDs:zAF (fun k=>(Value.slice (some ⟨g,0,none⟩) ps.length c').ownBlock=some k) w5 (((w5.setCell ⟨g,k*3,none⟩ (.bool true)).setCell ⟨g,k*3+1,none⟩ (.int .i64 r)).setCell ⟨g,k*3+1+1,none⟩ (.slice a5 L.length c5)):=(zAF.of_grown (zAQ g [.bool true,.int .i64 r,.slice a5 L.length c5] (k*3) w5)).mono (fun j _ hj=>by cases hj;rfl)
     have hD6:=hDa.trans ((zAF.old hb5r _).trans hDs)
     have S6:=((((Sa.step hb5r)).setCell (a:=⟨g,k*3,none⟩) hg1 (.bool true)).setCell (a:=⟨g,k*3+1,none⟩) hg1 (.int .i64 r)).setCell (a:=⟨g,k*3+1+1,none⟩) hg1 (.slice a5 L.length c5)
     have hfz:∀j,zDu ((true,r,.slice a5 L.length c5),ks5) j→wa.heap.size≤j:=fun j hj=>(hd5.lt hj).1
     have hdp6:DP (((w5.setCell ⟨g,k*3,none⟩ (.bool true)).setCell ⟨g,k*3+1,none⟩ (.int .i64 r)).setCell ⟨g,k*3+1+1,none⟩ (.slice a5 L.length c5)) base (.slice (some ⟨g,0,none⟩) ps.length c') (zs'.set k ((true,r,.slice a5 L.length c5),ks5)):=
      (HDPa.out.stays hb5r).put (z':=((true,r,.slice a5 L.length c5),ks5)) rfl hml (hd5.mono Sa.2) HIR.out ⟨_,_,_,rfl⟩ (fun j hj e=>by have:=hfz j hj;have:=(HDPa.out.lt (k:=g) (Or.inl rfl)).2;omega) (fun j z hj hz q hq hq'=>by
       have h1:=hfz q hq
       have h2:=(HDPa.out.lt (Or.inr ⟨z,List.mem_of_getElem? hz,hq'⟩)).2
       omega)
     have hmap6:(zs'.set k ((true,r,.slice a5 L.length c5),ks5)).map zDK=(zs'.map zDK).set k (true,r,L):=by rw[List.map_set];unfold zDK;simp only;rw[hm5]
     have hft6:∀j,zBu (.slice (some ⟨g,0,none⟩) ps.length c') (zs'.set k ((true,r,.slice a5 L.length c5),ks5)) j→zBu (.slice (some ⟨g,0,none⟩) ps.length c') zs j∨w1.heap.size≤j:=by
      intro j hj
      rcases hj with hj|⟨z,hz,hj⟩
      ·exact Or.inl (Or.inl hj)
      ·rcases List.mem_or_eq_of_mem_set hz with hz|rfl
       ·exact HFT.out j (Or.inr ⟨z,hz,hj⟩)
       ·exact Or.inr (Nat.le_trans hWr (Nat.le_trans hWa (hfz j hj)))
     have HPK:=Zh hdp6
     have HF6:=Zh hft6
     have HM6:=Zh (hmap6.trans HST.out)
     clear hHeld hHeld5 hHeld6 t0 t1 t2 x0 x1 x2 j0 j1 j2 z0 hdp6 hft6 hmap6 hd5 hm5 hfz hb5 hb5r hDs hDa Sa
     generalize ((w5.setCell ⟨g,k*3,none⟩ (.bool true)).setCell ⟨g,k*3+1,none⟩ (.int .i64 r)).setCell ⟨g,k*3+1+1,none⟩ (.slice a5 L.length c5)=w6 at *
     go_wp2_with fail
     go_roundw
     case rel=>exact ⟨k+1,_,by omega,by go_num,S6,hD6,HPK.out,HM6.out,HF6.out⟩
     case measure=>simp[intOf];omega
   ·obtain rfl:ps.length=k:=by omega
    have hq:=HQ.out
    rw[List.take_length,List.drop_length,List.append_nil] at hq
    have hg7:=(zAC wr ⟨B1,0,none⟩ (.slice a b.length c)).trans (zAC _ ⟨B1,1,none⟩ (.slice a' ps.length c'))
    have v0:((wr.setCell ⟨B1,0,none⟩ (.slice a b.length c)).setCell ⟨B1,1,none⟩ (.slice a' ps.length c')).cell? ⟨B1,0,none⟩=some (.slice a b.length c):=by go_simp
    have v1:((wr.setCell ⟨B1,0,none⟩ (.slice a b.length c)).setCell ⟨B1,1,none⟩ (.slice a' ps.length c')).cell? ⟨B1,1,none⟩=some (.slice a' ps.length c'):=by go_simp
    have S7:=(hS.setCell (a:=⟨B1,0,none⟩) (Nat.le_trans hbase hBW1) (.slice a b.length c)).setCell (a:=⟨B1,1,none⟩) (Nat.le_trans hbase hBW1) (.slice a' ps.length c')
    have hD7:=((zAF.old S1.below (fun k=>(Value.slice a' ps.length c').ownBlock=some k)).trans hDr).next (zAF.of_grown hg7) (fun k hk=>by cases hk;exact Or.inr hBW1)
    have hdp7:=hdp.frame (zAF.of_grown hg7) (fun j hj e=>by
     obtain rfl:B1=j:=Option.some.inj e
     rcases HFT.out _ hj with h|h
     ·have:=(HD.out.lt h).2;omega
     ·omega)
    have HO7:Hid (zCl X ((wr.setCell ⟨B1,0,none⟩ (.slice a b.length c)).setCell ⟨B1,1,none⟩ (.slice a' ps.length c')) base (.slice a b.length c) (.slice a' ps.length c') (b,ps.map (zBs n))):=Zh ⟨zs',hq,hdp7,fun w' hw'=>HB.out w' ((hD7.mono (fun k _ h=>Or.inl (Or.inl h))).next hw' (fun k hk=>hk.elim (fun hk=>(HFT.out k hk).imp Or.inl (fun h=>Nat.le_trans (Nat.le_trans hsz hsz1) h)) (fun hk=>Or.inl (Or.inr hk))))⟩
    have f0:=y2 0
    have f1:=y2 1
    clear hq hdp7 hg7 hdp hver y2 hS hDr
    go_wp2_with fail
    exact bodyPost_ret (v:=.tuple #[.agg #[.slice a b.length c,.slice a' ps.length c'],.int .i64 0]) (by simp[results,Tryz.results45,go_sem,v0,v1]) rfl ⟨⟨_,_,zBM HE.out.symm,by rw[HC.out];exact HO7.out⟩,S7⟩
 ·have HE:Hid (zBv (b,ps) n=6):=Zh (by unfold zBv;rw[if_neg (by simp only;omega),if_neg hm])
  have HC:Hid (zDf (b,ps) n=([],[])):=Zh (by unfold zDf;rw[HE.out,if_neg (by decide)])
  have hmf:zEa n (zCi b)=false:=by simpa[zEa] using hm
  have f0:=e2 0
  have f1:=e2 1
  have v0:((w1.setCell ⟨B1,0,none⟩ (.slice none 0 0)).setCell ⟨B1,1,none⟩ (.slice none 0 0)).cell? ⟨B1,0,none⟩=some (.slice none 0 0):=by go_simp
  have v1:((w1.setCell ⟨B1,0,none⟩ (.slice none 0 0)).setCell ⟨B1,1,none⟩ (.slice none 0 0)).cell? ⟨B1,1,none⟩=some (.slice none 0 0):=by go_simp
  have S7:=(S1b.setCell (a:=⟨B1,0,none⟩) (Nat.le_trans hbase hBW1) (.slice none 0 0)).setCell (a:=⟨B1,1,none⟩) (Nat.le_trans hbase hBW1) (.slice none 0 0)
  clear e2
  go_wp2_with (go_at_call 33;refine (zBc _ (zCi b) n _ hoi).mono ?_;rintro e w ⟨rfl,rfl⟩;rw[hmf])
  exact bodyPost_ret (v:=.tuple #[.agg #[.slice none 0 0,.slice none 0 0],.int .i64 6]) (by simp[results,Tryz.results45,go_sem,v0,v1]) rfl ⟨⟨_,_,zBM HE.out.symm,by rw[HC.out];exact zCl.nil _ _ _⟩,S7⟩
end Go.Proofs.YthgmphbkkojaoaaGreat
