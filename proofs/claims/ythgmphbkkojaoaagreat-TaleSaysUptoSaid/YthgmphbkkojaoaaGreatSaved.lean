/-
  tale.Saved, walked.
-/
import Derived.Test.YthgmphbkkojaoaaGreatDoMaths
import Derived.Test.YthgmphbkkojaoaaGreatBox
import Derived.Test.YthgmphbkkojaoaaGreatDoAny
set_option linter.unusedSimpArgs false
set_option maxHeartbeats 4000000
namespace Go.Proofs.YthgmphbkkojaoaaGreat
open Go.RowKit
theorem zRh:(Tryz.prog.info? 36).map (fun i=>(i.zero,i.size,i.bytes))=some (some (.slice none 0 0),1,24):=by kernel_rfl
set_option maxRecDepth 100000 in
theorem zRf(v u:Value)(room:List Int)(l:List Hp)(W:World)(hv:zAG W v room)(hu:zGj W u l)(hr:room.length≤1900000) :
  Calls Tryz.prog 12 #[v,u] W fun e w'=>(∃v',e=.returned (.tuple #[v',.int .i64 (zG2 room l)])∧zAZ 1 zTx w' v' (zH5 room l))∧Below W.heap.size W w':=by
 obtain ⟨a,c,rfl,hcl,⟨hlm,hlc,_⟩,_⟩:=hu.opened
 go_enter Tryz.func12,Tryz.ntmps12
 go_upto_region 2 with (go_at_call 24;go_fit (zOO v room W hv hr);rintro e w1 ⟨⟨u1,u2,rfl,ho1⟩,hb1⟩;obtain ⟨a1,k1,rfl,_⟩:=ho1.vers.opened;obtain ⟨a2,k2,rfl,_⟩:=ho1.peers.opened)
 by_cases hE:zQV room=0
 ·have BB:=zAB w1 (.cells #[.slice a1 (zFo room).1.length k1,.slice a2 (zFo room).2.length k2] 27)
  have S2:=((zAD.refl W).step hb1).alloc (.cells #[.slice a1 (zFo room).1.length k1,.slice a2 (zFo room).2.length k2] 27)
  have HM2:zJs (fun j=>j=w1.heap.size∨Value.ownBlock (.slice none 0 0)=some j) (w1.alloc (.cells #[.slice a1 (zFo room).1.length k1,.slice a2 (zFo room).2.length k2] 27)) (.slice a1 (zFo room).1.length k1) (.slice a2 (zFo room).2.length k2) (zFo room):=zJs.of (ho1.toT.stays BB) (fun k hk=>hk.elim (fun e=>Or.inr (Nat.le_of_eq e.symm)) (fun e=>by cases e))
  have x0:(w1.alloc (.cells #[.slice a1 (zFo room).1.length k1,.slice a2 (zFo room).2.length k2] 27)).cell? ⟨w1.heap.size,0,none⟩=some (.slice a1 (zFo room).1.length k1):=by go_simp
  have x1:(w1.alloc (.cells #[.slice a1 (zFo room).1.length k1,.slice a2 (zFo room).2.length k2] 27)).cell? ⟨w1.heap.size,1,none⟩=some (.slice a2 (zFo room).2.length k2):=by go_simp
  have x2:∀j,(w1.alloc (.cells #[.slice a1 (zFo room).1.length k1,.slice a2 (zFo room).2.length k2] 27)).frozen? ⟨w1.heap.size,j,none⟩=false:=by intro j;go_simp
  have hz2:w1.heap.size<(w1.alloc (.cells #[.slice a1 (zFo room).1.length k1,.slice a2 (zFo room).2.length k2] 27)).heap.size:=by simp
  have hWm:W.heap.size≤w1.heap.size:=hb1.size
  have HNE:=Lib.hid hE
  generalize hM0:zFo room=M0 at *
  have HM0:=Lib.hid hM0
  rw[hE]
  go_upto_region 4 with fail
  generalize w1.alloc (.cells #[.slice a1 M0.1.length k1,.slice a2 M0.2.length k2] 27)=w2 at *
  obtain ⟨Bm,hBm⟩:∃Bm,Bm=w1.heap.size:=⟨_,rfl⟩
  rw[←hBm] at x0 x1 x2 HM2 hz2 hWm ⊢
  clear hBm ho1 hb1 BB hE hM0
  by_cases hl:100<l.length
  ·have HE:Hid (zG2 room l=1):=Lib.hid (by unfold zG2;rw[if_neg (by simpa using HNE.out),if_pos hl])
   have HC:Hid (zH5 room l=[]):=Lib.hid (by unfold zH5;rw[HE.out];rfl)
   have hl2:(100:Int)<(l.length:Int):=by omega
   clear x0 x1 x2
   go_wp2_with fail
   exact bodyPost_ret (v:=.tuple #[.slice none 0 0,.int .i64 1]) (by simp[results,Tryz.results12,go_sem]) rfl ⟨⟨_,zDi HE.out.symm,by rw[HC.out];exact zAZ.nil _⟩,S2.below⟩
  ·have HE:Hid (zG2 room l=0):=Lib.hid (by unfold zG2;rw[if_neg (by simpa using HNE.out),if_neg hl])
   have HC:Hid (zH5 room l=(zIK l (M0,[])).2):=Lib.hid (by unfold zH5;rw[if_pos HE.out,HM0.out])
   have HU:Hid (∀w',zAD W.heap.size W w'→zGj w' (.slice a l.length c) l):=Lib.hid (fun w' q=>hu.stays zUH.stays q.below)
   go_wp2_with fail
   go_loopw[26,8] (fun i y wr=>∃(k:Nat) (m1:Option Addr) (n1 q1:Nat) (m2:Option Addr) (n2 q2:Nat),k≤l.length∧i=.int .i64 k∧zAD W.heap.size W wr∧w2.heap.size≤wr.heap.size∧zJs (fun j=>j=Bm∨y.ownBlock=some j) wr (.slice m1 n1 q1) (.slice m2 n2 q2) (zIK (l.take k) (M0,[])).1∧wr.cell? ⟨Bm,0,none⟩=some (.slice m1 n1 q1)∧wr.cell? ⟨Bm,1,none⟩=some (.slice m2 n2 q2)∧(∀j,wr.frozen? ⟨Bm,j,none⟩=false)∧zAK 1 zTx (fun j=>j=Bm) wr 36 w2.heap.size y (zIK (l.take k) (M0,[])).2∧(zIK (l.take k) (M0,[])).2.length≤k) (fun i _ _=>l.length - (intOf i).toNat)
   case atStart=>exact ⟨0,_,_,_,_,_,_,by omega,rfl,S2,Nat.le_refl _,HM2,x0,x1,x2,zAK.nil _ _ _,Nat.le_refl _⟩
   case round =>
    obtain ⟨k,m1,n1,q1,m2,n2,q2,hk,rfl,hS,hsz,hbox,z0,z1,z2,ho,hol⟩:=hrel
    clear x0 x1 x2 HM2
    by_cases hlt:k<l.length
    ·have hget:=List.getElem?_eq_getElem hlt
     obtain ⟨g,off,uu,cu,uv,cv,rfl,h0,h1,h2,h3,h4,h5,h6,hd,hp,i1,i2,i3,i4,i5⟩:=zR2 hu hget
     have HDW:=Lib.hid hd
     have h0:=zAA hS.below h0
     have h1:=zAA hS.below h1
     have h2:=zAA hS.below h2
     have h3:=zAA hS.below h3
     have h4:=zAA hS.below h4
     have h5:=zAA hS.below h5
     have h6:=zAA hS.below h6
     have hd:=hd.stays hS.below
     have hp:=hp.stays hS.below
     have HST:=Lib.hid (zQL (M0,[]) hget)
     generalize l[k]=x at *
     obtain ⟨kd,n,pl,data,pr,need,of_⟩:=x
     simp only at h0 h1 h2 h3 h4 h5 h6 hd hp i1 i2 i3 i4 i5
     generalize zIK (l.take k) (M0,[])=st at *
     obtain ⟨⟨b,ps⟩,out⟩:=st
     simp only at hbox ho hol
     have BB:=zAB wr (.cells #[.int .i64 kd,.int .i64 n,.int .i64 pl,.slice uu data.length cu,.slice uv pr.length cv,.int .i64 need,.int .i64 of_] 38)
     have S4:=hS.alloc (.cells #[.int .i64 kd,.int .i64 n,.int .i64 pl,.slice uu data.length cu,.slice uv pr.length cv,.int .i64 need,.int .i64 of_] 38)
     have f0:(wr.alloc (.cells #[.int .i64 kd,.int .i64 n,.int .i64 pl,.slice uu data.length cu,.slice uv pr.length cv,.int .i64 need,.int .i64 of_] 38)).cell? ⟨wr.heap.size,0,none⟩=some (.int .i64 kd):=by go_simp
     have f1:(wr.alloc (.cells #[.int .i64 kd,.int .i64 n,.int .i64 pl,.slice uu data.length cu,.slice uv pr.length cv,.int .i64 need,.int .i64 of_] 38)).cell? ⟨wr.heap.size,1,none⟩=some (.int .i64 n):=by go_simp
     have f2:(wr.alloc (.cells #[.int .i64 kd,.int .i64 n,.int .i64 pl,.slice uu data.length cu,.slice uv pr.length cv,.int .i64 need,.int .i64 of_] 38)).cell? ⟨wr.heap.size,2,none⟩=some (.int .i64 pl):=by go_simp
     have f3:(wr.alloc (.cells #[.int .i64 kd,.int .i64 n,.int .i64 pl,.slice uu data.length cu,.slice uv pr.length cv,.int .i64 need,.int .i64 of_] 38)).cell? ⟨wr.heap.size,3,none⟩=some (.slice uu data.length cu):=by go_simp
     have f4:(wr.alloc (.cells #[.int .i64 kd,.int .i64 n,.int .i64 pl,.slice uu data.length cu,.slice uv pr.length cv,.int .i64 need,.int .i64 of_] 38)).cell? ⟨wr.heap.size,4,none⟩=some (.slice uv pr.length cv):=by go_simp
     have f5:(wr.alloc (.cells #[.int .i64 kd,.int .i64 n,.int .i64 pl,.slice uu data.length cu,.slice uv pr.length cv,.int .i64 need,.int .i64 of_] 38)).cell? ⟨wr.heap.size,5,none⟩=some (.int .i64 need):=by go_simp
     have f6:(wr.alloc (.cells #[.int .i64 kd,.int .i64 n,.int .i64 pl,.slice uu data.length cu,.slice uv pr.length cv,.int .i64 need,.int .i64 of_] 38)).cell? ⟨wr.heap.size,6,none⟩=some (.int .i64 of_):=by go_simp
     have t0:=zAA BB z0
     have t1:=zAA BB z1
     have g0:=zAE BB z0 (z2 0)
     have g1:=zAE BB z1 (z2 1)
     have hbox4:=hbox.stays BB
     have ho4:=ho.stays BB
     have HDT:=Lib.hid (hd.stays BB)
     have HPR:=Lib.hid (hp.stays BB)
     have hs4:=BB.size
     have HZA:=Lib.hid (fun j=>(BB.frozen (p:=⟨Bm,j,none⟩) (by have:=zAH z0;simpa using this)).trans (z2 j))
     clear hget
     go_upto_region 10 with fail
     clear h0 h1 h2 h3 h4 h5 h6 z0 z1 z2 hbox ho hd hp BB
     generalize wr.alloc (.cells #[.int .i64 kd,.int .i64 n,.int .i64 pl,.slice uu data.length cu,.slice uv pr.length cv,.int .i64 need,.int .i64 of_] 38)=wa at *
     obtain ⟨Bh,hBh⟩:∃Bh,Bh=wr.heap.size:=⟨_,rfl⟩
     rw[←hBh] at f0 f1 f2 f3 f4 f5 f6 ⊢
     have hBhm:Bh≠Bm:=by omega
     clear hBh
     obtain ⟨hbv,hbp⟩:=hbox4.now
     have HDO:=Lib.hid (zRt _ _ _ _ b ps kd n pl data pr need of_ wa hbv hbp HDT.out HPR.out i2 i3 i4 i5)
     have HBX:=Lib.hid hbox4
     have HO4:=Lib.hid ho4
     clear hbv hbp hbox4 ho4
     go_upto_region 11 with (go_at_call 20;go_fit HDO.out;rintro e w5 ⟨⟨u1,u2,rfl,ho5⟩,hb5⟩;obtain ⟨a5,c5,rfl,_⟩:=ho5.vers.opened;obtain ⟨a6,c6,rfl,_⟩:=ho5.peers.opened)
     generalize hEE:doE (b,ps) (kd,n,pl,data,pr,need,of_)=E at *
     generalize hMM:doC (b,ps) (kd,n,pl,data,pr,need,of_)=M at *
     have BN:=zAB w5 (.cells #[.slice a5 M.1.length c5,.slice a6 M.2.length c6] 27)
     have S6:=(S4.step hb5).alloc (.cells #[.slice a5 M.1.length c5,.slice a6 M.2.length c6] 27)
     have B46:Below wa.heap.size wa (w5.alloc (.cells #[.slice a5 M.1.length c5,.slice a6 M.2.length c6] 27)):=hb5.trans (BN.mono hb5.size)
     have n0:(w5.alloc (.cells #[.slice a5 M.1.length c5,.slice a6 M.2.length c6] 27)).cell? ⟨w5.heap.size,0,none⟩=some (.slice a5 M.1.length c5):=by go_simp
     have n1':(w5.alloc (.cells #[.slice a5 M.1.length c5,.slice a6 M.2.length c6] 27)).cell? ⟨w5.heap.size,1,none⟩=some (.slice a6 M.2.length c6):=by go_simp
     have g0:=zAE B46 t0 g0
     have g1:=zAE B46 t1 g1
     have t0:=zAA B46 t0
     have t1:=zAA B46 t1
     have k0:=zAA B46 f0
     have k3:=zAA B46 f3
     have hBma:Bm<wa.heap.size:=by omega
     have hbn:zJs (fun j=>j=Bm∨u8.ownBlock=some j) (w5.alloc (.cells #[.slice a5 M.1.length c5,.slice a6 M.2.length c6] 27)) (.slice a5 M.1.length c5) (.slice a6 M.2.length c6) M:=zJs.of (ho5.toT.stays BN) (fun k hk=>Or.inl ((fun h=>⟨h,h⟩) (hk.elim (fun e=>e ▸ hBma) (fun e=>(HO4.out.lt k e).2))))
     have HBX6:=Lib.hid (HBX.out.stays B46)
     have HO6:=Lib.hid (HO4.out.stays B46)
     have HD6:=Lib.hid (HDT.out.stays B46)
     have HZ6:=Lib.hid (fun j=>(B46.frozen (p:=⟨Bm,j,none⟩) hBma).trans (HZA.out j))
     have hs6:w2.heap.size≤(w5.alloc (.cells #[.slice a5 M.1.length c5,.slice a6 M.2.length c6] 27)).heap.size:=Nat.le_trans hsz (Nat.le_trans hs4 B46.size)
     have hw5:wa.heap.size≤w5.heap.size:=hb5.size
     have HEE:=Lib.hid hEE
     have HMM:=Lib.hid hMM
     clear ho5 hb5 BN f0 f1 f2 f3 f4 f5 f6 HBX HO4 HDT HPR HDO hEE hMM
     by_cases hE0:E=0
     ·have HS0:Hid (zIK (l.take (k+1)) (M0,[])=(M,if kd=1 then out++[data] else out)):=Lib.hid (by rw[HST.out];unfold zLT;simp only;rw[HEE.out,HMM.out,if_neg (by simpa using hE0)])
      have hd7:zAF (fun j=>j=Bm) (w5.alloc (.cells #[.slice a5 M.1.length c5,.slice a6 M.2.length c6] 27)) (((w5.alloc (.cells #[.slice a5 M.1.length c5,.slice a6 M.2.length c6] 27)).setCell ⟨Bm,0,none⟩ (.slice a5 M.1.length c5)).setCell ⟨Bm,1,none⟩ (.slice a6 M.2.length c6)):=(zAF.of_grown ((zAC (w5.alloc (.cells #[.slice a5 M.1.length c5,.slice a6 M.2.length c6] 27)) ⟨Bm,0,none⟩ (.slice a5 M.1.length c5)).trans (zAC _ ⟨Bm,1,none⟩ (.slice a6 M.2.length c6)))).mono fun j _ hj=>by cases hj;rfl
      have S7:=(S6.setCell (a:=⟨Bm,0,none⟩) hWm (.slice a5 M.1.length c5)).setCell (a:=⟨Bm,1,none⟩) hWm (.slice a6 M.2.length c6)
      have y0:(((w5.alloc (.cells #[.slice a5 M.1.length c5,.slice a6 M.2.length c6] 27)).setCell ⟨Bm,0,none⟩ (.slice a5 M.1.length c5)).setCell ⟨Bm,1,none⟩ (.slice a6 M.2.length c6)).cell? ⟨Bm,0,none⟩=some (.slice a5 M.1.length c5):=by go_simp
      have y1:(((w5.alloc (.cells #[.slice a5 M.1.length c5,.slice a6 M.2.length c6] 27)).setCell ⟨Bm,0,none⟩ (.slice a5 M.1.length c5)).setCell ⟨Bm,1,none⟩ (.slice a6 M.2.length c6)).cell? ⟨Bm,1,none⟩=some (.slice a6 M.2.length c6):=by go_simp
      have HB7:=Lib.hid (hbn.later (hd7.mono fun _ _=>Or.inl))
      have HO7:=Lib.hid (HO6.out.later hd7 (fun j hj=>by have:=(HO6.out.lt j hj).1;omega))
      have HZ7:Hid (∀j,(((w5.alloc (.cells #[.slice a5 M.1.length c5,.slice a6 M.2.length c6] 27)).setCell ⟨Bm,0,none⟩ (.slice a5 M.1.length c5)).setCell ⟨Bm,1,none⟩ (.slice a6 M.2.length c6)).frozen? ⟨Bm,j,none⟩=false):=Lib.hid (fun j=>by rw[World.frozen?_setCell,World.frozen?_setCell];exact HZ6.out j)
      have hs7:w2.heap.size≤(((w5.alloc (.cells #[.slice a5 M.1.length c5,.slice a6 M.2.length c6] 27)).setCell ⟨Bm,0,none⟩ (.slice a5 M.1.length c5)).setCell ⟨Bm,1,none⟩ (.slice a6 M.2.length c6)).heap.size:=by simpa using hs6
      have k0:=hd7.cell k0 hBhm
      have k3:=hd7.cell k3 hBhm
      have hdd:=HD6.out
      have hE0':(E != 0)=false:=by simpa using hE0
      go_upto_region 13 with fail
      clear t0 t1 g0 g1 n0 n1'
      generalize ((w5.alloc (.cells #[.slice a5 M.1.length c5,.slice a6 M.2.length c6] 27)).setCell ⟨Bm,0,none⟩ (.slice a5 M.1.length c5)).setCell ⟨Bm,1,none⟩ (.slice a6 M.2.length c6)=w7 at *
      by_cases hk1:kd=1
      ·subst hk1
       have hdd7:=HDW.out.stays S7.below
       have hB7:Bm<w7.heap.size:=by omega
       go_upto_region 15 with (first
        | (go_at_call 39;go_fit (zD0 _ data w7 hdd7);rintro e w8 ⟨⟨v8,rfl,ho8⟩,hb8⟩;obtain ⟨a8,c8,rfl,_⟩:=ho8.isInts.opened;have HO8:=Lib.hid ho8;have HQ8:=Lib.hid (HO7.out.stays hb8);have hs8:=hb8.size)
        | (at_builtin;refine zAd rfl _ _ 43 rfl 1 (fun j=>j=Bm) 36 Tryz.underlying43 _ 24 zRh rfl (by omega) (by omega) w2.heap.size _ out rfl (HQ8.out.stays (zAB _ _)) ⟨w8.heap.size,0,none⟩ 1 [.slice a8 data.length c8] data rfl rfl (by intro w hw;simp at hw;subst hw;rfl) (zBp w8 [.slice a8 data.length c8] 36 _ rfl) (fun w' hw'=>⟨_,rfl,(HO8.out.stays (zAB _ _)).isInts.framed (fun j hj _ e=>by have h1:=(HO8.out.lies j hj).1;exact e.elim (fun e=>by have h2:=(HO7.out.lt j e).2;omega) (fun e=>by omega)) hw'⟩) (by omega) (by simp;omega) ?_;intro v9 w9 ho9 hg9 hat9))
       have B78:Below w7.heap.size w7 (w8.alloc (.cells #[.slice a8 data.length c8] 36)):=hb8.trans ((zAB w8 (.cells #[.slice a8 data.length c8] 36)).mono hb8.size)
       have hlo:=fun j hj=>(HO7.out.lt j hj)
       have S9:=(S7.step B78).grown hg9 (fun j hj=>by have:=(hlo j hj).1;omega)
       have hnb:¬u8.ownBlock=some Bm:=fun e=>by have:=(hlo _ e).1;omega
       have hd9:=zAF.of_grown hg9
       have hb9:=Lib.hid ((HB7.out.stays B78).next (hd9.mono fun _ _=>Or.inr) (D':=fun j=>j=Bm∨v9.ownBlock=some j) (fun k hk=>hk.elim (fun e=>Or.inl (Or.inl e)) (fun e=>hat9.elim (fun h=>Or.inl (Or.inr (h ▸ e))) (fun h=>Or.inr (by rw[h] at e;cases e;exact Nat.le_refl _)))))
       have z0:=hd9.cell (zAA B78 y0) hnb
       have z1:=hd9.cell (zAA B78 y1) hnb
       have hz9:=Lib.hid (fun j=>(World.frozen?_of_block (a:=⟨Bm,j,none⟩) (hd9.2 Bm (Nat.lt_of_lt_of_le hB7 B78.size) hnb)).trans ((B78.frozen (p:=⟨Bm,j,none⟩) hB7).trans (HZ7.out j)))
       have hs9:w2.heap.size≤w9.heap.size:=Nat.le_trans hs7 (Nat.le_trans B78.size hd9.1)
       have HO9:=Lib.hid ho9
       clear ho9 y0 y1 k0 k3 hdd7 hlo
       go_wp2_with fail
       go_roundw
       case rel=>exact ⟨k+1,_,_,_,_,_,_,by omega,by go_num,S9,hs9,by rw[HS0.out];exact hb9.out,z0,z1,hz9.out,by rw[HS0.out,if_pos trivial];exact HO9.out,by rw[HS0.out,if_pos trivial];simp;omega⟩
       case measure=>simp[intOf];omega
      ·have hk2:(kd == 1)=false:=by simpa using hk1
       go_wp2_with fail
       clear k0 k3
       go_roundw
       case rel=>exact ⟨k+1,_,_,_,_,_,_,by omega,by go_num,S7,hs7,by rw[HS0.out];exact HB7.out,y0,y1,HZ7.out,by rw[HS0.out,if_neg hk1];exact HO7.out,by rw[HS0.out,if_neg hk1];exact Nat.le_succ_of_le hol⟩
       case measure=>simp[intOf];omega
     ·have HS0:Hid (zIK (l.take (k+1)) (M0,[])=((b,ps),out)):=Lib.hid (by rw[HST.out];unfold zLT;simp only;rw[HEE.out,if_pos hE0])
      have hEn:(E != 0)=true:=by simpa using hE0
      go_wp2_with fail
      go_roundw
      case rel=>exact ⟨k+1,_,_,_,_,_,_,by omega,by go_num,S6,hs6,by rw[HS0.out];exact HBX6.out,t0,t1,HZ6.out,by rw[HS0.out];exact HO6.out,by rw[HS0.out];exact Nat.le_succ_of_le hol⟩
      case measure=>simp[intOf];omega
    ·obtain rfl:l.length=k:=by omega
     rw[List.take_length] at ho
     have hi:=ho.isRow
     have HI:=Lib.hid hi
     obtain ⟨ar,cr,rfl,_⟩:=hi.opened
     clear hi ho z0 z1 z2 hbox
     go_wp2_with fail
     exact bodyPost_ret (v:=.tuple #[.slice ar (zIK l (M0,[])).2.length cr,.int .i64 0]) (by simp[results,Tryz.results12,go_sem]) rfl ⟨⟨_,zDi HE.out.symm,by rw[HC.out];exact HI.out⟩,hS.below⟩
 ·have HE:Hid (zG2 room l=zQV room):=Lib.hid (by unfold zG2;rw[if_pos hE])
  have HC:Hid (zH5 room l=[]):=Lib.hid (by unfold zH5;rw[HE.out,if_neg hE])
  have S2:=((zAD.refl W).step hb1).alloc (.cells #[.slice a1 (zFo room).1.length k1,.slice a2 (zFo room).2.length k2] 27)
  generalize zQV room=E at *
  go_wp2_with fail
  exact bodyPost_ret (v:=.tuple #[.slice none 0 0,.int .i64 E]) (by simp[results,Tryz.results12,go_sem]) rfl ⟨⟨_,zDi HE.out.symm,by rw[HC.out];exact zAZ.nil _⟩,S2.below⟩
end Go.Proofs.YthgmphbkkojaoaaGreat
