/-
  The walk of place.For. The walk of the reference's PlacesFor, of right peers.
-/
import Derived.Test.YthgmphbkkojaoaaGreatQCopies
set_option maxHeartbeats 2000000
namespace Go.Proofs.YthgmphbkkojaoaaGreat
set_option linter.unusedSectionVars false
variable [Zn]
open Go.RowKit
theorem zDi{v:Value}{a b:Int}(h:a=b):Ending.returned (.tuple #[v,.int .i64 a])=.returned (.tuple #[v,.int .i64 b]):=by rw[h]
theorem zWW{g:Nat}{W w w':World}(h:zAD g W w)(hb:Below w.heap.size w w'):g≤w'.heap.size:=(h.step hb).2
theorem zDt{n c k:Nat}(h:Value.lies (.slice none n c) k){P:Prop}:P:=by obtain ⟨_,_,_,e,_⟩:=h;cases e
set_option maxRecDepth 100000 in
theorem zPC(vb:Value)(b:List Ver)(u:Value)(l:List Pr)(v many:Int)(W:World)(hb:zAR W vb b)(hu:zAT W u l) :
  Calls Tryz.prog 93 #[.agg #[vb],u,.int .i64 v,.int .i64 many] W fun e w'=>(∃v',e=.returned (.tuple #[v',.int .i64 (zGh b l v many)])∧zAG w' v' (zIQ b l v many)∧∀k,Value.lies v' k→W.heap.size≤k)∧Below W.heap.size W w':=by
 obtain ⟨ab,cb,rfl,hcb,⟨hbm,hbc,_⟩,_⟩:=hb.opened
 obtain ⟨al,cl,rfl,hcl,⟨hlm,hlc,_⟩,_⟩:=hu.opened
 have S0:=((zAD.refl W).alloc (.cells #[.slice ab b.length cb] 24)).alloc (.cells #[.slice al l.length cl] 25)
 have hb0:=hb.stays zAz.stays S0.below
 have hu0:=hu.stays zAj.stays S0.below
 have c1:((W.alloc (.cells #[.slice ab b.length cb] 24)).alloc (.cells #[.slice al l.length cl] 25)).cell? ⟨W.heap.size+1,0,none⟩=some (.slice al l.length cl):=by go_simp
 clear hb hu
 go_enter Tryz.func93,Tryz.ntmps93
 go_wp2_with fail
 generalize (W.alloc (.cells #[.slice ab b.length cb] 24)).alloc (.cells #[.slice al l.length cl] 25)=w0 at *
 obtain ⟨B,hB⟩:∃B,B=W.heap.size+1:=⟨_,rfl⟩
 rw[←hB] at c1 ⊢
 have HB:=Zh hB
 clear hB
 refine (zGD _ b _ l _ hb0 hu0).mono ?_
 rintro e w1 ⟨rfl,hb1⟩
 have T1:=(zAD.refl w0).step hb1
 have HVK:=Zh (hu0.stays zAj.stays hb1)
 have d1:=zAA hb1 c1
 clear c1 hb1 hb0 hu0
 by_cases h0:zAp b l=0
 ·have hok:=zAU.1 h0
  have HROOM:=Zh (fun p hp=>zNS (hok.2.2 p hp))
  have hl8:=hok.2.1
  have H0:=Zh h0
  rw[h0]
  clear h0 hok
  by_cases hr:many<0∨8<many
  ·have H:=Zh (zKC (v:=v) H0.out hr)
   obtain ⟨T,hT⟩:∃T:Bool,T=decide (many<0):=⟨_,rfl⟩
   cases T with
   | true =>
    have hm:many<0:=by simpa using hT.symm
    clear hT hr
    go_wp2_with (go_quiet (fail))
    go_ret2
    exact ⟨⟨_,zDi H.out.symm,by rw[zGb (by rw[H.out];simp)];exact zAG.nil _,fun _ h=>zDt h⟩,(S0.step ((T1.step (Below.refl _ _)).below)).below⟩
   | false =>
    have hm:¬many<0:=by simpa using hT.symm
    have hm2:8<many:=by omega
    clear hT hr
    go_wp2_with (go_quiet (fail))
    go_ret2
    exact ⟨⟨_,zDi H.out.symm,by rw[zGb (by rw[H.out];simp)];exact zAG.nil _,fun _ h=>zDt h⟩,(S0.step ((T1.step (Below.refl _ _)).below)).below⟩
  ·have HR:=Zh hr
   have hm1:¬many<0:=by omega
   have hm2:¬8<many:=by omega
   clear hr
   have HS:Hid (∀w',zAD w1.heap.size w1 w'→w'.cell? ⟨B,0,none⟩=some (.slice al l.length cl)):=Zh (fun w' q=>zAA q.below d1)
   go_wp2_with (go_quiet (fail))
   go_loopw[28,11] (fun i o wr=>∃k:Nat,k≤l.length∧i=.int .i64 k∧zAD w1.heap.size w1 wr∧zAJ wr 3 w1.heap.size o (zDR v l k)) (fun i _ _=>l.length - (intOf i).toNat)
   case atStart=>exact ⟨0,by omega,rfl,zAD.refl w1,by simpa[zDR,zHL] using zAJ.nil _ _ _⟩
   case round =>
    obtain ⟨k,hk,rfl,hS,ho⟩:=hrel
    clear d1
    by_cases hlt:k<l.length
    ·have hget:=List.getElem?_eq_getElem hlt
     obtain ⟨g,off,u,cu,rfl,k0,k1,k2,hp,i1⟩:=zBq (HVK.out.later zAj.stays (zAF.old hS.below _)) hget
     have HCS:=Zh (zPf v l hget)
     have hol:=zJE v l k
     have ik:I64 (k:Int):=⟨by omega,by omega⟩
     generalize l[k]=p at *
     obtain ⟨t,r,ks⟩:=p
     simp only at k0 k1 k2 hp i1
     have S1:=hS.alloc (.cells #[.bool t,.int .i64 r,.slice u ks.length cu] 62)
     have S1':=(zAD.refl wr).alloc (.cells #[.bool t,.int .i64 r,.slice u ks.length cu] 62)
     have ho1:=ho.stays S1'.below
     have HPI:=Zh (hp.stays zAf.stays S1'.below)
     clear hp S1' hget
     by_cases hyes:t=true∧(ks.length:Int)<r
     ·obtain ⟨rfl,hroom⟩:=hyes
      go_upto_region 10 with fail
      have f0:(wr.alloc (.cells #[.bool true,.int .i64 r,.slice u ks.length cu] 62)).cell? ⟨wr.heap.size,0,none⟩=some (.bool true):=by go_simp
      have f1:(wr.alloc (.cells #[.bool true,.int .i64 r,.slice u ks.length cu] 62)).cell? ⟨wr.heap.size,1,none⟩=some (.int .i64 r):=by go_simp
      have f2:(wr.alloc (.cells #[.bool true,.int .i64 r,.slice u ks.length cu] 62)).cell? ⟨wr.heap.size,2,none⟩=some (.slice u ks.length cu):=by go_simp
      obtain ⟨Bk,hBk⟩:∃Bk,Bk=wr.heap.size:=⟨_,rfl⟩
      rw[←hBk] at f0 f1 f2 ⊢
      have HO1:=Zh ho1
      clear hBk k0 k1 k2 hS ho ho1
      generalize wr.alloc (.cells #[.bool true,.int .i64 r,.slice u ks.length cu] 62)=w2 at *
      have HCV:=Zh (show zG1 v (true,r,ks)=decide (zBy v ks 0<0) by simp[zG1,hroom])
      have q2:=zAD.refl w2
      by_cases hf:zBy v ks 0<0
      ·go_wp2_with (first
        | (go_at_call 40;refine (zDo _ _ _ ks v _ (HPI.out.stays zAf.stays (Below.refl _ _))).mono ?_;rintro e w5 ⟨rfl,hb5⟩;have hgs:=zWW S1 hb5;have ho5:=(HO1.out.stays hb5).stays (zAB w5 (.cells #[.int .i64 (k:Int)] 3)))
        | (at_builtin;refine zAc rfl _ _ 36 rfl 3 Tryz.underlying36 zBD w1.heap.size _ _ rfl ho5 ⟨w5.heap.size,0,none⟩ 1 (k:Int) rfl (by simp) ik (by omega) (by simp;omega) ?_;intro v' w6 ho6 hg6))
       have S6:=((S1.step hb5).alloc (.cells #[.int .i64 (k:Int)] 3)).own ho5 hg6
       have HO6:=Zh ho6
       clear ho6 hg6 ho5 hb5
       go_roundw
       case rel=>exact ⟨k+1,by omega,by go_num,S6,by rw[HCS.out,HCV.out];simpa[hf] using HO6.out⟩
       case measure=>simp[intOf];omega
      ·have HNF:=Zh (show zG1 v (true,r,ks)=false by rw[HCV.out];exact decide_eq_false hf)
       go_wp2_with (go_at_call 40;refine (zDo _ _ _ ks v _ (HPI.out.stays zAf.stays (Below.refl _ _))).mono ?_;rintro e w5 ⟨rfl,hb5⟩)
       have S5:=S1.step hb5
       have HO5:=Zh (HO1.out.stays hb5)
       clear hb5
       go_roundw
       case rel=>exact ⟨k+1,by omega,by go_num,S5,by rw[HCS.out,HNF.out];simpa using HO5.out⟩
       case measure=>simp[intOf];omega
     ·have HNO:=Zh (show zG1 v (t,r,ks)=false by simp only[zG1,Bool.and_eq_false_iff,decide_eq_false_iff_not];cases t<;>simp_all)
      cases t with
      | false =>
       go_wp2_with (go_quiet (fail))
       go_roundw
       case rel=>exact ⟨k+1,by omega,by go_num,S1,by rw[HCS.out,HNO.out];simpa using ho1⟩
       case measure=>simp[intOf];omega
      | true =>
       have hroom:¬(ks.length:Int)<r:=fun h=>hyes ⟨rfl,h⟩
       clear hyes
       go_wp2_with (go_quiet (fail))
       go_roundw
       case rel=>exact ⟨k+1,by omega,by go_num,S1,by rw[HCS.out,HNO.out];simpa using ho1⟩
       case measure=>simp[intOf];omega
    ·obtain rfl:l.length=k:=by omega
     have hcl:=zJE v l l.length
     obtain ⟨a',c',rfl,hcap,⟨_,hcc,_⟩,_⟩:=ho.isInts.opened
     have d1:=HS.out wr hS
     have HE:=Zh (zFt v l)
     have hsort:Calls Tryz.prog 113 #[.slice a' (zDR v l l.length).length c',.func (.func 114) #[] #[.pointer (some ⟨B,0,none⟩)]] wr fun e w'=>e=.returned (.tuple #[])∧zAJ w' 3 w1.heap.size (.slice a' (zDR v l l.length).length c') (zOs v l)∧zAD w1.heap.size w1 w':=by
      by_cases h1:1≤(zDR v l l.length).length
      ·obtain ⟨g,cp,e1,hg,_⟩:=ho.shape h1
       simp only[Value.slice.injEq] at e1
       obtain ⟨rfl,_,rfl⟩:=e1
       refine (zJr 114 (fun _ _=>rfl) #[.pointer (some ⟨B,0,none⟩)] (cfP l) w1.heap.size g _ (zDR v l l.length) wr ho (by omega) (fun x y w hx hy hw=>?_)).mono ?_
       ·have hd:=zQv hS hw hg
        exact zPb B al cl l x y w (hd.cell (HS.out w1 (zAD.refl w1)) (fun h=>h)) (HVK.out.later zAj.stays hd) (zD3.1 hx).1 (zD3.1 hy).1 HROOM.out
       ·rintro e w6 ⟨rfl,ho6,hg6⟩
        exact ⟨rfl,ho6,hS.own ho hg6⟩
      ·have h2:(zDR v l l.length).length=0:=by omega
       rw[h2] at ho ⊢
       refine (zJy 114 _ a' c' wr).mono ?_
       rintro e w6 ⟨rfl,rfl⟩
       have h4:zOs v l=[]:=List.eq_nil_of_length_eq_zero (by rw[zFt];exact h2)
       have h3:zOs v l=zDR v l l.length:=by rw[h4,List.eq_nil_of_length_eq_zero h2]
       exact ⟨rfl,by rw[h3];exact ho,hS⟩
     clear ho
     generalize hN:(zDR v l l.length).length=N at *
     have HN:=Zh hN
     have HSORT:=Zh hsort
     clear hsort hN
     go_wp2_with fail
     refine HSORT.out.mono ?_
     rintro e w6 ⟨rfl,ho6,hS6⟩
     have HO6:=Zh ho6
     clear ho6 d1
     by_cases hshort:(N:Int)<many
     ·have H:=Zh (zKs H0.out HR.out (by rw[HN.out];exact hshort))
      go_wp2_with fail
      go_ret2
      exact ⟨⟨_,zDi H.out.symm,by rw[zGb (by rw[H.out];simp)];exact zAG.nil _,fun _ h=>zDt h⟩,(S0.step (T1.step hS6.below).below).below⟩
     ·have H:=Zh (zLJ H0.out HR.out (by rw[HN.out];exact hshort))
      obtain ⟨m,rfl⟩:=Int.eq_ofNat_of_zero_le (show 0≤many by omega)
      have hm:m≤N:=by omega
      have hmc:m≤c':=by omega
      have HI:=Zh (HO6.out.isInts.take m (by first | exact hm | (rw[HE.out];exact hm) | (rw[HE.out,HN.out];exact hm)))
      go_wp2_with fail
      go_ret2
      exact ⟨⟨_,zDi H.out.symm,by rw[zFA H.out];exact HI.out,fun k hk=>by obtain ⟨x,n,c,e,rfl⟩:=hk;cases e;exact Nat.le_trans S0.2 (Nat.le_trans T1.2 (HO6.out.lies _ ⟨_,_,_,rfl,rfl⟩).1)⟩,(S0.step (T1.step hS6.below).below).below⟩
 ·have H:=Zh (zOv v many h0)
  have hne:(zAp b l != 0)=true:=by simpa using h0
  have HN:=Zh h0
  clear h0
  go_wp2_with fail
  go_ret2
  exact ⟨⟨_,zDi H.out.symm,by rw[zGb (by rw[H.out];exact HN.out)];exact zAG.nil _,fun _ h=>zDt h⟩,(S0.step T1.below).below⟩
theorem zMM(v:Int)(l:List Pr)(left:Int)(n:Nat):(zGa v l left n).length≤n:=Nat.le_trans (List.length_filter_le _ _) (by simp[zHL])
theorem zM0(v:Int)(l:List Pr):∀n,(zFM v l n).length≤n*l.length
 | 0=>by simp[zFM]
 | n+1=>by
  have h1:=zM0 v l n
  have h2:=zMM v l (20 - (n:Int)) l.length
  unfold zFM
  rw[List.length_append,Nat.add_mul]
  omega
theorem zP2(v:Int)(l:List Pr)(left:Int):zGa v l left 0=[]:=by simp[zGa,zHL]
set_option maxRecDepth 100000 in
theorem zGK(b:List Ver)(u:Value)(l:List Pr)(v many:Int)(W:World)(hu:zAT W u l)(h0:zAp b l=0) :
  Calls Tryz.prog 83 #[u,.int .i64 v,.int .i64 many] W fun e w'=>(∃v',e=.returned (.tuple #[v',.int .i64 (zGh b l v many)])∧zAG w' v' (zIQ b l v many)∧∀k,Value.lies v' k→W.heap.size≤k)∧Below W.heap.size W w':=by
 obtain ⟨al,cl,rfl,hcl,⟨hlm,hlc,_⟩,_⟩:=hu.opened
 have hok:=zAU.1 h0
 have HROOM:=Zh (fun p hp=>zNS (hok.2.2 p hp))
 have hl8:=hok.2.1
 have H0:=Zh h0
 have HU:=Zh hu
 clear h0 hok hu
 go_enter Tryz.func83,Tryz.ntmps83
 go_wp2_with fail
 by_cases hr:many<0∨8<many
 ·have H:=Zh (zKC (v:=v) H0.out hr)
  have hin:=zHJ hr
  clear hr
  refine (zCS _ _ _ _).mono ?_
  rintro e w1 ⟨rfl,rfl⟩
  rw[hin]
  clear hin
  go_wp2_with fail
  go_ret2
  exact ⟨⟨_,zDi H.out.symm,by rw[zGb (by rw[H.out];simp)];exact zAG.nil _,fun _ hk=>zDt hk⟩,Below.refl _ _⟩
 ·have HR:=Zh hr
  have hin:=zB5 (n:=many) (a:=0) (b:=8) (by omega) (by omega)
  have hm0:0≤many:=by omega
  clear hr
  refine (zCS _ _ _ _).mono ?_
  rintro e w1 ⟨rfl,rfl⟩
  rw[hin]
  clear hin
  go_wp2_with fail
  go_loopw[9,8] (fun i o wr=>∃n:Nat,n≤20∧i=.int .i64 (20 - (n:Int))∧zAD W.heap.size W wr∧zAJ wr 3 W.heap.size o (zFM v l n)) (fun i _ _=>(intOf i).toNat)
  case atStart=>exact ⟨0,by omega,rfl,zAD.refl W,by simpa[zFM] using zAJ.nil _ _ _⟩
  case round =>
   obtain ⟨n,hn,rfl,hS0,ho0⟩:=hrel
   obtain ⟨wo,hwo⟩:∃wo:World,wo=wr:=⟨_,rfl⟩
   rw[←hwo] at hS0 ho0 ⊢
   clear hwo
   have hgl:=zM0 v l n
   have hgl2:(zFM v l n).length≤20*8:=Nat.le_trans hgl (Nat.mul_le_mul hn hl8)
   clear hgl
   by_cases hlt:n<20
   ·have hpos:(0:Int)<20 - (n:Int):=by omega
    have HNX:=Zh (show zFM v l n++zGa v l (20 - (n:Int)) l.length=zFM v l (n+1) from rfl)
    obtain ⟨left,hleft⟩:∃left:Int,left=20 - (n:Int):=⟨_,rfl⟩
    rw[←hleft] at hpos HNX ⊢
    have HL:=Zh hleft
    have hl20:left≤20:=by omega
    clear hleft
    go_wp2_with fail
    go_loopw[21,8] (fun i o wr=>∃k:Nat,k≤l.length∧i=.int .i64 k∧zAD W.heap.size W wr∧zAJ wr 3 W.heap.size o (zFM v l n++zGa v l left k)) (fun i _ _=>l.length - (intOf i).toNat)
    case atStart=>exact ⟨0,by omega,rfl,hS0,by rw[zP2,List.append_nil];exact ho0⟩
    case round =>
     obtain ⟨k,hk,rfl,hS,ho⟩:=hrel
     clear hS0 ho0
     by_cases hlt:k<l.length
     ·have hget:=List.getElem?_eq_getElem hlt
      obtain ⟨g,off,u,cu,rfl,k0,k1,k2,hp,i1⟩:=zBq (HU.out.later zAj.stays (zAF.old hS.below _)) hget
      have HCS:=Zh (zP9 v l left hget)
      have hrl:=zMM v l left k
      have ik:I64 (k:Int):=⟨by omega,by omega⟩
      have hlv:=HROOM.out _ (List.getElem_mem hlt)
      generalize l[k]=p at *
      obtain ⟨t,r,ks⟩:=p
      simp only at k0 k1 k2 hp i1
      have hwr:IntKind.i64.wrap (r - (ks.length:Int))=zDh (t,r,ks):=by unfold zDh at hlv ⊢;exact IntWalk.i64_in _ (by simp only at hlv ⊢;omega)
      have HLV:=Zh (show zDh (t,r,ks)=r - (ks.length:Int) from rfl)
      generalize zDh (t,r,ks)=lv at *
      have S1:=hS.alloc (.cells #[.bool t,.int .i64 r,.slice u ks.length cu] 62)
      have S1':=(zAD.refl wr).alloc (.cells #[.bool t,.int .i64 r,.slice u ks.length cu] 62)
      have ho1:=ho.stays S1'.below
      have HPI:=Zh (hp.stays zAf.stays S1'.below)
      have hol:(zFM v l n++zGa v l left k).length≤1000:=by rw[List.length_append];omega
      clear hp S1' hget hlv hgl2 hrl
      by_cases hyes:t=true∧lv=left
      ·obtain ⟨rfl,rfl⟩:=hyes
       have hroom:(ks.length:Int)<r:=by have:=HLV.out;omega
       have HCV:=Zh (show zG1 v (true,r,ks)=decide (zBy v ks 0<0) by simp[zG1,hroom])
       clear hroom
       go_upto_region 10 with fail
       have f0:(wr.alloc (.cells #[.bool true,.int .i64 r,.slice u ks.length cu] 62)).cell? ⟨wr.heap.size,0,none⟩=some (.bool true):=by go_simp
       have f1:(wr.alloc (.cells #[.bool true,.int .i64 r,.slice u ks.length cu] 62)).cell? ⟨wr.heap.size,1,none⟩=some (.int .i64 r):=by go_simp
       have f2:(wr.alloc (.cells #[.bool true,.int .i64 r,.slice u ks.length cu] 62)).cell? ⟨wr.heap.size,2,none⟩=some (.slice u ks.length cu):=by go_simp
       obtain ⟨Bk,hBk⟩:∃Bk,Bk=wr.heap.size:=⟨_,rfl⟩
       rw[←hBk] at f0 f1 f2 ⊢
       have HO1:=Zh ho1
       clear hBk k0 k1 k2 hS ho ho1
       generalize wr.alloc (.cells #[.bool true,.int .i64 r,.slice u ks.length cu] 62)=w2 at *
       by_cases hf:zBy v ks 0<0
       ·have HYF:=Zh (show zG1 v (true,r,ks)=true by rw[HCV.out];exact decide_eq_true hf)
        have HCP:=Zh (HCS.out.trans (congrArg (zGa v l lv k ++ ·) (if_pos ⟨HYF.out,rfl⟩)))
        go_wp2_with (first
         | (go_at_call 61;refine (zMT _ _ _ ks v _ (HPI.out.stays zAf.stays (Below.refl _ _))).mono ?_;rintro e w5 ⟨rfl,hb5⟩;have hgs:=zWW S1 hb5;have ho5:=(HO1.out.stays hb5).stays (zAB w5 (.cells #[.int .i64 (k:Int)] 3)))
         | (at_builtin;refine zAc rfl _ _ 36 rfl 3 Tryz.underlying36 zBD W.heap.size _ _ rfl ho5 ⟨w5.heap.size,0,none⟩ 1 (k:Int) rfl (by simp) ik (by omega) (by simp;omega) ?_;intro v' w6 ho6 hg6))
        have S6:=((S1.step hb5).alloc (.cells #[.int .i64 (k:Int)] 3)).own ho5 hg6
        have HO6:=Zh ho6
        clear ho6 hg6 ho5 hb5
        go_roundw
        case rel=>exact ⟨k+1,by omega,by go_num,S6,by rw[HCP.out,←List.append_assoc];exact HO6.out⟩
        case measure=>simp[intOf];omega
       ·have HNF:=Zh (show zG1 v (true,r,ks)=false by rw[HCV.out];exact decide_eq_false hf)
        have HCN:=Zh (HCS.out.trans (congrArg (zGa v l lv k ++ ·) (if_neg (fun h=>by rw[HNF.out] at h;simp at h))))
        go_wp2_with (go_at_call 61;refine (zMT _ _ _ ks v _ (HPI.out.stays zAf.stays (Below.refl _ _))).mono ?_;rintro e w5 ⟨rfl,hb5⟩)
        have S5:=S1.step hb5
        have HO5:=Zh (HO1.out.stays hb5)
        clear hb5
        go_roundw
        case rel=>exact ⟨k+1,by omega,by go_num,S5,by rw[HCN.out,List.append_nil];exact HO5.out⟩
        case measure=>simp[intOf];omega
      ·have HNO:=Zh (show ¬(zG1 v (t,r,ks)=true∧lv=left) by rintro ⟨h1,h2⟩;exact hyes ⟨by simp[zG1] at h1;exact h1.1,h2⟩)
       cases t with
       | false =>
        clear hyes
        go_wp2_with fail
        go_roundw
        case rel=>exact ⟨k+1,by omega,by go_num,S1,by rw[HCS.out,if_neg HNO.out,List.append_nil];exact ho1⟩
        case measure=>simp[intOf];omega
       | true =>
        have hne:(lv == left)=false:=by simp only[beq_eq_false_iff_ne];exact fun h=>hyes ⟨rfl,h⟩
        clear hyes
        go_wp2_with fail
        go_roundw
        case rel=>exact ⟨k+1,by omega,by go_num,S1,by rw[HCS.out,if_neg HNO.out,List.append_nil];exact ho1⟩
        case measure=>simp[intOf];omega
     ·obtain rfl:l.length=k:=by omega
      have ho2:=HNX.out ▸ ho
      have HO2:=Zh ho2
      clear ho ho2
      go_wp2_with fail
      go_roundw
      case rel=>exact ⟨n+1,by omega,by have:=HL.out;go_num,hS,HO2.out⟩
      case measure=>have:=HL.out;simp[intOf];omega
   ·obtain rfl:n=20:=by omega
    have hg:zFM v l 20=zOs v l:=zOa (fun p hp=>(HROOM.out p hp).2)
    rw[hg] at ho0
    clear hg
    obtain ⟨a',c',rfl,hcap,⟨_,hcc,_⟩,_⟩:=ho0.isInts.opened
    have hpl:=zFt v l
    have hcl:=zJE v l l.length
    have HO:=Zh ho0
    clear ho0
    have HE:=Zh hpl
    generalize hN:(zOs v l).length=N at *
    have HN:=Zh (show (zDR v l l.length).length=N from HE.out.symm)
    clear hpl HE
    by_cases hshort:(N:Int)<many
    ·have H:=Zh (zKs H0.out HR.out (by rw[HN.out];exact hshort))
     go_wp2_with fail
     go_ret2
     exact ⟨⟨_,zDi H.out.symm,by rw[zGb (by rw[H.out];simp)];exact zAG.nil _,fun _ hk=>zDt hk⟩,hS0.below⟩
    ·have H:=Zh (zLJ H0.out HR.out (by rw[HN.out];exact hshort))
     obtain ⟨m,rfl⟩:=Int.eq_ofNat_of_zero_le hm0
     have hm:m≤N:=by omega
     have hmc:m≤c':=by omega
     have HI:=Zh (HO.out.isInts.take m (by rw[hN];exact hm))
     have HLI:Hid (∀k,Value.lies (.slice a' (m:Nat) c') k→W.heap.size≤k):=Zh (fun k hk=>by
      obtain ⟨y,n',c'',e,rfl⟩:=hk
      simp only[Value.slice.injEq] at e
      exact (HO.out.lies y.block ⟨y,_,_,by rw[e.1],rfl⟩).1)
     go_wp2_with fail
     go_ret2
     exact ⟨⟨_,zDi H.out.symm,by rw[zFA H.out];exact HI.out,HLI.out⟩,hS0.below⟩
end Go.Proofs.YthgmphbkkojaoaaGreat
