/-
  tale.Spare, audit.Lacking walked.
-/
import Derived.Test.YthgmphbkkojaoaaGreatLaws
import Derived.Test.YthgmphbkkojaoaaGreatSaves
import Derived.Test.YthgmphbkkojaoaaGreatCopies
import Derived.Deep.QuietTactic
import Derived.BigQuiet
set_option linter.unusedSimpArgs false
set_option maxHeartbeats 4000000
namespace Go.Proofs.YthgmphbkkojaoaaGreat
open Go.RowKit
section
open Go.Maps
theorem zAo.lenOnce{P:Program}{k e t:TypeId}{w:World}{b:Nat}{l:List Int}(h:zAo P k e w b l)(ht:P.underlying t=some (.map k e))(ty:TypeId) :
  (Builtin.len_ #[t] ty #[.map (some b)]).run P w=.ok (.int .i64 ((zDJ l).length:Int)) w:=by
 have h2:=World.ownsMap.len h ht ty
 rw[size_setOf _ _ (zGc l)] at h2
 have:=zHj l []
 rw[List.map_nil] at this
 rw[this,List.length_map] at h2
 exact h2
end
theorem zM7(l:List Int):(zDJ l).length≤l.length:=by
 have h:∀(l acc:List Int),(l.foldl (fun acc x=>if x∈acc then acc else acc++[x]) acc).length≤acc.length+l.length:=by
  intro l
  induction l with
  | nil=>simp
  | cons x l ih =>
   intro acc
   rw[List.foldl_cons]
   have:=ih (if x∈acc then acc else acc++[x])
   have h2:(if x∈acc then acc else acc++[x]).length≤acc.length+1:=by split<;>simp
   simp only[List.length_cons]
   omega
 simpa[zDJ] using h l []
theorem zIE{a b c d:Int}(h:a=b)(g:c=d):Ending.returned (.tuple #[.int .i64 a,.int .i64 c])=.returned (.tuple #[.int .i64 b,.int .i64 d]):=by rw[h,g]
theorem zU3(w:World):(zeroValue 4).run Tryz.prog w=.ok (.bool false) w:=by kernel_rfl
theorem zFy{v:Int}{p:Pr}(h:zAk v p=none):((zAk v p).map (·.1)).toList=[]:=by rw[h];rfl
theorem zKZ{v:Int}{p:Pr}{s:Sh}(h:zAk v p=some s):((zAk v p).map (·.1)).toList=[s.1]:=by rw[h];rfl
set_option maxRecDepth 100000 in
theorem zMq(vb:Value)(b:List Ver)(u:Value)(ps:List Pr)(v:Int)(W:World)(hb:zAR W vb b)(hu:zAT W u ps) :
  Calls Tryz.prog 13 #[.agg #[vb,u],.int .i64 v] W fun e w'=>e=.returned (.tuple #[.int .i64 (zFI (b,ps) v),.int .i64 (zAh (b,ps) v)])∧Below W.heap.size W w':=by
 obtain ⟨a,c,rfl,hcb,⟨hbm,hbc,_⟩,_⟩:=hb.opened
 obtain ⟨a',c',rfl,hcap,⟨hm,hcm,_⟩,_⟩:=hu.opened
 have S0:=(zAD.refl W).alloc (.cells #[.slice a b.length c,.slice a' ps.length c'] 27)
 have hb0:=hb.stays zAz.stays S0.below
 have hu0:=hu.stays zAj.stays S0.below
 have c0:(W.alloc (.cells #[.slice a b.length c,.slice a' ps.length c'] 27)).cell? ⟨W.heap.size,0,none⟩=some (.slice a b.length c):=by go_simp
 have c1:(W.alloc (.cells #[.slice a b.length c,.slice a' ps.length c'] 27)).cell? ⟨W.heap.size,1,none⟩=some (.slice a' ps.length c'):=by go_simp
 have hE:Hid (zAh (b,ps) v=if zA2 (b,ps)≠0 then zA2 (b,ps) else if v<0∨(b.length:Int)≤v then 4 else 0):=Lib.hid rfl
 have hV:Hid (zAh (b,ps) v≠0→zFI (b,ps) v=0):=Lib.hid (fun h=>by unfold zFI;rw[if_pos h])
 clear hb hu
 go_enter Tryz.func13,Tryz.ntmps13
 go_upto_region 1 with fail
 generalize W.alloc (.cells #[.slice a b.length c,.slice a' ps.length c'] 27)=w0 at *
 obtain ⟨B,hB⟩:∃B,B=W.heap.size:=⟨_,rfl⟩
 rw[←hB] at c0 c1 ⊢
 clear hB
 go_upto_region 2 with (go_at_call 21;go_fit (zBb _ b _ ps _ hb0 hu0);rintro e w1 ⟨rfl,hb1⟩)
 have S1:=S0.step hb1
 have d0:=zAA hb1 c0
 have d1:=zAA hb1 c1
 have HB1:=Lib.hid (hb0.stays zAz.stays hb1)
 have HU1:=Lib.hid (hu0.stays zAj.stays hb1)
 clear c0 c1 hb1 hb0 hu0
 by_cases h0:zA2 (b,ps)=0
 ·have hps:ps.length≤8:=(zAU.1 h0).2.1
  rw[h0] at hE ⊢
  obtain ⟨T,hT⟩:∃T:Bool,T=decide (v<0):=⟨_,rfl⟩
  cases T with
  | true =>
   have hm:v<0:=by simpa using hT.symm
   have H:Hid (zAh (b,ps) v=4):=Lib.hid (by rw[hE.out];simp[hm])
   have H2:Hid (zFI (b,ps) v=0):=Lib.hid (hV.out (by rw[H.out];decide))
   clear hT hE h0
   go_wp2_with fail
   go_ret2
   exact ⟨zIE H2.out.symm H.out.symm,S1.below⟩
  | false =>
   have hm:¬v<0:=by simpa using hT.symm
   by_cases h2:(b.length:Int)≤v
   ·have H:Hid (zAh (b,ps) v=4):=Lib.hid (by rw[hE.out];simp[h2])
    have H2:Hid (zFI (b,ps) v=0):=Lib.hid (hV.out (by rw[H.out];decide))
    clear hT hE h0
    go_wp2_with fail
    go_ret2
    exact ⟨zIE H2.out.symm H.out.symm,S1.below⟩
   ·have H:Hid (zAh (b,ps) v=0):=Lib.hid (by rw[hE.out];simp[hm,h2])
    obtain ⟨kv,rfl⟩:=Int.eq_ofNat_of_zero_le (by omega:0≤v)
    have hkv:kv<b.length:=by omega
    have hget:=List.getElem?_eq_getElem hkv
    have hpl:Hid (zAO b (kv:Int)=b[kv].2):=Lib.hid (by unfold zAO;simp[hget])
    obtain ⟨gv,ov,uv,cv,ea,k0,k1,k2,k3,_,i1,i2,i3⟩:=zB1 HB1.out hget
    subst ea
    have hplan:=zAg ((zBj.1 (zAU.1 h0).1).plan kv _ hget)
    generalize b[kv]=x at *
    have H2:Hid (zFI (b,ps) (kv:Int)=((zDJ (zBY (kv:Int) ps)).length:Int) - x.2.1):=Lib.hid (by unfold zFI;rw[if_neg (by simpa using H.out)];rw[show zAO (b,ps).1 (kv:Int)=x.2 from hpl.out])
    have hpk:Hid (∀p∈ps,zBk b p):=Lib.hid (zAU.1 h0).2.2
    have hmm:=@run_makeMap Tryz.prog
    have hM0:zAo Tryz.prog 3 4 (w1.alloc (.map #[] 0)) w1.heap.size []:=zAo.made w1
    have b1:¬(b.length:Int)≤(kv:Int):=h2
    have b2:(0:Int)≤(kv:Int):=by omega
    have b3:(kv:Int)<(b.length:Int):=by omega
    have T2:=(zAD.refl w1).alloc (.map #[] 0)
    have HF:Hid (∀w',zAD w1.heap.size w1 w'→w'.cell? ⟨B,0,none⟩=some (.slice (some ⟨gv,ov,none⟩) b.length c)∧w'.cell? ⟨B,1,none⟩=some (.slice a' ps.length c')∧w'.cell? ⟨gv,ov+kv*4+1,none⟩=some (.int .i64 x.2.1)∧zAT w' (.slice a' ps.length c') ps):=Lib.hid (fun w' q=>⟨zAA q.below d0,zAA q.below d1,zAA q.below k1,HU1.out.stays zAj.stays q.below⟩)
    obtain ⟨e0,e1,_,_⟩:=HF.out _ T2
    clear hT hE h0 hget h2 hm hV k0 k1 k2 k3
    go_upto_region 7 with fail
    clear d0 d1
    generalize w1.alloc (.map #[] 0)=w2 at *
    obtain ⟨Bm,hBm⟩:∃Bm,Bm=w1.heap.size:=⟨_,rfl⟩
    rw[←hBm] at hM0 ⊢
    have hBm1:w1.heap.size≤Bm:=by omega
    clear hBm
    go_wp2_with fail
    clear e0 e1
    go_loopw[30] (fun i wr=>∃k:Nat,k≤ps.length∧i=.int .i64 k∧zAD w1.heap.size w1 wr∧zAo Tryz.prog 3 4 wr Bm (zBY (kv:Int) (ps.take k))) (fun i _=>ps.length - (intOf i).toNat)
    case atStart=>exact ⟨0,by omega,rfl,T2,hM0⟩
    case round =>
     obtain ⟨k,hk,rfl,hS,hm⟩:=hrel
     clear hM0 T2
     obtain ⟨_,_,_,hup⟩:=HF.out wr hS
     by_cases hlt:k<ps.length
     ·have hget:=List.getElem?_eq_getElem hlt
      obtain ⟨g,off,u,cu,rfl,k0,k1,k2,hp,j1⟩:=zBq hup hget
      have HST:=Lib.hid (zKP (kv:Int) hget)
      have hnl:=zJU (kv:Int) (ps.take k)
      have hnl2:(zBY (kv:Int) (ps.take k)).length<1000000000000000:=by simp at hnl;omega
      generalize hNM:zBY (kv:Int) (ps.take k)=NM at *
      generalize ps[k]=p at *
      obtain ⟨t,r,ks⟩:=p
      simp only at k0 k1 k2 hp j1
      have BB:=zAB wr (.cells #[.bool t,.int .i64 r,.slice u ks.length cu] 62)
      have S1:=hS.alloc (.cells #[.bool t,.int .i64 r,.slice u ks.length cu] 62)
      have hpi:=hp.stays zAf.stays BB
      have f0:(wr.alloc (.cells #[.bool t,.int .i64 r,.slice u ks.length cu] 62)).cell? ⟨wr.heap.size,0,none⟩=some (.bool t):=by go_simp
      have f1:(wr.alloc (.cells #[.bool t,.int .i64 r,.slice u ks.length cu] 62)).cell? ⟨wr.heap.size,1,none⟩=some (.int .i64 r):=by go_simp
      have f2:(wr.alloc (.cells #[.bool t,.int .i64 r,.slice u ks.length cu] 62)).cell? ⟨wr.heap.size,2,none⟩=some (.slice u ks.length cu):=by go_simp
      have hm1:=hm.below BB
      clear hup hget hNM hnl
      go_upto_region 10 with fail
      clear k0 k1 k2 hp hm BB
      generalize wr.alloc (.cells #[.bool t,.int .i64 r,.slice u ks.length cu] 62)=w3 at *
      obtain ⟨Bt,hBt⟩:∃Bt,Bt=wr.heap.size:=⟨_,rfl⟩
      rw[←hBt] at f0 f1 f2 ⊢
      clear hBt
      have HPI:=Lib.hid hpi
      go_upto_region 11 with (go_at_call 40;go_fit (zDo t r _ ks (kv:Int) _ hpi);rintro e w4 ⟨rfl,hb4⟩)
      have S4:=S1.step hb4
      have f0:=zAA hb4 f0
      have f2:=zAA hb4 f2
      have hm4:=hm1.below hb4
      have HP4:=Lib.hid (HPI.out.stays zAf.stays hb4)
      clear f1 hb4 hpi hm1
      cases t with
      | false =>
       have HN:=Lib.hid (zFy (v:=(kv:Int)) (p:=(false,r,ks)) rfl)
       go_wp2_with fail
       go_roundw
       case rel=>exact ⟨k+1,by omega,by go_num,S4,by rw[HST.out,HN.out,List.append_nil];exact hm4⟩
       case measure=>simp[intOf];omega
      | true =>
       rcases zB0 (kv:Int) ks 0 with ⟨hn,hf⟩|⟨m,y,hx,hxv,hn,hf⟩
       ·have HN:=Lib.hid (zFy (v:=(kv:Int)) (p:=(true,r,ks)) (by simp[zAk,hn]))
        rw[hf]
        clear hn hf
        go_wp2_with fail
        go_roundw
        case rel=>exact ⟨k+1,by omega,by go_num,S4,by rw[HST.out,HN.out,List.append_nil];exact hm4⟩
        case measure=>simp[intOf];omega
       ·rw[hf,Nat.zero_add]
        obtain ⟨gk,ok,uk,ck,rfl,x0,x1,x2,hxi,ix0,ix1⟩:=zCK HP4.out hx
        have hml:=(List.getElem?_eq_some_iff.1 hx).1
        have HN:=Lib.hid (zKZ (v:=(kv:Int)) (p:=(true,r,ks)) (s:=y.2) (by simp[zAk,hn]))
        clear hn hf hx hxv x0 x2 hxi
        go_wp2_with (at_mapUpdate;refine zB7 _ rfl _ _ _ 81 rfl Tryz.underlying3 Tryz.underlying4 Tryz.underlying81 _ _ rfl hm4 hnl2 _ rfl rfl ix1 ?_;intro w9 hm9 hg9)
        have S9:=S4.grown hg9 (fun k hk=>by cases hk;exact hBm1)
        clear f0 f2 x1 hm4 hg9
        go_roundw
        case rel=>exact ⟨k+1,by omega,by go_num,S9,by rw[HST.out,HN.out];exact hm9⟩
        case measure=>simp[intOf];omega
     ·obtain rfl:ps.length=k:=by omega
      rw[List.take_length] at hm
      have hlen:=(show zAo Tryz.prog 3 4 wr.drew Bm (zBY (kv:Int) ps) from hm.block rfl).lenOnce (t:=81) Tryz.underlying81 3
      have hol:(zDJ (zBY (kv:Int) ps)).length≤8:=Nat.le_trans (zM7 _) (Nat.le_trans (zJU _ _) hps)
      generalize (zDJ (zBY (kv:Int) ps)).length=L at *
      obtain ⟨e0,_,e2,_⟩:=HF.out wr hS
      have s3:wr.drew.cell? ⟨B,0,none⟩=some (.slice (some ⟨gv,ov,none⟩) b.length c)∧wr.drew.cell? ⟨gv,ov+kv*4+1,none⟩=some (.int .i64 x.2.1):=⟨e0,e2⟩
      have S9:=S1.step hS.below
      clear hup hm hlt
      go_upto_region 14 with fail
      clear e0 e2
      go_region_held3 (fun w'=>(w'.cell? ⟨B,0,none⟩=some (.slice (some ⟨gv,ov,none⟩) b.length c)∧w'.cell? ⟨gv,ov+kv*4+1,none⟩=some (.int .i64 x.2.1))∧(Builtin.len_ #[81] 3 #[.map (some Bm)]).run Tryz.prog w'=.ok (.int .i64 (L:Int)) w') (first | exact ⟨s3,hlen⟩) (fail)
      all_goals
       go_wp2_with fail
       go_ret2
       exact ⟨zIE (by rw[IntWalk.i64_in _ (by omega)];exact H2.out.symm) H.out.symm,(S9.drew).below⟩
 ·have H:Hid (zAh (b,ps) v=zA2 (b,ps)):=Lib.hid (by rw[hE.out,if_pos h0])
  have H2:Hid (zFI (b,ps) v=0):=Lib.hid (hV.out (by rw[H.out];exact h0))
  clear hE
  go_wp2_with fail
  go_ret2
  exact ⟨zIE H2.out.symm H.out.symm,S1.below⟩
end Go.Proofs.YthgmphbkkojaoaaGreat
